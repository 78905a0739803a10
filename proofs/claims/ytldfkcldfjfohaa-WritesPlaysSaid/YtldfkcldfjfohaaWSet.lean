/-
  writes.Set: how it lies; New, Len, Get.
-/
import Derived.Test.YtldfkcldfjfohaaWPr
import Derived.Test.YtldfkcldfjfohaaWrP
import Derived.IntWalk
namespace Go.Proofs.Ytldfkcldfjfohaa
open Go.RowKit
set_option linter.unusedVariables false
set_option linter.unusedSimpArgs false

/-- How a writes.Set lies: the block's cells are cs. -/
structure WrCells (cs : Array Value) (s : Wr) (ka : Option Addr) (kc : Nat) : Prop where
  size : cs.size = 321
  row : cs[0]? = some (.slice ka s.keys.length kc)
  done : ∀ k, k < 64 → cs[1 + 5 * k]? = some (.int .u32 (if (k : Int) ∈ s.keys then 1 else 0))
  lock : ∀ k, k < 64 → cs[2 + 5 * k]? = some (.int .i32 0)
  val : ∀ k, k < 64 → cs[4 + 5 * k]? = some (.int .i64 (s.val k))
  gone : ∀ k, k < 64 → cs[5 + 5 * k]? = some (.bool (s.gone k))
def chk (cs : Array Value) : Bool := (List.range 64).all fun k => (match cs[1 + 5 * k]? with | some (.int .u32 0) => true | _ => false) && (match cs[2 + 5 * k]? with | some (.int .i32 0) => true | _ => false) && (match cs[4 + 5 * k]? with | some (.int .i64 0) => true | _ => false) && (match cs[5 + 5 * k]? with | some (.bool false) => true | _ => false)
theorem cells_of_chk {cs : Array Value} (h0 : chk cs = true) (h1 : cs.size = 321) (h2 : cs[0]? = some (.slice none 0 0)) : WrCells cs Wr.new none 0 := by
  have h := List.all_eq_true.mp h0
  refine ⟨h1, h2, fun k hk => ?_, fun k hk => ?_, fun k hk => ?_, fun k hk => ?_⟩
  all_goals
    have hk' := h k (List.mem_range.mpr hk)
    simp only [Bool.and_eq_true] at hk'
    obtain ⟨⟨⟨h4, h5⟩, h6⟩, h7⟩ := hk'
  · split at h4
    · assumption
    · cases h4
  · split at h5
    · assumption
    · cases h5
  · split at h6
    · assumption
    · cases h6
  · split at h7
    · assumption
    · cases h7
theorem zero_cells : WrCells Try.zeroCells68 Wr.new none 0 := cells_of_chk (by kernel_rfl) (by kernel_rfl) (by kernel_rfl)

/-- The set lies at s, in the blocks of P, all of them from B on. -/
structure WIn (B : Nat) (w : World) (P : Nat → Prop) (b : Nat) (s : Wr) (cs : Array Value) (ka : Option Addr) (kc : Nat) : Prop where
  blk : Blk w b 68 cs
  cells : WrCells cs s ka kc
  kown : w.ownsRow B 3 1 (.slice ka s.keys.length kc) s.keys.length (s.keys.map (Value.int .i64))
  ps : P b
  pk : ∀ c, rowOf (.slice ka s.keys.length kc) c → P c
  under : Under P w.heap.size
  above : Above P B
  ok : WOk s
def WAt (B : Nat) (w : World) (P : Nat → Prop) (b : Nat) (s : Wr) : Prop := ∃ cs ka kc, WIn B w P b s cs ka kc
theorem WIn.only {B : Nat} {w w' : World} {P Q : Nat → Prop} {b : Nat} {s : Wr} {cs : Array Value} {ka : Option Addr} {kc : Nat} (h : WIn B w P b s cs ka kc) (o : Only Q w w') (ap : Apart P Q) : WIn B w' P b s cs ka kc :=
  ⟨o.blk h.blk (ap b h.ps), h.cells, rows_only h.kown o (fun c hc => ap c (h.pk c hc)), h.ps, h.pk, h.under.mono o.size, h.above, h.ok⟩
theorem WAt.only {B : Nat} {w w' : World} {P Q : Nat → Prop} {b : Nat} {s : Wr} (h : WAt B w P b s) (o : Only Q w w') (ap : Apart P Q) : WAt B w' P b s := by
  obtain ⟨cs, ka, kc, h⟩ := h
  exact ⟨cs, ka, kc, h.only o ap⟩
theorem WAt.only0 {B : Nat} {w w' : World} {P : Nat → Prop} {b : Nat} {s : Wr} (h : WAt B w P b s) (o : Only0 w w') : WAt B w' P b s := h.only (Q := fun _ => False) o (fun _ _ hf => hf)
theorem WAt.under {B : Nat} {w : World} {P : Nat → Prop} {b : Nat} {s : Wr} (h : WAt B w P b s) : Under P w.heap.size := by obtain ⟨_, _, _, h⟩ := h; exact h.under
theorem WAt.above {B : Nat} {w : World} {P : Nat → Prop} {b : Nat} {s : Wr} (h : WAt B w P b s) : Above P B := by obtain ⟨_, _, _, h⟩ := h; exact h.above
theorem WAt.ok {B : Nat} {w : World} {P : Nat → Prop} {b : Nat} {s : Wr} (h : WAt B w P b s) : WOk s := by obtain ⟨_, _, _, h⟩ := h; exact h.ok
theorem WIn.ints {B : Nat} {w : World} {P : Nat → Prop} {b : Nat} {s : Wr} {cs : Array Value} {ka : Option Addr} {kc : Nat} (h : WIn B w P b s cs ka kc) : Ints .i64 w ka s.keys := ints_of_own h.kown

set_option maxHeartbeats 2000000 in
theorem wr_new (w : World) : Calls Try.prog 7 #[] w fun e w' => e = .returned (.pointer (some ⟨w.heap.size, 0, none⟩)) ∧ WAt w.heap.size w' (fun b => b = w.heap.size) w.heap.size Wr.new ∧ Only0 w w' ∧ w'.heap.size = w.heap.size + 1 := by
  go_enter Try.func7, Try.ntmps7
  go_wp2_with fail
  go_ret
  refine ⟨rfl, ⟨_, none, 0, Blk.new _ _ _, zero_cells, World.ownsRow_nil _ _ _ _, rfl, fun b hb => absurd hb (rowOf_none _ _ _), fun b hb => ?_, fun b hb => ?_, WOk.new⟩, (Only0.refl w).alloc _, by simp⟩
  · subst hb; simp
  · subst hb; exact Nat.le_refl _

set_option maxHeartbeats 2000000 in
theorem wr_len {B : Nat} {w : World} {P : Nat → Prop} {b : Nat} {s : Wr} (h : WAt B w P b s) :
    Calls Try.prog 14 #[.pointer (some ⟨b, 0, none⟩)] w fun e w' => e = .returned (.int .i64 (s.keys.length : Int)) ∧ w = w' := by
  have hf := h.ok.few
  obtain ⟨cs, ka, kc, h⟩ := h
  have c0 := (h.blk.cell 0).trans h.cells.row
  clear h
  go_enter Try.func14, Try.ntmps14
  go_wp2_with fail
  go_ret
  exact ⟨rfl, rfl⟩

set_option maxHeartbeats 2000000 in
theorem wr_get {B : Nat} {w : World} {P : Nat → Prop} {b : Nat} {s : Wr} (h : WAt B w P b s) (k : Int) :
    Calls Try.prog 15 #[.pointer (some ⟨b, 0, none⟩), .int .i64 k] w fun e w' => e = .returned (.tuple (if k ∈ s.keys then #[.int .i64 (s.val k), .bool (!s.gone k), .bool true] else #[.int .i64 0, .bool false, .bool false])) ∧ ∃ n, w.drewN n = w' := by
  have hf := h.ok.few
  obtain ⟨cs, ka, kc, h⟩ := h
  have c0 := (h.blk.cell 0).trans h.cells.row
  have C := contains_any ka kc s.keys k w h.ints (by omega)
  by_cases hm : k ∈ s.keys
  · rw [if_pos hm]
    rw [decide_eq_true hm] at C
    have hk := h.ok.key k hm
    obtain ⟨j, rfl⟩ := Int.eq_ofNat_of_zero_le hk.1
    have hj : j < 64 := by omega
    have cv : w.cell? ⟨b, 1 + j * 5 + 3, none⟩ = some (.int .i64 (s.val j)) := by rw [h.blk.cell, show 1 + j * 5 + 3 = 4 + 5 * j by omega]; exact h.cells.val j hj
    have cg : w.cell? ⟨b, 1 + j * 5 + 4, none⟩ = some (.bool (s.gone j)) := by rw [h.blk.cell, show 1 + j * 5 + 4 = 5 + 5 * j by omega]; exact h.cells.gone j hj
    have g1 : (0 : Int) ≤ (j : Int) := by omega
    have g2 : (j : Int) < 64 := by omega
    clear h hm hk
    generalize s.val j = v at *
    generalize s.gone j = g at *
    go_enter Try.func15, Try.ntmps15
    go_wp2_with fail
    refine C.mono ?_
    rintro e w1 ⟨rfl, rfl⟩
    go_wp2_with fail
    go_quiet (fail)
    go_wp2_with fail
    go_ret3
    exact ⟨rfl, _, rfl⟩
  · rw [if_neg hm]
    rw [decide_eq_false hm] at C
    clear h hm
    go_enter Try.func15, Try.ntmps15
    go_wp2_with fail
    refine C.mono ?_
    rintro e w1 ⟨rfl, rfl⟩
    go_wp2_with fail
    go_ret3
    exact ⟨rfl, 0, rfl⟩
end Go.Proofs.Ytldfkcldfjfohaa

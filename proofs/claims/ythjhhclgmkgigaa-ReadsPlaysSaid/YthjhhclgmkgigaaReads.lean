/-
  The set of what was read (reads.Set).
-/
import Derived.Test.YthjhhclgmkgigaaInts
import Derived.Test.YthjhhclgmkgigaaOpen
namespace Go.Proofs.Ythjhhclgmkgigaa
open Go.RowKit
set_option linter.unusedVariables false

def isKey (k : Int) : Bool := decide (0 ≤ k) && decide (k ≤ 63)
set_option maxHeartbeats 1000000 in
theorem is_any (k : Int) (w : World) : Calls Try.prog 18 #[.int .i64 k] w fun e w' => e = .returned (.bool (isKey k)) ∧ w = w' := by
  by_cases h0 : 0 ≤ k
  · go_enter Try.func18, Try.ntmps18
    go_wp2_with fail
    go_ret; exact ⟨ret_bool (by simp [isKey, h0]), rfl⟩
  · go_enter Try.func18, Try.ntmps18
    go_wp2_with fail
    go_ret; exact ⟨ret_bool (by simp [isKey]; omega), rfl⟩

def missUpto (xs : List Int) (x : Int) (k : Nat) : Prop := ∀ j, j < k → xs.getD j 0 ≠ x
theorem miss_all {xs : List Int} {x : Int} (h : missUpto xs x xs.length) : x ∉ xs := by
  intro hm
  obtain ⟨i, hi, rfl⟩ := List.getElem_of_mem hm
  exact h i hi (by simp [List.getD_eq_getElem?_getD, List.getElem?_eq_getElem hi])
theorem miss_succ {xs : List Int} {x : Int} {k : Nat} (h : missUpto xs x k) (h1 : xs.getD k 0 ≠ x) : missUpto xs x (k + 1) := by
  intro j hj
  rcases Nat.lt_succ_iff_lt_or_eq.mp hj with hj | rfl
  · exact h j hj
  · exact h1
theorem index_hit {xs : List Int} {x : Int} {k : Nat} (h : missUpto xs x k) (hk : k < xs.length) (h1 : xs.getD k 0 = x) : x ∈ xs := by
  rw [← h1, List.getD_eq_getElem?_getD, List.getElem?_eq_getElem hk]; exact List.getElem_mem _

set_option maxHeartbeats 2000000 in
/-- slices.Index: told is a place that is not below 0 just if x is in the row. -/
theorem index_any (a : Option Addr) (c : Nat) (xs : List Int) (x : Int) (w : World) (hx : Ints .i64 w a xs) (lx : xs.length ≤ 1000000000) :
    Calls Try.prog 32 #[.slice a xs.length c, .int .i64 x] w fun e w' => (∃ r : Int, e = .returned (.int .i64 r) ∧ decide (0 ≤ r) = decide (x ∈ xs)) ∧ w = w' := by
  go_enter Try.func32, Try.ntmps32
  go_wp2_with fail
  go_loopw [8] (fun i wr => ∃ k : Nat, k ≤ xs.length ∧ i = .int .i64 k ∧ missUpto xs x k ∧ w = wr) (fun i _ => xs.length - (intOf i).toNat)
  case atStart => exact ⟨0, Nat.zero_le _, rfl, fun j hj => absurd hj (by omega), rfl⟩
  case round =>
    obtain ⟨k, hk, rfl, hm, rfl⟩ := hrel
    have HM := Lib.hid hm
    clear hm
    by_cases hlt : k < xs.length
    · obtain ⟨b, off, rfl, hc⟩ := hx.at (by omega)
      have hc0 := hc k hlt
      have HX := Lib.hid hx
      clear hc hx
      obtain ⟨y, hy⟩ : ∃ y, y = xs.getD k 0 := ⟨_, rfl⟩
      rw [← hy] at hc0
      have HY := Lib.hid hy
      clear hy
      by_cases he : x = y
      · subst he
        go_wp2_with fail
        go_ret
        exact ⟨⟨_, rfl, by simp [index_hit HM.out hlt HY.out.symm]⟩, rfl⟩
      · go_wp2_with fail
        go_roundw
        case rel => exact ⟨k + 1, by omega, by go_num, miss_succ HM.out (fun h => he (by rw [HY.out, h])), trivial⟩
        case measure => simp [intOf]; omega
    · obtain rfl : k = xs.length := by omega
      clear hx
      go_wp2_with fail
      go_ret
      exact ⟨⟨_, rfl, by simp [miss_all HM.out]⟩, rfl⟩

set_option maxHeartbeats 2000000 in
theorem contains_any (a : Option Addr) (c : Nat) (xs : List Int) (x : Int) (w : World) (hx : Ints .i64 w a xs) (lx : xs.length ≤ 1000000000) :
    Calls Try.prog 22 #[.slice a xs.length c, .int .i64 x] w fun e w' => e = .returned (.bool (decide (x ∈ xs))) ∧ w = w' := by
  have H := index_any a c xs x w hx lx
  go_enter Try.func22, Try.ntmps22
  go_wp2_with fail
  refine H.mono ?_
  rintro e w1 ⟨⟨r, rfl, hr⟩, rfl⟩
  have HR := Lib.hid hr
  clear hr H
  go_wp2_with fail
  go_ret
  exact ⟨ret_bool HR.out, rfl⟩

set_option maxHeartbeats 2000000 in
theorem clip_any (a : Option Addr) (n c : Nat) (w : World) (h : n ≤ c) (hc : c ≤ 9223372036854775807) :
    Calls Try.prog 28 #[.slice a n c] w fun e w' => e = .returned (.slice a n n) ∧ w = w' := by
  go_enter Try.func28, Try.ntmps28
  go_wp2_with fail
  go_ret
  exact ⟨rfl, rfl⟩

/-- How a reads.Set lies: the block's cells are cs; keys: the keys in order; lk: the links; ka, kc: where the keys' row lies; sp: the slice of the ranges. -/
structure SetCells (cs : Array Value) (keys : List Int) (lk : Nat → Int) (ka : Option Addr) (kc : Nat) (sp : Value) : Prop where
  size : cs.size = 258
  row : cs[0]? = some (.slice ka keys.length kc)
  done : ∀ k, k < 64 → cs[1 + 4 * k]? = some (.int .u32 (if (k : Int) ∈ keys then 1 else 0))
  lock : ∀ k, k < 64 → cs[2 + 4 * k]? = some (.int .i32 0)
  link : ∀ k, k < 64 → cs[4 + 4 * k]? = some (.int .u64 (lk k))
  spans : cs[257]? = some sp
def chk (cs : Array Value) : Bool := (List.range 64).all fun k => (match cs[1 + 4 * k]? with | some (.int .u32 0) => true | _ => false) && (match cs[2 + 4 * k]? with | some (.int .i32 0) => true | _ => false) && (match cs[4 + 4 * k]? with | some (.int .u64 0) => true | _ => false)
theorem cells_of_chk {cs : Array Value} (h0 : chk cs = true) (h1 : cs.size = 258) (h2 : cs[0]? = some (.slice none 0 0)) (h3 : cs[257]? = some (.slice none 0 0)) : SetCells cs [] (fun _ => 0) none 0 (.slice none 0 0) := by
  have h := List.all_eq_true.mp h0
  refine ⟨h1, h2, fun k hk => ?_, fun k hk => ?_, fun k hk => ?_, h3⟩
  all_goals
    have hk' := h k (List.mem_range.mpr hk)
    simp only [Bool.and_eq_true] at hk'
    obtain ⟨⟨h4, h5⟩, h6⟩ := hk'
  · split at h4
    · assumption
    · cases h4
  · split at h5
    · assumption
    · cases h5
  · split at h6
    · assumption
    · cases h6
/-- The cells of a reads.Set of nothing. -/
def rsZero : Array Value := ([Value.slice none 0 0] ++ (List.replicate 64 [Value.int .u32 0, .int .i32 0, .int .u32 0, .int .u64 0]).flatten ++ [Value.slice none 0 0]).toArray
set_option maxRecDepth 100000 in
theorem zero_rs (w : World) : (zeroValue 64).run Try.prog w = .ok (.agg rsZero) w := by kernel_rfl
theorem zero_cells : SetCells rsZero [] (fun _ => 0) none 0 (.slice none 0 0) := cells_of_chk (by kernel_rfl) (by kernel_rfl) (by kernel_rfl) (by kernel_rfl)

set_option maxHeartbeats 2000000 in
theorem reads_new (w : World) : Calls Try.prog 7 #[] w fun e w' => ∃ cs, e = .returned (.pointer (some ⟨w.heap.size, 0, none⟩)) ∧ SetCells cs [] (fun _ => 0) none 0 (.slice none 0 0) ∧ Blk w' w.heap.size 64 cs ∧ Only0 w w' ∧ w'.heap.size = w.heap.size + 1 := by
  have Z := zero_rs
  have ZC := Lib.hid zero_cells
  have zne : ¬ rsZero = #[] := fun e => by have := zero_cells.size; rw [e] at this; cases this
  generalize rsZero = zs at *
  go_enter Try.func7, Try.ntmps7
  go_wp2_with fail
  go_ret
  exact ⟨_, rfl, ZC.out, Blk.new _ _ _, (Only0.refl w).alloc _, by simp⟩
end Go.Proofs.Ythjhhclgmkgigaa

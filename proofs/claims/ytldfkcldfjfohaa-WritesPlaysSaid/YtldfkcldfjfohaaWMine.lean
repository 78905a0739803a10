/-
  writes.Set's Over: its three closures, slices.IndexFunc over Pairs.
-/
import Derived.Test.YtldfkcldfjfohaaWAll
namespace Go.Proofs.Ytldfkcldfjfohaa
open Go.RowKit
attribute [local go_sem ↓] Go.wp_at_zero Go.wp_at_succ
set_option linter.unusedVariables false
set_option linter.unusedSimpArgs false

/-- Over's own boxes, from n0 on, beside the set. -/
structure OvAt (B : Nat) (w : World) (P : Nat → Prop) (b : Nat) (s : Wr) (lo hi : Int) (n0 : Nat) : Prop where
  set : WAt B w P b s
  bs : Blk w n0 23 #[.pointer (some ⟨b, 0, none⟩)]
  bl : Blk w (n0 + 1) 3 #[.int .i64 lo]
  bh : Blk w (n0 + 1 + 1) 3 #[.int .i64 hi]
  under : Under P n0
theorem OvAt.only {B : Nat} {w w' : World} {P Q : Nat → Prop} {b : Nat} {s : Wr} {lo hi : Int} {n0 : Nat} (h : OvAt B w P b s lo hi n0) (o : Only Q w w') (hq : ∀ c, Q c → n0 + 3 ≤ c) : OvAt B w' P b s lo hi n0 :=
  ⟨h.set.only o (fun c hc hQ => by have := h.under c hc; have := hq c hQ; omega), o.blk h.bs (fun hQ => by have := hq _ hQ; omega), o.blk h.bl (fun hQ => by have := hq _ hQ; omega), o.blk h.bh (fun hQ => by have := hq _ hQ; omega), h.under⟩
theorem OvAt.only0 {B : Nat} {w w' : World} {P : Nat → Prop} {b : Nat} {s : Wr} {lo hi : Int} {n0 : Nat} (h : OvAt B w P b s lo hi n0) (o : Only0 w w') : OvAt B w' P b s lo hi n0 := h.only (Q := fun _ => False) o (fun _ hf => hf.elim)

set_option maxRecDepth 100000 in
set_option maxHeartbeats 4000000 in
theorem mine_fn {B : Nat} {w : World} {P : Nat → Prop} {b : Nat} {s : Wr} {lo hi : Int} {n0 : Nat} (h : OvAt B w P b s lo hi n0) (k : Int) :
    Calls Try.prog 19 #[.int .i64 k, .pointer (some ⟨n0 + 1, 0, none⟩), .pointer (some ⟨n0 + 1 + 1, 0, none⟩), .pointer (some ⟨n0, 0, none⟩)] w fun e w' => e = .returned (.bool (s.mine lo hi k)) ∧ ∃ n, w' = w.drewN n := by
  have hf := h.set.ok.few
  have cl : w.cell? ⟨n0 + 1, 0, none⟩ = some (.int .i64 lo) := h.bl.cell 0
  have ch : w.cell? ⟨n0 + 1 + 1, 0, none⟩ = some (.int .i64 hi) := h.bh.cell 0
  have cb : w.cell? ⟨n0, 0, none⟩ = some (.pointer (some ⟨b, 0, none⟩)) := h.bs.cell 0
  obtain ⟨cs, ka, kc, M⟩ := h.set
  have c0 := (M.blk.cell 0).trans M.cells.row
  have C := contains_any ka kc s.keys k w M.ints (by omega)
  have hmd : s.mine lo hi k = (decide (lo ≤ k) && decide (k ≤ hi) && decide (k ∈ s.keys)) := by
    unfold Wr.mine
    congr 1
    cases e : hasK s.keys k with
    | true => exact (decide_eq_true (hasK_iff.1 e)).symm
    | false => exact (decide_eq_false (fun h => by rw [hasK_iff.2 h] at e; cases e)).symm
  have HM := Lib.hid hmd
  clear M hmd h
  by_cases h1 : lo ≤ k
  · by_cases h2 : k ≤ hi
    · have R := Lib.hid (show s.mine lo hi k = decide (k ∈ s.keys) by rw [HM.out]; simp [h1, h2])
      clear HM
      generalize s.mine lo hi k = r at *
      generalize decide (k ∈ s.keys) = r' at *
      go_enter Try.func19, Try.ntmps19
      go_wp2_with fail
      refine C.mono ?_
      rintro e w1 ⟨rfl, rfl⟩
      go_wp2_with fail
      go_ret
      exact ⟨ret_bool R.out.symm, 0, rfl⟩
    · have R := Lib.hid (show s.mine lo hi k = false by rw [HM.out]; simp [h1, h2])
      clear HM C
      generalize s.mine lo hi k = r at *
      go_enter Try.func19, Try.ntmps19
      go_wp2_with fail
      go_ret
      exact ⟨ret_bool R.out.symm, 0, rfl⟩
  · have R := Lib.hid (show s.mine lo hi k = false by rw [HM.out]; simp [h1])
    clear HM C
    generalize s.mine lo hi k = r at *
    go_enter Try.func19, Try.ntmps19
    go_wp2_with fail
    go_ret
    exact ⟨ret_bool R.out.symm, 0, rfl⟩

/-- Over's fourth box: the function mine. -/
def mineV (n0 : Nat) : Value := .func (.func 19) #[] #[.pointer (some ⟨n0 + 1, 0, none⟩), .pointer (some ⟨n0 + 1 + 1, 0, none⟩), .pointer (some ⟨n0, 0, none⟩)]
set_option maxRecDepth 100000 in
set_option maxHeartbeats 4000000 in
theorem pred_fn {B : Nat} {w : World} {P : Nat → Prop} {b : Nat} {s : Wr} {lo hi : Int} {n0 bm : Nat} (h : OvAt B w P b s lo hi n0) (hb : Blk w bm 71 #[mineV n0]) (k x : Int) :
    Calls Try.prog 23 #[.agg #[.int .i64 k, .int .i64 x], .pointer (some ⟨bm, 0, none⟩)] w fun e w' => e = .returned (.bool (s.mine lo hi k)) ∧ Only0 w w' := by
  have cm : w.cell? ⟨bm, 0, none⟩ = some (mineV n0) := hb.cell 0
  unfold mineV at cm
  have hlt := hb.lt
  obtain ⟨W, hW⟩ : ∃ W, W = w.alloc (.cells #[.int .i64 k, .int .i64 x] 31) := ⟨_, rfl⟩
  have oW : Only0 w W := by rw [hW]; exact (Only0.refl w).alloc _
  have C := mine_fn (h.only0 oW) k
  have OW := Lib.hid oW
  rw [hW] at C
  clear h oW hW hb
  generalize s.mine lo hi k = r at *
  go_enter Try.func23, Try.ntmps23
  go_wp2_with fail
  refine C.mono ?_
  rintro e w1 ⟨rfl, n, rfl⟩
  go_wp2_with fail
  go_ret
  exact ⟨rfl, ((Only0.refl w).alloc _).drewN n⟩

set_option maxHeartbeats 4000000 in
theorem cmp_fn (x y : Int × Int) (w : World) :
    Calls Try.prog 25 #[.agg #[.int .i64 x.1, .int .i64 x.2], .agg #[.int .i64 y.1, .int .i64 y.2]] w fun e w' => e = .returned (.int .i64 (if x.1 < y.1 then -1 else 1)) ∧ ∃ n o1 o2, w' = (((w.alloc o1).alloc o2).drewN n) := by
  obtain ⟨x1, x2⟩ := x
  obtain ⟨y1, y2⟩ := y
  by_cases h : x1 < y1
  · rw [if_pos h]
    go_enter Try.func25, Try.ntmps25
    go_wp2_with fail
    go_ret
    exact ⟨rfl, 0, _, _, rfl⟩
  · rw [if_neg h]
    go_enter Try.func25, Try.ntmps25
    go_wp2_with fail
    go_ret
    exact ⟨rfl, 0, _, _, rfl⟩

/-- The first place where p holds, or none. -/
def HitP (p : Int → Bool) (l : PL) (r : Int) : Prop := (r = -1 ∧ ∀ k, k < l.length → p (l.getD k (0, 0)).1 = false) ∨ ∃ k, k < l.length ∧ r = (k : Int) ∧ p (l.getD k (0, 0)).1 = true ∧ ∀ j, j < k → p (l.getD j (0, 0)).1 = false
set_option maxRecDepth 100000 in
set_option maxHeartbeats 8000000 in
theorem idx_pairs {B : Nat} {w : World} {P : Nat → Prop} {b : Nat} {s : Wr} {lo hi : Int} {n0 bm : Nat} (h : OvAt B w P b s lo hi n0) (hb : Blk w bm 71 #[mineV n0]) (a : Option Addr) (c : Nat) (l : PL) (hp : PairsIn w a l) (hlen : l.length ≤ 1000000) :
    Calls Try.prog 30 #[.slice a l.length c, .func (.func 23) #[] #[.pointer (some ⟨bm, 0, none⟩)]] w fun e w' => ∃ r : Int, e = .returned (.int .i64 r) ∧ HitP (s.mine lo hi) l r ∧ Only0 w w' := by
  have HH := Lib.hid h
  have HB := Lib.hid hb
  have HP := Lib.hid hp
  clear h hb hp
  go_enter Try.func30, Try.ntmps30
  go_wp2_with fail
  go_loopw [5, 8] (fun s5 i wr => ∃ (q : Nat) (v : Value), s5 = v ∧ i = .int .i64 q ∧ q ≤ l.length ∧ Hid (Only0 w wr ∧ ∀ j, j < q → s.mine lo hi (l.getD j (0, 0)).1 = false)) (fun _ i _ => l.length - (intOf i).toNat)
  case atStart => exact ⟨0, _, rfl, rfl, by omega, Lib.hid ⟨Only0.refl _, fun j hj => by omega⟩⟩
  case round =>
    obtain ⟨q, v, rfl, rfl, hq, HN⟩ := hrel
    by_cases hlt : q < l.length
    · obtain ⟨g, off, rfl, hc⟩ := (HP.out.only (S := fun _ => False) HN.out.1 (fun _ _ hf => hf)).at (by omega)
      obtain ⟨c1, c2⟩ := hc q hlt
      rw [← Nat.add_assoc] at c2
      have C := pred_fn (HH.out.only0 HN.out.1) (HN.out.1.blk HB.out (fun hf => hf)) (l.getD q (0, 0)).1 (l.getD q (0, 0)).2
      have HQ := Lib.hid (fun (h : s.mine lo hi (l.getD q (0, 0)).1 = false) j (hj : j < q + 1) => (if e : j = q then e ▸ h else HN.out.2 j (by omega) : s.mine lo hi (l.getD j (0, 0)).1 = false))
      have OO := Lib.hid HN.out.1
      clear hc
      cases hp : s.mine lo hi (l.getD q (0, 0)).1 with
      | true =>
        rw [hp] at C
        have R := Lib.hid (show HitP (s.mine lo hi) l (q : Int) from .inr ⟨q, hlt, rfl, hp, HN.out.2⟩)
        clear hp HQ HN
        generalize (l.getD q (0, 0)).1 = x1 at *
        generalize (l.getD q (0, 0)).2 = x2 at *
        go_wp2_with fail
        refine C.mono ?_
        rintro e w1 ⟨rfl, o1⟩
        go_wp2_with fail
        exact bodyPost_ret (results_tmp rfl _ _ _) rfl ⟨_, rfl, R.out, OO.out.trans o1⟩
      | false =>
        rw [hp] at C
        have R := Lib.hid (HQ.out hp)
        clear hp HQ HN
        generalize hx1 : (l.getD q (0, 0)).1 = x1 at c1 C
        generalize (l.getD q (0, 0)).2 = x2 at *
        clear hx1
        go_wp2_with fail
        refine C.mono ?_
        rintro e w1 ⟨rfl, o1⟩
        go_wp2_with fail
        go_roundw
        case rel => exact ⟨q + 1, _, rfl, by go_num, by omega, Lib.hid ⟨OO.out.trans o1, R.out⟩⟩
        case measure => simp [intOf]; omega
    · obtain rfl : q = l.length := by omega
      have R := Lib.hid (show HitP (s.mine lo hi) l (-1) from .inl ⟨rfl, HN.out.2⟩)
      have OO := Lib.hid HN.out.1
      clear HN
      go_wp2_with fail
      go_ret
      exact ⟨_, rfl, R.out, OO.out⟩
end Go.Proofs.Ytldfkcldfjfohaa

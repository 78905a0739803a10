/-
  The walk of CursorEnds.
-/
import Derived.Test.YtndmimljnhieiaaDoorCursorW
import Derived.Test.YtndmimljnhieiaaDoorLaw11
namespace Go.Proofs.YtndmimljnhieiaaDoor
open Go.RowKit
set_option linter.unusedVariables false

theorem fromK_zero (key : Int) : fromK (fun _ => 0) key = none := by
  rw [fromK, List.find?_range_eq_none]; intro i hi; simp
theorem fromK_one (k n : Nat) (hk : k < 64) (hn : 0 < n) (key : Int) (h : key ≤ (k : Int)) : fromK (upd (fun _ => 0) k n) key = some k := by
  rw [fromK, List.find?_range_eq_some]
  refine ⟨by simp [upd_same, hn, h], List.mem_range.2 hk, fun j hj => ?_⟩
  rw [upd_ne _ (by omega)]; simp
theorem fromK_over (k n : Nat) (key : Int) (h : (k : Int) < key) : fromK (upd (fun _ => 0) k n) key = none := by
  rw [fromK, List.find?_range_eq_none]
  intro j hj
  by_cases e : j = k
  · subst e; simp; omega
  · rw [upd_ne _ e]; simp
set_option maxHeartbeats 8000000 in
theorem cursorEnds_walk (lo hi key : Int) (w : World) (_h0 : (Lit.int .i64 lo).wf = true) (_h1 : (Lit.int .i64 hi).wf = true) (_h2 : (Lit.int .i64 key).wf = true) (hT : Tab w) :
    Calls Tryd.prog 8 #[.int .i64 lo, .int .i64 hi, .int .i64 key] w fun e w' => e = .returned (.bool true) ∧ Below w.heap.size w w' := by
  obtain ⟨l, hl, hl2⟩ := nat_rem lo 64 (by omega)
  obtain ⟨u, hu, hu2⟩ := nat_rem hi 64 (by omega)
  obtain ⟨k, hk, hk2⟩ := nat_rem key 64 (by omega)
  have m1 := i64_and63 lo
  have m2 := i64_and63 hi
  have m3 := i64_and63 key
  rw [hl] at m1; rw [hu] at m2; rw [hk] at m3
  have hk3 : k < 64 := by omega
  have kk0 : (0 : Int) ≤ (k : Int) := by omega
  have kk1 : (k : Int) ≤ 63 := by omega
  clear hl hu hk
  have HT := Lib.hid hT
  have Z1 := Lib.hid (fun (x : Int) j (h : fromK (fun _ => 0) x = some j) => (show False by rw [fromK_zero] at h; cases h))
  have Z2 := Lib.hid (fromK_one k 1 hk3 (by omega) (fromAt k (-1)) (by unfold fromAt; split <;> omega))
  have Z3 := Lib.hid (fromK_over k 1 (fromAt k k) (by unfold fromAt; split <;> omega))
  clear hT
  by_cases hs : (u : Int) < (l : Int)
  all_goals
    first | (have q1 : (0 : Int) ≤ (u : Int) := by omega) | skip
    have q2 : (0 : Int) ≤ (l : Int) := by omega
    have q3 : (u : Int) ≤ 63 := by omega
    have q4 : (l : Int) ≤ 63 := by omega
    go_enter Tryd.func8, Tryd.ntmps8
    go_wp2_with fail
    refine (tw_new w HT.out (Below.refl _ _)).mono ?_
    rintro e w1 ⟨t, a, b, rfl, h1, o1, g1, g2, g3⟩
    clear o1 g1 g2 g3
    go_wp2_with fail
    refine (cw_new h1 HT.out _ _ (by omega) (by omega) (by omega)).mono ?_
    rintro e w2 ⟨rfl, h2, o2⟩
    clear h1 o2
    generalize w1.heap.size = c at h2
    go_wp2_with fail
    refine (cur_done h2.cur).mono ?_
    rintro e w3 ⟨rfl, rfl⟩
    go_wp2_with fail
    refine (cur_at h2.cur).mono ?_
    rintro e w3 ⟨rfl, rfl⟩
    go_wp2_with fail
    refine (cw_none h2 HT.out (fun j hj => (Z1.out _ j hj).elim)).mono ?_
    rintro e w3 ⟨rfl, h3, o3⟩
    clear h2 o3
    go_wp2_with fail
    refine (cur_done h3.cur).mono ?_
    rintro e w4 ⟨rfl, rfl⟩
    go_wp2_with fail
    refine (tw_put_new h3.tw HT.out k 1 hk3 (by omega) (by omega) rfl).mono ?_
    rintro e w4 ⟨rfl, h4', o4⟩
    have h4 := h3.turned h4' o4
    clear h4' o4 h3
    go_wp2_with fail
    refine (cw_over h4).mono ?_
    rintro e w5 ⟨rfl, rfl⟩
    go_wp2_with fail
    refine (cur_done h4.cur).mono ?_
    rintro e w5 ⟨rfl, rfl⟩
    go_wp2_with fail
    refine (cur_at h4.cur).mono ?_
    rintro e w5 ⟨rfl, rfl⟩
    go_wp2_with fail
    refine (cw_new h4.tw HT.out _ _ (by omega) (by omega) (by omega)).mono ?_
    rintro e w5 ⟨rfl, h5, o5⟩
    clear h4 o5
    generalize w4.heap.size = d at h5
    go_wp2_with fail
    refine (cw_some h5 HT.out k Z2.out (by omega)).mono ?_
    rintro e w6 ⟨rfl, h6, o6⟩
    clear h5 o6
    go_wp2_with fail
    refine (cw_none h6 HT.out (fun j hj => (by rw [Z3.out] at hj; cases hj))).mono ?_
    rintro e w7 ⟨rfl, h7, o7⟩
    clear h6 o7
    go_wp2_with fail
    refine (cur_at h7.cur).mono ?_
    rintro e w8 ⟨rfl, rfl⟩
    go_wp2_with fail
    refine (awake12_any w w7 HT.out h7.tw.bel).mono ?_
    rintro e wb ⟨rfl, hb⟩
    go_wp2_with fail
    go_ret
    exact ⟨rfl, hb⟩
end Go.Proofs.YtndmimljnhieiaaDoor

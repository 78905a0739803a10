/-
  The walk of TowerHeights.
-/
import Derived.Test.YtndmimljnhieiaaDoorTowerW
namespace Go.Proofs.YtndmimljnhieiaaDoor
open Go.RowKit
set_option linter.unusedVariables false

/-- A remainder as a number. -/
theorem nat_rem (x : Int) (m : Int) (hm : 0 < m) : ∃ k : Nat, x % m = k ∧ (k : Int) < m := by
  have h0 := Int.emod_nonneg x (Int.ne_of_gt hm)
  have h1 := Int.emod_lt_of_pos x hm
  exact ⟨(x % m).toNat, by omega, by omega⟩
set_option maxHeartbeats 8000000 in
theorem towerHeights_walk (key a b : Int) (w : World) (_h0 : (Lit.int .i64 key).wf = true) (_h1 : (Lit.int .i64 a).wf = true) (_h2 : (Lit.int .i64 b).wf = true) (hT : Tab w) :
    Calls Tryd.prog 3 #[.int .i64 key, .int .i64 a, .int .i64 b] w fun e w' => e = .returned (.bool true) ∧ Below w.heap.size w w' := by
  obtain ⟨k, hk, hk2⟩ := nat_rem key 64 (by omega)
  obtain ⟨p, hp, hp2⟩ := nat_rem a 4 (by omega)
  obtain ⟨q, hq, hq2⟩ := nat_rem b 4 (by omega)
  have m1 := i64_and63 key
  have m2 := i64_and3 a
  have m3 := i64_and3 b
  rw [hk] at m1; rw [hp] at m2; rw [hq] at m3
  have hk3 : k < 64 := by omega
  clear hk hp hq
  obtain ⟨P, hP⟩ : ∃ P : Nat, (p : Int) + 1 = P := ⟨p + 1, by omega⟩
  obtain ⟨Q, hQ⟩ : ∃ Q : Nat, (q : Int) + 1 = Q := ⟨q + 1, by omega⟩
  have hP1 : 1 ≤ P := by omega
  have hP4 : P ≤ 4 := by omega
  have hQ1 : 1 ≤ Q := by omega
  have hQ4 : Q ≤ 4 := by omega
  have gk : ∀ n, hgt (upd (fun _ => 0) k n) (k : Int) = n := fun n => by rw [hgt_nat _ k hk3, upd_same]
  have GK := Lib.hid gk
  have HT := Lib.hid hT
  clear gk hT
  go_enter Tryd.func3, Tryd.ntmps3
  go_wp2_with fail
  refine (tw_new w HT.out (Below.refl _ _)).mono ?_
  rintro e w1 ⟨t, ta, tb, rfl, h1, o1, g1, g2, g3⟩
  clear o1
  go_wp2_with fail
  refine (tw_put_new h1 HT.out k P hk3 (by omega) (by omega) rfl).mono ?_
  rintro e w2 ⟨rfl, h2, o2⟩
  clear h1 o2
  go_wp2_with fail
  refine (tw_put_old h2 HT.out k Q hk3 (by omega) (by omega) (by rw [upd_same]; omega)).mono ?_
  rintro e w3 ⟨rfl, h3, o3⟩
  clear h2 o3
  go_wp2_with fail
  refine (tw_height h3 HT.out k P (GK.out P)).mono ?_
  rintro e w4 ⟨rfl, h4, o4⟩
  clear h3 o4
  go_wp2_with fail
  refine (tw_drop h4 HT.out k hk3 (by rw [upd_same]; omega)).mono ?_
  rintro e w5 ⟨rfl, h5, o5⟩
  rw [upd_upd] at h5
  clear h4 o5
  go_wp2_with fail
  refine (tw_drop_no h5 HT.out k (GK.out 0)).mono ?_
  rintro e w6 ⟨rfl, h6, o6⟩
  clear h5 o6
  go_wp2_with fail
  refine (tw_height h6 HT.out k 0 (GK.out 0)).mono ?_
  rintro e w7 ⟨rfl, h7, o7⟩
  clear h6 o7
  go_wp2_with fail
  refine (tw_put_new h7 HT.out k Q hk3 (by omega) (by omega) (by rw [upd_same])).mono ?_
  rintro e w8 ⟨rfl, h8, o8⟩
  rw [upd_upd] at h8
  clear h7 o8
  go_wp2_with fail
  refine (tw_put_bad h8 k 5 (.inr (.inr (by omega)))).mono ?_
  rintro e w9 ⟨rfl, rfl⟩
  go_wp2_with fail
  refine (tw_put_bad h8 64 1 (.inl (by decide))).mono ?_
  rintro e w9 ⟨rfl, rfl⟩
  go_wp2_with fail
  refine (tw_put_bad h8 (-1) 1 (.inl (by decide))).mono ?_
  rintro e w9 ⟨rfl, rfl⟩
  go_wp2_with fail
  refine (tw_height h8 HT.out k Q (GK.out Q)).mono ?_
  rintro e w9 ⟨rfl, h9, o9⟩
  clear h8 o9
  go_wp2_with fail
  refine (tw_len h9 HT.out 1 (kl_single k Q hk3 (by omega))).mono ?_
  rintro e wa ⟨rfl, ha, oa⟩
  clear h9 oa
  go_wp2_with fail
  refine (awake11_any w wa HT.out ha.bel).mono ?_
  rintro e wb ⟨rfl, hb⟩
  go_wp2_with fail
  go_ret
  exact ⟨rfl, hb⟩
end Go.Proofs.YtndmimljnhieiaaDoor

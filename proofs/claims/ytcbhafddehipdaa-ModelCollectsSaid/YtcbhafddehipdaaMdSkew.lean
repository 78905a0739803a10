/-
  ModelSkew: its plain steps and its walk.
-/
import Derived.Test.YtcbhafddehipdaaMdPair
namespace Go.Proofs.Ytcbhafddehipdaa
open Go.RowKit
set_option linter.unusedVariables false
set_option linter.unusedSimpArgs false

theorem do_split {α β γ : Type} {X : α × β × γ} {r : α} {e : β} (h : (X.1, X.2.1) = (r, e)) : X = (r, e, X.2.2) := by
  cases h; rfl
def sk1 (a b : Nat) : St := ((pairSt a b).do_ 0 ⟨1, 1, 0, 0⟩).2.2
theorem sk1_eq (a b : Nat) (ha : a < 3) (hb : b < 3) : (pairSt a b).do_ 0 ⟨1, 1, 0, 0⟩ = (⟨0, 10, [], 0, 0⟩, 0, sk1 a b) := by
  refine do_split ?_
  match a, ha, b, hb with
  | 0, _, 0, _ => (show _ = _; kernel_rfl)
  | 0, _, 1, _ => (show _ = _; kernel_rfl)
  | 0, _, 2, _ => (show _ = _; kernel_rfl)
  | 1, _, 0, _ => (show _ = _; kernel_rfl)
  | 1, _, 1, _ => (show _ = _; kernel_rfl)
  | 1, _, 2, _ => (show _ = _; kernel_rfl)
  | 2, _, 0, _ => (show _ = _; kernel_rfl)
  | 2, _, 1, _ => (show _ = _; kernel_rfl)
  | 2, _, 2, _ => (show _ = _; kernel_rfl)
def sk2 (a b : Nat) : St := ((sk1 a b).do_ 1 ⟨1, 2, 0, 0⟩).2.2
theorem sk2_eq (a b : Nat) (ha : a < 3) (hb : b < 3) : (sk1 a b).do_ 1 ⟨1, 2, 0, 0⟩ = (⟨0, 20, [], 0, 0⟩, 0, sk2 a b) := by
  refine do_split ?_
  match a, ha, b, hb with
  | 0, _, 0, _ => (show _ = _; kernel_rfl)
  | 0, _, 1, _ => (show _ = _; kernel_rfl)
  | 0, _, 2, _ => (show _ = _; kernel_rfl)
  | 1, _, 0, _ => (show _ = _; kernel_rfl)
  | 1, _, 1, _ => (show _ = _; kernel_rfl)
  | 1, _, 2, _ => (show _ = _; kernel_rfl)
  | 2, _, 0, _ => (show _ = _; kernel_rfl)
  | 2, _, 1, _ => (show _ = _; kernel_rfl)
  | 2, _, 2, _ => (show _ = _; kernel_rfl)
def sk3 (a b : Nat) : St := ((sk2 a b).do_ 0 ⟨3, 2, 0, 21⟩).2.2
theorem sk3_eq (a b : Nat) (ha : a < 3) (hb : b < 3) : (sk2 a b).do_ 0 ⟨3, 2, 0, 21⟩ = (⟨0, 0, [], 0, 0⟩, 0, sk3 a b) := by
  refine do_split ?_
  match a, ha, b, hb with
  | 0, _, 0, _ => (show _ = _; kernel_rfl)
  | 0, _, 1, _ => (show _ = _; kernel_rfl)
  | 0, _, 2, _ => (show _ = _; kernel_rfl)
  | 1, _, 0, _ => (show _ = _; kernel_rfl)
  | 1, _, 1, _ => (show _ = _; kernel_rfl)
  | 1, _, 2, _ => (show _ = _; kernel_rfl)
  | 2, _, 0, _ => (show _ = _; kernel_rfl)
  | 2, _, 1, _ => (show _ = _; kernel_rfl)
  | 2, _, 2, _ => (show _ = _; kernel_rfl)
def sk4 (a b : Nat) : St := ((sk3 a b).do_ 1 ⟨3, 1, 0, 11⟩).2.2
theorem sk4_eq (a b : Nat) (ha : a < 3) (hb : b < 3) : (sk3 a b).do_ 1 ⟨3, 1, 0, 11⟩ = (⟨0, 0, [], 0, 0⟩, 0, sk4 a b) := by
  refine do_split ?_
  match a, ha, b, hb with
  | 0, _, 0, _ => (show _ = _; kernel_rfl)
  | 0, _, 1, _ => (show _ = _; kernel_rfl)
  | 0, _, 2, _ => (show _ = _; kernel_rfl)
  | 1, _, 0, _ => (show _ = _; kernel_rfl)
  | 1, _, 1, _ => (show _ = _; kernel_rfl)
  | 1, _, 2, _ => (show _ = _; kernel_rfl)
  | 2, _, 0, _ => (show _ = _; kernel_rfl)
  | 2, _, 1, _ => (show _ = _; kernel_rfl)
  | 2, _, 2, _ => (show _ = _; kernel_rfl)
def sk5 (a b : Nat) : St := ((sk4 a b).do_ 0 ⟨6, 0, 0, 0⟩).2.2
theorem sk5_eq (a b : Nat) (ha : a < 3) (hb : b < 3) : (sk4 a b).do_ 0 ⟨6, 0, 0, 0⟩ = (⟨0, 0, [], 3, 0⟩, 0, sk5 a b) := by
  refine do_split ?_
  match a, ha, b, hb with
  | 0, _, 0, _ => (show _ = _; kernel_rfl)
  | 0, _, 1, _ => (show _ = _; kernel_rfl)
  | 0, _, 2, _ => (show _ = _; kernel_rfl)
  | 1, _, 0, _ => (show _ = _; kernel_rfl)
  | 1, _, 1, _ => (show _ = _; kernel_rfl)
  | 1, _, 2, _ => (show _ = _; kernel_rfl)
  | 2, _, 0, _ => (show _ = _; kernel_rfl)
  | 2, _, 1, _ => (show _ = _; kernel_rfl)
  | 2, _, 2, _ => (show _ = _; kernel_rfl)
def sk6 (a b : Nat) : St := ((sk5 a b).do_ 1 ⟨6, 0, 0, 0⟩).2.2
theorem sk6_eq (a b : Nat) (ha : a < 3) (hb : b < 3) : (sk5 a b).do_ 1 ⟨6, 0, 0, 0⟩ = (⟨if b = 0 then 0 else 14, 0, [], if b = 0 then 3 else 4, if b = 0 then 0 else 3⟩, 0, sk6 a b) := by
  refine do_split ?_
  match a, ha, b, hb with
  | 0, _, 0, _ => (show _ = _; kernel_rfl)
  | 0, _, 1, _ => (show _ = _; kernel_rfl)
  | 0, _, 2, _ => (show _ = _; kernel_rfl)
  | 1, _, 0, _ => (show _ = _; kernel_rfl)
  | 1, _, 1, _ => (show _ = _; kernel_rfl)
  | 1, _, 2, _ => (show _ = _; kernel_rfl)
  | 2, _, 0, _ => (show _ = _; kernel_rfl)
  | 2, _, 1, _ => (show _ = _; kernel_rfl)
  | 2, _, 2, _ => (show _ = _; kernel_rfl)
set_option maxRecDepth 100000 in
set_option maxHeartbeats 16000000 in
theorem modelSkew_walk (a b : Int) (w : World) (_h0 : (Lit.int .i64 a).wf = true) (_h1 : (Lit.int .i64 b).wf = true) :
    Calls Try.prog 4 #[.int .i64 a, .int .i64 b] w fun e w' => e = .returned (.bool true) ∧ Below w.heap.size w w' := by
  obtain ⟨q1, r1, e1, hq1, f1, hr1⟩ := lev3 a
  obtain ⟨q2, r2, e2, hq2, f2, hr2⟩ := lev3 b
  have H6 := Lib.hid (sk6_eq r1 r2 hr1 hr2)
  by_cases hb : r2 = 0
  · rw [if_pos hb, if_pos hb, if_pos hb] at H6
    subst hb
    go_enter Try.func4, Try.ntmps4
    go_wp2_with fail
    refine (pair19 r1 0 hr1 hr2 _ _ rfl rfl w w (Only0.refl _)).mono ?_
    rintro e w1 ⟨m, P1, rfl, L1⟩
    go_wp2_with fail
    refine (get19 L1 0 1 (sk1_eq r1 0 hr1 hr2)).mono ?_
    rintro e w2 ⟨P2, rfl, L2, -, -⟩
    rw [show getV 0 10 = 10 from rfl]
    clear L1
    go_wp2_with fail
    refine (get19 L2 1 2 (sk2_eq r1 0 hr1 hr2)).mono ?_
    rintro e w3 ⟨P3, rfl, L3, -, -⟩
    rw [show getV 0 20 = 20 from rfl]
    clear L2
    go_wp2_with fail
    refine (lw_do L3 0 3 2 0 21 (sk3_eq r1 0 hr1 hr2)).mono ?_
    rintro e w4 ⟨P4, a4, c4, rfl, L4, -, -⟩
    clear L3
    go_wp2_with fail
    refine (lw_do L4 1 3 1 0 11 (sk4_eq r1 0 hr1 hr2)).mono ?_
    rintro e w5 ⟨P5, a5, c5, rfl, L5, -, -⟩
    clear L4
    go_wp2_with fail
    refine (lw_do L5 0 6 0 0 0 (sk5_eq r1 0 hr1 hr2)).mono ?_
    rintro e w6 ⟨P6, a6, c6, rfl, L6, -, -⟩
    have X6 := L6.box 27 #[.int .i64 0, .int .i64 0, .slice a6 0 c6, .int .i64 3, .int .i64 0]
    have L6' := L6.alloc (.cells #[.int .i64 0, .int .i64 0, .slice a6 0 c6, .int .i64 3, .int .i64 0] 27)
    clear L5 L6
    go_wp2_with fail
    refine (lw_do L6' 1 6 0 0 0 H6.out).mono ?_
    rintro e w7 ⟨P7, a7, c7, rfl, L7, o7, g7⟩
    have X7 := (X6.step o7 g7).alloc (.cells #[.int .i64 0, .int .i64 0, .slice a7 0 c7, .int .i64 3, .int .i64 0] 27)
    have x3 : (w7.alloc (.cells #[.int .i64 0, .int .i64 0, .slice a7 0 c7, .int .i64 3, .int .i64 0] 27)).cell? ⟨w6.heap.size, 3, none⟩ = some (.int .i64 3) := X7.1.cell 3
    have HO := Lib.hid (L7.alloc (.cells #[.int .i64 0, .int .i64 0, .slice a7 0 c7, .int .i64 3, .int .i64 0] 27)).o
    clear L6' L7 X6 X7 o7 g7
    go_wp2_with fail
    refine (awake19_any _).mono ?_
    rintro e w8 ⟨rfl, o8⟩
    have HO8 := Lib.hid (HO.out.trans o8)
    clear o8
    go_wp2_with fail
    go_ret
    exact ⟨rfl, HO8.out.below⟩
  · have hb1 : (((r2 : Int) + 1) == 1) = false := by rw [beq_eq_false_iff_ne]; omega
    rw [if_neg hb, if_neg hb, if_neg hb] at H6
    clear hb
    go_enter Try.func4, Try.ntmps4
    go_wp2_with fail
    refine (pair19 r1 r2 hr1 hr2 _ _ rfl rfl w w (Only0.refl _)).mono ?_
    rintro e w1 ⟨m, P1, rfl, L1⟩
    go_wp2_with fail
    refine (get19 L1 0 1 (sk1_eq r1 r2 hr1 hr2)).mono ?_
    rintro e w2 ⟨P2, rfl, L2, -, -⟩
    rw [show getV 0 10 = 10 from rfl]
    clear L1
    go_wp2_with fail
    refine (get19 L2 1 2 (sk2_eq r1 r2 hr1 hr2)).mono ?_
    rintro e w3 ⟨P3, rfl, L3, -, -⟩
    rw [show getV 0 20 = 20 from rfl]
    clear L2
    go_wp2_with fail
    refine (lw_do L3 0 3 2 0 21 (sk3_eq r1 r2 hr1 hr2)).mono ?_
    rintro e w4 ⟨P4, a4, c4, rfl, L4, -, -⟩
    clear L3
    go_wp2_with fail
    refine (lw_do L4 1 3 1 0 11 (sk4_eq r1 r2 hr1 hr2)).mono ?_
    rintro e w5 ⟨P5, a5, c5, rfl, L5, -, -⟩
    clear L4
    go_wp2_with fail
    refine (lw_do L5 0 6 0 0 0 (sk5_eq r1 r2 hr1 hr2)).mono ?_
    rintro e w6 ⟨P6, a6, c6, rfl, L6, -, -⟩
    have X6 := L6.box 27 #[.int .i64 0, .int .i64 0, .slice a6 0 c6, .int .i64 3, .int .i64 0]
    have L6' := L6.alloc (.cells #[.int .i64 0, .int .i64 0, .slice a6 0 c6, .int .i64 3, .int .i64 0] 27)
    clear L5 L6
    go_wp2_with fail
    refine (lw_do L6' 1 6 0 0 0 H6.out).mono ?_
    rintro e w7 ⟨P7, a7, c7, rfl, L7, o7, g7⟩
    have X7 := (X6.step o7 g7).alloc (.cells #[.int .i64 14, .int .i64 0, .slice a7 0 c7, .int .i64 4, .int .i64 3] 27)
    have x3 : (w7.alloc (.cells #[.int .i64 14, .int .i64 0, .slice a7 0 c7, .int .i64 4, .int .i64 3] 27)).cell? ⟨w6.heap.size, 3, none⟩ = some (.int .i64 3) := X7.1.cell 3
    have HO := Lib.hid (L7.alloc (.cells #[.int .i64 14, .int .i64 0, .slice a7 0 c7, .int .i64 4, .int .i64 3] 27)).o
    clear L6' L7 X6 X7 o7 g7
    go_wp2_with fail
    refine (awake19_any _).mono ?_
    rintro e w8 ⟨rfl, o8⟩
    have HO8 := Lib.hid (HO.out.trans o8)
    clear o8
    go_wp2_with fail
    go_ret
    exact ⟨rfl, HO8.out.below⟩
end Go.Proofs.Ytcbhafddehipdaa

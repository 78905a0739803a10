/-
  ModelSees: its walk.
-/
import Derived.Test.YtcbhafddehipdaaMdSeP
namespace Go.Proofs.Ytcbhafddehipdaa
open Go.RowKit
set_option linter.unusedVariables false
set_option linter.unusedSimpArgs false

set_option maxRecDepth 100000 in
set_option maxHeartbeats 16000000 in
theorem ms0 (a b c : Int) (q1 q2 r1 v : Nat) (hr1 : r1 < 3) (e1 : bits .and .i64 a 255 = (q1 : Int)) (hq1 : q1 < 256) (f1 : ((q1 : Nat) : Int) % 3 = (r1 : Int)) (e2 : bits .and .i64 b 255 = (q2 : Int)) (hq2 : q2 < 256) (f2 : ((q2 : Nat) : Int) % 3 = 0) (e3 : bits .and .i64 c 65535 = (v : Int)) (hv : v < 65536) (w : World) :
    Calls Try.prog 10 #[.int .i64 a, .int .i64 b, .int .i64 c] w fun e w' => e = .returned (.bool true) ∧ Below w.heap.size w w' := by
  have H1 := se0_1_eq r1 hr1 v (by omega) (by omega)
  go_enter Try.func10, Try.ntmps10
  go_wp2_with fail
  refine (pair19 r1 0 hr1 (by decide) _ _ rfl rfl w w (Only0.refl _)).mono ?_
  rintro e w1 ⟨m, P1, rfl, L1⟩
  have L1' := (L1.alloc (.cells #[.int .i64 3, .int .i64 1, .int .i64 0, .int .i64 (v : Int), .int .i64 4, .int .i64 1, .int .i64 0, .int .i64 0, .int .i64 2, .int .i64 3, .int .i64 0, .int .i64 (v : Int)] 31)).alloc (.cells #[.int .i64 3, .int .i64 1, .int .i64 0, .int .i64 (v : Int)] 31)
  clear L1
  go_wp2_with fail
  refine (lw_do L1' 1 3 1 0 (v : Int) H1).mono ?_
  rintro e w2 ⟨P2, a2, c2, rfl, L2, -, -⟩
  have L2' := L2.alloc (.cells #[.int .i64 0, .int .i64 0, .slice a2 0 c2, .int .i64 0, .int .i64 0] 27)
  clear L1' L2
  go_wp2_with fail
  refine (get19 (s := se0_1 r1 v) L2' 0 1 (se0_2_eq r1 hr1 v)).mono ?_
  rintro e w3 ⟨P3, rfl, L3, -, -⟩
  rw [show getV 0 10 = 10 from rfl]
  clear L2'
  go_wp2_with fail
  refine (get19 (s := se0_2 r1 v) L3 0 3 (se0_3_eq r1 hr1 v)).mono ?_
  rintro e w4 ⟨P4, rfl, L4, -, -⟩
  rw [show getV 11 0 = -1 from rfl]
  clear L3
  go_wp2_with fail
  refine (lw_do L4 1 6 0 0 0 (se0_4_eq r1 hr1 v)).mono ?_
  rintro e w5 ⟨P5, a5, c5, rfl, L5, -, -⟩
  have L5' := L5.alloc (.cells #[.int .i64 0, .int .i64 0, .slice a5 0 c5, .int .i64 3, .int .i64 0] 27)
  clear L4 L5
  go_wp2_with fail
  refine (get19 (s := se0_4 r1 v) L5' 0 1 (se0_5_eq r1 hr1 v)).mono ?_
  rintro e w6 ⟨P6, rfl, L6, -, -⟩
  rw [show getV 0 10 = 10 from rfl]
  clear L5'
  go_wp2_with fail
  refine (get19 (s := se0_5 r1 v) L6 0 2 (se0_6_eq r1 hr1 v)).mono ?_
  rintro e w7 ⟨P7, rfl, L7, -, -⟩
  rw [show getV 0 20 = 20 from rfl]
  clear L6
  go_wp2_with fail
  refine (get19 (s := se0_6 r1 v) L7 0 3 (se0_7_eq r1 hr1 v)).mono ?_
  rintro e w8 ⟨P8, rfl, L8, -, -⟩
  rw [show getV 11 0 = -1 from rfl]
  clear L7
  go_wp2_with fail
  refine (lw_collect L8).mono ?_
  rintro e w9 ⟨rfl, L9, -⟩
  clear L8
  go_wp2_with fail
  refine (get19 (s := se0_8 r1 v) L9 0 1 (se0_9_eq r1 hr1 v)).mono ?_
  rintro e w10 ⟨P10, rfl, L10, -, -⟩
  rw [show getV 0 10 = 10 from rfl]
  clear L9
  go_wp2_with fail
  refine (get19 (s := se0_9 r1 v) L10 0 3 (se0_10_eq r1 hr1 v)).mono ?_
  rintro e w11 ⟨P11, rfl, L11, -, -⟩
  rw [show getV 11 0 = -1 from rfl]
  clear L10
  go_wp2_with fail
  refine (lw_begin L11 2 3 (se0_11_eq r1 hr1 v)).mono ?_
  rintro e w12 ⟨P12, rfl, L12, -, -⟩
  clear L11
  go_wp2_with fail
  refine (get19 (s := se0_11 r1 v) L12 2 1 (se0_12_eq r1 hr1 v)).mono ?_
  rintro e w13 ⟨P13, rfl, L13, -, -⟩
  rw [show getV 0 (v : Int) = (v : Int) from rfl]
  clear L12
  go_wp2_with fail
  refine (get19 (s := se0_12 r1 v) L13 2 3 (se0_13_eq r1 hr1 v)).mono ?_
  rintro e w14 ⟨P14, rfl, L14, -, -⟩
  rw [show getV 11 0 = -1 from rfl]
  clear L13
  have HO := Lib.hid L14.o
  clear L14
  go_wp2_with fail
  refine (awake19_any _).mono ?_
  rintro e w15 ⟨rfl, o15⟩
  have HO8 := Lib.hid (HO.out.trans (((Only0.refl _).alloc _).alloc _ |>.trans o15))
  clear o15
  go_wp2_with fail
  go_ret
  exact ⟨rfl, HO8.out.below⟩
set_option maxRecDepth 100000 in
set_option maxHeartbeats 16000000 in
theorem ms1 (a b c : Int) (q1 q2 r1 v : Nat) (hr1 : r1 < 3) (e1 : bits .and .i64 a 255 = (q1 : Int)) (hq1 : q1 < 256) (f1 : ((q1 : Nat) : Int) % 3 = (r1 : Int)) (e2 : bits .and .i64 b 255 = (q2 : Int)) (hq2 : q2 < 256) (f2 : ((q2 : Nat) : Int) % 3 = 1) (e3 : bits .and .i64 c 65535 = (v : Int)) (hv : v < 65536) (w : World) :
    Calls Try.prog 10 #[.int .i64 a, .int .i64 b, .int .i64 c] w fun e w' => e = .returned (.bool true) ∧ Below w.heap.size w w' := by
  have H1 := se1_1_eq r1 hr1 v
  go_enter Try.func10, Try.ntmps10
  go_wp2_with fail
  refine (pair19 r1 0 hr1 (by decide) _ _ rfl rfl w w (Only0.refl _)).mono ?_
  rintro e w1 ⟨m, P1, rfl, L1⟩
  have L1' := (L1.alloc (.cells #[.int .i64 3, .int .i64 1, .int .i64 0, .int .i64 (v : Int), .int .i64 4, .int .i64 1, .int .i64 0, .int .i64 0, .int .i64 2, .int .i64 3, .int .i64 0, .int .i64 (v : Int)] 31)).alloc (.cells #[.int .i64 4, .int .i64 1, .int .i64 0, .int .i64 0] 31)
  clear L1
  go_wp2_with fail
  refine (lw_do L1' 1 4 1 0 0 H1).mono ?_
  rintro e w2 ⟨P2, a2, c2, rfl, L2, -, -⟩
  have L2' := L2.alloc (.cells #[.int .i64 0, .int .i64 0, .slice a2 0 c2, .int .i64 0, .int .i64 0] 27)
  clear L1' L2
  go_wp2_with fail
  refine (get19 (s := se1_1 r1 v) L2' 0 1 (se1_2_eq r1 hr1 v)).mono ?_
  rintro e w3 ⟨P3, rfl, L3, -, -⟩
  rw [show getV 0 10 = 10 from rfl]
  clear L2'
  go_wp2_with fail
  refine (get19 (s := se1_2 r1 v) L3 0 3 (se1_3_eq r1 hr1 v)).mono ?_
  rintro e w4 ⟨P4, rfl, L4, -, -⟩
  rw [show getV 11 0 = -1 from rfl]
  clear L3
  go_wp2_with fail
  refine (lw_do L4 1 6 0 0 0 (se1_4_eq r1 hr1 v)).mono ?_
  rintro e w5 ⟨P5, a5, c5, rfl, L5, -, -⟩
  have L5' := L5.alloc (.cells #[.int .i64 0, .int .i64 0, .slice a5 0 c5, .int .i64 3, .int .i64 0] 27)
  clear L4 L5
  go_wp2_with fail
  refine (get19 (s := se1_4 r1 v) L5' 0 1 (se1_5_eq r1 hr1 v)).mono ?_
  rintro e w6 ⟨P6, rfl, L6, -, -⟩
  rw [show getV 0 10 = 10 from rfl]
  clear L5'
  go_wp2_with fail
  refine (get19 (s := se1_5 r1 v) L6 0 2 (se1_6_eq r1 hr1 v)).mono ?_
  rintro e w7 ⟨P7, rfl, L7, -, -⟩
  rw [show getV 0 20 = 20 from rfl]
  clear L6
  go_wp2_with fail
  refine (get19 (s := se1_6 r1 v) L7 0 3 (se1_7_eq r1 hr1 v)).mono ?_
  rintro e w8 ⟨P8, rfl, L8, -, -⟩
  rw [show getV 11 0 = -1 from rfl]
  clear L7
  go_wp2_with fail
  refine (lw_collect L8).mono ?_
  rintro e w9 ⟨rfl, L9, -⟩
  clear L8
  go_wp2_with fail
  refine (get19 (s := se1_8 r1 v) L9 0 1 (se1_9_eq r1 hr1 v)).mono ?_
  rintro e w10 ⟨P10, rfl, L10, -, -⟩
  rw [show getV 0 10 = 10 from rfl]
  clear L9
  go_wp2_with fail
  refine (get19 (s := se1_9 r1 v) L10 0 3 (se1_10_eq r1 hr1 v)).mono ?_
  rintro e w11 ⟨P11, rfl, L11, -, -⟩
  rw [show getV 11 0 = -1 from rfl]
  clear L10
  go_wp2_with fail
  refine (lw_begin L11 2 3 (se1_11_eq r1 hr1 v)).mono ?_
  rintro e w12 ⟨P12, rfl, L12, -, -⟩
  clear L11
  go_wp2_with fail
  refine (get19 (s := se1_11 r1 v) L12 2 1 (se1_12_eq r1 hr1 v)).mono ?_
  rintro e w13 ⟨P13, rfl, L13, -, -⟩
  rw [show getV 11 0 = -1 from rfl]
  clear L12
  go_wp2_with fail
  refine (get19 (s := se1_12 r1 v) L13 2 3 (se1_13_eq r1 hr1 v)).mono ?_
  rintro e w14 ⟨P14, rfl, L14, -, -⟩
  rw [show getV 11 0 = -1 from rfl]
  clear L13
  have HO := Lib.hid L14.o
  clear L14
  go_wp2_with fail
  refine (awake19_any _).mono ?_
  rintro e w15 ⟨rfl, o15⟩
  have HO8 := Lib.hid (HO.out.trans (((Only0.refl _).alloc _).alloc _ |>.trans o15))
  clear o15
  go_wp2_with fail
  go_ret
  exact ⟨rfl, HO8.out.below⟩
set_option maxRecDepth 100000 in
set_option maxHeartbeats 16000000 in
theorem ms2 (a b c : Int) (q1 q2 r1 v : Nat) (hr1 : r1 < 3) (e1 : bits .and .i64 a 255 = (q1 : Int)) (hq1 : q1 < 256) (f1 : ((q1 : Nat) : Int) % 3 = (r1 : Int)) (e2 : bits .and .i64 b 255 = (q2 : Int)) (hq2 : q2 < 256) (f2 : ((q2 : Nat) : Int) % 3 = 2) (e3 : bits .and .i64 c 65535 = (v : Int)) (hv : v < 65536) (w : World) :
    Calls Try.prog 10 #[.int .i64 a, .int .i64 b, .int .i64 c] w fun e w' => e = .returned (.bool true) ∧ Below w.heap.size w w' := by
  have H1 := se2_1_eq r1 hr1 v (by omega) (by omega)
  go_enter Try.func10, Try.ntmps10
  go_wp2_with fail
  refine (pair19 r1 0 hr1 (by decide) _ _ rfl rfl w w (Only0.refl _)).mono ?_
  rintro e w1 ⟨m, P1, rfl, L1⟩
  have L1' := (L1.alloc (.cells #[.int .i64 3, .int .i64 1, .int .i64 0, .int .i64 (v : Int), .int .i64 4, .int .i64 1, .int .i64 0, .int .i64 0, .int .i64 2, .int .i64 3, .int .i64 0, .int .i64 (v : Int)] 31)).alloc (.cells #[.int .i64 2, .int .i64 3, .int .i64 0, .int .i64 (v : Int)] 31)
  clear L1
  go_wp2_with fail
  refine (lw_do L1' 1 2 3 0 (v : Int) H1).mono ?_
  rintro e w2 ⟨P2, a2, c2, rfl, L2, -, -⟩
  have L2' := L2.alloc (.cells #[.int .i64 0, .int .i64 0, .slice a2 0 c2, .int .i64 0, .int .i64 0] 27)
  clear L1' L2
  go_wp2_with fail
  refine (get19 (s := se2_1 r1 v) L2' 0 1 (se2_2_eq r1 hr1 v)).mono ?_
  rintro e w3 ⟨P3, rfl, L3, -, -⟩
  rw [show getV 0 10 = 10 from rfl]
  clear L2'
  go_wp2_with fail
  refine (get19 (s := se2_2 r1 v) L3 0 3 (se2_3_eq r1 hr1 v)).mono ?_
  rintro e w4 ⟨P4, rfl, L4, -, -⟩
  rw [show getV 11 0 = -1 from rfl]
  clear L3
  go_wp2_with fail
  refine (lw_do L4 1 6 0 0 0 (se2_4_eq r1 hr1 v)).mono ?_
  rintro e w5 ⟨P5, a5, c5, rfl, L5, -, -⟩
  have L5' := L5.alloc (.cells #[.int .i64 0, .int .i64 0, .slice a5 0 c5, .int .i64 3, .int .i64 0] 27)
  clear L4 L5
  go_wp2_with fail
  refine (get19 (s := se2_4 r1 v) L5' 0 1 (se2_5_eq r1 hr1 v)).mono ?_
  rintro e w6 ⟨P6, rfl, L6, -, -⟩
  rw [show getV 0 10 = 10 from rfl]
  clear L5'
  go_wp2_with fail
  refine (get19 (s := se2_5 r1 v) L6 0 2 (se2_6_eq r1 hr1 v)).mono ?_
  rintro e w7 ⟨P7, rfl, L7, -, -⟩
  rw [show getV 0 20 = 20 from rfl]
  clear L6
  go_wp2_with fail
  refine (get19 (s := se2_6 r1 v) L7 0 3 (se2_7_eq r1 hr1 v)).mono ?_
  rintro e w8 ⟨P8, rfl, L8, -, -⟩
  rw [show getV 11 0 = -1 from rfl]
  clear L7
  go_wp2_with fail
  refine (lw_collect L8).mono ?_
  rintro e w9 ⟨rfl, L9, -⟩
  clear L8
  go_wp2_with fail
  refine (get19 (s := se2_8 r1 v) L9 0 1 (se2_9_eq r1 hr1 v)).mono ?_
  rintro e w10 ⟨P10, rfl, L10, -, -⟩
  rw [show getV 0 10 = 10 from rfl]
  clear L9
  go_wp2_with fail
  refine (get19 (s := se2_9 r1 v) L10 0 3 (se2_10_eq r1 hr1 v)).mono ?_
  rintro e w11 ⟨P11, rfl, L11, -, -⟩
  rw [show getV 11 0 = -1 from rfl]
  clear L10
  go_wp2_with fail
  refine (lw_begin L11 2 3 (se2_11_eq r1 hr1 v)).mono ?_
  rintro e w12 ⟨P12, rfl, L12, -, -⟩
  clear L11
  go_wp2_with fail
  refine (get19 (s := se2_11 r1 v) L12 2 1 (se2_12_eq r1 hr1 v)).mono ?_
  rintro e w13 ⟨P13, rfl, L13, -, -⟩
  rw [show getV 0 10 = 10 from rfl]
  clear L12
  go_wp2_with fail
  refine (get19 (s := se2_12 r1 v) L13 2 3 (se2_13_eq r1 hr1 v)).mono ?_
  rintro e w14 ⟨P14, rfl, L14, -, -⟩
  rw [show getV 0 (v : Int) = (v : Int) from rfl]
  clear L13
  have HO := Lib.hid L14.o
  clear L14
  go_wp2_with fail
  refine (awake19_any _).mono ?_
  rintro e w15 ⟨rfl, o15⟩
  have HO8 := Lib.hid (HO.out.trans (((Only0.refl _).alloc _).alloc _ |>.trans o15))
  clear o15
  go_wp2_with fail
  go_ret
  exact ⟨rfl, HO8.out.below⟩
theorem modelSees_walk (a b c : Int) (w : World) (_h0 : (Lit.int .i64 a).wf = true) (_h1 : (Lit.int .i64 b).wf = true) (_h2 : (Lit.int .i64 c).wf = true) :
    Calls Try.prog 10 #[.int .i64 a, .int .i64 b, .int .i64 c] w fun e w' => e = .returned (.bool true) ∧ Below w.heap.size w w' := by
  obtain ⟨q1, r1, e1, hq1, f1, hr1⟩ := lev3 a
  obtain ⟨q2, r2, e2, hq2, f2, hr2⟩ := lev3 b
  obtain ⟨v, e3, hv⟩ : ∃ v : Nat, bits .and .i64 c 65535 = (v : Int) ∧ v < 65536 := by
    have h := i64_and65535 c
    exact ⟨(c % 65536).toNat, by rw [h]; omega, by omega⟩
  match r2, hr2 with
  | 0, _ => exact ms0 a b c q1 q2 r1 v hr1 e1 hq1 f1 e2 hq2 f2 e3 hv w
  | 1, _ => exact ms1 a b c q1 q2 r1 v hr1 e1 hq1 f1 e2 hq2 f2 e3 hv w
  | 2, _ => exact ms2 a b c q1 q2 r1 v hr1 e1 hq1 f1 e2 hq2 f2 e3 hv w
end Go.Proofs.Ytcbhafddehipdaa

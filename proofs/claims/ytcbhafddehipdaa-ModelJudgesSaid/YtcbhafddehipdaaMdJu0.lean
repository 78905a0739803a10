/-
  ModelJudges: its walks, read 0.
-/
import Derived.Test.YtcbhafddehipdaaMdJuP
namespace Go.Proofs.Ytcbhafddehipdaa
open Go.RowKit
set_option linter.unusedVariables false
set_option linter.unusedSimpArgs false

set_option maxRecDepth 100000 in
set_option maxHeartbeats 16000000 in
theorem mj000 (a b c : Int) (q1 q2 q3 : Nat) (e1 : bits .and .i64 a 255 = (q1 : Int)) (hq1 : q1 < 256) (f1 : ((q1 : Nat) : Int) % 3 = 0) (e2 : bits .and .i64 b 255 = (q2 : Int)) (hq2 : q2 < 256) (f2 : ((q2 : Nat) : Int) % 3 = 0) (e3 : bits .and .i64 c 255 = (q3 : Int)) (hq3 : q3 < 256) (f3 : ((q3 : Nat) : Int) % 3 = 0) (w : World) :
    Calls Try.prog 3 #[.int .i64 a, .int .i64 b, .int .i64 c] w fun e w' => e = .returned (.bool true) ∧ Below w.heap.size w w' := by
  go_enter Try.func3, Try.ntmps3
  go_wp2_with fail
  refine (pair19 0 0 (by decide) (by decide) _ _ rfl rfl w w (Only0.refl _)).mono ?_
  rintro e w1 ⟨m, P1, rfl, L1⟩
  have L1' := L1.alloc (.cells #[.int .i64 1, .int .i64 1, .int .i64 0, .int .i64 0, .int .i64 1, .int .i64 3, .int .i64 0, .int .i64 0, .int .i64 5, .int .i64 1, .int .i64 5, .int .i64 0] 31)
  clear L1
  go_wp2_with fail
  refine (lw_dop L1' 0 1 1 0 0 (ju00_1_eq 0 (by decide))).mono ?_
  rintro e w2 ⟨P2, a2, c2, rfl, L2, -, -⟩
  have L2' := L2.alloc (.cells #[.int .i64 3, .int .i64 1, .int .i64 0, .int .i64 99, .int .i64 4, .int .i64 1, .int .i64 0, .int .i64 0, .int .i64 2, .int .i64 3, .int .i64 0, .int .i64 99] 31)
  clear L1' L2
  go_wp2_with fail
  refine (lw_do L2' 1 3 1 0 99 (ju00_2_eq 0 (by decide))).mono ?_
  rintro e w3 ⟨P3, a3, c3, rfl, L3, -, -⟩
  clear L2'
  go_wp2_with fail
  refine (lw_do L3 1 6 0 0 0 (ju00_3_eq 0 (by decide))).mono ?_
  rintro e w4 ⟨P4, a4, c4, rfl, L4, -, -⟩
  have L4' := L4.alloc (.cells #[.int .i64 0, .int .i64 0, .slice a4 0 c4, .int .i64 3, .int .i64 0] 27)
  clear L3 L4
  go_wp2_with fail
  refine (lw_do L4' 0 6 0 0 0 (ju00_4_eq0)).mono ?_
  rintro e w5 ⟨P5, a5, c5, rfl, L5, -, -⟩
  have HO := Lib.hid (L5.alloc (.cells #[.int .i64 0, .int .i64 0, .slice a5 0 c5, .int .i64 3, .int .i64 0] 27)).o
  clear L4' L5
  go_wp2_with fail
  refine (awake19_any _).mono ?_
  rintro e w8 ⟨rfl, o8⟩
  have HO8 := Lib.hid (HO.out.trans o8)
  clear o8
  go_wp2_with fail
  go_ret
  exact ⟨rfl, HO8.out.below⟩
set_option maxRecDepth 100000 in
set_option maxHeartbeats 16000000 in
theorem mj001 (a b c : Int) (q1 q2 q3 : Nat) (e1 : bits .and .i64 a 255 = (q1 : Int)) (hq1 : q1 < 256) (f1 : ((q1 : Nat) : Int) % 3 = 1) (e2 : bits .and .i64 b 255 = (q2 : Int)) (hq2 : q2 < 256) (f2 : ((q2 : Nat) : Int) % 3 = 0) (e3 : bits .and .i64 c 255 = (q3 : Int)) (hq3 : q3 < 256) (f3 : ((q3 : Nat) : Int) % 3 = 0) (w : World) :
    Calls Try.prog 3 #[.int .i64 a, .int .i64 b, .int .i64 c] w fun e w' => e = .returned (.bool true) ∧ Below w.heap.size w w' := by
  go_enter Try.func3, Try.ntmps3
  go_wp2_with fail
  refine (pair19 1 0 (by decide) (by decide) _ _ rfl rfl w w (Only0.refl _)).mono ?_
  rintro e w1 ⟨m, P1, rfl, L1⟩
  have L1' := L1.alloc (.cells #[.int .i64 1, .int .i64 1, .int .i64 0, .int .i64 0, .int .i64 1, .int .i64 3, .int .i64 0, .int .i64 0, .int .i64 5, .int .i64 1, .int .i64 5, .int .i64 0] 31)
  clear L1
  go_wp2_with fail
  refine (lw_dop L1' 0 1 1 0 0 (ju00_1_eq 1 (by decide))).mono ?_
  rintro e w2 ⟨P2, a2, c2, rfl, L2, -, -⟩
  have L2' := L2.alloc (.cells #[.int .i64 3, .int .i64 1, .int .i64 0, .int .i64 99, .int .i64 4, .int .i64 1, .int .i64 0, .int .i64 0, .int .i64 2, .int .i64 3, .int .i64 0, .int .i64 99] 31)
  clear L1' L2
  go_wp2_with fail
  refine (lw_do L2' 1 3 1 0 99 (ju00_2_eq 1 (by decide))).mono ?_
  rintro e w3 ⟨P3, a3, c3, rfl, L3, -, -⟩
  clear L2'
  go_wp2_with fail
  refine (lw_do L3 1 6 0 0 0 (ju00_3_eq 1 (by decide))).mono ?_
  rintro e w4 ⟨P4, a4, c4, rfl, L4, -, -⟩
  have L4' := L4.alloc (.cells #[.int .i64 0, .int .i64 0, .slice a4 0 c4, .int .i64 3, .int .i64 0] 27)
  clear L3 L4
  go_wp2_with fail
  refine (lw_do L4' 0 6 0 0 0 (ju00_4_eq1)).mono ?_
  rintro e w5 ⟨P5, a5, c5, rfl, L5, -, -⟩
  have HO := Lib.hid (L5.alloc (.cells #[.int .i64 14, .int .i64 0, .slice a5 0 c5, .int .i64 4, .int .i64 3] 27)).o
  clear L4' L5
  go_wp2_with fail
  refine (awake19_any _).mono ?_
  rintro e w8 ⟨rfl, o8⟩
  have HO8 := Lib.hid (HO.out.trans o8)
  clear o8
  go_wp2_with fail
  go_ret
  exact ⟨rfl, HO8.out.below⟩
set_option maxRecDepth 100000 in
set_option maxHeartbeats 16000000 in
theorem mj002 (a b c : Int) (q1 q2 q3 : Nat) (e1 : bits .and .i64 a 255 = (q1 : Int)) (hq1 : q1 < 256) (f1 : ((q1 : Nat) : Int) % 3 = 2) (e2 : bits .and .i64 b 255 = (q2 : Int)) (hq2 : q2 < 256) (f2 : ((q2 : Nat) : Int) % 3 = 0) (e3 : bits .and .i64 c 255 = (q3 : Int)) (hq3 : q3 < 256) (f3 : ((q3 : Nat) : Int) % 3 = 0) (w : World) :
    Calls Try.prog 3 #[.int .i64 a, .int .i64 b, .int .i64 c] w fun e w' => e = .returned (.bool true) ∧ Below w.heap.size w w' := by
  go_enter Try.func3, Try.ntmps3
  go_wp2_with fail
  refine (pair19 2 0 (by decide) (by decide) _ _ rfl rfl w w (Only0.refl _)).mono ?_
  rintro e w1 ⟨m, P1, rfl, L1⟩
  have L1' := L1.alloc (.cells #[.int .i64 1, .int .i64 1, .int .i64 0, .int .i64 0, .int .i64 1, .int .i64 3, .int .i64 0, .int .i64 0, .int .i64 5, .int .i64 1, .int .i64 5, .int .i64 0] 31)
  clear L1
  go_wp2_with fail
  refine (lw_dop L1' 0 1 1 0 0 (ju00_1_eq 2 (by decide))).mono ?_
  rintro e w2 ⟨P2, a2, c2, rfl, L2, -, -⟩
  have L2' := L2.alloc (.cells #[.int .i64 3, .int .i64 1, .int .i64 0, .int .i64 99, .int .i64 4, .int .i64 1, .int .i64 0, .int .i64 0, .int .i64 2, .int .i64 3, .int .i64 0, .int .i64 99] 31)
  clear L1' L2
  go_wp2_with fail
  refine (lw_do L2' 1 3 1 0 99 (ju00_2_eq 2 (by decide))).mono ?_
  rintro e w3 ⟨P3, a3, c3, rfl, L3, -, -⟩
  clear L2'
  go_wp2_with fail
  refine (lw_do L3 1 6 0 0 0 (ju00_3_eq 2 (by decide))).mono ?_
  rintro e w4 ⟨P4, a4, c4, rfl, L4, -, -⟩
  have L4' := L4.alloc (.cells #[.int .i64 0, .int .i64 0, .slice a4 0 c4, .int .i64 3, .int .i64 0] 27)
  clear L3 L4
  go_wp2_with fail
  refine (lw_do L4' 0 6 0 0 0 (ju00_4_eq2)).mono ?_
  rintro e w5 ⟨P5, a5, c5, rfl, L5, -, -⟩
  have HO := Lib.hid (L5.alloc (.cells #[.int .i64 14, .int .i64 0, .slice a5 0 c5, .int .i64 4, .int .i64 3] 27)).o
  clear L4' L5
  go_wp2_with fail
  refine (awake19_any _).mono ?_
  rintro e w8 ⟨rfl, o8⟩
  have HO8 := Lib.hid (HO.out.trans o8)
  clear o8
  go_wp2_with fail
  go_ret
  exact ⟨rfl, HO8.out.below⟩
set_option maxRecDepth 100000 in
set_option maxHeartbeats 16000000 in
theorem mj010 (a b c : Int) (q1 q2 q3 : Nat) (e1 : bits .and .i64 a 255 = (q1 : Int)) (hq1 : q1 < 256) (f1 : ((q1 : Nat) : Int) % 3 = 0) (e2 : bits .and .i64 b 255 = (q2 : Int)) (hq2 : q2 < 256) (f2 : ((q2 : Nat) : Int) % 3 = 0) (e3 : bits .and .i64 c 255 = (q3 : Int)) (hq3 : q3 < 256) (f3 : ((q3 : Nat) : Int) % 3 = 1) (w : World) :
    Calls Try.prog 3 #[.int .i64 a, .int .i64 b, .int .i64 c] w fun e w' => e = .returned (.bool true) ∧ Below w.heap.size w w' := by
  go_enter Try.func3, Try.ntmps3
  go_wp2_with fail
  refine (pair19 0 0 (by decide) (by decide) _ _ rfl rfl w w (Only0.refl _)).mono ?_
  rintro e w1 ⟨m, P1, rfl, L1⟩
  have L1' := L1.alloc (.cells #[.int .i64 1, .int .i64 1, .int .i64 0, .int .i64 0, .int .i64 1, .int .i64 3, .int .i64 0, .int .i64 0, .int .i64 5, .int .i64 1, .int .i64 5, .int .i64 0] 31)
  clear L1
  go_wp2_with fail
  refine (lw_dop L1' 0 1 1 0 0 (ju01_1_eq 0 (by decide))).mono ?_
  rintro e w2 ⟨P2, a2, c2, rfl, L2, -, -⟩
  have L2' := L2.alloc (.cells #[.int .i64 3, .int .i64 1, .int .i64 0, .int .i64 99, .int .i64 4, .int .i64 1, .int .i64 0, .int .i64 0, .int .i64 2, .int .i64 3, .int .i64 0, .int .i64 99] 31)
  clear L1' L2
  go_wp2_with fail
  refine (lw_do L2' 1 4 1 0 0 (ju01_2_eq 0 (by decide))).mono ?_
  rintro e w3 ⟨P3, a3, c3, rfl, L3, -, -⟩
  clear L2'
  go_wp2_with fail
  refine (lw_do L3 1 6 0 0 0 (ju01_3_eq 0 (by decide))).mono ?_
  rintro e w4 ⟨P4, a4, c4, rfl, L4, -, -⟩
  have L4' := L4.alloc (.cells #[.int .i64 0, .int .i64 0, .slice a4 0 c4, .int .i64 3, .int .i64 0] 27)
  clear L3 L4
  go_wp2_with fail
  refine (lw_do L4' 0 6 0 0 0 (ju01_4_eq0)).mono ?_
  rintro e w5 ⟨P5, a5, c5, rfl, L5, -, -⟩
  have HO := Lib.hid (L5.alloc (.cells #[.int .i64 0, .int .i64 0, .slice a5 0 c5, .int .i64 3, .int .i64 0] 27)).o
  clear L4' L5
  go_wp2_with fail
  refine (awake19_any _).mono ?_
  rintro e w8 ⟨rfl, o8⟩
  have HO8 := Lib.hid (HO.out.trans o8)
  clear o8
  go_wp2_with fail
  go_ret
  exact ⟨rfl, HO8.out.below⟩
set_option maxRecDepth 100000 in
set_option maxHeartbeats 16000000 in
theorem mj011 (a b c : Int) (q1 q2 q3 : Nat) (e1 : bits .and .i64 a 255 = (q1 : Int)) (hq1 : q1 < 256) (f1 : ((q1 : Nat) : Int) % 3 = 1) (e2 : bits .and .i64 b 255 = (q2 : Int)) (hq2 : q2 < 256) (f2 : ((q2 : Nat) : Int) % 3 = 0) (e3 : bits .and .i64 c 255 = (q3 : Int)) (hq3 : q3 < 256) (f3 : ((q3 : Nat) : Int) % 3 = 1) (w : World) :
    Calls Try.prog 3 #[.int .i64 a, .int .i64 b, .int .i64 c] w fun e w' => e = .returned (.bool true) ∧ Below w.heap.size w w' := by
  go_enter Try.func3, Try.ntmps3
  go_wp2_with fail
  refine (pair19 1 0 (by decide) (by decide) _ _ rfl rfl w w (Only0.refl _)).mono ?_
  rintro e w1 ⟨m, P1, rfl, L1⟩
  have L1' := L1.alloc (.cells #[.int .i64 1, .int .i64 1, .int .i64 0, .int .i64 0, .int .i64 1, .int .i64 3, .int .i64 0, .int .i64 0, .int .i64 5, .int .i64 1, .int .i64 5, .int .i64 0] 31)
  clear L1
  go_wp2_with fail
  refine (lw_dop L1' 0 1 1 0 0 (ju01_1_eq 1 (by decide))).mono ?_
  rintro e w2 ⟨P2, a2, c2, rfl, L2, -, -⟩
  have L2' := L2.alloc (.cells #[.int .i64 3, .int .i64 1, .int .i64 0, .int .i64 99, .int .i64 4, .int .i64 1, .int .i64 0, .int .i64 0, .int .i64 2, .int .i64 3, .int .i64 0, .int .i64 99] 31)
  clear L1' L2
  go_wp2_with fail
  refine (lw_do L2' 1 4 1 0 0 (ju01_2_eq 1 (by decide))).mono ?_
  rintro e w3 ⟨P3, a3, c3, rfl, L3, -, -⟩
  clear L2'
  go_wp2_with fail
  refine (lw_do L3 1 6 0 0 0 (ju01_3_eq 1 (by decide))).mono ?_
  rintro e w4 ⟨P4, a4, c4, rfl, L4, -, -⟩
  have L4' := L4.alloc (.cells #[.int .i64 0, .int .i64 0, .slice a4 0 c4, .int .i64 3, .int .i64 0] 27)
  clear L3 L4
  go_wp2_with fail
  refine (lw_do L4' 0 6 0 0 0 (ju01_4_eq1)).mono ?_
  rintro e w5 ⟨P5, a5, c5, rfl, L5, -, -⟩
  have HO := Lib.hid (L5.alloc (.cells #[.int .i64 14, .int .i64 0, .slice a5 0 c5, .int .i64 4, .int .i64 3] 27)).o
  clear L4' L5
  go_wp2_with fail
  refine (awake19_any _).mono ?_
  rintro e w8 ⟨rfl, o8⟩
  have HO8 := Lib.hid (HO.out.trans o8)
  clear o8
  go_wp2_with fail
  go_ret
  exact ⟨rfl, HO8.out.below⟩
set_option maxRecDepth 100000 in
set_option maxHeartbeats 16000000 in
theorem mj012 (a b c : Int) (q1 q2 q3 : Nat) (e1 : bits .and .i64 a 255 = (q1 : Int)) (hq1 : q1 < 256) (f1 : ((q1 : Nat) : Int) % 3 = 2) (e2 : bits .and .i64 b 255 = (q2 : Int)) (hq2 : q2 < 256) (f2 : ((q2 : Nat) : Int) % 3 = 0) (e3 : bits .and .i64 c 255 = (q3 : Int)) (hq3 : q3 < 256) (f3 : ((q3 : Nat) : Int) % 3 = 1) (w : World) :
    Calls Try.prog 3 #[.int .i64 a, .int .i64 b, .int .i64 c] w fun e w' => e = .returned (.bool true) ∧ Below w.heap.size w w' := by
  go_enter Try.func3, Try.ntmps3
  go_wp2_with fail
  refine (pair19 2 0 (by decide) (by decide) _ _ rfl rfl w w (Only0.refl _)).mono ?_
  rintro e w1 ⟨m, P1, rfl, L1⟩
  have L1' := L1.alloc (.cells #[.int .i64 1, .int .i64 1, .int .i64 0, .int .i64 0, .int .i64 1, .int .i64 3, .int .i64 0, .int .i64 0, .int .i64 5, .int .i64 1, .int .i64 5, .int .i64 0] 31)
  clear L1
  go_wp2_with fail
  refine (lw_dop L1' 0 1 1 0 0 (ju01_1_eq 2 (by decide))).mono ?_
  rintro e w2 ⟨P2, a2, c2, rfl, L2, -, -⟩
  have L2' := L2.alloc (.cells #[.int .i64 3, .int .i64 1, .int .i64 0, .int .i64 99, .int .i64 4, .int .i64 1, .int .i64 0, .int .i64 0, .int .i64 2, .int .i64 3, .int .i64 0, .int .i64 99] 31)
  clear L1' L2
  go_wp2_with fail
  refine (lw_do L2' 1 4 1 0 0 (ju01_2_eq 2 (by decide))).mono ?_
  rintro e w3 ⟨P3, a3, c3, rfl, L3, -, -⟩
  clear L2'
  go_wp2_with fail
  refine (lw_do L3 1 6 0 0 0 (ju01_3_eq 2 (by decide))).mono ?_
  rintro e w4 ⟨P4, a4, c4, rfl, L4, -, -⟩
  have L4' := L4.alloc (.cells #[.int .i64 0, .int .i64 0, .slice a4 0 c4, .int .i64 3, .int .i64 0] 27)
  clear L3 L4
  go_wp2_with fail
  refine (lw_do L4' 0 6 0 0 0 (ju01_4_eq2)).mono ?_
  rintro e w5 ⟨P5, a5, c5, rfl, L5, -, -⟩
  have HO := Lib.hid (L5.alloc (.cells #[.int .i64 14, .int .i64 0, .slice a5 0 c5, .int .i64 4, .int .i64 3] 27)).o
  clear L4' L5
  go_wp2_with fail
  refine (awake19_any _).mono ?_
  rintro e w8 ⟨rfl, o8⟩
  have HO8 := Lib.hid (HO.out.trans o8)
  clear o8
  go_wp2_with fail
  go_ret
  exact ⟨rfl, HO8.out.below⟩
set_option maxRecDepth 100000 in
set_option maxHeartbeats 16000000 in
theorem mj02s (a b c : Int) (q1 q2 q3 : Nat) (r1 : Nat) (hr1 : r1 < 3) (e1 : bits .and .i64 a 255 = (q1 : Int)) (hq1 : q1 < 256) (f1 : ((q1 : Nat) : Int) % 3 = (r1 : Int)) (e2 : bits .and .i64 b 255 = (q2 : Int)) (hq2 : q2 < 256) (f2 : ((q2 : Nat) : Int) % 3 = 0) (e3 : bits .and .i64 c 255 = (q3 : Int)) (hq3 : q3 < 256) (f3 : ((q3 : Nat) : Int) % 3 = 2) (w : World) :
    Calls Try.prog 3 #[.int .i64 a, .int .i64 b, .int .i64 c] w fun e w' => e = .returned (.bool true) ∧ Below w.heap.size w w' := by
  go_enter Try.func3, Try.ntmps3
  go_wp2_with fail
  refine (pair19 r1 0 hr1 (by decide) _ _ rfl rfl w w (Only0.refl _)).mono ?_
  rintro e w1 ⟨m, P1, rfl, L1⟩
  have L1' := L1.alloc (.cells #[.int .i64 1, .int .i64 1, .int .i64 0, .int .i64 0, .int .i64 1, .int .i64 3, .int .i64 0, .int .i64 0, .int .i64 5, .int .i64 1, .int .i64 5, .int .i64 0] 31)
  clear L1
  go_wp2_with fail
  refine (lw_dop L1' 0 1 1 0 0 (ju02_1_eq r1 hr1)).mono ?_
  rintro e w2 ⟨P2, a2, c2, rfl, L2, -, -⟩
  have L2' := L2.alloc (.cells #[.int .i64 3, .int .i64 1, .int .i64 0, .int .i64 99, .int .i64 4, .int .i64 1, .int .i64 0, .int .i64 0, .int .i64 2, .int .i64 3, .int .i64 0, .int .i64 99] 31)
  clear L1' L2
  go_wp2_with fail
  refine (lw_do L2' 1 2 3 0 99 (ju02_2_eq r1 hr1)).mono ?_
  rintro e w3 ⟨P3, a3, c3, rfl, L3, -, -⟩
  clear L2'
  go_wp2_with fail
  refine (lw_do L3 1 6 0 0 0 (ju02_3_eq r1 hr1)).mono ?_
  rintro e w4 ⟨P4, a4, c4, rfl, L4, -, -⟩
  have L4' := L4.alloc (.cells #[.int .i64 0, .int .i64 0, .slice a4 0 c4, .int .i64 3, .int .i64 0] 27)
  clear L3 L4
  go_wp2_with fail
  refine (lw_do L4' 0 6 0 0 0 (ju02_4_eq r1 hr1)).mono ?_
  rintro e w5 ⟨P5, a5, c5, rfl, L5, -, -⟩
  have HO := Lib.hid (L5.alloc (.cells #[.int .i64 0, .int .i64 0, .slice a5 0 c5, .int .i64 3, .int .i64 0] 27)).o
  clear L4' L5
  go_wp2_with fail
  refine (awake19_any _).mono ?_
  rintro e w8 ⟨rfl, o8⟩
  have HO8 := Lib.hid (HO.out.trans o8)
  clear o8
  go_wp2_with fail
  go_ret
  exact ⟨rfl, HO8.out.below⟩
end Go.Proofs.Ytcbhafddehipdaa

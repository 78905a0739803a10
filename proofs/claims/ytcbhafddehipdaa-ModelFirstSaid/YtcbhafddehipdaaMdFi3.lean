/-
  ModelFirst: its walks, how 3.
-/
import Derived.Test.YtcbhafddehipdaaMdFiP
namespace Go.Proofs.Ytcbhafddehipdaa
open Go.RowKit
set_option linter.unusedVariables false
set_option linter.unusedSimpArgs false

set_option maxRecDepth 100000 in
set_option maxHeartbeats 16000000 in
theorem mf30 (a b c d : Int) (q1 q2 q3 q4 r1 r2 : Nat) (hr1 : r1 < 3) (hr2 : r2 < 3) (e1 : bits .and .i64 a 255 = (q1 : Int)) (hq1 : q1 < 256) (f1 : ((q1 : Nat) : Int) % 3 = (r1 : Int)) (e2 : bits .and .i64 b 255 = (q2 : Int)) (hq2 : q2 < 256) (f2 : ((q2 : Nat) : Int) % 3 = (r2 : Int)) (e3 : bits .and .i64 c 255 = (q3 : Int)) (hq3 : q3 < 256) (f3 : ((q3 : Nat) : Int) % 3 = 0) (e4 : bits .and .i64 d 255 = (q4 : Int)) (hq4 : q4 < 256) (f4 : ((q4 : Nat) : Int) % 4 = 3) (w : World) :
    Calls Try.prog 8 #[.int .i64 a, .int .i64 b, .int .i64 c, .int .i64 d] w fun e w' => e = .returned (.bool true) ∧ Below w.heap.size w w' := by
  go_enter Try.func8, Try.ntmps8
  go_wp2_with fail
  refine (pair19 r1 r2 hr1 hr2 _ _ rfl rfl w w (Only0.refl _)).mono ?_
  rintro e w1 ⟨m, P1, rfl, L1⟩
  have L1' := (((L1.alloc (.cells #[.int .i64 3, .int .i64 1, .int .i64 0, .int .i64 5, .int .i64 4, .int .i64 1, .int .i64 0, .int .i64 0, .int .i64 3, .int .i64 1, .int .i64 0, .int .i64 5, .int .i64 2, .int .i64 3, .int .i64 0, .int .i64 5] 31)).alloc (.cells #[.int .i64 2, .int .i64 3, .int .i64 0, .int .i64 5] 31)).alloc (.cells #[.int .i64 3, .int .i64 1, .int .i64 0, .int .i64 6, .int .i64 3, .int .i64 1, .int .i64 0, .int .i64 6, .int .i64 4, .int .i64 1, .int .i64 0, .int .i64 0, .int .i64 2, .int .i64 3, .int .i64 0, .int .i64 6] 31)).alloc (.cells #[.int .i64 2, .int .i64 3, .int .i64 0, .int .i64 6] 31)
  have X1 := (((L1.alloc (.cells #[.int .i64 3, .int .i64 1, .int .i64 0, .int .i64 5, .int .i64 4, .int .i64 1, .int .i64 0, .int .i64 0, .int .i64 3, .int .i64 1, .int .i64 0, .int .i64 5, .int .i64 2, .int .i64 3, .int .i64 0, .int .i64 5] 31)).alloc (.cells #[.int .i64 2, .int .i64 3, .int .i64 0, .int .i64 5] 31)).alloc (.cells #[.int .i64 3, .int .i64 1, .int .i64 0, .int .i64 6, .int .i64 3, .int .i64 1, .int .i64 0, .int .i64 6, .int .i64 4, .int .i64 1, .int .i64 0, .int .i64 0, .int .i64 2, .int .i64 3, .int .i64 0, .int .i64 6] 31)).box 31 #[.int .i64 2, .int .i64 3, .int .i64 0, .int .i64 6]
  rw [show (((w1.alloc (.cells #[.int .i64 3, .int .i64 1, .int .i64 0, .int .i64 5, .int .i64 4, .int .i64 1, .int .i64 0, .int .i64 0, .int .i64 3, .int .i64 1, .int .i64 0, .int .i64 5, .int .i64 2, .int .i64 3, .int .i64 0, .int .i64 5] 31)).alloc (.cells #[.int .i64 2, .int .i64 3, .int .i64 0, .int .i64 5] 31)).alloc (.cells #[.int .i64 3, .int .i64 1, .int .i64 0, .int .i64 6, .int .i64 3, .int .i64 1, .int .i64 0, .int .i64 6, .int .i64 4, .int .i64 1, .int .i64 0, .int .i64 0, .int .i64 2, .int .i64 3, .int .i64 0, .int .i64 6] 31)).heap.size = w1.heap.size + 1 + 1 + 1 by simp] at X1
  clear L1
  go_wp2_with fail
  refine (lw_do L1' 0 2 3 0 5 (fi3_1_eq r1 r2 hr1 hr2)).mono ?_
  rintro e w2 ⟨P2, a2, c2, rfl, L2, o2, g2⟩
  have L3 := L2.alloc (.cells #[.int .i64 0, .int .i64 0, .slice a2 0 c2, .int .i64 0, .int .i64 0] 27)
  have X3 := (X1.step o2 g2).alloc (.cells #[.int .i64 0, .int .i64 0, .slice a2 0 c2, .int .i64 0, .int .i64 0] 27)
  have s0 : (w2.alloc (.cells #[.int .i64 0, .int .i64 0, .slice a2 0 c2, .int .i64 0, .int .i64 0] 27)).cell? ⟨w1.heap.size + 1 + 1 + 1, 0, none⟩ = some (.int .i64 2) := X3.1.cell 0
  have s1 : (w2.alloc (.cells #[.int .i64 0, .int .i64 0, .slice a2 0 c2, .int .i64 0, .int .i64 0] 27)).cell? ⟨w1.heap.size + 1 + 1 + 1, 1, none⟩ = some (.int .i64 3) := X3.1.cell 1
  have s2 : (w2.alloc (.cells #[.int .i64 0, .int .i64 0, .slice a2 0 c2, .int .i64 0, .int .i64 0] 27)).cell? ⟨w1.heap.size + 1 + 1 + 1, 2, none⟩ = some (.int .i64 0) := X3.1.cell 2
  have s3 : (w2.alloc (.cells #[.int .i64 0, .int .i64 0, .slice a2 0 c2, .int .i64 0, .int .i64 0] 27)).cell? ⟨w1.heap.size + 1 + 1 + 1, 3, none⟩ = some (.int .i64 6) := X3.1.cell 3
  clear L1' L2 X1 X3 o2 g2
  go_wp2_with fail
  refine (lw_do L3 1 2 3 0 6 (fi30_3_eq r1 r2 hr1 hr2)).mono ?_
  rintro e w4 ⟨P4, a4, c4, rfl, L4, -, -⟩
  have L4' := L4.alloc (.cells #[.int .i64 14, .int .i64 0, .slice a4 0 c4, .int .i64 4, .int .i64 2] 27)
  clear L3 L4
  go_wp2_with fail
  refine (lw_live L4' (fi30_live r1 r2 hr1 hr2)).mono ?_
  rintro e w5 ⟨a5, c5, rfl, L5, -⟩
  have HO := Lib.hid L5.o
  clear L4' L5
  go_wp2_with fail
  refine (awake19_any _).mono ?_
  rintro e w8 ⟨rfl, o8⟩
  have HO8 := Lib.hid (HO.out.trans o8)
  clear o8
  go_wp2_with fail
  go_ret
  exact ⟨rfl, HO8.out.below⟩
set_option maxRecDepth 100000 in
set_option maxHeartbeats 16000000 in
theorem mf31 (a b c d : Int) (q1 q2 q3 q4 r1 r2 : Nat) (hr1 : r1 < 3) (hr2 : r2 < 3) (e1 : bits .and .i64 a 255 = (q1 : Int)) (hq1 : q1 < 256) (f1 : ((q1 : Nat) : Int) % 3 = (r1 : Int)) (e2 : bits .and .i64 b 255 = (q2 : Int)) (hq2 : q2 < 256) (f2 : ((q2 : Nat) : Int) % 3 = (r2 : Int)) (e3 : bits .and .i64 c 255 = (q3 : Int)) (hq3 : q3 < 256) (f3 : ((q3 : Nat) : Int) % 3 = 1) (e4 : bits .and .i64 d 255 = (q4 : Int)) (hq4 : q4 < 256) (f4 : ((q4 : Nat) : Int) % 4 = 3) (w : World) :
    Calls Try.prog 8 #[.int .i64 a, .int .i64 b, .int .i64 c, .int .i64 d] w fun e w' => e = .returned (.bool true) ∧ Below w.heap.size w w' := by
  go_enter Try.func8, Try.ntmps8
  go_wp2_with fail
  refine (pair19 r1 r2 hr1 hr2 _ _ rfl rfl w w (Only0.refl _)).mono ?_
  rintro e w1 ⟨m, P1, rfl, L1⟩
  have L1' := (((L1.alloc (.cells #[.int .i64 3, .int .i64 1, .int .i64 0, .int .i64 5, .int .i64 4, .int .i64 1, .int .i64 0, .int .i64 0, .int .i64 3, .int .i64 1, .int .i64 0, .int .i64 5, .int .i64 2, .int .i64 3, .int .i64 0, .int .i64 5] 31)).alloc (.cells #[.int .i64 2, .int .i64 3, .int .i64 0, .int .i64 5] 31)).alloc (.cells #[.int .i64 3, .int .i64 1, .int .i64 0, .int .i64 6, .int .i64 3, .int .i64 1, .int .i64 0, .int .i64 6, .int .i64 4, .int .i64 1, .int .i64 0, .int .i64 0, .int .i64 2, .int .i64 3, .int .i64 0, .int .i64 6] 31)).alloc (.cells #[.int .i64 2, .int .i64 3, .int .i64 0, .int .i64 6] 31)
  have X1 := (((L1.alloc (.cells #[.int .i64 3, .int .i64 1, .int .i64 0, .int .i64 5, .int .i64 4, .int .i64 1, .int .i64 0, .int .i64 0, .int .i64 3, .int .i64 1, .int .i64 0, .int .i64 5, .int .i64 2, .int .i64 3, .int .i64 0, .int .i64 5] 31)).alloc (.cells #[.int .i64 2, .int .i64 3, .int .i64 0, .int .i64 5] 31)).alloc (.cells #[.int .i64 3, .int .i64 1, .int .i64 0, .int .i64 6, .int .i64 3, .int .i64 1, .int .i64 0, .int .i64 6, .int .i64 4, .int .i64 1, .int .i64 0, .int .i64 0, .int .i64 2, .int .i64 3, .int .i64 0, .int .i64 6] 31)).box 31 #[.int .i64 2, .int .i64 3, .int .i64 0, .int .i64 6]
  rw [show (((w1.alloc (.cells #[.int .i64 3, .int .i64 1, .int .i64 0, .int .i64 5, .int .i64 4, .int .i64 1, .int .i64 0, .int .i64 0, .int .i64 3, .int .i64 1, .int .i64 0, .int .i64 5, .int .i64 2, .int .i64 3, .int .i64 0, .int .i64 5] 31)).alloc (.cells #[.int .i64 2, .int .i64 3, .int .i64 0, .int .i64 5] 31)).alloc (.cells #[.int .i64 3, .int .i64 1, .int .i64 0, .int .i64 6, .int .i64 3, .int .i64 1, .int .i64 0, .int .i64 6, .int .i64 4, .int .i64 1, .int .i64 0, .int .i64 0, .int .i64 2, .int .i64 3, .int .i64 0, .int .i64 6] 31)).heap.size = w1.heap.size + 1 + 1 + 1 by simp] at X1
  clear L1
  go_wp2_with fail
  refine (lw_do L1' 0 2 3 0 5 (fi3_1_eq r1 r2 hr1 hr2)).mono ?_
  rintro e w2 ⟨P2, a2, c2, rfl, L2, o2, g2⟩
  have L2' := (L2.alloc (.cells #[.int .i64 0, .int .i64 0, .slice a2 0 c2, .int .i64 0, .int .i64 0] 27)).alloc (.cells #[.int .i64 0, .int .i64 0, .int .i64 0, .int .i64 0, .int .i64 6, .int .i64 0, .int .i64 0, .int .i64 0, .int .i64 7, .int .i64 0, .int .i64 0, .int .i64 0] 31)
  have X2 := ((X1.step o2 g2).alloc (.cells #[.int .i64 0, .int .i64 0, .slice a2 0 c2, .int .i64 0, .int .i64 0] 27)).alloc (.cells #[.int .i64 0, .int .i64 0, .int .i64 0, .int .i64 0, .int .i64 6, .int .i64 0, .int .i64 0, .int .i64 0, .int .i64 7, .int .i64 0, .int .i64 0, .int .i64 0] 31)
  clear L1' L2 X1 o2 g2
  go_wp2_with fail
  refine (lw_do L2' 0 6 0 0 0 (fi31_2_eq r1 r2 hr1 hr2)).mono ?_
  rintro e w3 ⟨P3, a3, c3, rfl, L3, o3, g3⟩
  have X3 := X2.step o3 g3
  have s0 : (w3).cell? ⟨w1.heap.size + 1 + 1 + 1, 0, none⟩ = some (.int .i64 2) := X3.1.cell 0
  have s1 : (w3).cell? ⟨w1.heap.size + 1 + 1 + 1, 1, none⟩ = some (.int .i64 3) := X3.1.cell 1
  have s2 : (w3).cell? ⟨w1.heap.size + 1 + 1 + 1, 2, none⟩ = some (.int .i64 0) := X3.1.cell 2
  have s3 : (w3).cell? ⟨w1.heap.size + 1 + 1 + 1, 3, none⟩ = some (.int .i64 6) := X3.1.cell 3
  clear L2' X2 X3 o3 g3
  go_wp2_with fail
  refine (lw_do L3 1 2 3 0 6 (fi31_3_eq r1 r2 hr1 hr2)).mono ?_
  rintro e w4 ⟨P4, a4, c4, rfl, L4, -, -⟩
  have L4' := L4.alloc (.cells #[.int .i64 14, .int .i64 0, .slice a4 0 c4, .int .i64 4, .int .i64 2] 27)
  clear L3 L4
  go_wp2_with fail
  refine (lw_live L4' (fi31_live r1 r2 hr1 hr2)).mono ?_
  rintro e w5 ⟨a5, c5, rfl, L5, -⟩
  have HO := Lib.hid L5.o
  clear L4' L5
  go_wp2_with fail
  refine (awake19_any _).mono ?_
  rintro e w8 ⟨rfl, o8⟩
  have HO8 := Lib.hid (HO.out.trans o8)
  clear o8
  go_wp2_with fail
  go_ret
  exact ⟨rfl, HO8.out.below⟩
set_option maxRecDepth 100000 in
set_option maxHeartbeats 16000000 in
theorem mf32 (a b c d : Int) (q1 q2 q3 q4 r1 r2 : Nat) (hr1 : r1 < 3) (hr2 : r2 < 3) (e1 : bits .and .i64 a 255 = (q1 : Int)) (hq1 : q1 < 256) (f1 : ((q1 : Nat) : Int) % 3 = (r1 : Int)) (e2 : bits .and .i64 b 255 = (q2 : Int)) (hq2 : q2 < 256) (f2 : ((q2 : Nat) : Int) % 3 = (r2 : Int)) (e3 : bits .and .i64 c 255 = (q3 : Int)) (hq3 : q3 < 256) (f3 : ((q3 : Nat) : Int) % 3 = 2) (e4 : bits .and .i64 d 255 = (q4 : Int)) (hq4 : q4 < 256) (f4 : ((q4 : Nat) : Int) % 4 = 3) (w : World) :
    Calls Try.prog 8 #[.int .i64 a, .int .i64 b, .int .i64 c, .int .i64 d] w fun e w' => e = .returned (.bool true) ∧ Below w.heap.size w w' := by
  go_enter Try.func8, Try.ntmps8
  go_wp2_with fail
  refine (pair19 r1 r2 hr1 hr2 _ _ rfl rfl w w (Only0.refl _)).mono ?_
  rintro e w1 ⟨m, P1, rfl, L1⟩
  have L1' := (((L1.alloc (.cells #[.int .i64 3, .int .i64 1, .int .i64 0, .int .i64 5, .int .i64 4, .int .i64 1, .int .i64 0, .int .i64 0, .int .i64 3, .int .i64 1, .int .i64 0, .int .i64 5, .int .i64 2, .int .i64 3, .int .i64 0, .int .i64 5] 31)).alloc (.cells #[.int .i64 2, .int .i64 3, .int .i64 0, .int .i64 5] 31)).alloc (.cells #[.int .i64 3, .int .i64 1, .int .i64 0, .int .i64 6, .int .i64 3, .int .i64 1, .int .i64 0, .int .i64 6, .int .i64 4, .int .i64 1, .int .i64 0, .int .i64 0, .int .i64 2, .int .i64 3, .int .i64 0, .int .i64 6] 31)).alloc (.cells #[.int .i64 2, .int .i64 3, .int .i64 0, .int .i64 6] 31)
  have X1 := (((L1.alloc (.cells #[.int .i64 3, .int .i64 1, .int .i64 0, .int .i64 5, .int .i64 4, .int .i64 1, .int .i64 0, .int .i64 0, .int .i64 3, .int .i64 1, .int .i64 0, .int .i64 5, .int .i64 2, .int .i64 3, .int .i64 0, .int .i64 5] 31)).alloc (.cells #[.int .i64 2, .int .i64 3, .int .i64 0, .int .i64 5] 31)).alloc (.cells #[.int .i64 3, .int .i64 1, .int .i64 0, .int .i64 6, .int .i64 3, .int .i64 1, .int .i64 0, .int .i64 6, .int .i64 4, .int .i64 1, .int .i64 0, .int .i64 0, .int .i64 2, .int .i64 3, .int .i64 0, .int .i64 6] 31)).box 31 #[.int .i64 2, .int .i64 3, .int .i64 0, .int .i64 6]
  rw [show (((w1.alloc (.cells #[.int .i64 3, .int .i64 1, .int .i64 0, .int .i64 5, .int .i64 4, .int .i64 1, .int .i64 0, .int .i64 0, .int .i64 3, .int .i64 1, .int .i64 0, .int .i64 5, .int .i64 2, .int .i64 3, .int .i64 0, .int .i64 5] 31)).alloc (.cells #[.int .i64 2, .int .i64 3, .int .i64 0, .int .i64 5] 31)).alloc (.cells #[.int .i64 3, .int .i64 1, .int .i64 0, .int .i64 6, .int .i64 3, .int .i64 1, .int .i64 0, .int .i64 6, .int .i64 4, .int .i64 1, .int .i64 0, .int .i64 0, .int .i64 2, .int .i64 3, .int .i64 0, .int .i64 6] 31)).heap.size = w1.heap.size + 1 + 1 + 1 by simp] at X1
  clear L1
  go_wp2_with fail
  refine (lw_do L1' 0 2 3 0 5 (fi3_1_eq r1 r2 hr1 hr2)).mono ?_
  rintro e w2 ⟨P2, a2, c2, rfl, L2, o2, g2⟩
  have L2' := (L2.alloc (.cells #[.int .i64 0, .int .i64 0, .slice a2 0 c2, .int .i64 0, .int .i64 0] 27)).alloc (.cells #[.int .i64 0, .int .i64 0, .int .i64 0, .int .i64 0, .int .i64 6, .int .i64 0, .int .i64 0, .int .i64 0, .int .i64 7, .int .i64 0, .int .i64 0, .int .i64 0] 31)
  have X2 := ((X1.step o2 g2).alloc (.cells #[.int .i64 0, .int .i64 0, .slice a2 0 c2, .int .i64 0, .int .i64 0] 27)).alloc (.cells #[.int .i64 0, .int .i64 0, .int .i64 0, .int .i64 0, .int .i64 6, .int .i64 0, .int .i64 0, .int .i64 0, .int .i64 7, .int .i64 0, .int .i64 0, .int .i64 0] 31)
  clear L1' L2 X1 o2 g2
  go_wp2_with fail
  refine (lw_do L2' 0 7 0 0 0 (fi32_2_eq r1 r2 hr1 hr2)).mono ?_
  rintro e w3 ⟨P3, a3, c3, rfl, L3, o3, g3⟩
  have X3 := X2.step o3 g3
  have s0 : (w3).cell? ⟨w1.heap.size + 1 + 1 + 1, 0, none⟩ = some (.int .i64 2) := X3.1.cell 0
  have s1 : (w3).cell? ⟨w1.heap.size + 1 + 1 + 1, 1, none⟩ = some (.int .i64 3) := X3.1.cell 1
  have s2 : (w3).cell? ⟨w1.heap.size + 1 + 1 + 1, 2, none⟩ = some (.int .i64 0) := X3.1.cell 2
  have s3 : (w3).cell? ⟨w1.heap.size + 1 + 1 + 1, 3, none⟩ = some (.int .i64 6) := X3.1.cell 3
  clear L2' X2 X3 o3 g3
  go_wp2_with fail
  refine (lw_do L3 1 2 3 0 6 (fi32_3_eq r1 r2 hr1 hr2)).mono ?_
  rintro e w4 ⟨P4, a4, c4, rfl, L4, -, -⟩
  have L4' := L4.alloc (.cells #[.int .i64 0, .int .i64 0, .slice a4 0 c4, .int .i64 0, .int .i64 0] 27)
  have X4 := L4.box 27 #[.int .i64 0, .int .i64 0, .slice a4 0 c4, .int .i64 0, .int .i64 0]
  clear L3 L4
  go_wp2_with fail
  refine (lw_do L4' 1 6 0 0 0 (fi32_4_eq r1 r2 hr1 hr2)).mono ?_
  rintro e w5 ⟨P5, a5, c5, rfl, L5, o5, g5⟩
  have X5 := (X4.step o5 g5).alloc (.cells #[.int .i64 0, .int .i64 0, .slice a5 0 c5, .int .i64 3, .int .i64 0] 27)
  have x0 : (w5.alloc (.cells #[.int .i64 0, .int .i64 0, .slice a5 0 c5, .int .i64 3, .int .i64 0] 27)).cell? ⟨w4.heap.size, 0, none⟩ = some (.int .i64 0) := X5.1.cell 0
  have x3 : (w5.alloc (.cells #[.int .i64 0, .int .i64 0, .slice a5 0 c5, .int .i64 3, .int .i64 0] 27)).cell? ⟨w4.heap.size, 3, none⟩ = some (.int .i64 0) := X5.1.cell 3
  have HO := Lib.hid (L5.alloc (.cells #[.int .i64 0, .int .i64 0, .slice a5 0 c5, .int .i64 3, .int .i64 0] 27)).o
  clear L4' L5 X4 X5 o5 g5
  go_wp2_with fail
  refine (awake19_any _).mono ?_
  rintro e w8 ⟨rfl, o8⟩
  have HO8 := Lib.hid (HO.out.trans o8)
  clear o8
  go_wp2_with fail
  go_ret
  exact ⟨rfl, HO8.out.below⟩
end Go.Proofs.Ytcbhafddehipdaa

/-
  ModelGone: its walk.
-/
import Derived.Test.YtcbhafddehipdaaMdGnP
namespace Go.Proofs.Ytcbhafddehipdaa
open Go.RowKit
set_option linter.unusedVariables false
set_option linter.unusedSimpArgs false

set_option maxRecDepth 100000 in
set_option maxHeartbeats 16000000 in
theorem mg_true (a : Int) (q1 r1 : Nat) (hr1 : r1 < 3) (e1 : bits .and .i64 a 255 = (q1 : Int)) (hq1 : q1 < 256) (f1 : ((q1 : Nat) : Int) % 3 = (r1 : Int)) (w : World) :
    Calls Try.prog 11 #[.int .i64 a, .bool true] w fun e w' => e = .returned (.bool true) ∧ Below w.heap.size w w' := by
  go_enter Try.func11, Try.ntmps11
  go_wp2_with fail
  refine (pair19 r1 0 hr1 (by decide) _ _ rfl rfl w w (Only0.refl _)).mono ?_
  rintro e w1 ⟨m, P1, rfl, L1⟩
  go_wp2_with fail
  refine (lw_do L1 1 2 5 0 1 (gn1_eq r1 hr1)).mono ?_
  rintro e w2 ⟨P2, a2, c2, rfl, L2, -, -⟩
  clear L1
  go_wp2_with fail
  refine (lw_do L2 1 4 5 0 0 (gn2_eq r1 hr1)).mono ?_
  rintro e w3 ⟨P3, a3, c3, rfl, L3, -, -⟩
  clear L2
  go_wp2_with fail
  refine (lw_do L3 1 6 0 0 0 (gn3_eq r1 hr1)).mono ?_
  rintro e w4 ⟨P4, a4, c4, rfl, L4', -, -⟩
  have L4 := L4'.alloc (.cells #[.int .i64 0, .int .i64 0, .slice a4 0 c4, .int .i64 3, .int .i64 0] 27)
  clear L3 L4'
  go_wp2_with fail
  refine (lw_collect L4).mono ?_
  rintro e w5 ⟨rfl, L5, -⟩
  rw [gn3_none r1 hr1]
  clear L4
  go_wp2_with fail
  refine (get19 (s := gc3 r1) L5 0 5 (gc4_eq r1 hr1)).mono ?_
  rintro e w6 ⟨P6, rfl, L6, -, -⟩
  rw [show getV 11 0 = -1 from rfl]
  clear L5
  go_wp2_with fail
  refine (lw_begin L6 2 ((r1 : Int) + 1) (gc5_eq r1 hr1)).mono ?_
  rintro e w7 ⟨P7, rfl, L7, -, -⟩
  clear L6
  go_wp2_with fail
  refine (lw_do L7 0 2 5 0 2 (gc6_eq r1 hr1)).mono ?_
  rintro e w8 ⟨P8, a8, c8, rfl, L8, -, -⟩
  have X8 := L8.box 27 #[.int .i64 14, .int .i64 0, .slice a8 0 c8, .int .i64 4, .int .i64 2]
  have L8' := L8.alloc (.cells #[.int .i64 14, .int .i64 0, .slice a8 0 c8, .int .i64 4, .int .i64 2] 27)
  clear L7 L8
  go_wp2_with fail
  refine (lw_do L8' 2 2 5 0 3 (gc7_eq r1 hr1)).mono ?_
  rintro e w9 ⟨P9, a9, c9, rfl, L9, o9, g9⟩
  have X9 := (X8.step o9 g9).alloc (.cells #[.int .i64 0, .int .i64 0, .slice a9 0 c9, .int .i64 0, .int .i64 0] 27)
  have Y9 := L9.box 27 #[.int .i64 0, .int .i64 0, .slice a9 0 c9, .int .i64 0, .int .i64 0]
  have L9' := L9.alloc (.cells #[.int .i64 0, .int .i64 0, .slice a9 0 c9, .int .i64 0, .int .i64 0] 27)
  clear L8' X8 L9 o9 g9
  go_wp2_with fail
  refine (lw_do L9' 2 6 0 0 0 (gc8_eq r1 hr1)).mono ?_
  rintro e w10 ⟨P10, a10, c10, rfl, L10, o10, g10⟩
  have X10 := (X9.step o10 g10).alloc (.cells #[.int .i64 0, .int .i64 0, .slice a10 0 c10, .int .i64 3, .int .i64 0] 27)
  have Y10 := (Y9.step o10 g10).alloc (.cells #[.int .i64 0, .int .i64 0, .slice a10 0 c10, .int .i64 3, .int .i64 0] 27)
  have L11 := L10.alloc (.cells #[.int .i64 0, .int .i64 0, .slice a10 0 c10, .int .i64 3, .int .i64 0] 27)
  have x0 : (w10.alloc (.cells #[.int .i64 0, .int .i64 0, .slice a10 0 c10, .int .i64 3, .int .i64 0] 27)).cell? ⟨w8.heap.size, 0, none⟩ = some (.int .i64 14) := X10.1.cell 0
  have x4 : (w10.alloc (.cells #[.int .i64 0, .int .i64 0, .slice a10 0 c10, .int .i64 3, .int .i64 0] 27)).cell? ⟨w8.heap.size, 4, none⟩ = some (.int .i64 2) := X10.1.cell 4
  have y0 : (w10.alloc (.cells #[.int .i64 0, .int .i64 0, .slice a10 0 c10, .int .i64 3, .int .i64 0] 27)).cell? ⟨w9.heap.size, 0, none⟩ = some (.int .i64 0) := Y10.1.cell 0
  have HP := Lib.hid (gc8_pairs r1 hr1)
  clear L9' X9 Y9 L10 X10 Y10 o10 g10
  go_wp2_with fail
  refine (md_now L11.mat).mono ?_
  rintro e w12 ⟨rfl, rfl⟩
  go_wp2_with fail
  refine (md_pairs L11.mat _).mono ?_
  rintro e w13 ⟨⟨a13, c13, rfl, -, -⟩, o13⟩
  rw [HP.out]
  have HO := Lib.hid (L11.only0 o13).o
  clear L11 o13
  go_wp2_with fail
  refine (awake19_any _).mono ?_
  rintro e w14 ⟨rfl, o14⟩
  have HO8 := Lib.hid (HO.out.trans o14)
  clear o14
  go_wp2_with fail
  go_ret
  exact ⟨rfl, HO8.out.below⟩
set_option maxRecDepth 100000 in
set_option maxHeartbeats 16000000 in
theorem mg_false (a : Int) (q1 r1 : Nat) (hr1 : r1 < 3) (e1 : bits .and .i64 a 255 = (q1 : Int)) (hq1 : q1 < 256) (f1 : ((q1 : Nat) : Int) % 3 = (r1 : Int)) (w : World) :
    Calls Try.prog 11 #[.int .i64 a, .bool false] w fun e w' => e = .returned (.bool true) ∧ Below w.heap.size w w' := by
  go_enter Try.func11, Try.ntmps11
  go_wp2_with fail
  refine (pair19 r1 0 hr1 (by decide) _ _ rfl rfl w w (Only0.refl _)).mono ?_
  rintro e w1 ⟨m, P1, rfl, L1⟩
  go_wp2_with fail
  refine (lw_do L1 1 2 5 0 1 (gn1_eq r1 hr1)).mono ?_
  rintro e w2 ⟨P2, a2, c2, rfl, L2, -, -⟩
  clear L1
  go_wp2_with fail
  refine (lw_do L2 1 4 5 0 0 (gn2_eq r1 hr1)).mono ?_
  rintro e w3 ⟨P3, a3, c3, rfl, L3, -, -⟩
  clear L2
  go_wp2_with fail
  refine (lw_do L3 1 6 0 0 0 (gn3_eq r1 hr1)).mono ?_
  rintro e w4 ⟨P4, a4, c4, rfl, L4', -, -⟩
  have L4 := L4'.alloc (.cells #[.int .i64 0, .int .i64 0, .slice a4 0 c4, .int .i64 3, .int .i64 0] 27)
  clear L3 L4'
  go_wp2_with fail
  have L5 := L4
  clear L4
  refine (get19 (s := gn3 r1) L5 0 5 (gn4_eq r1 hr1)).mono ?_
  rintro e w6 ⟨P6, rfl, L6, -, -⟩
  rw [show getV 11 0 = -1 from rfl]
  clear L5
  go_wp2_with fail
  refine (lw_begin L6 2 ((r1 : Int) + 1) (gn5_eq r1 hr1)).mono ?_
  rintro e w7 ⟨P7, rfl, L7, -, -⟩
  clear L6
  go_wp2_with fail
  refine (lw_do L7 0 2 5 0 2 (gn6_eq r1 hr1)).mono ?_
  rintro e w8 ⟨P8, a8, c8, rfl, L8, -, -⟩
  have X8 := L8.box 27 #[.int .i64 14, .int .i64 0, .slice a8 0 c8, .int .i64 4, .int .i64 2]
  have L8' := L8.alloc (.cells #[.int .i64 14, .int .i64 0, .slice a8 0 c8, .int .i64 4, .int .i64 2] 27)
  clear L7 L8
  go_wp2_with fail
  refine (lw_do L8' 2 2 5 0 3 (gn7_eq r1 hr1)).mono ?_
  rintro e w9 ⟨P9, a9, c9, rfl, L9, o9, g9⟩
  have X9 := (X8.step o9 g9).alloc (.cells #[.int .i64 0, .int .i64 0, .slice a9 0 c9, .int .i64 0, .int .i64 0] 27)
  have Y9 := L9.box 27 #[.int .i64 0, .int .i64 0, .slice a9 0 c9, .int .i64 0, .int .i64 0]
  have L9' := L9.alloc (.cells #[.int .i64 0, .int .i64 0, .slice a9 0 c9, .int .i64 0, .int .i64 0] 27)
  clear L8' X8 L9 o9 g9
  go_wp2_with fail
  refine (lw_do L9' 2 6 0 0 0 (gn8_eq r1 hr1)).mono ?_
  rintro e w10 ⟨P10, a10, c10, rfl, L10, o10, g10⟩
  have X10 := (X9.step o10 g10).alloc (.cells #[.int .i64 0, .int .i64 0, .slice a10 0 c10, .int .i64 3, .int .i64 0] 27)
  have Y10 := (Y9.step o10 g10).alloc (.cells #[.int .i64 0, .int .i64 0, .slice a10 0 c10, .int .i64 3, .int .i64 0] 27)
  have L11 := L10.alloc (.cells #[.int .i64 0, .int .i64 0, .slice a10 0 c10, .int .i64 3, .int .i64 0] 27)
  have x0 : (w10.alloc (.cells #[.int .i64 0, .int .i64 0, .slice a10 0 c10, .int .i64 3, .int .i64 0] 27)).cell? ⟨w8.heap.size, 0, none⟩ = some (.int .i64 14) := X10.1.cell 0
  have x4 : (w10.alloc (.cells #[.int .i64 0, .int .i64 0, .slice a10 0 c10, .int .i64 3, .int .i64 0] 27)).cell? ⟨w8.heap.size, 4, none⟩ = some (.int .i64 2) := X10.1.cell 4
  have y0 : (w10.alloc (.cells #[.int .i64 0, .int .i64 0, .slice a10 0 c10, .int .i64 3, .int .i64 0] 27)).cell? ⟨w9.heap.size, 0, none⟩ = some (.int .i64 0) := Y10.1.cell 0
  have HP := Lib.hid (gn8_pairs r1 hr1)
  clear L9' X9 Y9 L10 X10 Y10 o10 g10
  go_wp2_with fail
  refine (md_now L11.mat).mono ?_
  rintro e w12 ⟨rfl, rfl⟩
  go_wp2_with fail
  refine (md_pairs L11.mat _).mono ?_
  rintro e w13 ⟨⟨a13, c13, rfl, -, -⟩, o13⟩
  rw [HP.out]
  have HO := Lib.hid (L11.only0 o13).o
  clear L11 o13
  go_wp2_with fail
  refine (awake19_any _).mono ?_
  rintro e w14 ⟨rfl, o14⟩
  have HO8 := Lib.hid (HO.out.trans o14)
  clear o14
  go_wp2_with fail
  go_ret
  exact ⟨rfl, HO8.out.below⟩
theorem modelGone_walk (a : Int) (c : Bool) (w : World) (_h0 : (Lit.int .i64 a).wf = true) :
    Calls Try.prog 11 #[.int .i64 a, .bool c] w fun e w' => e = .returned (.bool true) ∧ Below w.heap.size w w' := by
  obtain ⟨q1, r1, e1, hq1, f1, hr1⟩ := lev3 a
  cases c with
  | true => exact mg_true a q1 r1 hr1 e1 hq1 f1 w
  | false => exact mg_false a q1 r1 hr1 e1 hq1 f1 w
end Go.Proofs.Ytcbhafddehipdaa

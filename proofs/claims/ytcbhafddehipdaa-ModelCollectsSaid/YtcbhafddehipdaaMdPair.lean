/-
  The laws of layer 19: pair, get.
-/
import Derived.Test.YtcbhafddehipdaaMdLaw
import Derived.Test.YtcbhafddehipdaaBits
namespace Go.Proofs.Ytcbhafddehipdaa
open Go.RowKit
set_option linter.unusedVariables false
set_option linter.unusedSimpArgs false

def pr1 : St := ((newSt 50 100).begin 7 1).2.2
theorem pr1_eq : (newSt 50 100).begin 7 1 = (1, 0, pr1) := rfl
def pr2 : St := (pr1.do_ 7 ⟨2, 1, 0, 10⟩).2.2
theorem pr2_eq : pr1.do_ 7 ⟨2, 1, 0, 10⟩ = (⟨0, 0, [], 0, 0⟩, 0, pr2) := by rfl
def pr3 : St := (pr2.do_ 7 ⟨2, 2, 0, 20⟩).2.2
theorem pr3_eq : pr2.do_ 7 ⟨2, 2, 0, 20⟩ = (⟨0, 0, [], 0, 0⟩, 0, pr3) := by rfl
def pr4 : St := (pr3.do_ 7 ⟨6, 0, 0, 0⟩).2.2
theorem pr4_eq : pr3.do_ 7 ⟨6, 0, 0, 0⟩ = (⟨0, 0, [], 3, 0⟩, 0, pr4) := by rfl
def pr5 (a : Nat) : St := (pr4.begin 0 ((a : Int) + 1)).2.2
theorem pr5_eq (a : Nat) (ha : a < 3) : pr4.begin 0 ((a : Int) + 1) = (2, 0, pr5 a) := by
  match a, ha with
  | 0, _ => rfl
  | 1, _ => rfl
  | 2, _ => rfl
/-- The Model of pair: levels a + 1 and b + 1. -/
def pairSt (a b : Nat) : St := ((pr5 a).begin 1 ((b : Int) + 1)).2.2
theorem pairSt_eq (a b : Nat) (ha : a < 3) (hb : b < 3) : (pr5 a).begin 1 ((b : Int) + 1) = (3, 0, pairSt a b) := by
  match a, ha, b, hb with
  | 0, _, 0, _ => rfl
  | 0, _, 1, _ => rfl
  | 0, _, 2, _ => rfl
  | 1, _, 0, _ => rfl
  | 1, _, 1, _ => rfl
  | 1, _, 2, _ => rfl
  | 2, _, 0, _ => rfl
  | 2, _, 1, _ => rfl
  | 2, _, 2, _ => rfl
set_option maxRecDepth 100000 in
set_option maxHeartbeats 8000000 in
theorem pair19 (a b : Nat) (ha : a < 3) (hb : b < 3) (A B : Int) (hA : A = (a : Int) + 1) (hB : B = (b : Int) + 1) (w0 w : World) (o0 : Only0 w0 w) :
    Calls Try.prog 18 #[.int .i64 A, .int .i64 B] w fun e w' => ∃ (m : Nat) (P : Nat → Prop), e = .returned (.pointer (some ⟨m, 0, none⟩)) ∧ LW w0 w' P m (pairSt a b) := by
  have H5 := Lib.hid (pr5_eq a ha)
  have H6 := Lib.hid (pairSt_eq a b ha hb)
  rw [← hA] at H5
  rw [← hB] at H6
  clear hA hB
  go_enter Try.func18, Try.ntmps18
  go_wp2_with fail
  refine (md_new 50 100 _ (by decide)).mono ?_
  rintro e w1 ⟨m, rfl, h1, o1, -⟩
  have L1 := LW.made o0 h1 o1
  clear h1 o1
  go_wp2_with fail
  refine (lw_begin L1 7 1 pr1_eq).mono ?_
  rintro e w2 ⟨P2, rfl, L2, -, -⟩
  clear L1
  go_wp2_with fail
  refine (lw_do L2 7 2 1 0 10 pr2_eq).mono ?_
  rintro e w3 ⟨P3, a3, c3, rfl, L3, -, -⟩
  clear L2
  go_wp2_with fail
  refine (lw_do L3 7 2 2 0 20 pr3_eq).mono ?_
  rintro e w4 ⟨P4, a4, c4, rfl, L4, -, -⟩
  clear L3
  go_wp2_with fail
  refine (lw_do L4 7 6 0 0 0 pr4_eq).mono ?_
  rintro e w5 ⟨P5, a5, c5, rfl, L5, -, -⟩
  have L5' := L5.alloc (.cells #[.int .i64 0, .int .i64 0, .slice a5 0 c5, .int .i64 3, .int .i64 0] 27)
  clear L4 L5
  go_wp2_with fail
  refine (lw_begin L5' 0 A H5.out).mono ?_
  rintro e w6 ⟨P6, rfl, L6, -, -⟩
  clear L5'
  go_wp2_with fail
  refine (lw_begin L6 1 B H6.out).mono ?_
  rintro e w7 ⟨P7, rfl, L7, -, -⟩
  have HL := Lib.hid L7
  clear L6 L7
  go_wp2_with fail
  go_ret
  exact ⟨m, P7, rfl, HL.out⟩
/-- get, in a law. -/
def getV (e v : Int) : Int := if e = 0 then v else -1
set_option maxRecDepth 100000 in
set_option maxHeartbeats 4000000 in
theorem get19 {w0 w : World} {P : Nat → Prop} {m : Nat} {s : St} (h : LW w0 w P m s) (j key : Int) {re rv : Int} {s' : St} (hs : s.do_ j ⟨1, key, 0, 0⟩ = (⟨re, rv, [], 0, 0⟩, 0, s')) :
    Calls Try.prog 21 #[.pointer (some ⟨m, 0, none⟩), .int .i64 j, .int .i64 key] w fun e w' => ∃ P' : Nat → Prop, e = .returned (.int .i64 (getV re rv)) ∧ LW w0 w' P' m s' ∧ Only P w w' ∧ Grew w.heap.size P P' := by
  have C := lw_do h j 1 key 0 0 hs
  by_cases hr : re = 0
  · subst hr
    clear h hs
    go_enter Try.func21, Try.ntmps21
    go_wp2_with fail
    refine C.mono ?_
    rintro e w1 ⟨P1, a1, c1, rfl, L1, o1, g1⟩
    have HL := Lib.hid (show LW w0 (w1.alloc (.cells #[.int .i64 0, .int .i64 rv, .slice a1 0 c1, .int .i64 0, .int .i64 0] 27)) P1 m s' ∧ Only P w (w1.alloc (.cells #[.int .i64 0, .int .i64 rv, .slice a1 0 c1, .int .i64 0, .int .i64 0] 27)) ∧ Grew w.heap.size P P1 from ⟨L1.alloc _, o1.alloc _, g1⟩)
    clear C L1 o1 g1
    go_wp2_with fail
    go_ret
    exact ⟨P1, ret_int (by simp [getV]), HL.out⟩
  · have hb : (re != 0) = true := by simpa using hr
    have HG := Lib.hid (show getV re rv = -1 by simp [getV, hr])
    clear h hs hr
    go_enter Try.func21, Try.ntmps21
    go_wp2_with fail
    refine C.mono ?_
    rintro e w1 ⟨P1, a1, c1, rfl, L1, o1, g1⟩
    have HL := Lib.hid (show LW w0 (w1.alloc (.cells #[.int .i64 re, .int .i64 rv, .slice a1 0 c1, .int .i64 0, .int .i64 0] 27)) P1 m s' ∧ Only P w (w1.alloc (.cells #[.int .i64 re, .int .i64 rv, .slice a1 0 c1, .int .i64 0, .int .i64 0] 27)) ∧ Grew w.heap.size P P1 from ⟨L1.alloc _, o1.alloc _, g1⟩)
    clear C L1 o1 g1
    go_wp2_with fail
    go_ret
    exact ⟨P1, ret_int (by rw [HG.out]), HL.out⟩
/-- A number's level: of 0, 1, 2. -/
theorem lev3 (x : Int) : ∃ q r : Nat, bits .and .i64 x 255 = (q : Int) ∧ q < 256 ∧ ((q : Int) % 3) = (r : Int) ∧ r < 3 := by
  have h := i64_and255 x
  refine ⟨(x % 256).toNat, (x % 256).toNat % 3, by rw [h]; omega, by omega, by omega, by omega⟩
theorem lev4 (x : Int) : ∃ q r : Nat, bits .and .i64 x 255 = (q : Int) ∧ q < 256 ∧ ((q : Int) % 4) = (r : Int) ∧ r < 4 := by
  have h := i64_and255 x
  refine ⟨(x % 256).toNat, (x % 256).toNat % 4, by rw [h]; omega, by omega, by omega, by omega⟩
end Go.Proofs.Ytcbhafddehipdaa

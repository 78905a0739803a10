/-
  vinculumref1.SameResult of two like answers.
-/
import Derived.Test.YtcbhafddehipdaaMdSame
namespace Go.Proofs.Ytcbhafddehipdaa
open Go.RowKit
set_option linter.unusedVariables false
set_option linter.unusedSimpArgs false

set_option maxRecDepth 100000 in
set_option maxHeartbeats 4000000 in
theorem sameRes_same (re rv ro rr : Int) (a a' : Option Addr) (c c' : Nat) (ps : List (Int × Int)) (w : World) (hx : PairsIn w a ps) (hy : PairsIn w a' ps) (lx : ps.length ≤ 1000000) :
    Calls Try.prog 25 #[.agg #[.int .i64 re, .int .i64 rv, .slice a ps.length c, .int .i64 ro, .int .i64 rr], .agg #[.int .i64 re, .int .i64 rv, .slice a' ps.length c', .int .i64 ro, .int .i64 rr]] w fun e w' => e = .returned (.bool true) ∧ Only0 w w' := by
  obtain ⟨W, hW⟩ : ∃ W, W = (w.alloc (.cells #[.int .i64 re, .int .i64 rv, .slice a ps.length c, .int .i64 ro, .int .i64 rr] 27)).alloc (.cells #[.int .i64 re, .int .i64 rv, .slice a' ps.length c', .int .i64 ro, .int .i64 rr] 27) := ⟨_, rfl⟩
  have oW : Only0 w W := by rw [hW]; exact ((Only0.refl w).alloc _).alloc _
  have C := samePairs_any a a' c c' ps ps W (hx.only oW (fun _ _ h => h)) (hy.only oW (fun _ _ h => h)) lx lx
  rw [show decide (ps = ps) = true from decide_eq_true rfl] at C
  have HO := Lib.hid oW
  clear hx hy oW
  go_enter Try.func25, Try.ntmps25
  go_wp2_with fail
  rw [← hW]
  clear hW
  refine C.mono ?_
  rintro e w1 ⟨rfl, n1, rfl⟩
  go_wp2_with fail
  go_ret
  exact ⟨rfl, HO.out.drewN n1⟩
end Go.Proofs.Ytcbhafddehipdaa

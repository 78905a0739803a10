/-
  ModelFirst: its walk.
-/
import Derived.Test.YtcbhafddehipdaaMdFi0
import Derived.Test.YtcbhafddehipdaaMdFi1
import Derived.Test.YtcbhafddehipdaaMdFi2
import Derived.Test.YtcbhafddehipdaaMdFi3
namespace Go.Proofs.Ytcbhafddehipdaa
open Go.RowKit
set_option linter.unusedVariables false
set_option linter.unusedSimpArgs false

theorem modelFirst_walk (a b c d : Int) (w : World) (_h0 : (Lit.int .i64 a).wf = true) (_h1 : (Lit.int .i64 b).wf = true) (_h2 : (Lit.int .i64 c).wf = true) (_h3 : (Lit.int .i64 d).wf = true) :
    Calls Try.prog 8 #[.int .i64 a, .int .i64 b, .int .i64 c, .int .i64 d] w fun e w' => e = .returned (.bool true) ∧ Below w.heap.size w w' := by
  obtain ⟨q1, r1, e1, hq1, f1, hr1⟩ := lev3 a
  obtain ⟨q2, r2, e2, hq2, f2, hr2⟩ := lev3 b
  obtain ⟨q3, r3, e3, hq3, f3, hr3⟩ := lev3 c
  obtain ⟨q4, r4, e4, hq4, f4, hr4⟩ := lev4 d
  match r3, hr3, r4, hr4 with
  | 0, _, 0, _ => exact mf00 a b c d q1 q2 q3 q4 r1 r2 hr1 hr2 e1 hq1 f1 e2 hq2 f2 e3 hq3 f3 e4 hq4 f4 w
  | 0, _, 1, _ => exact mf10 a b c d q1 q2 q3 q4 r1 r2 hr1 hr2 e1 hq1 f1 e2 hq2 f2 e3 hq3 f3 e4 hq4 f4 w
  | 0, _, 2, _ => exact mf20 a b c d q1 q2 q3 q4 r1 r2 hr1 hr2 e1 hq1 f1 e2 hq2 f2 e3 hq3 f3 e4 hq4 f4 w
  | 0, _, 3, _ => exact mf30 a b c d q1 q2 q3 q4 r1 r2 hr1 hr2 e1 hq1 f1 e2 hq2 f2 e3 hq3 f3 e4 hq4 f4 w
  | 1, _, 0, _ => exact mf01 a b c d q1 q2 q3 q4 r1 r2 hr1 hr2 e1 hq1 f1 e2 hq2 f2 e3 hq3 f3 e4 hq4 f4 w
  | 1, _, 1, _ => exact mf11 a b c d q1 q2 q3 q4 r1 r2 hr1 hr2 e1 hq1 f1 e2 hq2 f2 e3 hq3 f3 e4 hq4 f4 w
  | 1, _, 2, _ => exact mf21 a b c d q1 q2 q3 q4 r1 r2 hr1 hr2 e1 hq1 f1 e2 hq2 f2 e3 hq3 f3 e4 hq4 f4 w
  | 1, _, 3, _ => exact mf31 a b c d q1 q2 q3 q4 r1 r2 hr1 hr2 e1 hq1 f1 e2 hq2 f2 e3 hq3 f3 e4 hq4 f4 w
  | 2, _, 0, _ => exact mf02 a b c d q1 q2 q3 q4 r1 r2 hr1 hr2 e1 hq1 f1 e2 hq2 f2 e3 hq3 f3 e4 hq4 f4 w
  | 2, _, 1, _ => exact mf12 a b c d q1 q2 q3 q4 r1 r2 hr1 hr2 e1 hq1 f1 e2 hq2 f2 e3 hq3 f3 e4 hq4 f4 w
  | 2, _, 2, _ => exact mf22 a b c d q1 q2 q3 q4 r1 r2 hr1 hr2 e1 hq1 f1 e2 hq2 f2 e3 hq3 f3 e4 hq4 f4 w
  | 2, _, 3, _ => exact mf32 a b c d q1 q2 q3 q4 r1 r2 hr1 hr2 e1 hq1 f1 e2 hq2 f2 e3 hq3 f3 e4 hq4 f4 w
end Go.Proofs.Ytcbhafddehipdaa

/-
  ModelJudges: its walk.
-/
import Derived.Test.YtcbhafddehipdaaMdJu0
import Derived.Test.YtcbhafddehipdaaMdJu1
import Derived.Test.YtcbhafddehipdaaMdJu2
namespace Go.Proofs.Ytcbhafddehipdaa
open Go.RowKit
set_option linter.unusedVariables false
set_option linter.unusedSimpArgs false

theorem modelJudges_walk (a b c : Int) (w : World) (_h0 : (Lit.int .i64 a).wf = true) (_h1 : (Lit.int .i64 b).wf = true) (_h2 : (Lit.int .i64 c).wf = true) :
    Calls Try.prog 3 #[.int .i64 a, .int .i64 b, .int .i64 c] w fun e w' => e = .returned (.bool true) ∧ Below w.heap.size w w' := by
  obtain ⟨q1, r1, e1, hq1, f1, hr1⟩ := lev3 a
  obtain ⟨q2, r2, e2, hq2, f2, hr2⟩ := lev3 b
  obtain ⟨q3, r3, e3, hq3, f3, hr3⟩ := lev3 c
  match r2, hr2, r3, hr3 with
  | 0, _, 0, _ =>
    match r1, hr1 with
    | 0, _ => exact mj000 a b c q1 q2 q3 e1 hq1 f1 e2 hq2 f2 e3 hq3 f3 w
    | 1, _ => exact mj001 a b c q1 q2 q3 e1 hq1 f1 e2 hq2 f2 e3 hq3 f3 w
    | 2, _ => exact mj002 a b c q1 q2 q3 e1 hq1 f1 e2 hq2 f2 e3 hq3 f3 w
  | 0, _, 1, _ =>
    match r1, hr1 with
    | 0, _ => exact mj010 a b c q1 q2 q3 e1 hq1 f1 e2 hq2 f2 e3 hq3 f3 w
    | 1, _ => exact mj011 a b c q1 q2 q3 e1 hq1 f1 e2 hq2 f2 e3 hq3 f3 w
    | 2, _ => exact mj012 a b c q1 q2 q3 e1 hq1 f1 e2 hq2 f2 e3 hq3 f3 w
  | 0, _, 2, _ => exact mj02s a b c q1 q2 q3 r1 hr1 e1 hq1 f1 e2 hq2 f2 e3 hq3 f3 w
  | 1, _, 0, _ => exact mj10s a b c q1 q2 q3 r1 hr1 e1 hq1 f1 e2 hq2 f2 e3 hq3 f3 w
  | 1, _, 1, _ => exact mj11s a b c q1 q2 q3 r1 hr1 e1 hq1 f1 e2 hq2 f2 e3 hq3 f3 w
  | 1, _, 2, _ =>
    match r1, hr1 with
    | 0, _ => exact mj120 a b c q1 q2 q3 e1 hq1 f1 e2 hq2 f2 e3 hq3 f3 w
    | 1, _ => exact mj121 a b c q1 q2 q3 e1 hq1 f1 e2 hq2 f2 e3 hq3 f3 w
    | 2, _ => exact mj122 a b c q1 q2 q3 e1 hq1 f1 e2 hq2 f2 e3 hq3 f3 w
  | 2, _, 0, _ =>
    match r1, hr1 with
    | 0, _ => exact mj200 a b c q1 q2 q3 e1 hq1 f1 e2 hq2 f2 e3 hq3 f3 w
    | 1, _ => exact mj201 a b c q1 q2 q3 e1 hq1 f1 e2 hq2 f2 e3 hq3 f3 w
    | 2, _ => exact mj202 a b c q1 q2 q3 e1 hq1 f1 e2 hq2 f2 e3 hq3 f3 w
  | 2, _, 1, _ =>
    match r1, hr1 with
    | 0, _ => exact mj210 a b c q1 q2 q3 e1 hq1 f1 e2 hq2 f2 e3 hq3 f3 w
    | 1, _ => exact mj211 a b c q1 q2 q3 e1 hq1 f1 e2 hq2 f2 e3 hq3 f3 w
    | 2, _ => exact mj212 a b c q1 q2 q3 e1 hq1 f1 e2 hq2 f2 e3 hq3 f3 w
  | 2, _, 2, _ =>
    match r1, hr1 with
    | 0, _ => exact mj220 a b c q1 q2 q3 e1 hq1 f1 e2 hq2 f2 e3 hq3 f3 w
    | 1, _ => exact mj221 a b c q1 q2 q3 e1 hq1 f1 e2 hq2 f2 e3 hq3 f3 w
    | 2, _ => exact mj222 a b c q1 q2 q3 e1 hq1 f1 e2 hq2 f2 e3 hq3 f3 w
end Go.Proofs.Ytcbhafddehipdaa

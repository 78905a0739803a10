/-
  slices.ContainsFunc over ranges; reads.Set's Covers.
-/
import Derived.Test.YthjhhclgmkgigaaReadsIdx
import Derived.Deep.QuietTactic
import Derived.BigQuiet
import Derived.Deep.RegionHeld3
namespace Go.Proofs.Ythjhhclgmkgigaa
open Go.RowKit
set_option linter.unusedVariables false

set_option maxHeartbeats 2000000 in
theorem con_fn (a : Option Addr) (c kb : Nat) (k : Int) (ss : List SP) (w : World) (hx : Spans w a ss) (hb : Blk w kb 3 #[.int .i64 k]) (lx : ss.length ≤ 1000) :
    Calls Try.prog 23 #[.slice a ss.length c, .func (.func 24) #[] #[.pointer (some ⟨kb, 0, none⟩)]] w fun e w' => e = .returned (.bool (anySpan ss k)) ∧ Only0 w w' := by
  have H := idx_fn a c kb k ss w hx hb lx
  go_enter Try.func23, Try.ntmps23
  go_wp2_with fail
  refine H.mono ?_
  rintro e w1 ⟨⟨r, rfl, hr⟩, o⟩
  have HR := Lib.hid hr
  clear hr H
  go_wp2_with fail
  go_ret
  exact ⟨ret_bool HR.out, o⟩

end Go.Proofs.Ythjhhclgmkgigaa

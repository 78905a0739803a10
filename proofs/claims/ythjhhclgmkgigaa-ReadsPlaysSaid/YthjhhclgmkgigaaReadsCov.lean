/-
  reads.Set's Covers: the closure that asks one range.
-/
import Derived.Test.YthjhhclgmkgigaaReadsKeys
namespace Go.Proofs.Ythjhhclgmkgigaa
open Go.RowKit
set_option linter.unusedVariables false

def inSpan (k lo hi : Int) : Bool := decide (lo ≤ k) && decide (k ≤ hi)
set_option maxHeartbeats 2000000 in
theorem cov_fn (b : Nat) (k lo hi : Int) (la : Option Addr) (ln lc : Nat) (w : World) (hb : Blk w b 3 #[.int .i64 k]) :
    Calls Try.prog 24 #[.agg #[.int .i64 lo, .int .i64 hi, .slice la ln lc], .pointer (some ⟨b, 0, none⟩)] w fun e w' => e = .returned (.bool (inSpan k lo hi)) ∧ Only0 w w' := by
  have c0 : w.cell? ⟨b, 0, none⟩ = some (.int .i64 k) := by rw [hb.cell]; rfl
  have hlt : b < w.heap.size := hb.lt
  have hne : w.heap.size ≠ b := by omega
  have hne2 : b ≠ w.heap.size := by omega
  by_cases h : lo ≤ k
  · go_enter Try.func24, Try.ntmps24
    go_wp2_with fail
    go_ret
    exact ⟨ret_bool (by simp [inSpan, h]), (Only0.refl w).alloc _⟩
  · go_enter Try.func24, Try.ntmps24
    go_wp2_with fail
    go_ret
    exact ⟨ret_bool (by simp [inSpan]; omega), (Only0.refl w).alloc _⟩
end Go.Proofs.Ythjhhclgmkgigaa

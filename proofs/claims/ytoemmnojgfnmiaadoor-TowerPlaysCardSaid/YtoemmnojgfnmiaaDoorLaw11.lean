/-
  The walk of TowerHeights.
-/
import Derived.Test.YtoemmnojgfnmiaaDoorTowerW
namespace Go.Proofs.YtoemmnojgfnmiaaDoor
open Go.RowKit
set_option linter.unusedVariables false

/-- A remainder as a number. -/
theorem nat_rem (x : Int) (m : Int) (hm : 0 < m) : ∃ k : Nat, x % m = k ∧ (k : Int) < m := by
  have h0 := Int.emod_nonneg x (Int.ne_of_gt hm)
  have h1 := Int.emod_lt_of_pos x hm
  exact ⟨(x % m).toNat, by omega, by omega⟩
end Go.Proofs.YtoemmnojgfnmiaaDoor

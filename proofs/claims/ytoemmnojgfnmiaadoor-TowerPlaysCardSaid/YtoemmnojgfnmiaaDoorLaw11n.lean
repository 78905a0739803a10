/-
  The walk of TowerNext.
-/
import Derived.Test.YtoemmnojgfnmiaaDoorTowerW
import Derived.RegionTactic
import Derived.RegionCalls
import Derived.Deep.RegionHeld3
import Derived.Deep.RegionWith
import Derived.Deep.DrawnRows
namespace Go.Proofs.YtoemmnojgfnmiaaDoor
open Go.RowKit
set_option linter.unusedVariables false
set_option linter.unusedSimpArgs false
attribute [local go_sem ↓] Go.wp_at_zero Go.wp_at_succ

theorem u64_nat {x : Int} (h : (Lit.int .u64 x).wf = true) : ∃ X : Nat, x = X ∧ X < 18446744073709551616 := by
  simp only [Lit.wf, IntKind.min, IntKind.max, IntKind.signed, IntKind.bits, Bool.and_eq_true] at h
  obtain ⟨h1, h2⟩ := h
  simp at h1 h2
  exact ⟨x.toNat, by omega, by omega⟩
theorem bit_fact (X k : Nat) : (bits .and .u64 ((X : Int) / 2 ^ k) 1 = 0 ∧ X.testBit k = false) ∨ (bits .and .u64 ((X : Int) / 2 ^ k) 1 = 1 ∧ X.testBit k = true) := by
  have h1 := bit_shift X k
  have h2 := testBit_eq X k
  have : X / 2 ^ k % 2 = 0 ∨ X / 2 ^ k % 2 = 1 := by omega
  rcases this with e | e
  · rw [e] at h1 h2; exact .inl ⟨h1, h2⟩
  · rw [e] at h1 h2; exact .inr ⟨h1, h2⟩
theorem two_fact (X k : Nat) : ∃ r : Nat, r < 4 ∧ bits .and .u64 ((X : Int) / 2 ^ k) 3 = (r : Int) ∧ X / 2 ^ k % 4 = r := by
  refine ⟨X / 2 ^ k % 4, by omega, ?_, rfl⟩
  rw [u64_and3]
  have e : ((X : Int) / 2 ^ k) = ((X / 2 ^ k : Nat) : Int) := by simp
  rw [e]; simp
/-- The heights that a word of heights gives. -/
def hh (X k : Nat) : Nat := X / 2 ^ k % 4 + 1
theorem fromK_some {H : Nat → Nat} {a j : Nat} (hj : j < 64) (haj : a ≤ j) (h0 : ∀ i, a ≤ i → i < j → H i = 0) (h1 : 0 < H j) : fromK H (a : Int) = some j := by
  rw [fromK, List.find?_range_eq_some]
  refine ⟨by simp [h1]; omega, List.mem_range.2 hj, fun i hi => ?_⟩
  by_cases e : a ≤ i
  · simp [h0 i e hi]
  · simp; omega
theorem fromK_none {H : Nat → Nat} {a : Nat} (h0 : ∀ i, a ≤ i → i < 64 → H i = 0) : fromK H (a : Int) = none := by
  rw [fromK, List.find?_range_eq_none]
  intro i hi
  by_cases e : a ≤ i
  · simp [h0 i e hi]
  · simp; omega
/-- Put from above down to j. -/
def hDown (X Y j : Nat) : Nat → Nat := fun i => if j ≤ i ∧ i < 64 ∧ X.testBit i = true then hh Y i else 0
theorem hDown_yes (X Y j : Nat) (hj : j < 64) (h : X.testBit j = true) : upd (hDown X Y (j + 1)) j (hh Y j) = hDown X Y j := by
  funext i; simp only [upd, hDown]
  by_cases e : i = j
  · subst e; simp [hj, h]
  · have : (j + 1 ≤ i ∧ i < 64 ∧ X.testBit i = true) ↔ (j ≤ i ∧ i < 64 ∧ X.testBit i = true) := by
      constructor
      · rintro ⟨h1, h2⟩; exact ⟨by omega, h2⟩
      · rintro ⟨h1, h2⟩; exact ⟨by omega, h2⟩
    simp only [e, if_false, this]
theorem hDown_no (X Y j : Nat) (h : X.testBit j = false) : hDown X Y (j + 1) = hDown X Y j := by
  funext i; simp only [hDown]
  by_cases e : i = j
  · subst e; simp [h]
  · have : (j + 1 ≤ i ∧ i < 64 ∧ X.testBit i = true) ↔ (j ≤ i ∧ i < 64 ∧ X.testBit i = true) := by
      constructor
      · rintro ⟨h1, h2⟩; exact ⟨by omega, h2⟩
      · rintro ⟨h1, h2⟩; exact ⟨by omega, h2⟩
    simp only [this]
theorem hDown_off (X Y j : Nat) : hDown X Y (j + 1) j = 0 := by simp only [hDown]; rw [if_neg (by omega)]
theorem hDown_64 (X Y : Nat) : hDown X Y 64 = fun _ => 0 := by funext i; simp only [hDown]; rw [if_neg (by omega)]
/-- Dropped and, if it is not gone, put again, up to j. -/
def hAgain (X Y G j : Nat) : Nat → Nat := fun i => if i < j then (if i < 64 ∧ X.testBit i = true ∧ G.testBit i = false then 1 else 0) else hDown X Y 0 i
theorem hAgain_at (X Y G j : Nat) : hAgain X Y G j j = hDown X Y 0 j := by simp [hAgain]
theorem hAgain_step (X Y G j v : Nat) (hj : j < 64) (hv : v = if X.testBit j = true ∧ G.testBit j = false then 1 else 0) : upd (hAgain X Y G j) j v = hAgain X Y G (j + 1) := by
  funext i; simp only [upd, hAgain]
  by_cases e : i = j
  · subst e
    rw [if_pos rfl, if_pos (by omega), hv]
    simp only [hj, true_and]
  · have : i < j ↔ i < j + 1 := by omega
    simp only [e, if_false, this]

end Go.Proofs.YtoemmnojgfnmiaaDoor

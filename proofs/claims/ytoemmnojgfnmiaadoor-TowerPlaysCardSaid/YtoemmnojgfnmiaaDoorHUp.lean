/-
  Towers made of the bits of a number (shared by the laws of layers 11 and 12).
-/
import Derived.Test.YtoemmnojgfnmiaaDoorLaw11
import Derived.Test.YtoemmnojgfnmiaaDoorLaw11n
namespace Go.Proofs.YtoemmnojgfnmiaaDoor
open Go.RowKit
set_option linter.unusedVariables false
set_option linter.unusedSimpArgs false
attribute [local go_sem ↓] Go.wp_at_zero Go.wp_at_succ
theorem bit_is0 {X k : Nat} (h : X.testBit k = false) : bits .and .u64 ((X : Int) / 2 ^ k) 1 = 0 := by
  rcases bit_fact X k with ⟨br, tr⟩ | ⟨br, tr⟩
  · exact br
  · rw [h] at tr; cases tr
theorem bit_is1 {X k : Nat} (h : X.testBit k = true) : bits .and .u64 ((X : Int) / 2 ^ k) 1 = 1 := by
  rcases bit_fact X k with ⟨br, tr⟩ | ⟨br, tr⟩
  · rw [h] at tr; cases tr
  · exact br
theorem fromK_cases (H : Nat → Nat) (q : Nat) : (∃ j, j < 64 ∧ q ≤ j ∧ 0 < H j ∧ (∀ i, q ≤ i → i < j → H i = 0) ∧ fromK H (q : Int) = some j) ∨ ((∀ i, q ≤ i → i < 64 → H i = 0) ∧ fromK H (q : Int) = none) := by
  cases h : fromK H (q : Int) with
  | none =>
    right
    refine ⟨fun i h1 h2 => ?_, rfl⟩
    rw [fromK, List.find?_range_eq_none] at h
    have := h i h2
    simp at this
    omega
  | some j =>
    left
    have h' := h
    rw [fromK, List.find?_range_eq_some] at h'
    obtain ⟨h1, h2, h3⟩ := h'
    simp at h1
    refine ⟨j, List.mem_range.1 h2, by omega, by omega, fun i h4 h5 => ?_, rfl⟩
    have := h3 i h5
    simp at this
    omega
/-- The word says which keys are there. -/
def NB (H : Nat → Nat) (Z : Nat) : Prop := ∀ i, i < 64 → Z.testBit i = decide (0 < H i)
theorem tw_drop_any {w0 w : World} {t a b : Nat} {H : Nat → Nat} (h : TW w0 w t a b H) (hT : Tab w0) (k : Nat) (hk : k < 64) :
    Calls Tryd.prog 8 #[.pointer (some ⟨t, 0, none⟩), .int .i64 k] w fun e w' => (∃ r, e = .returned (.bool r)) ∧ TW w0 w' t a b (upd H k 0) ∧ Only (Two a b) w w' := by
  by_cases h0 : 0 < H k
  · refine (tw_drop h hT k hk h0).mono ?_
    rintro e w' ⟨rfl, h1, o⟩
    exact ⟨⟨_, rfl⟩, h1, o⟩
  · have hz : H k = 0 := by omega
    refine (tw_drop_no h hT k (by rw [hgt_nat H k hk]; exact hz)).mono ?_
    rintro e w' ⟨rfl, h1, o⟩
    refine ⟨⟨_, rfl⟩, ?_, o⟩
    rw [← hz, upd_self]; exact h1
theorem tw_put_any {w0 w : World} {t a b : Nat} {H : Nat → Nat} (h : TW w0 w t a b H) (hT : Tab w0) (k n : Nat) (hk : k < 64) (h1 : 1 ≤ n) (h2 : n ≤ 4) :
    Calls Tryd.prog 6 #[.pointer (some ⟨t, 0, none⟩), .int .i64 k, .int .i64 n] w fun e w' => (∃ r, e = .returned (.tuple #[.bool r, .int .i64 0])) ∧ (∃ H', TW w0 w' t a b H' ∧ (∀ j, j ≠ k → H' j = H j) ∧ 0 < H' k) ∧ Only (Two a b) w w' := by
  by_cases h0 : 0 < H k
  · refine (tw_put_old h hT k n hk h1 h2 h0).mono ?_
    rintro e w' ⟨rfl, h3, o⟩
    exact ⟨⟨_, rfl⟩, ⟨H, h3, fun _ _ => rfl, h0⟩, o⟩
  · refine (tw_put_new h hT k n hk h1 h2 (by omega)).mono ?_
    rintro e w' ⟨rfl, h3, o⟩
    exact ⟨⟨_, rfl⟩, ⟨_, h3, fun j hj => upd_ne H hj, by rw [upd_same]; omega⟩, o⟩
theorem NB.event {H H' : Nat → Nat} {Z g m : Nat} (h : NB H Z) (hg : g < 64) (hm : m < 64) (h1 : ∀ j, j ≠ m → H' j = upd H g 0 j) (h2 : 0 < H' m) : NB H' ((Z &&& (18446744073709551615 - 2 ^ g)) ||| 2 ^ m) := by
  intro i hi
  rw [Nat.testBit_or, Nat.testBit_and, testBit_not_pow g i hg, Nat.testBit_two_pow, h i hi]
  by_cases e : i = m
  · subst e; simp [h2]
  · have e' : ¬ m = i := fun h => e h.symm
    rw [h1 i e]
    by_cases eg : i = g
    · subst eg; simp [upd_same, e']
    · simp [upd_ne H eg, e', hi, eg]
/-- Put from below up to j. -/
def hUp (X j : Nat) (v : Nat → Nat) : Nat → Nat := fun i => if i < j ∧ i < 64 ∧ X.testBit i = true then v i else 0
theorem hUp_yes (X j : Nat) (v : Nat → Nat) (hj : j < 64) (h : X.testBit j = true) : upd (hUp X j v) j (v j) = hUp X (j + 1) v := by
  funext i; simp only [upd, hUp]
  by_cases e : i = j
  · subst e; simp [hj, h]
  · have : i < j ↔ i < j + 1 := by omega
    simp only [e, if_false, this]
theorem hUp_no (X j : Nat) (v : Nat → Nat) (h : X.testBit j = false) : hUp X j v = hUp X (j + 1) v := by
  funext i; simp only [hUp]
  by_cases e : i = j
  · subst e; simp [h]
  · have : i < j ↔ i < j + 1 := by omega
    simp only [this]
theorem hUp_off (X j : Nat) (v : Nat → Nat) : hUp X j v j = 0 := by simp [hUp]
theorem hUp_0 (X : Nat) (v : Nat → Nat) : hUp X 0 v = fun _ => 0 := by funext i; simp [hUp]
theorem hUp_NB (X : Nat) (v : Nat → Nat) (hv : ∀ i, 0 < v i) : NB (hUp X 64 v) X := by
  intro i hi
  simp only [hUp, hi, true_and]
  cases hb : X.testBit i
  · simp
  · simp [hv i]
end Go.Proofs.YtoemmnojgfnmiaaDoor

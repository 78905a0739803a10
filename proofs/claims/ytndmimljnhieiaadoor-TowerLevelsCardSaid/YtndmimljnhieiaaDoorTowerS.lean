/-
  Plain laws on the steps of a look, on rows of keys.
-/
import Derived.Test.YtndmimljnhieiaaDoorLaw12a
namespace Go.Proofs.YtndmimljnhieiaaDoor
open Go.RowKit
set_option linter.unusedVariables false

theorem filt3 (p q r : Nat → Bool) : ∀ L : List Nat, (∀ x ∈ L, q x = true → p x = true) → (∀ x ∈ L, r x = true → p x = true) → (∀ x ∈ L, q x = true → r x = true → False) → (L.filter q).length + (L.filter r).length ≤ (L.filter p).length
  | [], _, _, _ => by simp
  | x :: L, h1, h2, h3 => by
    have ih := filt3 p q r L (fun y hy => h1 y (List.mem_cons_of_mem _ hy)) (fun y hy => h2 y (List.mem_cons_of_mem _ hy)) (fun y hy => h3 y (List.mem_cons_of_mem _ hy))
    have a1 := h1 x (List.mem_cons_self ..)
    have a2 := h2 x (List.mem_cons_self ..)
    have a3 := h3 x (List.mem_cons_self ..)
    simp only [List.filter_cons]
    cases hq : q x <;> cases hr : r x <;> cases hp : p x <;> simp_all <;> omega
theorem range_sorted (p : Nat → Bool) : ((List.range 64).filter p).Pairwise (· < ·) := List.Pairwise.sublist List.filter_sublist List.pairwise_lt_range
theorem last_ge : ∀ (L : List Nat) (d : Int), L.Pairwise (· < ·) → ∀ x ∈ L, (x : Int) ≤ lastOf L d := by
  intro L d hs x hx
  unfold lastOf
  cases h : L.getLast? with
  | none => rw [List.getLast?_eq_none_iff] at h; subst h; simp at hx
  | some k =>
    obtain ⟨ys, rfl⟩ := List.getLast?_eq_some_iff.1 h
    simp only
    rw [List.pairwise_append] at hs
    rcases List.mem_append.1 hx with hx | hx
    · have := hs.2.2 x hx k (by simp); omega
    · simp at hx; omega
/-- The keys above one and below another. -/
def above (H : Nat → Nat) (key last : Int) : List Nat := (List.range 64).filter (fun k => decide (0 < H k) && decide ((k : Int) < key) && decide (last < (k : Int)))
theorem last_gt (H : Nat → Nat) (key : Int) (l : Nat) (last : Int) : last ≤ lastOf (stK H key l last) last := by
  unfold lastOf
  cases h : (stK H key l last).getLast? with
  | none => simp
  | some k =>
    have := List.mem_of_getLast? h
    rw [stK, List.mem_filter] at this
    have h2 := this.2
    simp at h2
    simp only; omega
theorem stepsAux_le (H : Nat → Nat) (key : Int) : ∀ (l n : Nat) (last : Int), stepsAux H key l n last ≤ n + (above H key last).length
  | 0, n, last => by simp [stepsAux]
  | l + 1, n, last => by
    have ih := stepsAux_le H key l (n + (stK H key l last).length) (lastOf (stK H key l last) last)
    have hg := last_gt H key l last
    have hl := last_ge (stK H key l last) last (range_sorted _)
    have h3 := filt3 (fun k => decide (0 < H k) && decide ((k : Int) < key) && decide (last < (k : Int))) (fun k => decide (l < H k) && decide ((k : Int) < key) && decide (last < (k : Int)))
      (fun k => decide (0 < H k) && decide ((k : Int) < key) && decide (lastOf (stK H key l last) last < (k : Int))) (List.range 64)
      (fun x _ h => by simp at h ⊢; omega) (fun x _ h => by simp at h ⊢; omega)
      (fun x hx h1 h2 => by
        have := hl x (by rw [stK, List.mem_filter]; exact ⟨hx, h1⟩)
        simp at h2; omega)
    show stepsAux H key l _ _ ≤ _
    unfold above at *
    unfold stK at *
    omega
theorem above_range (H : Nat → Nat) (key : Int) : above H key (-1) = rangeK H 0 (key - 1) := by
  rw [above, rangeK, kl, List.filter_filter]
  apply List.filter_congr
  intro k hk
  rw [Bool.eq_iff_iff]
  simp [inR]; omega
theorem stepsK_le (H : Nat → Nat) (key : Int) : stepsK H key ≤ (rangeK H 0 (key - 1)).length := by
  have := stepsAux_le H key 4 0 (-1)
  rw [above_range] at this
  unfold stepsK; omega
theorem stepsAux_ge (H : Nat → Nat) (key : Int) : ∀ (l n : Nat) (last : Int), n ≤ stepsAux H key l n last
  | 0, n, last => Nat.le_refl _
  | l + 1, n, last => by
    have := stepsAux_ge H key l (n + (stK H key l last).length) (lastOf (stK H key l last) last)
    show n ≤ stepsAux H key l _ _
    omega
theorem stepsAux_zero {H : Nat → Nat} {key : Int} {l : Nat} {last : Int} (h : stepsAux H key (l + 1) 0 last = 0) : stK H key l last = [] ∧ stepsAux H key l 0 last = 0 := by
  have h' : stepsAux H key l (0 + (stK H key l last).length) (lastOf (stK H key l last) last) = 0 := h
  have := stepsAux_ge H key l (0 + (stK H key l last).length) (lastOf (stK H key l last) last)
  have hz : (stK H key l last).length = 0 := by omega
  have he := List.eq_nil_of_length_eq_zero hz
  refine ⟨he, ?_⟩
  rw [he] at h'
  exact h'
theorem stepsK_zero {H : Nat → Nat} {key : Int} (h : stepsK H key = 0) : (rangeK H 0 (key - 1)).length = 0 := by
  obtain ⟨_, h3⟩ := stepsAux_zero (l := 3) h
  obtain ⟨_, h2⟩ := stepsAux_zero h3
  obtain ⟨_, h1⟩ := stepsAux_zero h2
  obtain ⟨h0, _⟩ := stepsAux_zero h1
  rw [← above_range]
  show (stK H key 0 (-1)).length = 0
  rw [h0]; rfl
/-- How many keys of a word stand below j. -/
def cn (X j : Nat) : Nat := ((List.range j).filter (fun k => X.testBit k)).length
theorem cn_yes {X j : Nat} (h : X.testBit j = true) : cn X (j + 1) = cn X j + 1 := by simp [cn, List.range_succ, h]
theorem cn_no {X j : Nat} (h : X.testBit j = false) : cn X (j + 1) = cn X j := by simp [cn, List.range_succ, h]
theorem cn_le (X j : Nat) : cn X j ≤ j := by
  have := List.length_filter_le (fun k => X.testBit k) (List.range j)
  simpa [cn] using this
theorem kl_cn (X : Nat) (v : Nat → Nat) (hv : ∀ i, 0 < v i) : (kl (hUp X 64 v) 0).length = cn X 64 := by
  unfold kl cn
  congr 1
  apply List.filter_congr
  intro k hk
  exact (hUp_NB X v hv k (List.mem_range.1 hk)).symm
theorem kl_getD_lt {H : Nat → Nat} {l i j : Nat} (h1 : i < j) (h2 : j < (kl H l).length) : (kl H l).getD i 0 < (kl H l).getD j 0 := by
  have hs := range_sorted (fun k => decide (l < H k))
  have := List.pairwise_iff_getElem.1 hs i j (by unfold kl at h2; omega) h2 h1
  rw [List.getD_eq_getElem?_getD, List.getD_eq_getElem?_getD, List.getElem?_eq_getElem h2, List.getElem?_eq_getElem (by omega)]
  exact this
theorem kl_mem {H : Nat → Nat} {l i : Nat} (h : i < (kl H l).length) : (kl H l).getD i 0 < 64 ∧ l < H ((kl H l).getD i 0) := by
  rw [List.getD_eq_getElem?_getD, List.getElem?_eq_getElem h]
  have hm : (kl H l)[i] ∈ (List.range 64).filter (fun k => decide (l < H k)) := List.getElem_mem h
  rw [List.mem_filter, List.mem_range, decide_eq_true_eq] at hm
  exact hm
theorem kl_up {H : Nat → Nat} {l i : Nat} (h : i < (kl H (l + 1)).length) : ∃ p, p < (kl H l).length ∧ (kl H l).getD p 0 = (kl H (l + 1)).getD i 0 := by
  obtain ⟨h1, h2⟩ := kl_mem h
  have hm : (kl H (l + 1)).getD i 0 ∈ kl H l := by
    generalize (kl H (l + 1)).getD i 0 = y at *
    rw [kl, List.mem_filter, List.mem_range, decide_eq_true_eq]; exact ⟨h1, by omega⟩
  obtain ⟨p, hp, he⟩ := List.getElem_of_mem hm
  exact ⟨p, hp, by rw [List.getD_eq_getElem?_getD, List.getElem?_eq_getElem hp]; exact he⟩
end Go.Proofs.YtndmimljnhieiaaDoor

/-
  Words as rows of bits: masks of a predicate on 0..63, the keys of a word, heights. They speak of no program.
-/
import Derived.Test.YtoemmnojgfnmiaaDoorBase
import Derived.Lib.TrailingZeros
import Derived.Laws.BitsAllLaws
namespace Go.Proofs.YtoemmnojgfnmiaaDoor
set_option linter.unusedVariables false

/-- The word whose bit k (k < n) says p k. -/
def maskN (p : Nat → Bool) : Nat → Nat
  | 0 => 0
  | n + 1 => maskN p n + (if p n then 2 ^ n else 0)
theorem maskN_succ (p : Nat → Bool) (n : Nat) : maskN p (n + 1) = maskN p n + (if p n then 2 ^ n else 0) := rfl
theorem maskN_lt (p : Nat → Bool) : ∀ n, maskN p n < 2 ^ n
  | 0 => by simp [maskN]
  | n + 1 => by
    have h := maskN_lt p n
    rw [maskN_succ, Nat.pow_succ]
    split <;> omega
theorem testBit_maskN (p : Nat → Bool) : ∀ n k, (maskN p n).testBit k = (decide (k < n) && p k)
  | 0, k => by simp [maskN]
  | n + 1, k => by
    have h := maskN_lt p n
    have ih := testBit_maskN p n k
    have e : maskN p (n + 1) = 2 ^ n * (if p n then 1 else 0) + maskN p n := by
      rw [maskN_succ]; split <;> omega
    rw [e, Nat.testBit_two_pow_mul_add _ h]
    by_cases hk : k < n
    · rw [if_pos hk, ih]; simp [hk]; intro; omega
    · rw [if_neg hk]
      by_cases hn : k = n
      · subst hn; cases p k <;> simp
      · have h1 : ¬ k < n + 1 := by omega
        obtain ⟨d, hd⟩ : ∃ d, k - n = d + 1 := ⟨k - n - 1, by omega⟩
        rw [hd]
        cases p n <;> simp [h1, Nat.testBit_succ]
def mask (p : Nat → Bool) : Nat := maskN p 64
theorem mask_lt (p : Nat → Bool) : mask p < 18446744073709551616 := maskN_lt p 64
theorem testBit_mask (p : Nat → Bool) (k : Nat) : (mask p).testBit k = (decide (k < 64) && p k) := testBit_maskN p 64 k
theorem mask_congr {p q : Nat → Bool} (h : ∀ k, k < 64 → p k = q k) : mask p = mask q := by
  apply Nat.eq_of_testBit_eq; intro k
  rw [testBit_mask, testBit_mask]
  by_cases hk : k < 64
  · rw [h k hk]
  · simp [hk]
theorem mask_testBit (w : Nat) (h : w < 18446744073709551616) : mask (fun k => w.testBit k) = w := by
  apply Nat.eq_of_testBit_eq; intro k
  rw [testBit_mask]
  by_cases hk : k < 64
  · simp [hk]
  · have : w < 2 ^ k := Nat.lt_of_lt_of_le h (by rw [show (18446744073709551616 : Nat) = 2 ^ 64 by decide]; exact Nat.pow_le_pow_right (by decide) (by omega))
    simp [hk, Nat.testBit_lt_two_pow this]
theorem mask_or (p : Nat → Bool) (k : Nat) (hk : k < 64) : mask p ||| 2 ^ k = mask (fun j => p j || j == k) := by
  apply Nat.eq_of_testBit_eq; intro j
  rw [Nat.testBit_or, testBit_mask, testBit_mask, Nat.testBit_two_pow]
  by_cases e : k = j
  · subst e; simp [hk]
  · have e' : (j == k) = false := by simp; omega
    simp [e, e']
theorem testBit_not_pow (k j : Nat) (hk : k < 64) : (18446744073709551615 - 2 ^ k).testBit j = (decide (j < 64) && !(j == k)) := by
  have h1 : 2 ^ k < 2 ^ 64 := Nat.pow_lt_pow_right (by decide) hk
  rw [show 18446744073709551615 - 2 ^ k = 2 ^ 64 - (2 ^ k + 1) by omega, Nat.testBit_two_pow_sub_succ h1, Nat.testBit_two_pow]
  by_cases e : k = j
  · subst e; simp
  · have e' : (j == k) = false := by simp; omega
    simp [e, e']
theorem mask_clr (p : Nat → Bool) (k : Nat) (hk : k < 64) : mask p &&& (18446744073709551615 - 2 ^ k) = mask (fun j => p j && !(j == k)) := by
  apply Nat.eq_of_testBit_eq; intro j
  rw [Nat.testBit_and, testBit_mask, testBit_mask, testBit_not_pow k j hk]
  cases p j <;> by_cases h : j < 64 <;> simp [h]

/-- The keys of a word, rising. -/
def keysOf (w : Nat) : List Nat := (List.range 64).filter (fun k => w.testBit k)
theorem filter_head (p q : Nat → Bool) (c : Nat) (h1 : ∀ k, k < c → p k = false) (h2 : p c = true) (h3 : ∀ k, k ≤ c → q k = false) (h4 : ∀ k, c < k → q k = p k) :
    ∀ n, c < n → (List.range n).filter p = c :: (List.range n).filter q
  | 0, h => absurd h (by omega)
  | n + 1, h => by
    rw [List.range_succ, List.filter_append, List.filter_append]
    by_cases e : n = c
    · subst e
      have e1 : (List.range n).filter p = [] := by rw [List.filter_eq_nil_iff]; intro a ha; simp [h1 a (List.mem_range.1 ha)]
      have e2 : (List.range n).filter q = [] := by rw [List.filter_eq_nil_iff]; intro a ha; simp [h3 a (Nat.le_of_lt (List.mem_range.1 ha))]
      rw [e1, e2]; simp [h2, h3]
    · rw [filter_head p q c h1 h2 h3 h4 n (by omega)]
      have e4 := h4 n (by omega)
      simp [List.filter_cons, e4]
theorem low_bits (w : Nat) (h0 : 0 < w) (h : w < 18446744073709551616) : Lib.ctz 64 w < 64 ∧ (∀ k, k < Lib.ctz 64 w → w.testBit k = false) ∧ w.testBit (Lib.ctz 64 w) = true ∧ (∀ k, k ≤ Lib.ctz 64 w → (w &&& (w - 1)).testBit k = false) ∧ (∀ k, Lib.ctz 64 w < k → (w &&& (w - 1)).testBit k = w.testBit k) := by
  have hz : Lib.ctz 64 w = Lib.ctzFrom 64 w := by unfold Lib.ctz; rw [if_neg (by omega)]
  rw [hz]
  obtain ⟨m, hm, hc⟩ := Lib.ctzFrom_spec 64 w h0 (by simpa using h)
  generalize Lib.ctzFrom 64 w = c at *
  have hp := Nat.two_pow_pos c
  have e1 : w = 2 ^ (c + 1) * m + 2 ^ c := by rw [hm, Nat.pow_succ, Nat.mul_add, Nat.mul_one, Nat.mul_assoc]
  have e2 : w - 1 = 2 ^ (c + 1) * m + (2 ^ c - 1) := by rw [e1]; omega
  have l1 : 2 ^ c < 2 ^ (c + 1) := Nat.pow_lt_pow_right (by decide) (by omega)
  have t1 : ∀ k, w.testBit k = if k < c + 1 then (2 ^ c).testBit k else m.testBit (k - (c + 1)) := fun k => by rw [e1, Nat.testBit_two_pow_mul_add _ l1]
  have t2 : ∀ k, (w - 1).testBit k = if k < c + 1 then (2 ^ c - 1).testBit k else m.testBit (k - (c + 1)) := fun k => by rw [e2, Nat.testBit_two_pow_mul_add _ (by omega)]
  refine ⟨hc, fun k hk => ?_, ?_, fun k hk => ?_, fun k hk => ?_⟩
  · rw [t1, if_pos (by omega), Nat.testBit_two_pow]; simp; omega
  · rw [t1, if_pos (by omega), Nat.testBit_two_pow]; simp
  · rw [Nat.testBit_and, t1, t2, if_pos (by omega), if_pos (by omega), Nat.testBit_two_pow, Nat.testBit_two_pow_sub_one]
    by_cases e : c = k
    · subst e; simp
    · simp [e]
  · rw [Nat.testBit_and, t1, t2, if_neg (by omega), if_neg (by omega), Bool.and_self]
theorem keysOf_step (w : Nat) (h0 : 0 < w) (h : w < 18446744073709551616) : keysOf w = Lib.ctz 64 w :: keysOf (w &&& (w - 1)) := by
  obtain ⟨hc, h1, h2, h3, h4⟩ := low_bits w h0 h
  exact filter_head _ _ _ h1 h2 h3 h4 64 hc
theorem keysOf_zero : keysOf 0 = [] := by simp [keysOf]
theorem keysOf_len (w : Nat) : (keysOf w).length ≤ 64 := by
  have := List.length_filter_le (fun k => w.testBit k) (List.range 64)
  simpa [keysOf] using this
theorem and_pred_lt (w : Nat) (h0 : 0 < w) : w &&& (w - 1) < w := by
  have := @Nat.and_le_right w (w - 1)
  omega
end Go.Proofs.YtoemmnojgfnmiaaDoor

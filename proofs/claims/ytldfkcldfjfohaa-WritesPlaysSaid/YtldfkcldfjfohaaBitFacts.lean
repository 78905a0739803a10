/-
  One bit of a word, as the walk writes it. They speak of no program.
-/
import Derived.Test.YtldfkcldfjfohaaBits
import Derived.Laws.BitsAllLaws
namespace Go.Proofs.Ytldfkcldfjfohaa
set_option linter.unusedVariables false
theorem wrap_pow (k : Nat) (hk : k < 64) : IntKind.u64.wrap ((2 : Int) ^ k) = ((2 ^ k : Nat) : Int) := by
  have h1 : 2 ^ k < 2 ^ 64 := Nat.pow_lt_pow_right (by decide) hk
  rw [IntKind.wrap_u64]
  have : ((2 : Int) ^ k) = ((2 ^ k : Nat) : Int) := by simp
  rw [this]
  generalize 2 ^ k = B at *
  omega

theorem bit_shift (x k : Nat) : bits .and .u64 ((x : Int) / 2 ^ k) 1 = ((x / 2 ^ k % 2 : Nat) : Int) := by
  rw [u64_and1]
  have e : ((x : Int) / 2 ^ k) = ((x / 2 ^ k : Nat) : Int) := by simp
  rw [e]; simp
theorem testBit_eq (x k : Nat) : x.testBit k = decide (x / 2 ^ k % 2 = 1) := by
  rw [Nat.testBit_eq_decide_div_mod_eq]
theorem u64_nat {x : Int} (h : (Lit.int .u64 x).wf = true) : ∃ X : Nat, x = X ∧ X < 18446744073709551616 := by
  simp only [Lit.wf, IntKind.min, IntKind.max, IntKind.signed, IntKind.bits, Bool.and_eq_true] at h
  obtain ⟨h1, h2⟩ := h
  simp at h1 h2
  exact ⟨x.toNat, by omega, by omega⟩
theorem bit_fact (X k : Nat) : (bits .and .u64 ((X : Int) / 2 ^ k) 1 = 0 ∧ X.testBit k = false) ∨ (bits .and .u64 ((X : Int) / 2 ^ k) 1 = 1 ∧ X.testBit k = true) := by
  have h1 := bit_shift X k
  have h2 := testBit_eq X k
  have : X / 2 ^ k % 2 = 0 ∨ X / 2 ^ k % 2 = 1 := by omega
  rcases this with e | e
  · rw [e] at h1 h2; exact .inl ⟨h1, h2⟩
  · rw [e] at h1 h2; exact .inr ⟨h1, h2⟩

theorem or_pow (W k : Nat) (hW : W < 18446744073709551616) (hk : k < 64) : ∃ B : Nat, IntKind.u64.wrap ((2 : Int) ^ k) = (B : Int) ∧ bits .or .u64 (W : Int) (B : Int) = ((W ||| 2 ^ k : Nat) : Int) ∧ W ||| 2 ^ k < 18446744073709551616 := by
  have h1 : 2 ^ k < 18446744073709551616 := Nat.pow_lt_pow_right (m := k) (n := 64) (by decide) hk
  exact ⟨2 ^ k, wrap_pow k hk, u64_or_nat W _ hW h1, Nat.or_lt_two_pow (n := 64) hW h1⟩
theorem testBit_or_pow (W k j : Nat) : (W ||| 2 ^ k).testBit j = (W.testBit j || decide (k = j)) := by
  rw [Nat.testBit_or, Nat.testBit_two_pow]
end Go.Proofs.Ytldfkcldfjfohaa

/-
  Masks: 'x & (2^i - 1)' on int and uint64, for every x: the remainder by 2^i. They speak of no program.
-/
import Derived.Test.YtoemmnojgfnmiaaDoorBase
namespace Go.Proofs.YtoemmnojgfnmiaaDoor

/-- The least of a length and a bound, under a name. -/
theorem min_named (l m : Nat) : ∃ n : Nat, (if (m : Int) < (l : Int) then (m : Int) else (l : Int)) = (n : Int) ∧ n ≤ l ∧ n ≤ m ∧ (n = l ∨ n = m) := by
  by_cases h : (m : Int) < (l : Int)
  · exact ⟨m, by rw [if_pos h], by omega, by omega, .inr rfl⟩
  · exact ⟨l, by rw [if_neg h], by omega, by omega, .inl rfl⟩

theorem mask_nat (x : Int) (i : Nat) (hi : i ≤ 63) : ((BitVec.ofInt 64 x &&& BitVec.ofInt 64 (2 ^ i - 1)).toNat : Int) = x % 2 ^ i := by
  have hpos : 0 < 2 ^ i := Nat.two_pow_pos i
  have hlt : 2 ^ i - 1 < 2 ^ 64 := Nat.lt_of_lt_of_le (Nat.sub_lt hpos (by decide)) (Nat.pow_le_pow_right (by decide) (by omega))
  have hc : ((2 : Int) ^ i - 1) = ((2 ^ i - 1 : Nat) : Int) := by rw [Int.natCast_sub hpos]; simp
  rw [hc, BitVec.toNat_and, BitVec.ofInt_natCast, BitVec.toNat_ofNat, Nat.mod_eq_of_lt hlt, Nat.and_two_pow_sub_one_eq_mod, BitVec.toNat_ofInt]
  have hm : (2 : Int) ^ i ∣ 2 ^ 64 := by
    refine ⟨2 ^ (64 - i), ?_⟩
    rw [← Int.pow_add]; congr 1; omega
  rw [Int.natCast_emod, Int.toNat_of_nonneg (Int.emod_nonneg _ (by decide))]
  simp only [Int.natCast_pow]
  exact Int.emod_emod_of_dvd x hm

theorem and_mask_i64 (x : Int) (i : Nat) (hi : i ≤ 62) : bits .and .i64 x (2 ^ i - 1) = x % 2 ^ i := by
  have h := mask_nat x i (by omega)
  have h0 : 0 ≤ x % (2 : Int) ^ i := Int.emod_nonneg _ (Int.pow_ne_zero (by decide))
  have h1 : x % (2 : Int) ^ i < 2 ^ i := Int.emod_lt_of_pos _ (Int.pow_pos (by decide))
  have h2 : (2 : Int) ^ i ≤ 2 ^ 62 := by exact_mod_cast Nat.pow_le_pow_right (by decide) hi
  show IntKind.i64.wrap ((BitVec.ofInt 64 x &&& BitVec.ofInt 64 (2 ^ i - 1)).toNat : Int) = _
  rw [h, IntKind.wrap_i64]
  generalize x % (2 : Int) ^ i = y at *
  omega
theorem and_mask_u64 (x : Int) (i : Nat) (hi : i ≤ 63) : bits .and .u64 x (2 ^ i - 1) = x % 2 ^ i := by
  have h := mask_nat x i (by omega)
  have h0 : 0 ≤ x % (2 : Int) ^ i := Int.emod_nonneg _ (Int.pow_ne_zero (by decide))
  have h1 : x % (2 : Int) ^ i < 2 ^ i := Int.emod_lt_of_pos _ (Int.pow_pos (by decide))
  have h2 : (2 : Int) ^ i ≤ 2 ^ 63 := by exact_mod_cast Nat.pow_le_pow_right (by decide) hi
  show IntKind.u64.wrap ((BitVec.ofInt 64 x &&& BitVec.ofInt 64 (2 ^ i - 1)).toNat : Int) = _
  rw [h, IntKind.wrap_u64]
  generalize x % (2 : Int) ^ i = y at *
  omega
theorem i64_and7 (x : Int) : bits .and .i64 x 7 = x % 8 := and_mask_i64 x 3 (by decide)
theorem i64_and3 (x : Int) : bits .and .i64 x 3 = x % 4 := and_mask_i64 x 2 (by decide)
theorem i64_and1 (x : Int) : bits .and .i64 x 1 = x % 2 := and_mask_i64 x 1 (by decide)
theorem i64_and15 (x : Int) : bits .and .i64 x 15 = x % 16 := and_mask_i64 x 4 (by decide)
theorem i64_and31 (x : Int) : bits .and .i64 x 31 = x % 32 := and_mask_i64 x 5 (by decide)
theorem i64_and63 (x : Int) : bits .and .i64 x 63 = x % 64 := and_mask_i64 x 6 (by decide)
theorem i64_and255 (x : Int) : bits .and .i64 x 255 = x % 256 := and_mask_i64 x 8 (by decide)
theorem i64_and65535 (x : Int) : bits .and .i64 x 65535 = x % 65536 := and_mask_i64 x 16 (by decide)
theorem u64_and1 (x : Int) : bits .and .u64 x 1 = x % 2 := and_mask_u64 x 1 (by decide)
theorem u64_and3 (x : Int) : bits .and .u64 x 3 = x % 4 := and_mask_u64 x 2 (by decide)
theorem u64_and255 (x : Int) : bits .and .u64 x 255 = x % 256 := and_mask_u64 x 8 (by decide)
theorem u64_and39 (x : Int) : bits .and .u64 x 549755813887 = x % 549755813888 := and_mask_u64 x 39 (by decide)
theorem u64_and40 (x : Int) : bits .and .u64 x 1099511627775 = x % 1099511627776 := and_mask_u64 x 40 (by decide)
end Go.Proofs.YtoemmnojgfnmiaaDoor

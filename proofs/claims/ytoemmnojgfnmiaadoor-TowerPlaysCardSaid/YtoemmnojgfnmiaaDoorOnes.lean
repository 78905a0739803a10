/-
  The arithmetic of math/bits.OnesCount64: the parallel sum of bits is the number of bits. It speaks of no program.
-/
import Derived.Test.YtoemmnojgfnmiaaDoorTowerBits
namespace Go.Proofs.YtoemmnojgfnmiaaDoor
set_option linter.unusedVariables false

def M85 : Nat → Nat
  | 0 => 0
  | n + 1 => 85 + 256 * M85 n
def M51 : Nat → Nat
  | 0 => 0
  | n + 1 => 51 + 256 * M51 n
def M15 : Nat → Nat
  | 0 => 0
  | n + 1 => 15 + 256 * M15 n
def s1 (b : Nat) : Nat := (b / 2 &&& 85) + (b &&& 85)
def s2 (b : Nat) : Nat := (b / 4 &&& 51) + (b &&& 51)
def s3 (b : Nat) : Nat := (b / 16 + b) % 16
def T1 : Nat → Nat → Nat
  | 0, _ => 0
  | n + 1, x => s1 (x % 256) + 256 * T1 n (x / 256)
def T2 : Nat → Nat → Nat
  | 0, _ => 0
  | n + 1, x => s2 (x % 256) + 256 * T2 n (x / 256)
def T3 : Nat → Nat → Nat
  | 0, _ => 0
  | n + 1, x => s3 (s2 (x % 256)) + 256 * T3 n (x / 256)
/-- 'and' by bytes. -/
theorem and_bytes (a b : Nat) : a &&& b = (a % 256 &&& b % 256) + 256 * (a / 256 &&& b / 256) := by
  have h1 : (a &&& b) / 2 ^ 8 = a / 2 ^ 8 &&& b / 2 ^ 8 := Nat.and_div_two_pow
  have h2 : (a &&& b) % 2 ^ 8 = (a % 2 ^ 8) &&& (b % 2 ^ 8) := Nat.and_mod_two_pow
  have := Nat.mod_add_div (a &&& b) 256
  simp only [show (2 : Nat) ^ 8 = 256 by decide] at h1 h2
  rw [← h1, ← h2]; omega
theorem b85 : ∀ lo : Nat, lo < 256 → ∀ t : Nat, t < 2 → (lo / 2 + 128 * t) &&& 85 = lo / 2 &&& 85 := by decide +kernel
theorem b51 : ∀ lo : Nat, lo < 256 → ∀ t : Nat, t < 4 → (lo / 4 + 64 * t) &&& 51 = lo / 4 &&& 51 := by decide +kernel
theorem s1_lt : ∀ b : Nat, b < 256 → s1 b < 256 := by decide +kernel
theorem s2_le : ∀ b : Nat, b < 256 → s2 b ≤ 102 ∧ s2 b % 16 ≤ 6 := by decide +kernel
theorem step1 : ∀ n x, (x / 2 &&& M85 n) + (x &&& M85 n) = T1 n x
  | 0, x => by simp [M85, T1]
  | n + 1, x => by
    have ih := step1 n (x / 256)
    have h1 := b85 (x % 256) (by omega) (x / 256 % 2) (by omega)
    rw [and_bytes (x / 2), and_bytes x]
    simp only [M85, T1, s1]
    rw [show (85 + 256 * M85 n) % 256 = 85 by omega, show (85 + 256 * M85 n) / 256 = M85 n by omega, show x / 2 % 256 = x % 256 / 2 + 128 * (x / 256 % 2) by omega, h1, show x / 2 / 256 = x / 256 / 2 by omega]
    omega
theorem step2 : ∀ n x, (x / 4 &&& M51 n) + (x &&& M51 n) = T2 n x
  | 0, x => by simp [M51, T2]
  | n + 1, x => by
    have ih := step2 n (x / 256)
    have h1 := b51 (x % 256) (by omega) (x / 256 % 4) (by omega)
    rw [and_bytes (x / 4), and_bytes x]
    simp only [M51, T2, s2]
    rw [show (51 + 256 * M51 n) % 256 = 51 by omega, show (51 + 256 * M51 n) / 256 = M51 n by omega, show x / 4 % 256 = x % 256 / 4 + 64 * (x / 256 % 4) by omega, h1, show x / 4 / 256 = x / 256 / 4 by omega]
    omega
theorem T2_nib : ∀ n x, T2 n x % 16 ≤ 6
  | 0, x => by simp [T2]
  | n + 1, x => by
    have := (s2_le (x % 256) (by omega)).2
    simp only [T2]; omega
theorem step3 : ∀ n x, (T2 n x / 16 + T2 n x) &&& M15 n = T3 n x
  | 0, x => by simp [M15, T3]
  | n + 1, x => by
    have ih := step3 n (x / 256)
    have h1 := s2_le (x % 256) (by omega)
    have h2 := T2_nib n (x / 256)
    rw [and_bytes]
    simp only [M15, T3, T2]
    generalize T2 n (x / 256) = hi at *
    generalize hlo : s2 (x % 256) = lo at *
    rw [show (15 + 256 * M15 n) % 256 = 15 by omega, show (15 + 256 * M15 n) / 256 = M15 n by omega, show ((lo + 256 * hi) / 16 + (lo + 256 * hi)) / 256 = hi / 16 + hi by omega, ih, Nat.and_two_pow_sub_one_eq_mod _ 4]
    simp only [s3]
    omega
theorem T1_digit (n x : Nat) : T1 (n + 1) x % 256 = s1 (x % 256) ∧ T1 (n + 1) x / 256 = T1 n (x / 256) := by
  have := s1_lt (x % 256) (by omega)
  simp only [T1]; omega
/-- The bits of a byte. -/
def P8 (b : Nat) : Nat := s3 (s2 (s1 b))
def U : Nat → Nat → Nat
  | 0, _ => 0
  | n + 1, x => P8 (x % 256) + 256 * U n (x / 256)
theorem T3_T1 : ∀ n x, T3 n (T1 n x) = U n x
  | 0, x => rfl
  | n + 1, x => by
    obtain ⟨h1, h2⟩ := T1_digit n x
    show s3 (s2 (T1 (n + 1) x % 256)) + 256 * T3 n (T1 (n + 1) x / 256) = _
    rw [h1, h2, T3_T1 n]; rfl
theorem T1_lt : ∀ n x, T1 n x < 256 ^ n
  | 0, x => by simp [T1]
  | n + 1, x => by
    have h := T1_lt n (x / 256)
    have h1 := s1_lt (x % 256) (by omega)
    rw [Nat.pow_succ]
    show s1 (x % 256) + 256 * T1 n (x / 256) < _
    omega
def O1 : Nat → Nat
  | 0 => 0
  | n + 1 => 1 + 256 * O1 n
theorem T2_le' : ∀ n x, T2 n x ≤ 102 * O1 n
  | 0, x => by simp [T2]
  | n + 1, x => by
    have h := T2_le' n (x / 256)
    have h1 := (s2_le (x % 256) (by omega)).1
    show s2 (x % 256) + 256 * T2 n (x / 256) ≤ 102 * (1 + 256 * O1 n)
    omega
theorem T2_le (n x : Nat) : T2 n x ≤ 102 * O1 n := T2_le' n x
/-- How many of the first n bits are set. -/
def cnt (w n : Nat) : Nat := ((List.range n).filter (fun k => w.testBit k)).length
theorem cnt_byte (x n : Nat) : cnt x (8 + n) = cnt (x % 256) 8 + cnt (x / 256) n := by
  unfold cnt
  rw [List.range_add, List.filter_append, List.length_append, List.filter_map, List.length_map]
  congr 2
  · apply List.filter_congr
    intro k hk
    have hk := List.mem_range.1 hk
    rw [show x % 256 = x % 2 ^ 8 by rfl, Nat.testBit_mod_two_pow]
    simp [hk]
  · apply List.filter_congr
    intro k hk
    rw [show x / 256 = x / 2 ^ 8 by rfl, Nat.testBit_div_two_pow]
    simp [Function.comp]
    congr 1; omega
theorem cnt_8 : ∀ b : Nat, b < 256 → cnt b 8 = P8 b ∧ P8 b ≤ 8 := by decide +kernel
theorem sum8 (p0 p1 p2 p3 p4 p5 p6 p7 q1 q2 q3 q4 q5 q6 q7 x3 : Nat) (h0 : p0 ≤ 8) (h1 : p1 ≤ 8) (h2 : p2 ≤ 8) (h3 : p3 ≤ 8) (h4 : p4 ≤ 8) (h5 : p5 ≤ 8) (h6 : p6 ≤ 8) (h7 : p7 ≤ 8)
    (e0 : x3 = p0 + 256 * q1) (e1 : q1 = p1 + 256 * q2) (e2 : q2 = p2 + 256 * q3) (e3 : q3 = p3 + 256 * q4) (e4 : q4 = p4 + 256 * q5) (e5 : q5 = p5 + 256 * q6) (e6 : q6 = p6 + 256 * q7) (e7 : q7 = p7) :
    ∃ x4 x5 x6, x3 + x3 / 256 = x4 ∧ x4 + x4 / 65536 = x5 ∧ x5 + x5 / 4294967296 = x6 ∧ x6 % 128 = p0 + p1 + p2 + p3 + p4 + p5 + p6 + p7 ∧ x3 < 18446744073709551616 ∧ x4 < 18446744073709551616 ∧ x5 < 18446744073709551616 ∧ x6 < 18446744073709551616 := by
  have d3 : x3 / 256 = q1 := by clear e1 e2 e3 e4 e5 e6 e7; omega
  have g4 : x3 + q1 = (p0 + p1) + 256 * (p1 + p2) + 65536 * (q2 + q3) := by clear e3 e4 e5 e6 e7 d3; omega
  have d4 : (x3 + q1) / 65536 = q2 + q3 := by clear e0 e1 e2 e3 e4 e5 e6 e7 d3; omega
  have r2 : q2 + q3 = (p2 + p3) + 256 * (p3 + p4) + 65536 * (q4 + q5) := by clear e0 e1 e5 e6 e7 d3 g4 d4; omega
  have r4 : q4 + q5 = (p4 + p5) + 256 * (p5 + p6) + 65536 * (q6 + q7) := by clear e0 e1 e2 e3 e7 d3 g4 d4 r2; omega
  have g5 : x3 + q1 + (q2 + q3) = (p0 + p1 + p2 + p3) + 256 * (p1 + p2 + p3 + p4) + 65536 * (p2 + p3 + p4 + p5) + 16777216 * (p3 + p4 + p5 + p6) + 4294967296 * (q4 + q5 + (q6 + q7)) := by clear e0 e1 e2 e3 e4 e5 e6 e7 d3 d4; omega
  have d5 : (x3 + q1 + (q2 + q3)) / 4294967296 = q4 + q5 + (q6 + q7) := by clear e0 e1 e2 e3 e4 e5 e6 e7 d3 d4 g4 r2 r4; omega
  have r6 : q6 + q7 = (p6 + p7) + 256 * p7 := by clear e0 e1 e2 e3 e4 e5 d3 d4 g4 r2 r4 g5 d5; omega
  refine ⟨_, _, _, rfl, rfl, rfl, ?_⟩
  rw [d3, d4, d5]
  clear e0 e1 e2 e3 e4 e5 e6 e7 d3 d4 d5
  refine ⟨?_, ?_, ?_, ?_, ?_⟩
  · rw [g5, r4, r6]; clear g4 r2 r4 g5 r6; omega
  · omega
  · omega
  · omega
  · omega
/-- What OnesCount64's sums come to: every step fits, and the last one is the number of bits. -/
theorem ones_all (x : Nat) (hx : x < 18446744073709551616) : ∃ x1 x2 x3 x4 x5 x6, (x / 2 &&& 6148914691236517205) + (x &&& 6148914691236517205) = x1 ∧ (x1 / 4 &&& 3689348814741910323) + (x1 &&& 3689348814741910323) = x2 ∧ (x2 / 16 + x2) &&& 1085102592571150095 = x3 ∧
    x3 + x3 / 256 = x4 ∧ x4 + x4 / 65536 = x5 ∧ x5 + x5 / 4294967296 = x6 ∧ x6 % 128 = (keysOf x).length ∧ x1 < 18446744073709551616 ∧ x2 < 9000000000000000000 ∧ x3 < 18446744073709551616 ∧ x4 < 18446744073709551616 ∧ x5 < 18446744073709551616 ∧ x6 < 18446744073709551616 := by
  have m1 : M85 8 = 6148914691236517205 := by decide
  have m2 : M51 8 = 3689348814741910323 := by decide
  have m3 : M15 8 = 1085102592571150095 := by decide
  have h1 := step1 8 x
  have h2 := step2 8 (T1 8 x)
  have h3 := step3 8 (T1 8 x)
  rw [m1] at h1; rw [m2] at h2; rw [m3, T3_T1] at h3
  have l1 : T1 8 x < 18446744073709551616 := T1_lt 8 x
  have l2 : T2 8 (T1 8 x) ≤ 102 * 72340172838076673 := T2_le 8 _
  have b : ∀ y, P8 (y % 256) ≤ 8 := fun y => (cnt_8 _ (by omega)).2
  have c : ∀ y, cnt (y % 256) 8 = P8 (y % 256) := fun y => (cnt_8 _ (by omega)).1
  obtain ⟨x4, x5, x6, e4, e5, e6, es, z3, z4, z5, z6⟩ := sum8 (P8 (x % 256)) (P8 (x / 256 % 256)) (P8 (x / 256 / 256 % 256)) (P8 (x / 256 / 256 / 256 % 256)) (P8 (x / 256 / 256 / 256 / 256 % 256)) (P8 (x / 256 / 256 / 256 / 256 / 256 % 256)) (P8 (x / 256 / 256 / 256 / 256 / 256 / 256 % 256)) (P8 (x / 256 / 256 / 256 / 256 / 256 / 256 / 256 % 256))
    _ _ _ _ _ _ _ (U 8 x) (b _) (b _) (b _) (b _) (b _) (b _) (b _) (b _) rfl rfl rfl rfl rfl rfl rfl rfl
  refine ⟨_, _, _, x4, x5, x6, rfl, rfl, rfl, ?_, e5, e6, ?_, ?_, ?_, ?_, z4, z5, z6⟩
  · rw [h1, h2, h3]; exact e4
  · rw [es]
    show _ = cnt x (8 + (8 + (8 + (8 + (8 + (8 + (8 + (8 + 0))))))))
    rw [cnt_byte, cnt_byte, cnt_byte, cnt_byte, cnt_byte, cnt_byte, cnt_byte, cnt_byte, c, c, c, c, c, c, c, c]
    have z : ∀ y, cnt y 0 = 0 := fun _ => rfl
    rw [z]; omega
  · rw [h1]; exact l1
  · rw [h1, h2]; omega
  · rw [h1, h2, h3]; exact z3
end Go.Proofs.YtoemmnojgfnmiaaDoor

/-
  What judge.Key and judge.Span do, and the references beside them; JudgeTells.
-/
import Derived.Test.YtjkdofhlcdimcaaInts
import Derived.Test.YtjkdofhlcdimcaaOpen
namespace Go.Proofs.Ytjkdofhlcdimcaa
open Go.RowKit
set_option linter.unusedVariables false

def jkey (l link now : Int) : Bool := if l = 1 then true else if l = 2 then (link == 0 || now == link) else if l = 3 then now == link else false
def jspan (l : Int) (was now : List Int) : Bool := if l = 1 ∨ l = 2 then true else if l = 3 then decide (was = now) else false
theorem lcases (l : Int) : l = 1 ∨ l = 2 ∨ l = 3 ∨ (¬ l = 1 ∧ ¬ l = 2 ∧ ¬ l = 3) := by omega

set_option maxHeartbeats 1000000 in
theorem key_any (l link now : Int) (w : World) : Calls Try.prog 14 #[.int .i64 l, .int .u64 link, .int .u64 now] w fun e w' => e = .returned (.bool (jkey l link now)) ∧ w = w' := by
  rcases lcases l with rfl | rfl | rfl | ⟨h1, h2, h3⟩
  · have H := Lib.hid (show jkey 1 link now = true from rfl)
    go_enter Try.func14, Try.ntmps14
    go_wp2_with fail
    go_ret; exact ⟨ret_bool H.out.symm, rfl⟩
  · have H := Lib.hid (show jkey 2 link now = (link == 0 || now == link) from rfl)
    go_enter Try.func14, Try.ntmps14
    go_wp2_with fail
    all_goals (go_ret; first | exact ⟨ret_bool H.out.symm, rfl⟩ | exact ⟨ret_bool (by rw [H.out]; simp_all), rfl⟩)
  · have H := Lib.hid (show jkey 3 link now = (now == link) from rfl)
    go_enter Try.func14, Try.ntmps14
    go_wp2_with fail
    go_ret; exact ⟨ret_bool H.out.symm, rfl⟩
  · have H := Lib.hid (show jkey l link now = false by simp [jkey, h1, h2, h3])
    go_enter Try.func14, Try.ntmps14
    go_wp2_with fail
    go_ret; exact ⟨ret_bool H.out.symm, rfl⟩
set_option maxHeartbeats 1000000 in
theorem rkey_any (l link now : Int) (w : World) : Calls Try.prog 15 #[.int .i64 l, .int .u64 link, .int .u64 now] w fun e w' => e = .returned (.bool (jkey l link now)) ∧ w = w' := by
  have hsym : (link == now) = (now == link) := by
    rw [Bool.eq_iff_iff, beq_iff_eq, beq_iff_eq]; exact ⟨Eq.symm, Eq.symm⟩
  rcases lcases l with rfl | rfl | rfl | ⟨h1, h2, h3⟩
  · have H := Lib.hid (show jkey 1 link now = true from rfl)
    clear hsym
    go_enter Try.func15, Try.ntmps15
    go_wp2_with fail
    go_ret; exact ⟨ret_bool H.out.symm, rfl⟩
  · have H := Lib.hid (show jkey 2 link now = (link == 0 || link == now) by rw [hsym]; rfl)
    clear hsym
    go_enter Try.func15, Try.ntmps15
    go_wp2_with fail
    all_goals (go_ret; first | exact ⟨ret_bool H.out.symm, rfl⟩ | exact ⟨ret_bool (by rw [H.out]; simp_all), rfl⟩)
  · have H := Lib.hid (show jkey 3 link now = (link == now) by rw [hsym]; rfl)
    clear hsym
    go_enter Try.func15, Try.ntmps15
    go_wp2_with fail
    go_ret; exact ⟨ret_bool H.out.symm, rfl⟩
  · have H := Lib.hid (show jkey l link now = false by simp [jkey, h1, h2, h3])
    have h3' : (l == 3) = false := by simpa using h3
    clear hsym
    go_enter Try.func15, Try.ntmps15
    go_wp2_with fail
    go_ret; exact ⟨ret_bool H.out.symm, rfl⟩
set_option maxHeartbeats 1000000 in
theorem span_any (l : Int) (a a' : Option Addr) (c c' : Nat) (xs ys : List Int) (w : World) (hx : Ints .u64 w a xs) (hy : Ints .u64 w a' ys) (lx : xs.length ≤ 1000000000) (ly : ys.length ≤ 1000000000) :
    Calls Try.prog 16 #[.int .i64 l, .slice a xs.length c, .slice a' ys.length c'] w fun e w' => e = .returned (.bool (jspan l xs ys)) ∧ ∃ n, w' = w.drewN n := by
  rcases lcases l with rfl | rfl | rfl | ⟨h1, h2, h3⟩
  · have H := Lib.hid (show jspan 1 xs ys = true from rfl)
    go_enter Try.func16, Try.ntmps16
    go_wp2_with fail
    go_ret; exact ⟨ret_bool H.out.symm, 0, rfl⟩
  · have H := Lib.hid (show jspan 2 xs ys = true from rfl)
    go_enter Try.func16, Try.ntmps16
    go_wp2_with fail
    go_ret; exact ⟨ret_bool H.out.symm, 0, rfl⟩
  · have H := Lib.hid (show jspan 3 xs ys = decide (xs = ys) from rfl)
    go_enter Try.func16, Try.ntmps16
    go_wp2_with fail
    refine (slicesEqual_any a a' c c' xs ys w hx hy lx ly).mono ?_
    rintro e w1 ⟨rfl, n, rfl⟩
    go_wp2_with fail
    go_ret; exact ⟨ret_bool H.out.symm, n, rfl⟩
  · have H := Lib.hid (show jspan l xs ys = false by simp [jspan, h1, h2, h3])
    have h1' : (l == 1) = false := by simpa using h1
    have h2' : (l == 2) = false := by simpa using h2
    have h3' : (l == 3) = false := by simpa using h3
    go_enter Try.func16, Try.ntmps16
    go_wp2_with fail
    go_ret; exact ⟨ret_bool H.out.symm, 0, rfl⟩
set_option maxHeartbeats 1000000 in
theorem rspan_any (l : Int) (a a' : Option Addr) (c c' : Nat) (xs ys : List Int) (w : World) (hx : Ints .u64 w a xs) (hy : Ints .u64 w a' ys) (lx : xs.length ≤ 1000000000) (ly : ys.length ≤ 1000000000) :
    Calls Try.prog 17 #[.int .i64 l, .slice a xs.length c, .slice a' ys.length c'] w fun e w' => e = .returned (.bool (jspan l xs ys)) ∧ ∃ n, w' = w.drewN n := by
  rcases lcases l with rfl | rfl | rfl | ⟨h1, h2, h3⟩
  · have H := Lib.hid (show jspan 1 xs ys = true from rfl)
    go_enter Try.func17, Try.ntmps17
    go_wp2_with fail
    go_ret; exact ⟨ret_bool H.out.symm, 0, rfl⟩
  · have H := Lib.hid (show jspan 2 xs ys = true from rfl)
    go_enter Try.func17, Try.ntmps17
    go_wp2_with fail
    go_ret; exact ⟨ret_bool H.out.symm, 0, rfl⟩
  · have H := Lib.hid (show jspan 3 xs ys = decide (xs = ys) from rfl)
    go_enter Try.func17, Try.ntmps17
    go_wp2_with fail
    refine (same_any a a' c c' xs ys w hx hy lx ly).mono ?_
    rintro e w1 ⟨rfl, n, rfl⟩
    go_wp2_with fail
    go_ret; exact ⟨ret_bool H.out.symm, n, rfl⟩
  · have H := Lib.hid (show jspan l xs ys = false by simp [jspan, h1, h2, h3])
    have h3' : (l == 3) = false := by simpa using h3
    go_enter Try.func17, Try.ntmps17
    go_wp2_with fail
    go_ret; exact ⟨ret_bool H.out.symm, 0, rfl⟩

set_option maxHeartbeats 1000000 in
theorem all_nil (l : Int) (f g : Value) (w : World) : Calls Try.prog 30 #[.int .i64 l, .pointer none, f, g] w fun e w' => e = .returned (.tuple #[.bool false, .int .i64 (-1)]) ∧ w = w' := by
  go_enter Try.func30, Try.ntmps30
  go_wp2_with fail
  go_ret2
  exact ⟨rfl, rfl⟩

set_option maxHeartbeats 1000000 in
theorem awake15_any (w : World) : Calls Try.prog 13 #[] w fun e w' => e = .returned (.bool true) ∧ w = w' := by
  go_enter Try.func13, Try.ntmps13
  go_wp2_with fail
  refine (all_nil 3 _ _ w).mono ?_
  rintro e w1 ⟨rfl, rfl⟩
  have k1 := key_any 2 0 5 w
  have k2 := key_any 3 0 5 w
  have k3 := key_any 1 3 4 w
  rw [show jkey 2 0 5 = true from rfl] at k1
  rw [show jkey 3 0 5 = false from rfl] at k2
  rw [show jkey 1 3 4 = true from rfl] at k3
  go_wp2_with fail
  refine k1.mono ?_
  rintro e w1 ⟨rfl, rfl⟩
  go_wp2_with fail
  refine k2.mono ?_
  rintro e w1 ⟨rfl, rfl⟩
  go_wp2_with fail
  refine k3.mono ?_
  rintro e w1 ⟨rfl, rfl⟩
  go_wp2_with fail
  go_ret
  exact ⟨rfl, rfl⟩

theorem jspan_self (l : Int) (xs : List Int) : jspan l xs xs = (decide (1 ≤ l) && decide (l ≤ 3)) := by
  rcases lcases l with rfl | rfl | rfl | ⟨h1, h2, h3⟩
  · rfl
  · rfl
  · simp [jspan]
  · rw [show jspan l xs xs = false by simp [jspan, h1, h2, h3]]
    symm
    rw [Bool.and_eq_false_iff]
    by_cases h : 1 ≤ l
    · right; simp; omega
    · left; simpa using h

set_option maxHeartbeats 2000000 in
theorem judgeTells_walk (l link now : Int) (a : Option Addr) (c : Nat) (xs : List Int) (a' : Option Addr) (c' : Nat) (ys : List Int) (w : World) (_h0 : (Lit.int .i64 l).wf = true) (_h1 : (Lit.int .u64 link).wf = true) (_h2 : (Lit.int .u64 now).wf = true)
    (hx : Ints .u64 w a xs) (_f1 : ∀ n ∈ xs, (Lit.int .u64 n).wf = true) (_s1 : xs.length * 8 ≤ 140737488351232) (_l1 : xs.length ≤ c) (_m1 : c ≤ 9223372036854775807)
    (hy : Ints .u64 w a' ys) (_f2 : ∀ n ∈ ys, (Lit.int .u64 n).wf = true) (_s2 : ys.length * 8 ≤ 140737488351232) (_l2 : ys.length ≤ c') (_m2 : c' ≤ 9223372036854775807) :
    Calls Try.prog 3 #[.int .i64 l, .int .u64 link, .int .u64 now, .slice a xs.length c, .slice a' ys.length c'] w fun e w' => e = .returned (.bool true) ∧ Below w.heap.size w w' := by
  have hc : 100 < xs.length ∨ (xs.length ≤ 100 ∧ 100 < ys.length) ∨ (xs.length ≤ 100 ∧ ys.length ≤ 100) := by omega
  rcases hc with hc | ⟨hc, hd⟩ | ⟨hc, hd⟩
  · go_enter Try.func3, Try.ntmps3
    go_wp2_with fail
    refine (awake15_any w).mono ?_
    rintro e w1 ⟨rfl, rfl⟩
    go_wp2_with fail
    go_ret; exact ⟨rfl, Below.refl _ _⟩
  · go_enter Try.func3, Try.ntmps3
    go_wp2_with fail
    refine (awake15_any w).mono ?_
    rintro e w1 ⟨rfl, rfl⟩
    go_wp2_with fail
    go_ret; exact ⟨rfl, Below.refl _ _⟩
  · have K1 := key_any l link now w
    have K2 := rkey_any l link now w
    have S1 := span_any l a a' c c' xs ys w hx hy (by omega) (by omega)
    have S2 := fun n => rspan_any l a a' c c' xs ys (w.drewN n) hx hy (by omega) (by omega)
    have S3 := fun n => span_any l a a c c xs xs (w.drewN n) hx hx (by omega) (by omega)
    have HJ := Lib.hid (jspan_self l xs)
    generalize jkey l link now = kb at *
    generalize jspan l xs ys = sb at *
    generalize jspan l xs xs = tb at *
    have hl3 : l < 1 ∨ (1 ≤ l ∧ 3 < l) ∨ (1 ≤ l ∧ l ≤ 3) := by omega
    have htb : (l < 1 → tb = false) ∧ (3 < l → tb = false) ∧ (1 ≤ l ∧ l ≤ 3 → tb = true) := by
      rw [HJ.out]
      refine ⟨fun h => ?_, fun h => ?_, fun h => ?_⟩
      · rw [Bool.and_eq_false_iff]; left; simpa using h
      · rw [Bool.and_eq_false_iff]; right; simpa using h
      · simp [h.1, h.2]
    clear HJ
    rcases hl3 with h3 | ⟨h3, h4⟩ | ⟨h3, h4⟩
    · obtain rfl := htb.1 h3
      clear htb
      cases kb <;> cases sb
      all_goals
        go_enter Try.func3, Try.ntmps3
        go_wp2_with fail
        refine K1.mono ?_
        rintro e w1 ⟨rfl, rfl⟩
        go_wp2_with fail
        refine K2.mono ?_
        rintro e w1 ⟨rfl, rfl⟩
        go_wp2_with fail
        refine S1.mono ?_
        rintro e w1 ⟨rfl, n, rfl⟩
        go_wp2_with fail
        refine (S2 n).mono ?_
        rintro e w1 ⟨rfl, m, rfl⟩
        go_wp2_with fail
        refine (S3 (n + m)).mono ?_
        rintro e w1 ⟨rfl, q, rfl⟩
        go_wp2_with fail
        refine (awake15_any _).mono ?_
        rintro e w1 ⟨rfl, rfl⟩
        go_wp2_with fail
        go_ret; first | exact ⟨rfl, below_drewN (Below.refl _ _) _⟩ | exact ⟨ret_bool (by simp; omega), below_drewN (Below.refl _ _) _⟩
    · obtain rfl := htb.2.1 h4
      clear htb
      cases kb <;> cases sb
      all_goals
        go_enter Try.func3, Try.ntmps3
        go_wp2_with fail
        refine K1.mono ?_
        rintro e w1 ⟨rfl, rfl⟩
        go_wp2_with fail
        refine K2.mono ?_
        rintro e w1 ⟨rfl, rfl⟩
        go_wp2_with fail
        refine S1.mono ?_
        rintro e w1 ⟨rfl, n, rfl⟩
        go_wp2_with fail
        refine (S2 n).mono ?_
        rintro e w1 ⟨rfl, m, rfl⟩
        go_wp2_with fail
        refine (S3 (n + m)).mono ?_
        rintro e w1 ⟨rfl, q, rfl⟩
        go_wp2_with fail
        refine (awake15_any _).mono ?_
        rintro e w1 ⟨rfl, rfl⟩
        go_wp2_with fail
        go_ret; first | exact ⟨rfl, below_drewN (Below.refl _ _) _⟩ | exact ⟨ret_bool (by simp; omega), below_drewN (Below.refl _ _) _⟩
    · obtain rfl := htb.2.2 ⟨h3, h4⟩
      clear htb
      cases kb <;> cases sb
      all_goals
        go_enter Try.func3, Try.ntmps3
        go_wp2_with fail
        refine K1.mono ?_
        rintro e w1 ⟨rfl, rfl⟩
        go_wp2_with fail
        refine K2.mono ?_
        rintro e w1 ⟨rfl, rfl⟩
        go_wp2_with fail
        refine S1.mono ?_
        rintro e w1 ⟨rfl, n, rfl⟩
        go_wp2_with fail
        refine (S2 n).mono ?_
        rintro e w1 ⟨rfl, m, rfl⟩
        go_wp2_with fail
        refine (S3 (n + m)).mono ?_
        rintro e w1 ⟨rfl, q, rfl⟩
        go_wp2_with fail
        refine (awake15_any _).mono ?_
        rintro e w1 ⟨rfl, rfl⟩
        go_wp2_with fail
        go_ret; first | exact ⟨rfl, below_drewN (Below.refl _ _) _⟩ | exact ⟨ret_bool (by simp; omega), below_drewN (Below.refl _ _) _⟩
end Go.Proofs.Ytjkdofhlcdimcaa

/-
  The walks of the laws of layer 5 (the table), all but TablePlays.
-/
import Derived.Test.YtlomgbnggmaeeaaTableGet
import Derived.Test.YtlomgbnggmaeeaaOpen
import Derived.Test.YtlomgbnggmaeeaaBits
namespace Go.Proofs.Ytlomgbnggmaeeaa
open Go.RowKit
set_option linter.unusedVariables false

/-- Make at a Table with room, whatever is there. -/
theorem make_ok {B : Nat} {w : World} {t : Nat} {v : Value} {ps : List Nat} {most : Int} {ts : List TX} (h : Tab B w t v ps most ts) (level beg : Int) (l0 : 1 ≤ level) (l1 : level ≤ 3) (b1 : beg ≤ 1099511627776) (hm : (ts.length : Int) < most) :
    Calls Try.prog 6 #[ptr t, .int .i64 level, .int .u64 beg] w fun e w' => e = .returned (.tuple #[.int .i64 (ts.length + 1), .int .i64 0]) ∧
      ∃ v' ps', Tab B w' t v' ps' most (ts ++ [⟨level, beg, 0, 1⟩]) ∧ Below B w w' :=
  (table_make_ok h level beg l0 l1 b1 hm).mono fun e w' ⟨he, v', ps', hT, ho⟩ => ⟨he, v', ps', hT, h.below ho⟩
theorem turn_any {B : Nat} {w : World} {t : Nat} {v : Value} {ps : List Nat} {most : Int} {ts : List TX} (h : Tab B w t v ps most ts) (id to : Int) (hto : -9223372036854775808 ≤ to ∧ to ≤ 9223372036854775807) :
    Calls Try.prog 8 #[ptr t, .int .i64 id, .int .i64 to] w fun e w' => e = .returned (.int .i64 (turnErr ts id to)) ∧ Tab B w' t v ps most (turnTs ts id to) ∧ Below B w w' :=
  (table_turn h id to hto).mono fun e w' ⟨he, hT, ho⟩ => ⟨he, hT, h.below ho⟩

set_option maxHeartbeats 1000000 in
/-- awake: what the document fixes. -/
theorem awake5_any (w : World) : Calls Try.prog 5 #[] w fun e w' => e = .returned (.bool true) ∧ Below w.heap.size w w' := by
  go_enter Try.func5, Try.ntmps5
  go_wp2_with fail
  refine (table_new 4 (by omega) (by omega) w).mono ?_
  rintro e w1 ⟨t, rfl, h1, b1⟩
  unfold ptr
  go_wp2_with fail
  refine (make_ok h1 3 3 (by omega) (by omega) (by omega) (by simp)).mono ?_
  rintro e w2 ⟨rfl, v2, ps2, h2, b2⟩
  have T1 := turn_any h2 1 4 (by omega)
  rw [show turnErr ([] ++ [⟨3, 3, 0, 1⟩]) 1 4 = 0 from rfl, show turnTs ([] ++ [⟨3, 3, 0, 1⟩]) 1 4 = [⟨3, 3, 0, 4⟩] from rfl] at T1
  go_wp2_with fail
  refine T1.mono ?_
  rintro e w3 ⟨rfl, h3, b3⟩
  have T2 := turn_any h3 1 2 (by omega)
  rw [show turnErr [⟨3, 3, 0, 4⟩] 1 2 = 7 from rfl, show turnTs [⟨3, 3, 0, 4⟩] 1 2 = [⟨3, 3, 0, 4⟩] from rfl] at T2
  go_wp2_with fail
  refine T2.mono ?_
  rintro e w4 ⟨rfl, h4, b4⟩
  have C := can_at 1 2 w4
  rw [show can 1 2 = true from rfl] at C
  go_wp2_with fail
  refine C.mono ?_
  rintro e w5 ⟨rfl, rfl⟩
  have O := table_oldest h4 9
  rw [show oldTs [⟨3, 3, 0, 4⟩] 9 = 9 from rfl] at O
  go_wp2_with fail
  refine O.mono ?_
  rintro e w5 ⟨rfl, rfl⟩
  go_wp2_with fail
  go_ret
  exact ⟨rfl, ((b1.trans b2).trans b3).trans b4⟩

set_option maxHeartbeats 1000000 in
theorem can_ref (f t : Int) (w : World) : Calls Try.prog 25 #[.int .i64 f, .int .i64 t] w fun e w' => e = .returned (.bool (can f t)) ∧ w = w' := by
  have hc : f = 1 ∨ f = 2 ∨ f = 3 ∨ f = 4 ∨ (¬ f = 1 ∧ ¬ f = 2 ∧ ¬ f = 3 ∧ ¬ f = 4) := by omega
  rcases hc with rfl | rfl | rfl | rfl | ⟨h1, h2, h3, h4⟩
  · have H := Lib.hid (show can 1 t = (t == 2 || t == 4) from rfl)
    go_enter Try.func25, Try.ntmps25
    go_wp2_with fail
    all_goals (go_ret; first | exact ⟨ret_bool H.out.symm, rfl⟩ | exact ⟨ret_bool (by rw [H.out]; simp_all), rfl⟩)
  · have H := Lib.hid (show can 2 t = (t == 3 || t == 4) from rfl)
    go_enter Try.func25, Try.ntmps25
    go_wp2_with fail
    all_goals (go_ret; first | exact ⟨ret_bool H.out.symm, rfl⟩ | exact ⟨ret_bool (by rw [H.out]; simp_all), rfl⟩)
  · have H := Lib.hid (show can 3 t = (t == 5) from rfl)
    go_enter Try.func25, Try.ntmps25
    go_wp2_with fail
    all_goals (go_ret; first | exact ⟨ret_bool H.out.symm, rfl⟩ | exact ⟨ret_bool (by rw [H.out]; simp_all), rfl⟩)
  · have H := Lib.hid (show can 4 t = (t == 5) from rfl)
    go_enter Try.func25, Try.ntmps25
    go_wp2_with fail
    all_goals (go_ret; first | exact ⟨ret_bool H.out.symm, rfl⟩ | exact ⟨ret_bool (by rw [H.out]; simp_all), rfl⟩)
  · have H := Lib.hid (show can f t = false by simp [can, h1, h2, h3, h4])
    go_enter Try.func25, Try.ntmps25
    go_wp2_with fail
    all_goals (go_ret; first | exact ⟨ret_bool H.out.symm, rfl⟩ | exact ⟨ret_bool (by rw [H.out]; simp_all), rfl⟩)

theorem can_self (f : Int) : can f f = false := by
  unfold can; split
  · subst_vars; rfl
  · split
    · subst_vars; rfl
    · split
      · subst_vars; rfl
      · split
        · subst_vars; rfl
        · rfl
theorem can_back (f t : Int) (h : can f t = true) : can t f = false := by
  unfold can at *
  split at h
  · subst_vars; simp at h; rcases h with rfl | rfl <;> rfl
  · split at h
    · subst_vars; simp at h; rcases h with rfl | rfl <;> rfl
    · split at h
      · subst_vars; simp at h; subst h; rfl
      · split at h
        · subst_vars; simp at h; subst h; rfl
        · simp at h

end Go.Proofs.Ytlomgbnggmaeeaa

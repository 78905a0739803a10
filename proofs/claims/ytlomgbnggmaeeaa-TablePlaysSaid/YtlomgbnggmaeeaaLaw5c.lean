/-
  The walk of TableEnds.
-/
import Derived.Test.YtlomgbnggmaeeaaLaw5b
namespace Go.Proofs.Ytlomgbnggmaeeaa
open Go.RowKit
set_option linter.unusedVariables false

theorem end_one {B : Nat} {w : World} {t : Nat} {v : Value} {ps : List Nat} {b en st : Int} (h : Tab B w t v ps 3 [⟨3, b, en, st⟩]) (e : Int) (he : 0 ≤ e ∧ e ≤ 18446744073709551615) (hen : 0 ≤ en) :
    Calls Try.prog 10 #[ptr t, .int .i64 1, .int .u64 e] w fun x w' => x = .returned (.int .i64 (endErr [⟨3, b, en, st⟩] 1 e)) ∧ Tab B w' t v ps 3 (endTs [⟨3, b, en, st⟩] 1 e) ∧ Below B w w' :=
  (table_end h 1 e he (by simpa using hen)).mono fun x w' ⟨hx, hT, ho⟩ => ⟨hx, hT, h.below ho⟩
theorem end_state {B : Nat} {w : World} {t : Nat} {v : Value} {ps : List Nat} {b en st : Int} (h : Tab B w t v ps 3 [⟨3, b, en, st⟩]) (e : Int) (he : 0 ≤ e ∧ e ≤ 18446744073709551615) (hen : 0 ≤ en) (hs : st ≠ 2 ∨ 0 < en) :
    Calls Try.prog 10 #[ptr t, .int .i64 1, .int .u64 e] w fun x w' => x = .returned (.int .i64 7) ∧ Tab B w' t v ps 3 [⟨3, b, en, st⟩] ∧ Below B w w' := by
  have e1 : endErr [⟨3, b, en, st⟩] 1 e = 7 := if_pos hs
  have e2 : endTs [⟨3, b, en, st⟩] 1 e = [⟨3, b, en, st⟩] := by
    show (if endErr [⟨3, b, en, st⟩] 1 e = 0 then _ else _) = _
    rw [e1]; rfl
  have := end_one h e he hen
  rwa [e1, e2] at this
theorem end_arg {B : Nat} {w : World} {t : Nat} {v : Value} {ps : List Nat} {b : Int} (h : Tab B w t v ps 3 [⟨3, b, 0, 2⟩]) (e : Int) (he : 0 ≤ e ∧ e ≤ 18446744073709551615) (hb : 0 ≤ b) (hs : ¬ (b < e ∧ e ≤ 1099511627776)) :
    Calls Try.prog 10 #[ptr t, .int .i64 1, .int .u64 e] w fun x w' => x = .returned (.int .i64 1) ∧ Tab B w' t v ps 3 [⟨3, b, 0, 2⟩] ∧ Below B w w' := by
  have e1 : endErr [⟨3, b, 0, 2⟩] 1 e = 1 := by
    show (if (2 : Int) ≠ 2 ∨ (0 : Int) < 0 then (7 : Int) else if e = 0 ∨ 1099511627776 < e ∨ e ≤ b then 1 else 0) = 1
    rw [if_neg (by omega), if_pos (by omega)]
  have e2 : endTs [⟨3, b, 0, 2⟩] 1 e = [⟨3, b, 0, 2⟩] := by
    show (if endErr [⟨3, b, 0, 2⟩] 1 e = 0 then _ else _) = _
    rw [e1]; rfl
  have := end_one h e he (Int.le_refl 0)
  rwa [e1, e2] at this
theorem end_ok {B : Nat} {w : World} {t : Nat} {v : Value} {ps : List Nat} {b : Int} (h : Tab B w t v ps 3 [⟨3, b, 0, 2⟩]) (e : Int) (hb : 0 ≤ b) (hs : b < e) (hs2 : e ≤ 1099511627776) :
    Calls Try.prog 10 #[ptr t, .int .i64 1, .int .u64 e] w fun x w' => x = .returned (.int .i64 0) ∧ Tab B w' t v ps 3 [⟨3, b, e, 2⟩] ∧ Below B w w' := by
  have e1 : endErr [⟨3, b, 0, 2⟩] 1 e = 0 := by
    show (if (2 : Int) ≠ 2 ∨ (0 : Int) < 0 then (7 : Int) else if e = 0 ∨ 1099511627776 < e ∨ e ≤ b then 1 else 0) = 0
    rw [if_neg (by omega), if_neg (by omega)]
  have e2 : endTs [⟨3, b, 0, 2⟩] 1 e = [⟨3, b, e, 2⟩] := by
    show (if endErr [⟨3, b, 0, 2⟩] 1 e = 0 then _ else _) = _
    rw [e1]; rfl
  have := end_one h e (by omega) (Int.le_refl 0)
  rwa [e1, e2] at this
theorem turn_one {B : Nat} {w : World} {t : Nat} {v : Value} {ps : List Nat} {b en st : Int} (h : Tab B w t v ps 3 [⟨3, b, en, st⟩]) (to : Int) (hto : -9223372036854775808 ≤ to ∧ to ≤ 9223372036854775807) (hc : can st to = true) :
    Calls Try.prog 8 #[ptr t, .int .i64 1, .int .i64 to] w fun e w' => e = .returned (.int .i64 0) ∧ Tab B w' t v ps 3 [⟨3, b, en, to⟩] ∧ Below B w w' := by
  have e1 : turnErr [⟨3, b, en, st⟩] 1 to = 0 := if_pos hc
  have e2 : turnTs [⟨3, b, en, st⟩] 1 to = [⟨3, b, en, to⟩] := by
    show (if can st to then _ else _) = _
    rw [hc]; rfl
  have := turn_any h 1 to hto
  rwa [e1, e2] at this
theorem get_one {B : Nat} {w : World} {t : Nat} {v : Value} {ps : List Nat} {b en st : Int} (h : Tab B w t v ps 3 [⟨3, b, en, st⟩]) :
    Calls Try.prog 12 #[ptr t, .int .i64 1] w fun e w' => e = .returned (.tuple #[.agg #[.int .i64 3, .int .i64 st, .int .u64 b, .int .u64 en], .bool true]) ∧ Tab B w' t v ps 3 [⟨3, b, en, st⟩] ∧ Below B w w' := by
  have hG := table_get h 1 (by omega) (by simp)
  rw [show ((1 : Int) - 1).toNat = 0 from rfl] at hG
  simp only [List.getD_cons_zero, TX.agg] at hG
  exact hG.mono fun e w' ⟨he, ho⟩ => ⟨he, h.only ho (fun _ _ hf => hf), (ho.below).mono (by have := h.bt; have := h.head.lt; omega)⟩

/-- A new block for a struct that a call handed back. -/
theorem Tab.box {B : Nat} {w : World} {t : Nat} {v : Value} {ps : List Nat} {most : Int} {ts : List TX} (h : Tab B w t v ps most ts) (o : Obj) : Tab B (w.alloc o) t v ps most ts := h.only ((Only0.refl w).alloc o) (fun _ _ hf => hf)

end Go.Proofs.Ytlomgbnggmaeeaa

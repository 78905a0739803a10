/-
  append of no element: the slice is as it was.
-/
import Derived.Test.YtldfkcldfjfohaaWPr
namespace Go.Proofs.Ytldfkcldfjfohaa
open Go.RowKit
set_option linter.unusedVariables false
set_option linter.unusedSimpArgs false
theorem run_append_zero (P : Program) (w : World) (t ty e : TypeId) (i : TypeInfo) (ht : P.underlying t = some (.slice e)) (hi : P.info? e = some i) (qa pb : Option Addr) (n c c' : Nat) (hn : n ≤ c) :
    (Builtin.append_ #[t, t] ty #[.slice qa n c, .slice pb 0 c']).run P w = .ok (.slice qa n c) w := by
  have hf : (Builtin.firstCells i.size 0 (.slice pb 0 c')).run P w = .ok #[] w := by
    cases pb with
    | none => exact run_firstCells_none _ _ _ _ _
    | some a => exact run_firstCells_some w i.size 0 a 0 c' [] (by simp) (fun j v h => by simp at h)
  cases qa <;> simp [Builtin.append_, run_underlying ht, sizeOf, typeInfo, hi, Builtin.lenOf, hn, hf, storeCells]
/-- At the list of a plain region's operations: an append of no element. -/
theorem wpList_append_zero {P : Program} {w : World} {ops : Array Oper} {rest : List Oper} {o : Oper} {a : Act} {Q : Exit → Act → World → Prop} (hgd : o.guard = none) (s x : Operand) (t : TypeId)
    (ho : o.op = .call { callee := .builtin .append, args := #[s, x], argTypes := #[t, t] }) (e : TypeId) (i : TypeInfo) (ht : P.underlying t = some (.slice e)) (hi : P.info? e = some i)
    (qa pb : Option Addr) (n c c' z : Nat) (hs : a.eval s = .slice qa n c) (hx : a.eval x = .slice pb z c') (hz : z = 0) (hn : n ≤ c)
    (h : wpList P ops Q rest (a.put o.dst (.slice qa n c)) w) : wpList P ops Q (o :: rest) a w :=
  wpList_plain hgd fun _ hK => by
    subst hz
    have hr := run_append_zero P w t o.type e i ht hi qa pb n c c' hn
    unfold Oper.wp execOp
    simp only [ho, resolve, invoke, builtin, Sem.run_bind, Sem.run_pure, Result.andThen_ok, List.map_toArray, List.map_cons, List.map_nil, hs, hx, hr]
    exact hK _ _ h
end Go.Proofs.Ytldfkcldfjfohaa

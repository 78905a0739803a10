/-
  The walks of TableOnce, TableEnds and TableOldest.
-/
import Derived.Test.YtlomgbnggmaeeaaLaw5
namespace Go.Proofs.Ytlomgbnggmaeeaa
open Go.RowKit
set_option linter.unusedVariables false

theorem own_shape {w : World} {B : Nat} {e : TypeId} {v : Value} {n : Nat} {xs : List Value} (h : w.ownsRow B e 1 v n xs) : ∃ ao cap, v = .slice ao n cap := by
  rcases h.2 with ⟨rfl, h0⟩ | ⟨g, cap, cur, rfl, hg, hh, r⟩
  · exact ⟨none, 0, by rw [h0]⟩
  · exact ⟨_, cap, rfl⟩
theorem own_ints {w : World} {B : Nat} {e : TypeId} {ao : Option Addr} {n cap : Nat} {k : IntKind} {zs : List Int} (h : w.ownsRow B e 1 (.slice ao n cap) n (zs.map (Value.int k))) : Ints k w ao zs := by
  have hl : zs.length = n := by simpa using h.1
  by_cases h0 : zs = []
  · exact .inl h0
  · rcases h.2 with ⟨he, h00⟩ | ⟨g, cap', cur, he, hg, hh, r⟩
    · subst h00; exact .inl (List.length_eq_zero_iff.1 hl)
    · injection he with e1 e2 e3
      subst e1 e3
      refine .inr ⟨g, 0, rfl, fun i hi => ?_⟩
      rw [Nat.zero_add, h.cellAt i (by omega)]
      simp [hi]

/-- The states, and how often one came to an end: what TableOnce counts. -/
def Tally (st ends done : Int) : Prop := ((st = 1 ∨ st = 2) ∧ ends = 0 ∧ done = 0) ∨ ((st = 3 ∨ st = 4) ∧ ends = 1 ∧ done = 0) ∨ (st = 5 ∧ ends = 1 ∧ done = 1)
theorem Tally.step {st ends done to : Int} (h : Tally st ends done) (hc : can st to = true) : (to = 2 ∧ ends = 0 ∧ done = 0 ∧ Tally to ends done) ∨ ((to = 3 ∨ to = 4) ∧ ends = 0 ∧ done = 0 ∧ Tally to (ends + 1) done) ∨ (to = 5 ∧ ends = 1 ∧ done = 0 ∧ Tally to ends (done + 1)) := by
  rcases h with ⟨h | h, rfl, rfl⟩ | ⟨h | h, rfl, rfl⟩ | ⟨h, rfl, rfl⟩ <;> subst h <;> simp [can] at hc
  · rcases hc with rfl | rfl
    · exact .inl ⟨rfl, rfl, rfl, .inl ⟨.inr rfl, rfl, rfl⟩⟩
    · exact .inr (.inl ⟨.inr rfl, rfl, rfl, .inr (.inl ⟨.inr rfl, rfl, rfl⟩)⟩)
  · rcases hc with rfl | rfl
    · exact .inr (.inl ⟨.inl rfl, rfl, rfl, .inr (.inl ⟨.inl rfl, rfl, rfl⟩)⟩)
    · exact .inr (.inl ⟨.inr rfl, rfl, rfl, .inr (.inl ⟨.inr rfl, rfl, rfl⟩)⟩)
  · subst hc; exact .inr (.inr ⟨rfl, rfl, rfl, .inr (.inr ⟨rfl, rfl, rfl⟩)⟩)
  · subst hc; exact .inr (.inr ⟨rfl, rfl, rfl, .inr (.inr ⟨rfl, rfl, rfl⟩)⟩)
theorem turn1 (st to : Int) : turnErr [⟨1, 5, 0, st⟩] 1 to = (if can st to then 0 else 7) ∧ turnTs [⟨1, 5, 0, st⟩] 1 to = (if can st to then [⟨1, 5, 0, to⟩] else [⟨1, 5, 0, st⟩]) := by
  constructor
  · rfl
  · show (if can st to then _ else _) = _
    split <;> rfl

end Go.Proofs.Ytlomgbnggmaeeaa

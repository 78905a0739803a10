/-
  ModelGone: its plain steps; Collect in a law.
-/
import Derived.Test.YtcbhafddehipdaaMdSkew
import Derived.Test.YtcbhafddehipdaaMdColl
namespace Go.Proofs.Ytcbhafddehipdaa
open Go.RowKit
set_option linter.unusedVariables false
set_option linter.unusedSimpArgs false

/-- Collect, in a law. -/
theorem lw_collect {w0 w : World} {P : Nat → Prop} {m : Nat} {s : St} (h : LW w0 w P m s) :
    Calls Try.prog 34 #[.pointer (some ⟨m, 0, none⟩)] w fun e w' => e = .returned (.int .i64 ((s.l.length : Int) - (s.kept.length : Int))) ∧ LW w0 w' P m s.collect ∧ Only P w w' := by
  refine (md_collect h.mat).mono ?_
  rintro e w' ⟨he, h', o⟩
  exact ⟨he, h.step h' o, o⟩
def gn1 (a : Nat) : St := ((pairSt a 0).do_ 1 ⟨2, 5, 0, 1⟩).2.2
theorem gn1_eq (a : Nat) (ha : a < 3) : (pairSt a 0).do_ 1 ⟨2, 5, 0, 1⟩ = (⟨0, 0, [], 0, 0⟩, 0, gn1 a) := by
  refine do_split ?_
  match a, ha with
  | 0, _ => (show _ = _; kernel_rfl)
  | 1, _ => (show _ = _; kernel_rfl)
  | 2, _ => (show _ = _; kernel_rfl)
def gn2 (a : Nat) : St := ((gn1 a).do_ 1 ⟨4, 5, 0, 0⟩).2.2
theorem gn2_eq (a : Nat) (ha : a < 3) : (gn1 a).do_ 1 ⟨4, 5, 0, 0⟩ = (⟨0, 0, [], 0, 0⟩, 0, gn2 a) := by
  refine do_split ?_
  match a, ha with
  | 0, _ => (show _ = _; kernel_rfl)
  | 1, _ => (show _ = _; kernel_rfl)
  | 2, _ => (show _ = _; kernel_rfl)
def gn3 (a : Nat) : St := ((gn2 a).do_ 1 ⟨6, 0, 0, 0⟩).2.2
theorem gn3_eq (a : Nat) (ha : a < 3) : (gn2 a).do_ 1 ⟨6, 0, 0, 0⟩ = (⟨0, 0, [], 3, 0⟩, 0, gn3 a) := by
  refine do_split ?_
  match a, ha with
  | 0, _ => (show _ = _; kernel_rfl)
  | 1, _ => (show _ = _; kernel_rfl)
  | 2, _ => (show _ = _; kernel_rfl)
def gc3 (a : Nat) : St := (gn3 a).collect
theorem gn3_none (a : Nat) (ha : a < 3) : ((gn3 a).l.length : Int) - ((gn3 a).kept.length : Int) = 0 := by
  match a, ha with
  | 0, _ => (show _ = _; kernel_rfl)
  | 1, _ => (show _ = _; kernel_rfl)
  | 2, _ => (show _ = _; kernel_rfl)
def gn4 (a : Nat) : St := ((gn3 a).do_ 0 ⟨1, 5, 0, 0⟩).2.2
theorem gn4_eq (a : Nat) (ha : a < 3) : (gn3 a).do_ 0 ⟨1, 5, 0, 0⟩ = (⟨11, 0, [], 0, 0⟩, 0, gn4 a) := by
  refine do_split ?_
  match a, ha with
  | 0, _ => (show _ = _; kernel_rfl)
  | 1, _ => (show _ = _; kernel_rfl)
  | 2, _ => (show _ = _; kernel_rfl)
def gn5 (a : Nat) : St := ((gn4 a).begin 2 ((a : Int) + 1)).2.2
theorem gn5_eq (a : Nat) (ha : a < 3) : (gn4 a).begin 2 ((a : Int) + 1) = (4, 0, gn5 a) := by
  refine do_split ?_
  match a, ha with
  | 0, _ => (show _ = _; kernel_rfl)
  | 1, _ => (show _ = _; kernel_rfl)
  | 2, _ => (show _ = _; kernel_rfl)
def gn6 (a : Nat) : St := ((gn5 a).do_ 0 ⟨2, 5, 0, 2⟩).2.2
theorem gn6_eq (a : Nat) (ha : a < 3) : (gn5 a).do_ 0 ⟨2, 5, 0, 2⟩ = (⟨14, 0, [], 4, 2⟩, 0, gn6 a) := by
  refine do_split ?_
  match a, ha with
  | 0, _ => (show _ = _; kernel_rfl)
  | 1, _ => (show _ = _; kernel_rfl)
  | 2, _ => (show _ = _; kernel_rfl)
def gn7 (a : Nat) : St := ((gn6 a).do_ 2 ⟨2, 5, 0, 3⟩).2.2
theorem gn7_eq (a : Nat) (ha : a < 3) : (gn6 a).do_ 2 ⟨2, 5, 0, 3⟩ = (⟨0, 0, [], 0, 0⟩, 0, gn7 a) := by
  refine do_split ?_
  match a, ha with
  | 0, _ => (show _ = _; kernel_rfl)
  | 1, _ => (show _ = _; kernel_rfl)
  | 2, _ => (show _ = _; kernel_rfl)
def gn8 (a : Nat) : St := ((gn7 a).do_ 2 ⟨6, 0, 0, 0⟩).2.2
theorem gn8_eq (a : Nat) (ha : a < 3) : (gn7 a).do_ 2 ⟨6, 0, 0, 0⟩ = (⟨0, 0, [], 3, 0⟩, 0, gn8 a) := by
  refine do_split ?_
  match a, ha with
  | 0, _ => (show _ = _; kernel_rfl)
  | 1, _ => (show _ = _; kernel_rfl)
  | 2, _ => (show _ = _; kernel_rfl)
theorem gn8_pairs (a : Nat) (ha : a < 3) : ((gn8 a).pairs (gn8 a).now).length = 3 := by
  match a, ha with
  | 0, _ => (show _ = _; kernel_rfl)
  | 1, _ => (show _ = _; kernel_rfl)
  | 2, _ => (show _ = _; kernel_rfl)
def gc4 (a : Nat) : St := ((gc3 a).do_ 0 ⟨1, 5, 0, 0⟩).2.2
theorem gc4_eq (a : Nat) (ha : a < 3) : (gc3 a).do_ 0 ⟨1, 5, 0, 0⟩ = (⟨11, 0, [], 0, 0⟩, 0, gc4 a) := by
  refine do_split ?_
  match a, ha with
  | 0, _ => (show _ = _; kernel_rfl)
  | 1, _ => (show _ = _; kernel_rfl)
  | 2, _ => (show _ = _; kernel_rfl)
def gc5 (a : Nat) : St := ((gc4 a).begin 2 ((a : Int) + 1)).2.2
theorem gc5_eq (a : Nat) (ha : a < 3) : (gc4 a).begin 2 ((a : Int) + 1) = (4, 0, gc5 a) := by
  refine do_split ?_
  match a, ha with
  | 0, _ => (show _ = _; kernel_rfl)
  | 1, _ => (show _ = _; kernel_rfl)
  | 2, _ => (show _ = _; kernel_rfl)
def gc6 (a : Nat) : St := ((gc5 a).do_ 0 ⟨2, 5, 0, 2⟩).2.2
theorem gc6_eq (a : Nat) (ha : a < 3) : (gc5 a).do_ 0 ⟨2, 5, 0, 2⟩ = (⟨14, 0, [], 4, 2⟩, 0, gc6 a) := by
  refine do_split ?_
  match a, ha with
  | 0, _ => (show _ = _; kernel_rfl)
  | 1, _ => (show _ = _; kernel_rfl)
  | 2, _ => (show _ = _; kernel_rfl)
def gc7 (a : Nat) : St := ((gc6 a).do_ 2 ⟨2, 5, 0, 3⟩).2.2
theorem gc7_eq (a : Nat) (ha : a < 3) : (gc6 a).do_ 2 ⟨2, 5, 0, 3⟩ = (⟨0, 0, [], 0, 0⟩, 0, gc7 a) := by
  refine do_split ?_
  match a, ha with
  | 0, _ => (show _ = _; kernel_rfl)
  | 1, _ => (show _ = _; kernel_rfl)
  | 2, _ => (show _ = _; kernel_rfl)
def gc8 (a : Nat) : St := ((gc7 a).do_ 2 ⟨6, 0, 0, 0⟩).2.2
theorem gc8_eq (a : Nat) (ha : a < 3) : (gc7 a).do_ 2 ⟨6, 0, 0, 0⟩ = (⟨0, 0, [], 3, 0⟩, 0, gc8 a) := by
  refine do_split ?_
  match a, ha with
  | 0, _ => (show _ = _; kernel_rfl)
  | 1, _ => (show _ = _; kernel_rfl)
  | 2, _ => (show _ = _; kernel_rfl)
theorem gc8_pairs (a : Nat) (ha : a < 3) : ((gc8 a).pairs (gc8 a).now).length = 3 := by
  match a, ha with
  | 0, _ => (show _ = _; kernel_rfl)
  | 1, _ => (show _ = _; kernel_rfl)
  | 2, _ => (show _ = _; kernel_rfl)
end Go.Proofs.Ytcbhafddehipdaa

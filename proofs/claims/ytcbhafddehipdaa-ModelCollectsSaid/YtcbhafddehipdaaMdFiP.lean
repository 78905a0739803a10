/-
  ModelFirst: its plain steps.
-/
import Derived.Test.YtcbhafddehipdaaMdSkew
import Derived.Test.YtcbhafddehipdaaMdLive
namespace Go.Proofs.Ytcbhafddehipdaa
open Go.RowKit
set_option linter.unusedVariables false
set_option linter.unusedSimpArgs false

/-- Live, in a law. -/
theorem lw_live {w0 w : World} {P : Nat → Prop} {m : Nat} {s : St} (h : LW w0 w P m s) {n : Nat} (hn : s.live.length = n) :
    Calls Try.prog 32 #[.pointer (some ⟨m, 0, none⟩)] w fun e w' => ∃ (a : Option Addr) (c : Nat), e = .returned (.slice a n c) ∧ LW w0 w' P m s ∧ Only0 w w' := by
  refine (md_live h.mat).mono ?_
  rintro e w' ⟨⟨a, c, he⟩, o⟩
  rw [hn] at he
  exact ⟨a, c, he, h.only0 o, o⟩
def fi0_1 (a b : Nat) : St := ((pairSt a b).do_ 0 ⟨3, 1, 0, 5⟩).2.2
theorem fi0_1_eq (a b : Nat) (ha : a < 3) (hb : b < 3) : (pairSt a b).do_ 0 ⟨3, 1, 0, 5⟩ = (⟨0, 0, [], 0, 0⟩, 0, fi0_1 a b) := by
  refine do_split ?_
  match a, ha, b, hb with
  | 0, _, 0, _ => (show _ = _; kernel_rfl)
  | 0, _, 1, _ => (show _ = _; kernel_rfl)
  | 0, _, 2, _ => (show _ = _; kernel_rfl)
  | 1, _, 0, _ => (show _ = _; kernel_rfl)
  | 1, _, 1, _ => (show _ = _; kernel_rfl)
  | 1, _, 2, _ => (show _ = _; kernel_rfl)
  | 2, _, 0, _ => (show _ = _; kernel_rfl)
  | 2, _, 1, _ => (show _ = _; kernel_rfl)
  | 2, _, 2, _ => (show _ = _; kernel_rfl)
def fi00_3 (a b : Nat) : St := ((fi0_1 a b).do_ 1 ⟨3, 1, 0, 6⟩).2.2
theorem fi00_3_eq (a b : Nat) (ha : a < 3) (hb : b < 3) : (fi0_1 a b).do_ 1 ⟨3, 1, 0, 6⟩ = (⟨14, 0, [], 4, 2⟩, 0, fi00_3 a b) := by
  refine do_split ?_
  match a, ha, b, hb with
  | 0, _, 0, _ => (show _ = _; kernel_rfl)
  | 0, _, 1, _ => (show _ = _; kernel_rfl)
  | 0, _, 2, _ => (show _ = _; kernel_rfl)
  | 1, _, 0, _ => (show _ = _; kernel_rfl)
  | 1, _, 1, _ => (show _ = _; kernel_rfl)
  | 1, _, 2, _ => (show _ = _; kernel_rfl)
  | 2, _, 0, _ => (show _ = _; kernel_rfl)
  | 2, _, 1, _ => (show _ = _; kernel_rfl)
  | 2, _, 2, _ => (show _ = _; kernel_rfl)
theorem fi00_live (a b : Nat) (ha : a < 3) (hb : b < 3) : (fi00_3 a b).live.length = 1 := by
  match a, ha, b, hb with
  | 0, _, 0, _ => (show _ = _; kernel_rfl)
  | 0, _, 1, _ => (show _ = _; kernel_rfl)
  | 0, _, 2, _ => (show _ = _; kernel_rfl)
  | 1, _, 0, _ => (show _ = _; kernel_rfl)
  | 1, _, 1, _ => (show _ = _; kernel_rfl)
  | 1, _, 2, _ => (show _ = _; kernel_rfl)
  | 2, _, 0, _ => (show _ = _; kernel_rfl)
  | 2, _, 1, _ => (show _ = _; kernel_rfl)
  | 2, _, 2, _ => (show _ = _; kernel_rfl)
def fi01_2 (a b : Nat) : St := ((fi0_1 a b).do_ 0 ⟨6, 0, 0, 0⟩).2.2
theorem fi01_2_eq (a b : Nat) (ha : a < 3) (hb : b < 3) : (fi0_1 a b).do_ 0 ⟨6, 0, 0, 0⟩ = (⟨0, 0, [], 3, 0⟩, 0, fi01_2 a b) := by
  refine do_split ?_
  match a, ha, b, hb with
  | 0, _, 0, _ => (show _ = _; kernel_rfl)
  | 0, _, 1, _ => (show _ = _; kernel_rfl)
  | 0, _, 2, _ => (show _ = _; kernel_rfl)
  | 1, _, 0, _ => (show _ = _; kernel_rfl)
  | 1, _, 1, _ => (show _ = _; kernel_rfl)
  | 1, _, 2, _ => (show _ = _; kernel_rfl)
  | 2, _, 0, _ => (show _ = _; kernel_rfl)
  | 2, _, 1, _ => (show _ = _; kernel_rfl)
  | 2, _, 2, _ => (show _ = _; kernel_rfl)
def fi01_3 (a b : Nat) : St := ((fi01_2 a b).do_ 1 ⟨3, 1, 0, 6⟩).2.2
theorem fi01_3_eq (a b : Nat) (ha : a < 3) (hb : b < 3) : (fi01_2 a b).do_ 1 ⟨3, 1, 0, 6⟩ = (⟨14, 0, [], 4, 2⟩, 0, fi01_3 a b) := by
  refine do_split ?_
  match a, ha, b, hb with
  | 0, _, 0, _ => (show _ = _; kernel_rfl)
  | 0, _, 1, _ => (show _ = _; kernel_rfl)
  | 0, _, 2, _ => (show _ = _; kernel_rfl)
  | 1, _, 0, _ => (show _ = _; kernel_rfl)
  | 1, _, 1, _ => (show _ = _; kernel_rfl)
  | 1, _, 2, _ => (show _ = _; kernel_rfl)
  | 2, _, 0, _ => (show _ = _; kernel_rfl)
  | 2, _, 1, _ => (show _ = _; kernel_rfl)
  | 2, _, 2, _ => (show _ = _; kernel_rfl)
theorem fi01_live (a b : Nat) (ha : a < 3) (hb : b < 3) : (fi01_3 a b).live.length = 0 := by
  match a, ha, b, hb with
  | 0, _, 0, _ => (show _ = _; kernel_rfl)
  | 0, _, 1, _ => (show _ = _; kernel_rfl)
  | 0, _, 2, _ => (show _ = _; kernel_rfl)
  | 1, _, 0, _ => (show _ = _; kernel_rfl)
  | 1, _, 1, _ => (show _ = _; kernel_rfl)
  | 1, _, 2, _ => (show _ = _; kernel_rfl)
  | 2, _, 0, _ => (show _ = _; kernel_rfl)
  | 2, _, 1, _ => (show _ = _; kernel_rfl)
  | 2, _, 2, _ => (show _ = _; kernel_rfl)
def fi02_2 (a b : Nat) : St := ((fi0_1 a b).do_ 0 ⟨7, 0, 0, 0⟩).2.2
theorem fi02_2_eq (a b : Nat) (ha : a < 3) (hb : b < 3) : (fi0_1 a b).do_ 0 ⟨7, 0, 0, 0⟩ = (⟨0, 0, [], 4, 1⟩, 0, fi02_2 a b) := by
  refine do_split ?_
  match a, ha, b, hb with
  | 0, _, 0, _ => (show _ = _; kernel_rfl)
  | 0, _, 1, _ => (show _ = _; kernel_rfl)
  | 0, _, 2, _ => (show _ = _; kernel_rfl)
  | 1, _, 0, _ => (show _ = _; kernel_rfl)
  | 1, _, 1, _ => (show _ = _; kernel_rfl)
  | 1, _, 2, _ => (show _ = _; kernel_rfl)
  | 2, _, 0, _ => (show _ = _; kernel_rfl)
  | 2, _, 1, _ => (show _ = _; kernel_rfl)
  | 2, _, 2, _ => (show _ = _; kernel_rfl)
def fi02_3 (a b : Nat) : St := ((fi02_2 a b).do_ 1 ⟨3, 1, 0, 6⟩).2.2
theorem fi02_3_eq (a b : Nat) (ha : a < 3) (hb : b < 3) : (fi02_2 a b).do_ 1 ⟨3, 1, 0, 6⟩ = (⟨0, 0, [], 0, 0⟩, 0, fi02_3 a b) := by
  refine do_split ?_
  match a, ha, b, hb with
  | 0, _, 0, _ => (show _ = _; kernel_rfl)
  | 0, _, 1, _ => (show _ = _; kernel_rfl)
  | 0, _, 2, _ => (show _ = _; kernel_rfl)
  | 1, _, 0, _ => (show _ = _; kernel_rfl)
  | 1, _, 1, _ => (show _ = _; kernel_rfl)
  | 1, _, 2, _ => (show _ = _; kernel_rfl)
  | 2, _, 0, _ => (show _ = _; kernel_rfl)
  | 2, _, 1, _ => (show _ = _; kernel_rfl)
  | 2, _, 2, _ => (show _ = _; kernel_rfl)
def fi02_4 (a b : Nat) : St := ((fi02_3 a b).do_ 1 ⟨6, 0, 0, 0⟩).2.2
theorem fi02_4_eq (a b : Nat) (ha : a < 3) (hb : b < 3) : (fi02_3 a b).do_ 1 ⟨6, 0, 0, 0⟩ = (⟨0, 0, [], 3, 0⟩, 0, fi02_4 a b) := by
  refine do_split ?_
  match a, ha, b, hb with
  | 0, _, 0, _ => (show _ = _; kernel_rfl)
  | 0, _, 1, _ => (show _ = _; kernel_rfl)
  | 0, _, 2, _ => (show _ = _; kernel_rfl)
  | 1, _, 0, _ => (show _ = _; kernel_rfl)
  | 1, _, 1, _ => (show _ = _; kernel_rfl)
  | 1, _, 2, _ => (show _ = _; kernel_rfl)
  | 2, _, 0, _ => (show _ = _; kernel_rfl)
  | 2, _, 1, _ => (show _ = _; kernel_rfl)
  | 2, _, 2, _ => (show _ = _; kernel_rfl)
def fi1_1 (a b : Nat) : St := ((pairSt a b).do_ 0 ⟨4, 1, 0, 0⟩).2.2
theorem fi1_1_eq (a b : Nat) (ha : a < 3) (hb : b < 3) : (pairSt a b).do_ 0 ⟨4, 1, 0, 0⟩ = (⟨0, 0, [], 0, 0⟩, 0, fi1_1 a b) := by
  refine do_split ?_
  match a, ha, b, hb with
  | 0, _, 0, _ => (show _ = _; kernel_rfl)
  | 0, _, 1, _ => (show _ = _; kernel_rfl)
  | 0, _, 2, _ => (show _ = _; kernel_rfl)
  | 1, _, 0, _ => (show _ = _; kernel_rfl)
  | 1, _, 1, _ => (show _ = _; kernel_rfl)
  | 1, _, 2, _ => (show _ = _; kernel_rfl)
  | 2, _, 0, _ => (show _ = _; kernel_rfl)
  | 2, _, 1, _ => (show _ = _; kernel_rfl)
  | 2, _, 2, _ => (show _ = _; kernel_rfl)
def fi10_3 (a b : Nat) : St := ((fi1_1 a b).do_ 1 ⟨3, 1, 0, 6⟩).2.2
theorem fi10_3_eq (a b : Nat) (ha : a < 3) (hb : b < 3) : (fi1_1 a b).do_ 1 ⟨3, 1, 0, 6⟩ = (⟨14, 0, [], 4, 2⟩, 0, fi10_3 a b) := by
  refine do_split ?_
  match a, ha, b, hb with
  | 0, _, 0, _ => (show _ = _; kernel_rfl)
  | 0, _, 1, _ => (show _ = _; kernel_rfl)
  | 0, _, 2, _ => (show _ = _; kernel_rfl)
  | 1, _, 0, _ => (show _ = _; kernel_rfl)
  | 1, _, 1, _ => (show _ = _; kernel_rfl)
  | 1, _, 2, _ => (show _ = _; kernel_rfl)
  | 2, _, 0, _ => (show _ = _; kernel_rfl)
  | 2, _, 1, _ => (show _ = _; kernel_rfl)
  | 2, _, 2, _ => (show _ = _; kernel_rfl)
theorem fi10_live (a b : Nat) (ha : a < 3) (hb : b < 3) : (fi10_3 a b).live.length = 1 := by
  match a, ha, b, hb with
  | 0, _, 0, _ => (show _ = _; kernel_rfl)
  | 0, _, 1, _ => (show _ = _; kernel_rfl)
  | 0, _, 2, _ => (show _ = _; kernel_rfl)
  | 1, _, 0, _ => (show _ = _; kernel_rfl)
  | 1, _, 1, _ => (show _ = _; kernel_rfl)
  | 1, _, 2, _ => (show _ = _; kernel_rfl)
  | 2, _, 0, _ => (show _ = _; kernel_rfl)
  | 2, _, 1, _ => (show _ = _; kernel_rfl)
  | 2, _, 2, _ => (show _ = _; kernel_rfl)
def fi11_2 (a b : Nat) : St := ((fi1_1 a b).do_ 0 ⟨6, 0, 0, 0⟩).2.2
theorem fi11_2_eq (a b : Nat) (ha : a < 3) (hb : b < 3) : (fi1_1 a b).do_ 0 ⟨6, 0, 0, 0⟩ = (⟨0, 0, [], 3, 0⟩, 0, fi11_2 a b) := by
  refine do_split ?_
  match a, ha, b, hb with
  | 0, _, 0, _ => (show _ = _; kernel_rfl)
  | 0, _, 1, _ => (show _ = _; kernel_rfl)
  | 0, _, 2, _ => (show _ = _; kernel_rfl)
  | 1, _, 0, _ => (show _ = _; kernel_rfl)
  | 1, _, 1, _ => (show _ = _; kernel_rfl)
  | 1, _, 2, _ => (show _ = _; kernel_rfl)
  | 2, _, 0, _ => (show _ = _; kernel_rfl)
  | 2, _, 1, _ => (show _ = _; kernel_rfl)
  | 2, _, 2, _ => (show _ = _; kernel_rfl)
def fi11_3 (a b : Nat) : St := ((fi11_2 a b).do_ 1 ⟨3, 1, 0, 6⟩).2.2
theorem fi11_3_eq (a b : Nat) (ha : a < 3) (hb : b < 3) : (fi11_2 a b).do_ 1 ⟨3, 1, 0, 6⟩ = (⟨14, 0, [], 4, 2⟩, 0, fi11_3 a b) := by
  refine do_split ?_
  match a, ha, b, hb with
  | 0, _, 0, _ => (show _ = _; kernel_rfl)
  | 0, _, 1, _ => (show _ = _; kernel_rfl)
  | 0, _, 2, _ => (show _ = _; kernel_rfl)
  | 1, _, 0, _ => (show _ = _; kernel_rfl)
  | 1, _, 1, _ => (show _ = _; kernel_rfl)
  | 1, _, 2, _ => (show _ = _; kernel_rfl)
  | 2, _, 0, _ => (show _ = _; kernel_rfl)
  | 2, _, 1, _ => (show _ = _; kernel_rfl)
  | 2, _, 2, _ => (show _ = _; kernel_rfl)
theorem fi11_live (a b : Nat) (ha : a < 3) (hb : b < 3) : (fi11_3 a b).live.length = 0 := by
  match a, ha, b, hb with
  | 0, _, 0, _ => (show _ = _; kernel_rfl)
  | 0, _, 1, _ => (show _ = _; kernel_rfl)
  | 0, _, 2, _ => (show _ = _; kernel_rfl)
  | 1, _, 0, _ => (show _ = _; kernel_rfl)
  | 1, _, 1, _ => (show _ = _; kernel_rfl)
  | 1, _, 2, _ => (show _ = _; kernel_rfl)
  | 2, _, 0, _ => (show _ = _; kernel_rfl)
  | 2, _, 1, _ => (show _ = _; kernel_rfl)
  | 2, _, 2, _ => (show _ = _; kernel_rfl)
def fi12_2 (a b : Nat) : St := ((fi1_1 a b).do_ 0 ⟨7, 0, 0, 0⟩).2.2
theorem fi12_2_eq (a b : Nat) (ha : a < 3) (hb : b < 3) : (fi1_1 a b).do_ 0 ⟨7, 0, 0, 0⟩ = (⟨0, 0, [], 4, 1⟩, 0, fi12_2 a b) := by
  refine do_split ?_
  match a, ha, b, hb with
  | 0, _, 0, _ => (show _ = _; kernel_rfl)
  | 0, _, 1, _ => (show _ = _; kernel_rfl)
  | 0, _, 2, _ => (show _ = _; kernel_rfl)
  | 1, _, 0, _ => (show _ = _; kernel_rfl)
  | 1, _, 1, _ => (show _ = _; kernel_rfl)
  | 1, _, 2, _ => (show _ = _; kernel_rfl)
  | 2, _, 0, _ => (show _ = _; kernel_rfl)
  | 2, _, 1, _ => (show _ = _; kernel_rfl)
  | 2, _, 2, _ => (show _ = _; kernel_rfl)
def fi12_3 (a b : Nat) : St := ((fi12_2 a b).do_ 1 ⟨3, 1, 0, 6⟩).2.2
theorem fi12_3_eq (a b : Nat) (ha : a < 3) (hb : b < 3) : (fi12_2 a b).do_ 1 ⟨3, 1, 0, 6⟩ = (⟨0, 0, [], 0, 0⟩, 0, fi12_3 a b) := by
  refine do_split ?_
  match a, ha, b, hb with
  | 0, _, 0, _ => (show _ = _; kernel_rfl)
  | 0, _, 1, _ => (show _ = _; kernel_rfl)
  | 0, _, 2, _ => (show _ = _; kernel_rfl)
  | 1, _, 0, _ => (show _ = _; kernel_rfl)
  | 1, _, 1, _ => (show _ = _; kernel_rfl)
  | 1, _, 2, _ => (show _ = _; kernel_rfl)
  | 2, _, 0, _ => (show _ = _; kernel_rfl)
  | 2, _, 1, _ => (show _ = _; kernel_rfl)
  | 2, _, 2, _ => (show _ = _; kernel_rfl)
def fi12_4 (a b : Nat) : St := ((fi12_3 a b).do_ 1 ⟨6, 0, 0, 0⟩).2.2
theorem fi12_4_eq (a b : Nat) (ha : a < 3) (hb : b < 3) : (fi12_3 a b).do_ 1 ⟨6, 0, 0, 0⟩ = (⟨0, 0, [], 3, 0⟩, 0, fi12_4 a b) := by
  refine do_split ?_
  match a, ha, b, hb with
  | 0, _, 0, _ => (show _ = _; kernel_rfl)
  | 0, _, 1, _ => (show _ = _; kernel_rfl)
  | 0, _, 2, _ => (show _ = _; kernel_rfl)
  | 1, _, 0, _ => (show _ = _; kernel_rfl)
  | 1, _, 1, _ => (show _ = _; kernel_rfl)
  | 1, _, 2, _ => (show _ = _; kernel_rfl)
  | 2, _, 0, _ => (show _ = _; kernel_rfl)
  | 2, _, 1, _ => (show _ = _; kernel_rfl)
  | 2, _, 2, _ => (show _ = _; kernel_rfl)
def fi2_1 (a b : Nat) : St := ((pairSt a b).do_ 0 ⟨3, 1, 0, 5⟩).2.2
theorem fi2_1_eq (a b : Nat) (ha : a < 3) (hb : b < 3) : (pairSt a b).do_ 0 ⟨3, 1, 0, 5⟩ = (⟨0, 0, [], 0, 0⟩, 0, fi2_1 a b) := by
  refine do_split ?_
  match a, ha, b, hb with
  | 0, _, 0, _ => (show _ = _; kernel_rfl)
  | 0, _, 1, _ => (show _ = _; kernel_rfl)
  | 0, _, 2, _ => (show _ = _; kernel_rfl)
  | 1, _, 0, _ => (show _ = _; kernel_rfl)
  | 1, _, 1, _ => (show _ = _; kernel_rfl)
  | 1, _, 2, _ => (show _ = _; kernel_rfl)
  | 2, _, 0, _ => (show _ = _; kernel_rfl)
  | 2, _, 1, _ => (show _ = _; kernel_rfl)
  | 2, _, 2, _ => (show _ = _; kernel_rfl)
def fi20_3 (a b : Nat) : St := ((fi2_1 a b).do_ 1 ⟨4, 1, 0, 0⟩).2.2
theorem fi20_3_eq (a b : Nat) (ha : a < 3) (hb : b < 3) : (fi2_1 a b).do_ 1 ⟨4, 1, 0, 0⟩ = (⟨14, 0, [], 4, 2⟩, 0, fi20_3 a b) := by
  refine do_split ?_
  match a, ha, b, hb with
  | 0, _, 0, _ => (show _ = _; kernel_rfl)
  | 0, _, 1, _ => (show _ = _; kernel_rfl)
  | 0, _, 2, _ => (show _ = _; kernel_rfl)
  | 1, _, 0, _ => (show _ = _; kernel_rfl)
  | 1, _, 1, _ => (show _ = _; kernel_rfl)
  | 1, _, 2, _ => (show _ = _; kernel_rfl)
  | 2, _, 0, _ => (show _ = _; kernel_rfl)
  | 2, _, 1, _ => (show _ = _; kernel_rfl)
  | 2, _, 2, _ => (show _ = _; kernel_rfl)
theorem fi20_live (a b : Nat) (ha : a < 3) (hb : b < 3) : (fi20_3 a b).live.length = 1 := by
  match a, ha, b, hb with
  | 0, _, 0, _ => (show _ = _; kernel_rfl)
  | 0, _, 1, _ => (show _ = _; kernel_rfl)
  | 0, _, 2, _ => (show _ = _; kernel_rfl)
  | 1, _, 0, _ => (show _ = _; kernel_rfl)
  | 1, _, 1, _ => (show _ = _; kernel_rfl)
  | 1, _, 2, _ => (show _ = _; kernel_rfl)
  | 2, _, 0, _ => (show _ = _; kernel_rfl)
  | 2, _, 1, _ => (show _ = _; kernel_rfl)
  | 2, _, 2, _ => (show _ = _; kernel_rfl)
def fi21_2 (a b : Nat) : St := ((fi2_1 a b).do_ 0 ⟨6, 0, 0, 0⟩).2.2
theorem fi21_2_eq (a b : Nat) (ha : a < 3) (hb : b < 3) : (fi2_1 a b).do_ 0 ⟨6, 0, 0, 0⟩ = (⟨0, 0, [], 3, 0⟩, 0, fi21_2 a b) := by
  refine do_split ?_
  match a, ha, b, hb with
  | 0, _, 0, _ => (show _ = _; kernel_rfl)
  | 0, _, 1, _ => (show _ = _; kernel_rfl)
  | 0, _, 2, _ => (show _ = _; kernel_rfl)
  | 1, _, 0, _ => (show _ = _; kernel_rfl)
  | 1, _, 1, _ => (show _ = _; kernel_rfl)
  | 1, _, 2, _ => (show _ = _; kernel_rfl)
  | 2, _, 0, _ => (show _ = _; kernel_rfl)
  | 2, _, 1, _ => (show _ = _; kernel_rfl)
  | 2, _, 2, _ => (show _ = _; kernel_rfl)
def fi21_3 (a b : Nat) : St := ((fi21_2 a b).do_ 1 ⟨4, 1, 0, 0⟩).2.2
theorem fi21_3_eq (a b : Nat) (ha : a < 3) (hb : b < 3) : (fi21_2 a b).do_ 1 ⟨4, 1, 0, 0⟩ = (⟨14, 0, [], 4, 2⟩, 0, fi21_3 a b) := by
  refine do_split ?_
  match a, ha, b, hb with
  | 0, _, 0, _ => (show _ = _; kernel_rfl)
  | 0, _, 1, _ => (show _ = _; kernel_rfl)
  | 0, _, 2, _ => (show _ = _; kernel_rfl)
  | 1, _, 0, _ => (show _ = _; kernel_rfl)
  | 1, _, 1, _ => (show _ = _; kernel_rfl)
  | 1, _, 2, _ => (show _ = _; kernel_rfl)
  | 2, _, 0, _ => (show _ = _; kernel_rfl)
  | 2, _, 1, _ => (show _ = _; kernel_rfl)
  | 2, _, 2, _ => (show _ = _; kernel_rfl)
theorem fi21_live (a b : Nat) (ha : a < 3) (hb : b < 3) : (fi21_3 a b).live.length = 0 := by
  match a, ha, b, hb with
  | 0, _, 0, _ => (show _ = _; kernel_rfl)
  | 0, _, 1, _ => (show _ = _; kernel_rfl)
  | 0, _, 2, _ => (show _ = _; kernel_rfl)
  | 1, _, 0, _ => (show _ = _; kernel_rfl)
  | 1, _, 1, _ => (show _ = _; kernel_rfl)
  | 1, _, 2, _ => (show _ = _; kernel_rfl)
  | 2, _, 0, _ => (show _ = _; kernel_rfl)
  | 2, _, 1, _ => (show _ = _; kernel_rfl)
  | 2, _, 2, _ => (show _ = _; kernel_rfl)
def fi22_2 (a b : Nat) : St := ((fi2_1 a b).do_ 0 ⟨7, 0, 0, 0⟩).2.2
theorem fi22_2_eq (a b : Nat) (ha : a < 3) (hb : b < 3) : (fi2_1 a b).do_ 0 ⟨7, 0, 0, 0⟩ = (⟨0, 0, [], 4, 1⟩, 0, fi22_2 a b) := by
  refine do_split ?_
  match a, ha, b, hb with
  | 0, _, 0, _ => (show _ = _; kernel_rfl)
  | 0, _, 1, _ => (show _ = _; kernel_rfl)
  | 0, _, 2, _ => (show _ = _; kernel_rfl)
  | 1, _, 0, _ => (show _ = _; kernel_rfl)
  | 1, _, 1, _ => (show _ = _; kernel_rfl)
  | 1, _, 2, _ => (show _ = _; kernel_rfl)
  | 2, _, 0, _ => (show _ = _; kernel_rfl)
  | 2, _, 1, _ => (show _ = _; kernel_rfl)
  | 2, _, 2, _ => (show _ = _; kernel_rfl)
def fi22_3 (a b : Nat) : St := ((fi22_2 a b).do_ 1 ⟨4, 1, 0, 0⟩).2.2
theorem fi22_3_eq (a b : Nat) (ha : a < 3) (hb : b < 3) : (fi22_2 a b).do_ 1 ⟨4, 1, 0, 0⟩ = (⟨0, 0, [], 0, 0⟩, 0, fi22_3 a b) := by
  refine do_split ?_
  match a, ha, b, hb with
  | 0, _, 0, _ => (show _ = _; kernel_rfl)
  | 0, _, 1, _ => (show _ = _; kernel_rfl)
  | 0, _, 2, _ => (show _ = _; kernel_rfl)
  | 1, _, 0, _ => (show _ = _; kernel_rfl)
  | 1, _, 1, _ => (show _ = _; kernel_rfl)
  | 1, _, 2, _ => (show _ = _; kernel_rfl)
  | 2, _, 0, _ => (show _ = _; kernel_rfl)
  | 2, _, 1, _ => (show _ = _; kernel_rfl)
  | 2, _, 2, _ => (show _ = _; kernel_rfl)
def fi22_4 (a b : Nat) : St := ((fi22_3 a b).do_ 1 ⟨6, 0, 0, 0⟩).2.2
theorem fi22_4_eq (a b : Nat) (ha : a < 3) (hb : b < 3) : (fi22_3 a b).do_ 1 ⟨6, 0, 0, 0⟩ = (⟨0, 0, [], 3, 0⟩, 0, fi22_4 a b) := by
  refine do_split ?_
  match a, ha, b, hb with
  | 0, _, 0, _ => (show _ = _; kernel_rfl)
  | 0, _, 1, _ => (show _ = _; kernel_rfl)
  | 0, _, 2, _ => (show _ = _; kernel_rfl)
  | 1, _, 0, _ => (show _ = _; kernel_rfl)
  | 1, _, 1, _ => (show _ = _; kernel_rfl)
  | 1, _, 2, _ => (show _ = _; kernel_rfl)
  | 2, _, 0, _ => (show _ = _; kernel_rfl)
  | 2, _, 1, _ => (show _ = _; kernel_rfl)
  | 2, _, 2, _ => (show _ = _; kernel_rfl)
def fi3_1 (a b : Nat) : St := ((pairSt a b).do_ 0 ⟨2, 3, 0, 5⟩).2.2
theorem fi3_1_eq (a b : Nat) (ha : a < 3) (hb : b < 3) : (pairSt a b).do_ 0 ⟨2, 3, 0, 5⟩ = (⟨0, 0, [], 0, 0⟩, 0, fi3_1 a b) := by
  refine do_split ?_
  match a, ha, b, hb with
  | 0, _, 0, _ => (show _ = _; kernel_rfl)
  | 0, _, 1, _ => (show _ = _; kernel_rfl)
  | 0, _, 2, _ => (show _ = _; kernel_rfl)
  | 1, _, 0, _ => (show _ = _; kernel_rfl)
  | 1, _, 1, _ => (show _ = _; kernel_rfl)
  | 1, _, 2, _ => (show _ = _; kernel_rfl)
  | 2, _, 0, _ => (show _ = _; kernel_rfl)
  | 2, _, 1, _ => (show _ = _; kernel_rfl)
  | 2, _, 2, _ => (show _ = _; kernel_rfl)
def fi30_3 (a b : Nat) : St := ((fi3_1 a b).do_ 1 ⟨2, 3, 0, 6⟩).2.2
theorem fi30_3_eq (a b : Nat) (ha : a < 3) (hb : b < 3) : (fi3_1 a b).do_ 1 ⟨2, 3, 0, 6⟩ = (⟨14, 0, [], 4, 2⟩, 0, fi30_3 a b) := by
  refine do_split ?_
  match a, ha, b, hb with
  | 0, _, 0, _ => (show _ = _; kernel_rfl)
  | 0, _, 1, _ => (show _ = _; kernel_rfl)
  | 0, _, 2, _ => (show _ = _; kernel_rfl)
  | 1, _, 0, _ => (show _ = _; kernel_rfl)
  | 1, _, 1, _ => (show _ = _; kernel_rfl)
  | 1, _, 2, _ => (show _ = _; kernel_rfl)
  | 2, _, 0, _ => (show _ = _; kernel_rfl)
  | 2, _, 1, _ => (show _ = _; kernel_rfl)
  | 2, _, 2, _ => (show _ = _; kernel_rfl)
theorem fi30_live (a b : Nat) (ha : a < 3) (hb : b < 3) : (fi30_3 a b).live.length = 1 := by
  match a, ha, b, hb with
  | 0, _, 0, _ => (show _ = _; kernel_rfl)
  | 0, _, 1, _ => (show _ = _; kernel_rfl)
  | 0, _, 2, _ => (show _ = _; kernel_rfl)
  | 1, _, 0, _ => (show _ = _; kernel_rfl)
  | 1, _, 1, _ => (show _ = _; kernel_rfl)
  | 1, _, 2, _ => (show _ = _; kernel_rfl)
  | 2, _, 0, _ => (show _ = _; kernel_rfl)
  | 2, _, 1, _ => (show _ = _; kernel_rfl)
  | 2, _, 2, _ => (show _ = _; kernel_rfl)
def fi31_2 (a b : Nat) : St := ((fi3_1 a b).do_ 0 ⟨6, 0, 0, 0⟩).2.2
theorem fi31_2_eq (a b : Nat) (ha : a < 3) (hb : b < 3) : (fi3_1 a b).do_ 0 ⟨6, 0, 0, 0⟩ = (⟨0, 0, [], 3, 0⟩, 0, fi31_2 a b) := by
  refine do_split ?_
  match a, ha, b, hb with
  | 0, _, 0, _ => (show _ = _; kernel_rfl)
  | 0, _, 1, _ => (show _ = _; kernel_rfl)
  | 0, _, 2, _ => (show _ = _; kernel_rfl)
  | 1, _, 0, _ => (show _ = _; kernel_rfl)
  | 1, _, 1, _ => (show _ = _; kernel_rfl)
  | 1, _, 2, _ => (show _ = _; kernel_rfl)
  | 2, _, 0, _ => (show _ = _; kernel_rfl)
  | 2, _, 1, _ => (show _ = _; kernel_rfl)
  | 2, _, 2, _ => (show _ = _; kernel_rfl)
def fi31_3 (a b : Nat) : St := ((fi31_2 a b).do_ 1 ⟨2, 3, 0, 6⟩).2.2
theorem fi31_3_eq (a b : Nat) (ha : a < 3) (hb : b < 3) : (fi31_2 a b).do_ 1 ⟨2, 3, 0, 6⟩ = (⟨14, 0, [], 4, 2⟩, 0, fi31_3 a b) := by
  refine do_split ?_
  match a, ha, b, hb with
  | 0, _, 0, _ => (show _ = _; kernel_rfl)
  | 0, _, 1, _ => (show _ = _; kernel_rfl)
  | 0, _, 2, _ => (show _ = _; kernel_rfl)
  | 1, _, 0, _ => (show _ = _; kernel_rfl)
  | 1, _, 1, _ => (show _ = _; kernel_rfl)
  | 1, _, 2, _ => (show _ = _; kernel_rfl)
  | 2, _, 0, _ => (show _ = _; kernel_rfl)
  | 2, _, 1, _ => (show _ = _; kernel_rfl)
  | 2, _, 2, _ => (show _ = _; kernel_rfl)
theorem fi31_live (a b : Nat) (ha : a < 3) (hb : b < 3) : (fi31_3 a b).live.length = 0 := by
  match a, ha, b, hb with
  | 0, _, 0, _ => (show _ = _; kernel_rfl)
  | 0, _, 1, _ => (show _ = _; kernel_rfl)
  | 0, _, 2, _ => (show _ = _; kernel_rfl)
  | 1, _, 0, _ => (show _ = _; kernel_rfl)
  | 1, _, 1, _ => (show _ = _; kernel_rfl)
  | 1, _, 2, _ => (show _ = _; kernel_rfl)
  | 2, _, 0, _ => (show _ = _; kernel_rfl)
  | 2, _, 1, _ => (show _ = _; kernel_rfl)
  | 2, _, 2, _ => (show _ = _; kernel_rfl)
def fi32_2 (a b : Nat) : St := ((fi3_1 a b).do_ 0 ⟨7, 0, 0, 0⟩).2.2
theorem fi32_2_eq (a b : Nat) (ha : a < 3) (hb : b < 3) : (fi3_1 a b).do_ 0 ⟨7, 0, 0, 0⟩ = (⟨0, 0, [], 4, 1⟩, 0, fi32_2 a b) := by
  refine do_split ?_
  match a, ha, b, hb with
  | 0, _, 0, _ => (show _ = _; kernel_rfl)
  | 0, _, 1, _ => (show _ = _; kernel_rfl)
  | 0, _, 2, _ => (show _ = _; kernel_rfl)
  | 1, _, 0, _ => (show _ = _; kernel_rfl)
  | 1, _, 1, _ => (show _ = _; kernel_rfl)
  | 1, _, 2, _ => (show _ = _; kernel_rfl)
  | 2, _, 0, _ => (show _ = _; kernel_rfl)
  | 2, _, 1, _ => (show _ = _; kernel_rfl)
  | 2, _, 2, _ => (show _ = _; kernel_rfl)
def fi32_3 (a b : Nat) : St := ((fi32_2 a b).do_ 1 ⟨2, 3, 0, 6⟩).2.2
theorem fi32_3_eq (a b : Nat) (ha : a < 3) (hb : b < 3) : (fi32_2 a b).do_ 1 ⟨2, 3, 0, 6⟩ = (⟨0, 0, [], 0, 0⟩, 0, fi32_3 a b) := by
  refine do_split ?_
  match a, ha, b, hb with
  | 0, _, 0, _ => (show _ = _; kernel_rfl)
  | 0, _, 1, _ => (show _ = _; kernel_rfl)
  | 0, _, 2, _ => (show _ = _; kernel_rfl)
  | 1, _, 0, _ => (show _ = _; kernel_rfl)
  | 1, _, 1, _ => (show _ = _; kernel_rfl)
  | 1, _, 2, _ => (show _ = _; kernel_rfl)
  | 2, _, 0, _ => (show _ = _; kernel_rfl)
  | 2, _, 1, _ => (show _ = _; kernel_rfl)
  | 2, _, 2, _ => (show _ = _; kernel_rfl)
def fi32_4 (a b : Nat) : St := ((fi32_3 a b).do_ 1 ⟨6, 0, 0, 0⟩).2.2
theorem fi32_4_eq (a b : Nat) (ha : a < 3) (hb : b < 3) : (fi32_3 a b).do_ 1 ⟨6, 0, 0, 0⟩ = (⟨0, 0, [], 3, 0⟩, 0, fi32_4 a b) := by
  refine do_split ?_
  match a, ha, b, hb with
  | 0, _, 0, _ => (show _ = _; kernel_rfl)
  | 0, _, 1, _ => (show _ = _; kernel_rfl)
  | 0, _, 2, _ => (show _ = _; kernel_rfl)
  | 1, _, 0, _ => (show _ = _; kernel_rfl)
  | 1, _, 1, _ => (show _ = _; kernel_rfl)
  | 1, _, 2, _ => (show _ = _; kernel_rfl)
  | 2, _, 0, _ => (show _ = _; kernel_rfl)
  | 2, _, 1, _ => (show _ = _; kernel_rfl)
  | 2, _, 2, _ => (show _ = _; kernel_rfl)
end Go.Proofs.Ytcbhafddehipdaa

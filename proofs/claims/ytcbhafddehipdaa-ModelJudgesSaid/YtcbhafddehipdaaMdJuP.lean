/-
  ModelJudges: its plain steps.
-/
import Derived.Test.YtcbhafddehipdaaMdSkew
namespace Go.Proofs.Ytcbhafddehipdaa
open Go.RowKit
set_option linter.unusedVariables false
set_option linter.unusedSimpArgs false

/-- Do, in a law, whatever it answers. -/
theorem lw_dop {w0 w : World} {P : Nat → Prop} {m : Nat} {s : St} (h : LW w0 w P m s) (j kind key hi value : Int) {re rv ro rr er : Int} {ps : List (Int × Int)} {s' : St} (hs : s.do_ j ⟨kind, key, hi, value⟩ = (⟨re, rv, ps, ro, rr⟩, er, s')) :
    Calls Try.prog 19 #[.pointer (some ⟨m, 0, none⟩), .int .i64 j, .agg #[.int .i64 kind, .int .i64 key, .int .i64 hi, .int .i64 value]] w fun e w' => ∃ (P' : Nat → Prop) (a : Option Addr) (c : Nat), e = .returned (.tuple #[.agg #[.int .i64 re, .int .i64 rv, .slice a ps.length c, .int .i64 ro, .int .i64 rr], .int .i64 er]) ∧ LW w0 w' P' m s' ∧ Only P w w' ∧ Grew w.heap.size P P' := by
  refine (md_do h.mat j kind key hi value).mono ?_
  rintro e w' ⟨P', a, c, he, h', o, g, _, _⟩
  rw [hs] at he h'
  exact ⟨P', a, c, he, h.step h' o, o, g⟩
def ju00_1 (l : Nat) : St := ((pairSt l 0).do_ 0 ⟨1, 1, 0, 0⟩).2.2
theorem ju00_1_eq (l : Nat) (hl : l < 3) : (pairSt l 0).do_ 0 ⟨1, 1, 0, 0⟩ = (⟨0, 10, [], 0, 0⟩, 0, ju00_1 l) := by
  refine do_split ?_
  match l, hl with
  | 0, _ => (show _ = _; kernel_rfl)
  | 1, _ => (show _ = _; kernel_rfl)
  | 2, _ => (show _ = _; kernel_rfl)
def ju00_2 (l : Nat) : St := ((ju00_1 l).do_ 1 ⟨3, 1, 0, 99⟩).2.2
theorem ju00_2_eq (l : Nat) (hl : l < 3) : (ju00_1 l).do_ 1 ⟨3, 1, 0, 99⟩ = (⟨0, 0, [], 0, 0⟩, 0, ju00_2 l) := by
  refine do_split ?_
  match l, hl with
  | 0, _ => (show _ = _; kernel_rfl)
  | 1, _ => (show _ = _; kernel_rfl)
  | 2, _ => (show _ = _; kernel_rfl)
def ju00_3 (l : Nat) : St := ((ju00_2 l).do_ 1 ⟨6, 0, 0, 0⟩).2.2
theorem ju00_3_eq (l : Nat) (hl : l < 3) : (ju00_2 l).do_ 1 ⟨6, 0, 0, 0⟩ = (⟨0, 0, [], 3, 0⟩, 0, ju00_3 l) := by
  refine do_split ?_
  match l, hl with
  | 0, _ => (show _ = _; kernel_rfl)
  | 1, _ => (show _ = _; kernel_rfl)
  | 2, _ => (show _ = _; kernel_rfl)
def ju00_4 (l : Nat) : St := ((ju00_3 l).do_ 0 ⟨6, 0, 0, 0⟩).2.2
theorem ju00_4_eq0 : (ju00_3 0).do_ 0 ⟨6, 0, 0, 0⟩ = (⟨0, 0, [], 3, 0⟩, 0, ju00_4 0) := do_split (by kernel_rfl)
theorem ju00_4_eq1 : (ju00_3 1).do_ 0 ⟨6, 0, 0, 0⟩ = (⟨14, 0, [], 4, 3⟩, 0, ju00_4 1) := do_split (by kernel_rfl)
theorem ju00_4_eq2 : (ju00_3 2).do_ 0 ⟨6, 0, 0, 0⟩ = (⟨14, 0, [], 4, 3⟩, 0, ju00_4 2) := do_split (by kernel_rfl)
def ju01_1 (l : Nat) : St := ((pairSt l 0).do_ 0 ⟨1, 1, 0, 0⟩).2.2
theorem ju01_1_eq (l : Nat) (hl : l < 3) : (pairSt l 0).do_ 0 ⟨1, 1, 0, 0⟩ = (⟨0, 10, [], 0, 0⟩, 0, ju01_1 l) := by
  refine do_split ?_
  match l, hl with
  | 0, _ => (show _ = _; kernel_rfl)
  | 1, _ => (show _ = _; kernel_rfl)
  | 2, _ => (show _ = _; kernel_rfl)
def ju01_2 (l : Nat) : St := ((ju01_1 l).do_ 1 ⟨4, 1, 0, 0⟩).2.2
theorem ju01_2_eq (l : Nat) (hl : l < 3) : (ju01_1 l).do_ 1 ⟨4, 1, 0, 0⟩ = (⟨0, 0, [], 0, 0⟩, 0, ju01_2 l) := by
  refine do_split ?_
  match l, hl with
  | 0, _ => (show _ = _; kernel_rfl)
  | 1, _ => (show _ = _; kernel_rfl)
  | 2, _ => (show _ = _; kernel_rfl)
def ju01_3 (l : Nat) : St := ((ju01_2 l).do_ 1 ⟨6, 0, 0, 0⟩).2.2
theorem ju01_3_eq (l : Nat) (hl : l < 3) : (ju01_2 l).do_ 1 ⟨6, 0, 0, 0⟩ = (⟨0, 0, [], 3, 0⟩, 0, ju01_3 l) := by
  refine do_split ?_
  match l, hl with
  | 0, _ => (show _ = _; kernel_rfl)
  | 1, _ => (show _ = _; kernel_rfl)
  | 2, _ => (show _ = _; kernel_rfl)
def ju01_4 (l : Nat) : St := ((ju01_3 l).do_ 0 ⟨6, 0, 0, 0⟩).2.2
theorem ju01_4_eq0 : (ju01_3 0).do_ 0 ⟨6, 0, 0, 0⟩ = (⟨0, 0, [], 3, 0⟩, 0, ju01_4 0) := do_split (by kernel_rfl)
theorem ju01_4_eq1 : (ju01_3 1).do_ 0 ⟨6, 0, 0, 0⟩ = (⟨14, 0, [], 4, 3⟩, 0, ju01_4 1) := do_split (by kernel_rfl)
theorem ju01_4_eq2 : (ju01_3 2).do_ 0 ⟨6, 0, 0, 0⟩ = (⟨14, 0, [], 4, 3⟩, 0, ju01_4 2) := do_split (by kernel_rfl)
def ju02_1 (l : Nat) : St := ((pairSt l 0).do_ 0 ⟨1, 1, 0, 0⟩).2.2
theorem ju02_1_eq (l : Nat) (hl : l < 3) : (pairSt l 0).do_ 0 ⟨1, 1, 0, 0⟩ = (⟨0, 10, [], 0, 0⟩, 0, ju02_1 l) := by
  refine do_split ?_
  match l, hl with
  | 0, _ => (show _ = _; kernel_rfl)
  | 1, _ => (show _ = _; kernel_rfl)
  | 2, _ => (show _ = _; kernel_rfl)
def ju02_2 (l : Nat) : St := ((ju02_1 l).do_ 1 ⟨2, 3, 0, 99⟩).2.2
theorem ju02_2_eq (l : Nat) (hl : l < 3) : (ju02_1 l).do_ 1 ⟨2, 3, 0, 99⟩ = (⟨0, 0, [], 0, 0⟩, 0, ju02_2 l) := by
  refine do_split ?_
  match l, hl with
  | 0, _ => (show _ = _; kernel_rfl)
  | 1, _ => (show _ = _; kernel_rfl)
  | 2, _ => (show _ = _; kernel_rfl)
def ju02_3 (l : Nat) : St := ((ju02_2 l).do_ 1 ⟨6, 0, 0, 0⟩).2.2
theorem ju02_3_eq (l : Nat) (hl : l < 3) : (ju02_2 l).do_ 1 ⟨6, 0, 0, 0⟩ = (⟨0, 0, [], 3, 0⟩, 0, ju02_3 l) := by
  refine do_split ?_
  match l, hl with
  | 0, _ => (show _ = _; kernel_rfl)
  | 1, _ => (show _ = _; kernel_rfl)
  | 2, _ => (show _ = _; kernel_rfl)
def ju02_4 (l : Nat) : St := ((ju02_3 l).do_ 0 ⟨6, 0, 0, 0⟩).2.2
theorem ju02_4_eq (l : Nat) (hl : l < 3) : (ju02_3 l).do_ 0 ⟨6, 0, 0, 0⟩ = (⟨0, 0, [], 3, 0⟩, 0, ju02_4 l) := by
  refine do_split ?_
  match l, hl with
  | 0, _ => (show _ = _; kernel_rfl)
  | 1, _ => (show _ = _; kernel_rfl)
  | 2, _ => (show _ = _; kernel_rfl)
def ju10_1 (l : Nat) : St := ((pairSt l 0).do_ 0 ⟨1, 3, 0, 0⟩).2.2
theorem ju10_1_eq (l : Nat) (hl : l < 3) : (pairSt l 0).do_ 0 ⟨1, 3, 0, 0⟩ = (⟨11, 0, [], 0, 0⟩, 0, ju10_1 l) := by
  refine do_split ?_
  match l, hl with
  | 0, _ => (show _ = _; kernel_rfl)
  | 1, _ => (show _ = _; kernel_rfl)
  | 2, _ => (show _ = _; kernel_rfl)
def ju10_2 (l : Nat) : St := ((ju10_1 l).do_ 1 ⟨3, 1, 0, 99⟩).2.2
theorem ju10_2_eq (l : Nat) (hl : l < 3) : (ju10_1 l).do_ 1 ⟨3, 1, 0, 99⟩ = (⟨0, 0, [], 0, 0⟩, 0, ju10_2 l) := by
  refine do_split ?_
  match l, hl with
  | 0, _ => (show _ = _; kernel_rfl)
  | 1, _ => (show _ = _; kernel_rfl)
  | 2, _ => (show _ = _; kernel_rfl)
def ju10_3 (l : Nat) : St := ((ju10_2 l).do_ 1 ⟨6, 0, 0, 0⟩).2.2
theorem ju10_3_eq (l : Nat) (hl : l < 3) : (ju10_2 l).do_ 1 ⟨6, 0, 0, 0⟩ = (⟨0, 0, [], 3, 0⟩, 0, ju10_3 l) := by
  refine do_split ?_
  match l, hl with
  | 0, _ => (show _ = _; kernel_rfl)
  | 1, _ => (show _ = _; kernel_rfl)
  | 2, _ => (show _ = _; kernel_rfl)
def ju10_4 (l : Nat) : St := ((ju10_3 l).do_ 0 ⟨6, 0, 0, 0⟩).2.2
theorem ju10_4_eq (l : Nat) (hl : l < 3) : (ju10_3 l).do_ 0 ⟨6, 0, 0, 0⟩ = (⟨0, 0, [], 3, 0⟩, 0, ju10_4 l) := by
  refine do_split ?_
  match l, hl with
  | 0, _ => (show _ = _; kernel_rfl)
  | 1, _ => (show _ = _; kernel_rfl)
  | 2, _ => (show _ = _; kernel_rfl)
def ju11_1 (l : Nat) : St := ((pairSt l 0).do_ 0 ⟨1, 3, 0, 0⟩).2.2
theorem ju11_1_eq (l : Nat) (hl : l < 3) : (pairSt l 0).do_ 0 ⟨1, 3, 0, 0⟩ = (⟨11, 0, [], 0, 0⟩, 0, ju11_1 l) := by
  refine do_split ?_
  match l, hl with
  | 0, _ => (show _ = _; kernel_rfl)
  | 1, _ => (show _ = _; kernel_rfl)
  | 2, _ => (show _ = _; kernel_rfl)
def ju11_2 (l : Nat) : St := ((ju11_1 l).do_ 1 ⟨4, 1, 0, 0⟩).2.2
theorem ju11_2_eq (l : Nat) (hl : l < 3) : (ju11_1 l).do_ 1 ⟨4, 1, 0, 0⟩ = (⟨0, 0, [], 0, 0⟩, 0, ju11_2 l) := by
  refine do_split ?_
  match l, hl with
  | 0, _ => (show _ = _; kernel_rfl)
  | 1, _ => (show _ = _; kernel_rfl)
  | 2, _ => (show _ = _; kernel_rfl)
def ju11_3 (l : Nat) : St := ((ju11_2 l).do_ 1 ⟨6, 0, 0, 0⟩).2.2
theorem ju11_3_eq (l : Nat) (hl : l < 3) : (ju11_2 l).do_ 1 ⟨6, 0, 0, 0⟩ = (⟨0, 0, [], 3, 0⟩, 0, ju11_3 l) := by
  refine do_split ?_
  match l, hl with
  | 0, _ => (show _ = _; kernel_rfl)
  | 1, _ => (show _ = _; kernel_rfl)
  | 2, _ => (show _ = _; kernel_rfl)
def ju11_4 (l : Nat) : St := ((ju11_3 l).do_ 0 ⟨6, 0, 0, 0⟩).2.2
theorem ju11_4_eq (l : Nat) (hl : l < 3) : (ju11_3 l).do_ 0 ⟨6, 0, 0, 0⟩ = (⟨0, 0, [], 3, 0⟩, 0, ju11_4 l) := by
  refine do_split ?_
  match l, hl with
  | 0, _ => (show _ = _; kernel_rfl)
  | 1, _ => (show _ = _; kernel_rfl)
  | 2, _ => (show _ = _; kernel_rfl)
def ju12_1 (l : Nat) : St := ((pairSt l 0).do_ 0 ⟨1, 3, 0, 0⟩).2.2
theorem ju12_1_eq (l : Nat) (hl : l < 3) : (pairSt l 0).do_ 0 ⟨1, 3, 0, 0⟩ = (⟨11, 0, [], 0, 0⟩, 0, ju12_1 l) := by
  refine do_split ?_
  match l, hl with
  | 0, _ => (show _ = _; kernel_rfl)
  | 1, _ => (show _ = _; kernel_rfl)
  | 2, _ => (show _ = _; kernel_rfl)
def ju12_2 (l : Nat) : St := ((ju12_1 l).do_ 1 ⟨2, 3, 0, 99⟩).2.2
theorem ju12_2_eq (l : Nat) (hl : l < 3) : (ju12_1 l).do_ 1 ⟨2, 3, 0, 99⟩ = (⟨0, 0, [], 0, 0⟩, 0, ju12_2 l) := by
  refine do_split ?_
  match l, hl with
  | 0, _ => (show _ = _; kernel_rfl)
  | 1, _ => (show _ = _; kernel_rfl)
  | 2, _ => (show _ = _; kernel_rfl)
def ju12_3 (l : Nat) : St := ((ju12_2 l).do_ 1 ⟨6, 0, 0, 0⟩).2.2
theorem ju12_3_eq (l : Nat) (hl : l < 3) : (ju12_2 l).do_ 1 ⟨6, 0, 0, 0⟩ = (⟨0, 0, [], 3, 0⟩, 0, ju12_3 l) := by
  refine do_split ?_
  match l, hl with
  | 0, _ => (show _ = _; kernel_rfl)
  | 1, _ => (show _ = _; kernel_rfl)
  | 2, _ => (show _ = _; kernel_rfl)
def ju12_4 (l : Nat) : St := ((ju12_3 l).do_ 0 ⟨6, 0, 0, 0⟩).2.2
theorem ju12_4_eq0 : (ju12_3 0).do_ 0 ⟨6, 0, 0, 0⟩ = (⟨0, 0, [], 3, 0⟩, 0, ju12_4 0) := do_split (by kernel_rfl)
theorem ju12_4_eq1 : (ju12_3 1).do_ 0 ⟨6, 0, 0, 0⟩ = (⟨0, 0, [], 3, 0⟩, 0, ju12_4 1) := do_split (by kernel_rfl)
theorem ju12_4_eq2 : (ju12_3 2).do_ 0 ⟨6, 0, 0, 0⟩ = (⟨14, 0, [], 4, 3⟩, 0, ju12_4 2) := do_split (by kernel_rfl)
def ju20_1 (l : Nat) : St := ((pairSt l 0).do_ 0 ⟨5, 1, 5, 0⟩).2.2
theorem ju20_1_eq (l : Nat) (hl : l < 3) : (pairSt l 0).do_ 0 ⟨5, 1, 5, 0⟩ = (⟨0, 0, [(1, 10), (2, 20)], 0, 0⟩, 0, ju20_1 l) := by
  refine do_split ?_
  match l, hl with
  | 0, _ => (show _ = _; kernel_rfl)
  | 1, _ => (show _ = _; kernel_rfl)
  | 2, _ => (show _ = _; kernel_rfl)
def ju20_2 (l : Nat) : St := ((ju20_1 l).do_ 1 ⟨3, 1, 0, 99⟩).2.2
theorem ju20_2_eq (l : Nat) (hl : l < 3) : (ju20_1 l).do_ 1 ⟨3, 1, 0, 99⟩ = (⟨0, 0, [], 0, 0⟩, 0, ju20_2 l) := by
  refine do_split ?_
  match l, hl with
  | 0, _ => (show _ = _; kernel_rfl)
  | 1, _ => (show _ = _; kernel_rfl)
  | 2, _ => (show _ = _; kernel_rfl)
def ju20_3 (l : Nat) : St := ((ju20_2 l).do_ 1 ⟨6, 0, 0, 0⟩).2.2
theorem ju20_3_eq (l : Nat) (hl : l < 3) : (ju20_2 l).do_ 1 ⟨6, 0, 0, 0⟩ = (⟨0, 0, [], 3, 0⟩, 0, ju20_3 l) := by
  refine do_split ?_
  match l, hl with
  | 0, _ => (show _ = _; kernel_rfl)
  | 1, _ => (show _ = _; kernel_rfl)
  | 2, _ => (show _ = _; kernel_rfl)
def ju20_4 (l : Nat) : St := ((ju20_3 l).do_ 0 ⟨6, 0, 0, 0⟩).2.2
theorem ju20_4_eq0 : (ju20_3 0).do_ 0 ⟨6, 0, 0, 0⟩ = (⟨0, 0, [], 3, 0⟩, 0, ju20_4 0) := do_split (by kernel_rfl)
theorem ju20_4_eq1 : (ju20_3 1).do_ 0 ⟨6, 0, 0, 0⟩ = (⟨0, 0, [], 3, 0⟩, 0, ju20_4 1) := do_split (by kernel_rfl)
theorem ju20_4_eq2 : (ju20_3 2).do_ 0 ⟨6, 0, 0, 0⟩ = (⟨14, 0, [], 4, 3⟩, 0, ju20_4 2) := do_split (by kernel_rfl)
def ju21_1 (l : Nat) : St := ((pairSt l 0).do_ 0 ⟨5, 1, 5, 0⟩).2.2
theorem ju21_1_eq (l : Nat) (hl : l < 3) : (pairSt l 0).do_ 0 ⟨5, 1, 5, 0⟩ = (⟨0, 0, [(1, 10), (2, 20)], 0, 0⟩, 0, ju21_1 l) := by
  refine do_split ?_
  match l, hl with
  | 0, _ => (show _ = _; kernel_rfl)
  | 1, _ => (show _ = _; kernel_rfl)
  | 2, _ => (show _ = _; kernel_rfl)
def ju21_2 (l : Nat) : St := ((ju21_1 l).do_ 1 ⟨4, 1, 0, 0⟩).2.2
theorem ju21_2_eq (l : Nat) (hl : l < 3) : (ju21_1 l).do_ 1 ⟨4, 1, 0, 0⟩ = (⟨0, 0, [], 0, 0⟩, 0, ju21_2 l) := by
  refine do_split ?_
  match l, hl with
  | 0, _ => (show _ = _; kernel_rfl)
  | 1, _ => (show _ = _; kernel_rfl)
  | 2, _ => (show _ = _; kernel_rfl)
def ju21_3 (l : Nat) : St := ((ju21_2 l).do_ 1 ⟨6, 0, 0, 0⟩).2.2
theorem ju21_3_eq (l : Nat) (hl : l < 3) : (ju21_2 l).do_ 1 ⟨6, 0, 0, 0⟩ = (⟨0, 0, [], 3, 0⟩, 0, ju21_3 l) := by
  refine do_split ?_
  match l, hl with
  | 0, _ => (show _ = _; kernel_rfl)
  | 1, _ => (show _ = _; kernel_rfl)
  | 2, _ => (show _ = _; kernel_rfl)
def ju21_4 (l : Nat) : St := ((ju21_3 l).do_ 0 ⟨6, 0, 0, 0⟩).2.2
theorem ju21_4_eq0 : (ju21_3 0).do_ 0 ⟨6, 0, 0, 0⟩ = (⟨0, 0, [], 3, 0⟩, 0, ju21_4 0) := do_split (by kernel_rfl)
theorem ju21_4_eq1 : (ju21_3 1).do_ 0 ⟨6, 0, 0, 0⟩ = (⟨0, 0, [], 3, 0⟩, 0, ju21_4 1) := do_split (by kernel_rfl)
theorem ju21_4_eq2 : (ju21_3 2).do_ 0 ⟨6, 0, 0, 0⟩ = (⟨14, 0, [], 4, 3⟩, 0, ju21_4 2) := do_split (by kernel_rfl)
def ju22_1 (l : Nat) : St := ((pairSt l 0).do_ 0 ⟨5, 1, 5, 0⟩).2.2
theorem ju22_1_eq (l : Nat) (hl : l < 3) : (pairSt l 0).do_ 0 ⟨5, 1, 5, 0⟩ = (⟨0, 0, [(1, 10), (2, 20)], 0, 0⟩, 0, ju22_1 l) := by
  refine do_split ?_
  match l, hl with
  | 0, _ => (show _ = _; kernel_rfl)
  | 1, _ => (show _ = _; kernel_rfl)
  | 2, _ => (show _ = _; kernel_rfl)
def ju22_2 (l : Nat) : St := ((ju22_1 l).do_ 1 ⟨2, 3, 0, 99⟩).2.2
theorem ju22_2_eq (l : Nat) (hl : l < 3) : (ju22_1 l).do_ 1 ⟨2, 3, 0, 99⟩ = (⟨0, 0, [], 0, 0⟩, 0, ju22_2 l) := by
  refine do_split ?_
  match l, hl with
  | 0, _ => (show _ = _; kernel_rfl)
  | 1, _ => (show _ = _; kernel_rfl)
  | 2, _ => (show _ = _; kernel_rfl)
def ju22_3 (l : Nat) : St := ((ju22_2 l).do_ 1 ⟨6, 0, 0, 0⟩).2.2
theorem ju22_3_eq (l : Nat) (hl : l < 3) : (ju22_2 l).do_ 1 ⟨6, 0, 0, 0⟩ = (⟨0, 0, [], 3, 0⟩, 0, ju22_3 l) := by
  refine do_split ?_
  match l, hl with
  | 0, _ => (show _ = _; kernel_rfl)
  | 1, _ => (show _ = _; kernel_rfl)
  | 2, _ => (show _ = _; kernel_rfl)
def ju22_4 (l : Nat) : St := ((ju22_3 l).do_ 0 ⟨6, 0, 0, 0⟩).2.2
theorem ju22_4_eq0 : (ju22_3 0).do_ 0 ⟨6, 0, 0, 0⟩ = (⟨0, 0, [], 3, 0⟩, 0, ju22_4 0) := do_split (by kernel_rfl)
theorem ju22_4_eq1 : (ju22_3 1).do_ 0 ⟨6, 0, 0, 0⟩ = (⟨0, 0, [], 3, 0⟩, 0, ju22_4 1) := do_split (by kernel_rfl)
theorem ju22_4_eq2 : (ju22_3 2).do_ 0 ⟨6, 0, 0, 0⟩ = (⟨14, 0, [], 4, 3⟩, 0, ju22_4 2) := do_split (by kernel_rfl)
end Go.Proofs.Ytcbhafddehipdaa

/-
  ModelSees: its plain steps.
-/
import Derived.Test.YtcbhafddehipdaaMdGnP
namespace Go.Proofs.Ytcbhafddehipdaa
open Go.RowKit
set_option linter.unusedVariables false
set_option linter.unusedSimpArgs false

/-- A call whose value is a letter: its value is not asked. -/
def St.doV (s : St) (j : Int) (o : MOp) : Res × Int × St :=
  if sessB j then match s.tx j.toNat with
    | none => (.zero, 9, s)
    | some t => if opOkB { o with value := 0 } then if decide (12 ≤ t.ops) && !endsB o then (.zero, 65, s)
        else ((s.call j.toNat t o).1, 0, (s.call j.toNat t o).2)
      else (.zero, 9, s)
  else (.zero, 1, s)
theorem do_val {s : St} {j : Int} {o : MOp} (h : opOkB o = opOkB { o with value := 0 }) : s.do_ j o = s.doV j o := by
  unfold St.do_ St.doV
  rw [h]
  rfl
theorem ok_val (kind key v : Int) (hk : kind = 2 ∨ kind = 3) (h0 : 0 ≤ v) (h1 : v ≤ 65535) : opOkB ⟨kind, key, 0, v⟩ = opOkB ⟨kind, key, 0, 0⟩ := by
  rcases hk with rfl | rfl <;> simp [opOkB, h0, h1]

def se0_1 (l : Nat) (v : Int) : St := ((pairSt l 0).doV 1 ⟨3, 1, 0, v⟩).2.2
theorem se0_1_eq (l : Nat) (hl : l < 3) (v : Int) (h0 : 0 ≤ v) (h1 : v ≤ 65535) : (pairSt l 0).do_ 1 ⟨3, 1, 0, v⟩ = (⟨0, 0, [], 0, 0⟩, 0, se0_1 l v) := by
  rw [do_val (ok_val 3 1 v (by decide) h0 h1)]
  refine do_split ?_
  match l, hl with
  | 0, _ => (show _ = _; kernel_rfl)
  | 1, _ => (show _ = _; kernel_rfl)
  | 2, _ => (show _ = _; kernel_rfl)
def se0_2 (l : Nat) (v : Int) : St := ((se0_1 l v).do_ 0 ⟨1, 1, 0, 0⟩).2.2
theorem se0_2_eq (l : Nat) (hl : l < 3) (v : Int) : (se0_1 l v).do_ 0 ⟨1, 1, 0, 0⟩ = (⟨0, 10, [], 0, 0⟩, 0, se0_2 l v) := by
  refine do_split ?_
  match l, hl with
  | 0, _ => (show _ = _; kernel_rfl)
  | 1, _ => (show _ = _; kernel_rfl)
  | 2, _ => (show _ = _; kernel_rfl)
def se0_3 (l : Nat) (v : Int) : St := ((se0_2 l v).do_ 0 ⟨1, 3, 0, 0⟩).2.2
theorem se0_3_eq (l : Nat) (hl : l < 3) (v : Int) : (se0_2 l v).do_ 0 ⟨1, 3, 0, 0⟩ = (⟨11, 0, [], 0, 0⟩, 0, se0_3 l v) := by
  refine do_split ?_
  match l, hl with
  | 0, _ => (show _ = _; kernel_rfl)
  | 1, _ => (show _ = _; kernel_rfl)
  | 2, _ => (show _ = _; kernel_rfl)
def se0_4 (l : Nat) (v : Int) : St := ((se0_3 l v).do_ 1 ⟨6, 0, 0, 0⟩).2.2
theorem se0_4_eq (l : Nat) (hl : l < 3) (v : Int) : (se0_3 l v).do_ 1 ⟨6, 0, 0, 0⟩ = (⟨0, 0, [], 3, 0⟩, 0, se0_4 l v) := by
  refine do_split ?_
  match l, hl with
  | 0, _ => (show _ = _; kernel_rfl)
  | 1, _ => (show _ = _; kernel_rfl)
  | 2, _ => (show _ = _; kernel_rfl)
def se0_5 (l : Nat) (v : Int) : St := ((se0_4 l v).do_ 0 ⟨1, 1, 0, 0⟩).2.2
theorem se0_5_eq (l : Nat) (hl : l < 3) (v : Int) : (se0_4 l v).do_ 0 ⟨1, 1, 0, 0⟩ = (⟨0, 10, [], 0, 0⟩, 0, se0_5 l v) := by
  refine do_split ?_
  match l, hl with
  | 0, _ => (show _ = _; kernel_rfl)
  | 1, _ => (show _ = _; kernel_rfl)
  | 2, _ => (show _ = _; kernel_rfl)
def se0_6 (l : Nat) (v : Int) : St := ((se0_5 l v).do_ 0 ⟨1, 2, 0, 0⟩).2.2
theorem se0_6_eq (l : Nat) (hl : l < 3) (v : Int) : (se0_5 l v).do_ 0 ⟨1, 2, 0, 0⟩ = (⟨0, 20, [], 0, 0⟩, 0, se0_6 l v) := by
  refine do_split ?_
  match l, hl with
  | 0, _ => (show _ = _; kernel_rfl)
  | 1, _ => (show _ = _; kernel_rfl)
  | 2, _ => (show _ = _; kernel_rfl)
def se0_7 (l : Nat) (v : Int) : St := ((se0_6 l v).do_ 0 ⟨1, 3, 0, 0⟩).2.2
theorem se0_7_eq (l : Nat) (hl : l < 3) (v : Int) : (se0_6 l v).do_ 0 ⟨1, 3, 0, 0⟩ = (⟨11, 0, [], 0, 0⟩, 0, se0_7 l v) := by
  refine do_split ?_
  match l, hl with
  | 0, _ => (show _ = _; kernel_rfl)
  | 1, _ => (show _ = _; kernel_rfl)
  | 2, _ => (show _ = _; kernel_rfl)
def se0_8 (l : Nat) (v : Int) : St := (se0_7 l v).collect
def se0_9 (l : Nat) (v : Int) : St := ((se0_8 l v).do_ 0 ⟨1, 1, 0, 0⟩).2.2
theorem se0_9_eq (l : Nat) (hl : l < 3) (v : Int) : (se0_8 l v).do_ 0 ⟨1, 1, 0, 0⟩ = (⟨0, 10, [], 0, 0⟩, 0, se0_9 l v) := by
  refine do_split ?_
  match l, hl with
  | 0, _ => (show _ = _; kernel_rfl)
  | 1, _ => (show _ = _; kernel_rfl)
  | 2, _ => (show _ = _; kernel_rfl)
def se0_10 (l : Nat) (v : Int) : St := ((se0_9 l v).do_ 0 ⟨1, 3, 0, 0⟩).2.2
theorem se0_10_eq (l : Nat) (hl : l < 3) (v : Int) : (se0_9 l v).do_ 0 ⟨1, 3, 0, 0⟩ = (⟨11, 0, [], 0, 0⟩, 0, se0_10 l v) := by
  refine do_split ?_
  match l, hl with
  | 0, _ => (show _ = _; kernel_rfl)
  | 1, _ => (show _ = _; kernel_rfl)
  | 2, _ => (show _ = _; kernel_rfl)
def se0_11 (l : Nat) (v : Int) : St := ((se0_10 l v).begin 2 3).2.2
theorem se0_11_eq (l : Nat) (hl : l < 3) (v : Int) : (se0_10 l v).begin 2 3 = (4, 0, se0_11 l v) := by
  refine do_split ?_
  match l, hl with
  | 0, _ => (show _ = _; kernel_rfl)
  | 1, _ => (show _ = _; kernel_rfl)
  | 2, _ => (show _ = _; kernel_rfl)
def se0_12 (l : Nat) (v : Int) : St := ((se0_11 l v).do_ 2 ⟨1, 1, 0, 0⟩).2.2
theorem se0_12_eq (l : Nat) (hl : l < 3) (v : Int) : (se0_11 l v).do_ 2 ⟨1, 1, 0, 0⟩ = (⟨0, v, [], 0, 0⟩, 0, se0_12 l v) := by
  refine do_split ?_
  match l, hl with
  | 0, _ => (show _ = _; kernel_rfl)
  | 1, _ => (show _ = _; kernel_rfl)
  | 2, _ => (show _ = _; kernel_rfl)
def se0_13 (l : Nat) (v : Int) : St := ((se0_12 l v).do_ 2 ⟨1, 3, 0, 0⟩).2.2
theorem se0_13_eq (l : Nat) (hl : l < 3) (v : Int) : (se0_12 l v).do_ 2 ⟨1, 3, 0, 0⟩ = (⟨11, 0, [], 0, 0⟩, 0, se0_13 l v) := by
  refine do_split ?_
  match l, hl with
  | 0, _ => (show _ = _; kernel_rfl)
  | 1, _ => (show _ = _; kernel_rfl)
  | 2, _ => (show _ = _; kernel_rfl)
def se1_1 (l : Nat) (v : Int) : St := ((pairSt l 0).do_ 1 ⟨4, 1, 0, 0⟩).2.2
theorem se1_1_eq (l : Nat) (hl : l < 3) (v : Int) : (pairSt l 0).do_ 1 ⟨4, 1, 0, 0⟩ = (⟨0, 0, [], 0, 0⟩, 0, se1_1 l v) := by
  refine do_split ?_
  match l, hl with
  | 0, _ => (show _ = _; kernel_rfl)
  | 1, _ => (show _ = _; kernel_rfl)
  | 2, _ => (show _ = _; kernel_rfl)
def se1_2 (l : Nat) (v : Int) : St := ((se1_1 l v).do_ 0 ⟨1, 1, 0, 0⟩).2.2
theorem se1_2_eq (l : Nat) (hl : l < 3) (v : Int) : (se1_1 l v).do_ 0 ⟨1, 1, 0, 0⟩ = (⟨0, 10, [], 0, 0⟩, 0, se1_2 l v) := by
  refine do_split ?_
  match l, hl with
  | 0, _ => (show _ = _; kernel_rfl)
  | 1, _ => (show _ = _; kernel_rfl)
  | 2, _ => (show _ = _; kernel_rfl)
def se1_3 (l : Nat) (v : Int) : St := ((se1_2 l v).do_ 0 ⟨1, 3, 0, 0⟩).2.2
theorem se1_3_eq (l : Nat) (hl : l < 3) (v : Int) : (se1_2 l v).do_ 0 ⟨1, 3, 0, 0⟩ = (⟨11, 0, [], 0, 0⟩, 0, se1_3 l v) := by
  refine do_split ?_
  match l, hl with
  | 0, _ => (show _ = _; kernel_rfl)
  | 1, _ => (show _ = _; kernel_rfl)
  | 2, _ => (show _ = _; kernel_rfl)
def se1_4 (l : Nat) (v : Int) : St := ((se1_3 l v).do_ 1 ⟨6, 0, 0, 0⟩).2.2
theorem se1_4_eq (l : Nat) (hl : l < 3) (v : Int) : (se1_3 l v).do_ 1 ⟨6, 0, 0, 0⟩ = (⟨0, 0, [], 3, 0⟩, 0, se1_4 l v) := by
  refine do_split ?_
  match l, hl with
  | 0, _ => (show _ = _; kernel_rfl)
  | 1, _ => (show _ = _; kernel_rfl)
  | 2, _ => (show _ = _; kernel_rfl)
def se1_5 (l : Nat) (v : Int) : St := ((se1_4 l v).do_ 0 ⟨1, 1, 0, 0⟩).2.2
theorem se1_5_eq (l : Nat) (hl : l < 3) (v : Int) : (se1_4 l v).do_ 0 ⟨1, 1, 0, 0⟩ = (⟨0, 10, [], 0, 0⟩, 0, se1_5 l v) := by
  refine do_split ?_
  match l, hl with
  | 0, _ => (show _ = _; kernel_rfl)
  | 1, _ => (show _ = _; kernel_rfl)
  | 2, _ => (show _ = _; kernel_rfl)
def se1_6 (l : Nat) (v : Int) : St := ((se1_5 l v).do_ 0 ⟨1, 2, 0, 0⟩).2.2
theorem se1_6_eq (l : Nat) (hl : l < 3) (v : Int) : (se1_5 l v).do_ 0 ⟨1, 2, 0, 0⟩ = (⟨0, 20, [], 0, 0⟩, 0, se1_6 l v) := by
  refine do_split ?_
  match l, hl with
  | 0, _ => (show _ = _; kernel_rfl)
  | 1, _ => (show _ = _; kernel_rfl)
  | 2, _ => (show _ = _; kernel_rfl)
def se1_7 (l : Nat) (v : Int) : St := ((se1_6 l v).do_ 0 ⟨1, 3, 0, 0⟩).2.2
theorem se1_7_eq (l : Nat) (hl : l < 3) (v : Int) : (se1_6 l v).do_ 0 ⟨1, 3, 0, 0⟩ = (⟨11, 0, [], 0, 0⟩, 0, se1_7 l v) := by
  refine do_split ?_
  match l, hl with
  | 0, _ => (show _ = _; kernel_rfl)
  | 1, _ => (show _ = _; kernel_rfl)
  | 2, _ => (show _ = _; kernel_rfl)
def se1_8 (l : Nat) (v : Int) : St := (se1_7 l v).collect
def se1_9 (l : Nat) (v : Int) : St := ((se1_8 l v).do_ 0 ⟨1, 1, 0, 0⟩).2.2
theorem se1_9_eq (l : Nat) (hl : l < 3) (v : Int) : (se1_8 l v).do_ 0 ⟨1, 1, 0, 0⟩ = (⟨0, 10, [], 0, 0⟩, 0, se1_9 l v) := by
  refine do_split ?_
  match l, hl with
  | 0, _ => (show _ = _; kernel_rfl)
  | 1, _ => (show _ = _; kernel_rfl)
  | 2, _ => (show _ = _; kernel_rfl)
def se1_10 (l : Nat) (v : Int) : St := ((se1_9 l v).do_ 0 ⟨1, 3, 0, 0⟩).2.2
theorem se1_10_eq (l : Nat) (hl : l < 3) (v : Int) : (se1_9 l v).do_ 0 ⟨1, 3, 0, 0⟩ = (⟨11, 0, [], 0, 0⟩, 0, se1_10 l v) := by
  refine do_split ?_
  match l, hl with
  | 0, _ => (show _ = _; kernel_rfl)
  | 1, _ => (show _ = _; kernel_rfl)
  | 2, _ => (show _ = _; kernel_rfl)
def se1_11 (l : Nat) (v : Int) : St := ((se1_10 l v).begin 2 3).2.2
theorem se1_11_eq (l : Nat) (hl : l < 3) (v : Int) : (se1_10 l v).begin 2 3 = (4, 0, se1_11 l v) := by
  refine do_split ?_
  match l, hl with
  | 0, _ => (show _ = _; kernel_rfl)
  | 1, _ => (show _ = _; kernel_rfl)
  | 2, _ => (show _ = _; kernel_rfl)
def se1_12 (l : Nat) (v : Int) : St := ((se1_11 l v).do_ 2 ⟨1, 1, 0, 0⟩).2.2
theorem se1_12_eq (l : Nat) (hl : l < 3) (v : Int) : (se1_11 l v).do_ 2 ⟨1, 1, 0, 0⟩ = (⟨11, 0, [], 0, 0⟩, 0, se1_12 l v) := by
  refine do_split ?_
  match l, hl with
  | 0, _ => (show _ = _; kernel_rfl)
  | 1, _ => (show _ = _; kernel_rfl)
  | 2, _ => (show _ = _; kernel_rfl)
def se1_13 (l : Nat) (v : Int) : St := ((se1_12 l v).do_ 2 ⟨1, 3, 0, 0⟩).2.2
theorem se1_13_eq (l : Nat) (hl : l < 3) (v : Int) : (se1_12 l v).do_ 2 ⟨1, 3, 0, 0⟩ = (⟨11, 0, [], 0, 0⟩, 0, se1_13 l v) := by
  refine do_split ?_
  match l, hl with
  | 0, _ => (show _ = _; kernel_rfl)
  | 1, _ => (show _ = _; kernel_rfl)
  | 2, _ => (show _ = _; kernel_rfl)
def se2_1 (l : Nat) (v : Int) : St := ((pairSt l 0).doV 1 ⟨2, 3, 0, v⟩).2.2
theorem se2_1_eq (l : Nat) (hl : l < 3) (v : Int) (h0 : 0 ≤ v) (h1 : v ≤ 65535) : (pairSt l 0).do_ 1 ⟨2, 3, 0, v⟩ = (⟨0, 0, [], 0, 0⟩, 0, se2_1 l v) := by
  rw [do_val (ok_val 2 3 v (by decide) h0 h1)]
  refine do_split ?_
  match l, hl with
  | 0, _ => (show _ = _; kernel_rfl)
  | 1, _ => (show _ = _; kernel_rfl)
  | 2, _ => (show _ = _; kernel_rfl)
def se2_2 (l : Nat) (v : Int) : St := ((se2_1 l v).do_ 0 ⟨1, 1, 0, 0⟩).2.2
theorem se2_2_eq (l : Nat) (hl : l < 3) (v : Int) : (se2_1 l v).do_ 0 ⟨1, 1, 0, 0⟩ = (⟨0, 10, [], 0, 0⟩, 0, se2_2 l v) := by
  refine do_split ?_
  match l, hl with
  | 0, _ => (show _ = _; kernel_rfl)
  | 1, _ => (show _ = _; kernel_rfl)
  | 2, _ => (show _ = _; kernel_rfl)
def se2_3 (l : Nat) (v : Int) : St := ((se2_2 l v).do_ 0 ⟨1, 3, 0, 0⟩).2.2
theorem se2_3_eq (l : Nat) (hl : l < 3) (v : Int) : (se2_2 l v).do_ 0 ⟨1, 3, 0, 0⟩ = (⟨11, 0, [], 0, 0⟩, 0, se2_3 l v) := by
  refine do_split ?_
  match l, hl with
  | 0, _ => (show _ = _; kernel_rfl)
  | 1, _ => (show _ = _; kernel_rfl)
  | 2, _ => (show _ = _; kernel_rfl)
def se2_4 (l : Nat) (v : Int) : St := ((se2_3 l v).do_ 1 ⟨6, 0, 0, 0⟩).2.2
theorem se2_4_eq (l : Nat) (hl : l < 3) (v : Int) : (se2_3 l v).do_ 1 ⟨6, 0, 0, 0⟩ = (⟨0, 0, [], 3, 0⟩, 0, se2_4 l v) := by
  refine do_split ?_
  match l, hl with
  | 0, _ => (show _ = _; kernel_rfl)
  | 1, _ => (show _ = _; kernel_rfl)
  | 2, _ => (show _ = _; kernel_rfl)
def se2_5 (l : Nat) (v : Int) : St := ((se2_4 l v).do_ 0 ⟨1, 1, 0, 0⟩).2.2
theorem se2_5_eq (l : Nat) (hl : l < 3) (v : Int) : (se2_4 l v).do_ 0 ⟨1, 1, 0, 0⟩ = (⟨0, 10, [], 0, 0⟩, 0, se2_5 l v) := by
  refine do_split ?_
  match l, hl with
  | 0, _ => (show _ = _; kernel_rfl)
  | 1, _ => (show _ = _; kernel_rfl)
  | 2, _ => (show _ = _; kernel_rfl)
def se2_6 (l : Nat) (v : Int) : St := ((se2_5 l v).do_ 0 ⟨1, 2, 0, 0⟩).2.2
theorem se2_6_eq (l : Nat) (hl : l < 3) (v : Int) : (se2_5 l v).do_ 0 ⟨1, 2, 0, 0⟩ = (⟨0, 20, [], 0, 0⟩, 0, se2_6 l v) := by
  refine do_split ?_
  match l, hl with
  | 0, _ => (show _ = _; kernel_rfl)
  | 1, _ => (show _ = _; kernel_rfl)
  | 2, _ => (show _ = _; kernel_rfl)
def se2_7 (l : Nat) (v : Int) : St := ((se2_6 l v).do_ 0 ⟨1, 3, 0, 0⟩).2.2
theorem se2_7_eq (l : Nat) (hl : l < 3) (v : Int) : (se2_6 l v).do_ 0 ⟨1, 3, 0, 0⟩ = (⟨11, 0, [], 0, 0⟩, 0, se2_7 l v) := by
  refine do_split ?_
  match l, hl with
  | 0, _ => (show _ = _; kernel_rfl)
  | 1, _ => (show _ = _; kernel_rfl)
  | 2, _ => (show _ = _; kernel_rfl)
def se2_8 (l : Nat) (v : Int) : St := (se2_7 l v).collect
def se2_9 (l : Nat) (v : Int) : St := ((se2_8 l v).do_ 0 ⟨1, 1, 0, 0⟩).2.2
theorem se2_9_eq (l : Nat) (hl : l < 3) (v : Int) : (se2_8 l v).do_ 0 ⟨1, 1, 0, 0⟩ = (⟨0, 10, [], 0, 0⟩, 0, se2_9 l v) := by
  refine do_split ?_
  match l, hl with
  | 0, _ => (show _ = _; kernel_rfl)
  | 1, _ => (show _ = _; kernel_rfl)
  | 2, _ => (show _ = _; kernel_rfl)
def se2_10 (l : Nat) (v : Int) : St := ((se2_9 l v).do_ 0 ⟨1, 3, 0, 0⟩).2.2
theorem se2_10_eq (l : Nat) (hl : l < 3) (v : Int) : (se2_9 l v).do_ 0 ⟨1, 3, 0, 0⟩ = (⟨11, 0, [], 0, 0⟩, 0, se2_10 l v) := by
  refine do_split ?_
  match l, hl with
  | 0, _ => (show _ = _; kernel_rfl)
  | 1, _ => (show _ = _; kernel_rfl)
  | 2, _ => (show _ = _; kernel_rfl)
def se2_11 (l : Nat) (v : Int) : St := ((se2_10 l v).begin 2 3).2.2
theorem se2_11_eq (l : Nat) (hl : l < 3) (v : Int) : (se2_10 l v).begin 2 3 = (4, 0, se2_11 l v) := by
  refine do_split ?_
  match l, hl with
  | 0, _ => (show _ = _; kernel_rfl)
  | 1, _ => (show _ = _; kernel_rfl)
  | 2, _ => (show _ = _; kernel_rfl)
def se2_12 (l : Nat) (v : Int) : St := ((se2_11 l v).do_ 2 ⟨1, 1, 0, 0⟩).2.2
theorem se2_12_eq (l : Nat) (hl : l < 3) (v : Int) : (se2_11 l v).do_ 2 ⟨1, 1, 0, 0⟩ = (⟨0, 10, [], 0, 0⟩, 0, se2_12 l v) := by
  refine do_split ?_
  match l, hl with
  | 0, _ => (show _ = _; kernel_rfl)
  | 1, _ => (show _ = _; kernel_rfl)
  | 2, _ => (show _ = _; kernel_rfl)
def se2_13 (l : Nat) (v : Int) : St := ((se2_12 l v).do_ 2 ⟨1, 3, 0, 0⟩).2.2
theorem se2_13_eq (l : Nat) (hl : l < 3) (v : Int) : (se2_12 l v).do_ 2 ⟨1, 3, 0, 0⟩ = (⟨0, v, [], 0, 0⟩, 0, se2_13 l v) := by
  refine do_split ?_
  match l, hl with
  | 0, _ => (show _ = _; kernel_rfl)
  | 1, _ => (show _ = _; kernel_rfl)
  | 2, _ => (show _ = _; kernel_rfl)
end Go.Proofs.Ytcbhafddehipdaa

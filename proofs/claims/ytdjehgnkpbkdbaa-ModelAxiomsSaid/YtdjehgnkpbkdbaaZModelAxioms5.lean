/-
  ModelAxioms: what its proof rests on, part 5.
-/
import Derived.Deep.RegionHeld
import Derived.Test.YtdjehgnkpbkdbaaZModelAxioms1
import Derived.Test.YtdjehgnkpbkdbaaZModelAxioms2
import Derived.Test.YtdjehgnkpbkdbaaZModelAxioms4
namespace Go.Proofs.Ytdjehgnkpbkdbaa
open Go.RowKit
set_option linter.unusedVariables false
set_option linter.unusedSimpArgs false
def grid (c : Nat → List Value) (n : Nat) : List Value := (List.range n).flatMap c
theorem grid_succ (c : Nat → List Value) (n : Nat) : grid c (n + 1) = grid c n ++ c n := by
  unfold grid; rw [List.range_succ, List.flatMap_append]; simp
theorem grid_len {c : Nat → List Value} {w : Nat} (h : ∀ i, (c i).length = w) : ∀ n, (grid c n).length = n * w
  | 0 => by simp [grid]
  | n + 1 => by rw [grid_succ, List.length_append, grid_len h n, h n, Nat.add_mul, Nat.one_mul]
theorem grid_get {c : Nat → List Value} {w : Nat} (h : ∀ i, (c i).length = w) : ∀ n i f, i < n → f < w → (grid c n)[i * w + f]? = (c i)[f]?
  | 0, i, f, hi, hf => by omega
  | n + 1, i, f, hi, hf => by
    rw [grid_succ]
    by_cases e : i < n
    · have : i * w + f < n * w := by
        have h1 : (i + 1) * w ≤ n * w := Nat.mul_le_mul_right _ e
        rw [Nat.add_mul, Nat.one_mul] at h1
        omega
      rw [List.getElem?_append_left (by rw [grid_len h n]; exact this), grid_get h n i f e hf]
    · obtain rfl : i = n := by omega
      rw [List.getElem?_append_right (by rw [grid_len h i]; omega), grid_len h i, Nat.add_sub_cancel_left]
theorem grid_congr {c c' : Nat → List Value} : ∀ n, (∀ i, i < n → c i = c' i) → grid c n = grid c' n
  | 0, _ => rfl
  | n + 1, h => by rw [grid_succ, grid_succ, grid_congr n (fun i hi => h i (by omega)), h n (by omega)]
theorem grid_ext {c : Nat → List Value} {w n : Nat} (h : ∀ i, (c i).length = w) (hw : 0 < w) {l : List Value} (hl : l.length = n * w) (hg : ∀ i f, i < n → f < w → l[i * w + f]? = (c i)[f]?) : l = grid c n := by
  apply List.ext_getElem?
  intro j
  by_cases hj : j < n * w
  · have h1 : j / w < n := (Nat.div_lt_iff_lt_mul hw).2 hj
    have h2 : j % w < w := Nat.mod_lt _ hw
    have e : j = j / w * w + j % w := by rw [Nat.mul_comm]; exact (Nat.div_add_mod j w).symm
    rw [e, hg _ _ h1 h2, grid_get h n _ _ h1 h2]
  · rw [List.getElem?_eq_none (by omega), List.getElem?_eq_none (by rw [grid_len h n]; omega)]
theorem grid_set {c c' : Nat → List Value} {w n i f : Nat} {v : Value} (h : ∀ i, (c i).length = w) (hi : i < n) (hf : f < w) (he : ∀ k, k < n → k ≠ i → c' k = c k) (hc : c' i = (c i).set f v) (h' : ∀ i, (c' i).length = w) : (grid c n).set (i * w + f) v = grid c' n := by
  refine grid_ext h' (by omega) (by rw [List.length_set, grid_len h n]) (fun k g hk hg => ?_)
  rw [List.getElem?_set]
  by_cases e : i * w + f = k * w + g
  · have e1 : i = k := by
      rcases Nat.lt_trichotomy i k with x | x | x
      · have : (i + 1) * w ≤ k * w := Nat.mul_le_mul_right _ x
        rw [Nat.add_mul, Nat.one_mul] at this
        omega
      · exact x
      · have : (k + 1) * w ≤ i * w := Nat.mul_le_mul_right _ x
        rw [Nat.add_mul, Nat.one_mul] at this
        omega
    subst e1
    have e2 : f = g := by omega
    subst e2
    rw [if_pos rfl, hc, List.getElem?_set, if_pos rfl, grid_len h n, h i]
    have : i * w + f < n * w := by
      have h1 : (i + 1) * w ≤ n * w := Nat.mul_le_mul_right _ hi
      rw [Nat.add_mul, Nat.one_mul] at h1
      omega
    rw [if_pos this, if_pos hf]
  · rw [if_neg e, grid_get h n k g hk hg]
    by_cases ek : k = i
    · subst ek
      rw [hc, List.getElem?_set, if_neg (by omega)]
    · rw [he k hk ek]
def dlRow (ds : List Dl) (oa : Nat → Option Addr) (oc : Nat → Nat) : List Value := grid (fun i => dlCells (dAt ds i) (oa i) (oc i)) ds.length
def clRow (ops : List Cl) (pa : Nat → Option Addr) (pc : Nat → Nat) : List Value := grid (fun i => clCells (ops.getD i default) (pa i) (pc i)) ops.length
theorem dlCells_len (d : Dl) (a : Option Addr) (c : Nat) : (dlCells d a c).length = 6 := rfl
theorem clCells_len (d : Cl) (a : Option Addr) (c : Nat) : (clCells d a c).length = 9 := rfl
structure DAd where
  oa : Nat → Option Addr
  oc : Nat → Nat
  pa : Nat → Nat → Option Addr
  pc : Nat → Nat → Nat
abbrev DAd.opV (A : DAd) (ds : List Dl) (i : Nat) : Value := .slice (A.oa i) (dAt ds i).ops.length (A.oc i)
/-- Deals lie in rows of the law's own: R: the rows' blocks, S: the blocks of the answers' pairs. -/
structure DO (B : Nat) (w : World) (R S : Nat → Prop) (va : Option Addr) (vc : Nat) (ds : List Dl) (A : DAd) : Prop where
  row : w.ownsRow B 59 6 (.slice va ds.length vc) ds.length (dlRow ds A.oa A.oc)
  ops : ∀ i, i < ds.length → w.ownsRow B 70 9 (A.opV ds i) (dAt ds i).ops.length (clRow (dAt ds i).ops (A.pa i) (A.pc i))
  inj : ∀ i j, i < ds.length → j < ds.length → i ≠ j → Apart (rowOf (A.opV ds i)) (rowOf (A.opV ds j))
  pr : ∀ i m, i < ds.length → m < (dAt ds i).ops.length → PairsIn w (A.pa i m) ((dAt ds i).ops.getD m default).res.pairs ∧ (((dAt ds i).ops.getD m default).res.pairs ≠ [] → ∀ x, A.pa i m = some x → S x.block)
  rR : ∀ b, rowOf (.slice va ds.length vc) b → R b
  oR : ∀ i, i < ds.length → ∀ b, rowOf (A.opV ds i) b → R b
  ap : Apart R S
  uR : Under R w.heap.size
  uS : Under S w.heap.size
  aR : Above R B
  aS : Above S B
theorem PairsIn.onlyS {w w' : World} {a : Option Addr} {ps : List (Int × Int)} {S T : Nat → Prop} (h : PairsIn w a ps) (o : Only T w w') (hS : ps ≠ [] → ∀ x, a = some x → S x.block) (ha : Apart S T) : PairsIn w' a ps := by
  by_cases e : ps = []
  · exact .inl e
  · exact h.only o (fun x hx => ha _ (hS e x hx))
theorem DO.only {B : Nat} {w w' : World} {R S T : Nat → Prop} {va : Option Addr} {vc : Nat} {ds : List Dl} {A : DAd} (h : DO B w R S va vc ds A) (o : Only T w w') (h1 : Apart R T) (h2 : Apart S T) : DO B w' R S va vc ds A :=
  ⟨rows_only h.row o (fun b hb => h1 b (h.rR b hb)), fun i hi => rows_only (h.ops i hi) o (fun b hb => h1 b (h.oR i hi b hb)), h.inj, fun i m hi hm => ⟨(h.pr i m hi hm).1.onlyS o (h.pr i m hi hm).2 h2, (h.pr i m hi hm).2⟩, h.rR, h.oR, h.ap, h.uR.mono o.size, h.uS.mono o.size, h.aR, h.aS⟩
theorem DO.only0 {B : Nat} {w w' : World} {R S : Nat → Prop} {va : Option Addr} {vc : Nat} {ds : List Dl} {A : DAd} (h : DO B w R S va vc ds A) (o : Only0 w w') : DO B w' R S va vc ds A :=
  h.only (T := fun _ => False) o (fun _ _ hf => hf) (fun _ _ hf => hf)
theorem DO.nil (B : Nat) (w : World) : DO B w (fun _ => False) (fun _ => False) none 0 [] ⟨fun _ => none, fun _ => 0, fun _ _ => none, fun _ _ => 0⟩ :=
  ⟨World.ownsRow_nil _ _ _ _, fun i hi => by simp at hi, fun i j hi => by simp at hi, fun i m hi => by simp at hi, fun b hb => absurd hb (rowOf_none _ _ _), fun i hi => by simp at hi, fun _ hf => hf.elim, fun _ hf => hf.elim, fun _ hf => hf.elim, fun _ hf => hf.elim, fun _ hf => hf.elim⟩
theorem DO.callsIn {B : Nat} {w : World} {R S : Nat → Prop} {va : Option Addr} {vc : Nat} {ds : List Dl} {A : DAd} (h : DO B w R S va vc ds A) {i : Nat} (hi : i < ds.length) : CallsIn w (A.oa i) (dAt ds i).ops ∧ (dAt ds i).ops.length ≤ A.oc i := by
  have H := h.ops i hi
  rcases H.2 with ⟨e, h0⟩ | ⟨g, cap, cur, hv, _, _, h1, _⟩
  · injection e with e1 e2 e3
    exact ⟨.inl (List.eq_nil_of_length_eq_zero h0), by omega⟩
  · have hv' := hv
    injection hv with e1 e2 e3
    have H' := H
    rw [show A.opV ds i = .slice (some ⟨g, 0, none⟩) (dAt ds i).ops.length (A.oc i) by unfold DAd.opV; rw [e1]] at H'
    refine ⟨.inr ⟨g, e1, fun m hm => ⟨A.pa i m, A.pc i m, (h.pr i m hi hm).1, fun f v hv => ?_⟩⟩, by omega⟩
    have hf : f < 9 := by
      have := (List.getElem?_eq_some_iff.1 hv).1
      rw [clCells_len] at this; exact this
    rw [H'.cellAt (m * 9 + f) (by omega)]
    unfold clRow
    rw [grid_get (fun k => clCells_len _ _ _) _ _ _ hm hf]
    exact hv
theorem DO.deals {B : Nat} {w : World} {R S : Nat → Prop} {va : Option Addr} {vc : Nat} {ds : List Dl} {A : DAd} (h : DO B w R S va vc ds A) : DealsIn w va ds ∧ ds.length ≤ vc := by
  have H := h.row
  rcases H.2 with ⟨e, h0⟩ | ⟨g, cap, cur, hv, _, _, h1, _⟩
  · injection e with e1 e2 e3
    exact ⟨.inl (List.eq_nil_of_length_eq_zero h0), by omega⟩
  · injection hv with e1 e2 e3
    have H' := H
    rw [e1] at H'
    refine ⟨.inr ⟨g, e1, fun i hi => ⟨A.oa i, A.oc i, (h.callsIn hi).1, (h.callsIn hi).2, fun f v hv => ?_⟩⟩, by omega⟩
    have hf : f < 6 := by
      have := (List.getElem?_eq_some_iff.1 hv).1
      rw [dlCells_len] at this; exact this
    rw [H'.cellAt (i * 6 + f) (by omega)]
    unfold dlRow
    rw [grid_get (fun k => dlCells_len _ _ _) _ _ _ hi hf]
    exact hv
/-- One Deal more. -/
theorem DO.push {B gg cap : Nat} {w w1 : World} {R S : Nat → Prop} {va : Option Addr} {vc : Nat} {ds : List Dl} {A : DAd} (h : DO B w R S va vc ds A) {d : Dl} (hd : d.ops = [])
    (hown : w1.ownsRow B 59 6 (.slice (some ⟨gg, 0, none⟩) (ds.length + 1) cap) (ds.length + 1) (dlRow ds A.oa A.oc ++ dlCells d none 0)) (hg : w.grownBy w1 (Value.slice va ds.length vc).ownBlock) (hat : (Value.slice va ds.length vc).ownBlock = some gg ∨ w.heap.size ≤ gg) (hlt : gg < w1.heap.size) :
    ∃ A', DO B w1 (fun b => R b ∨ b = gg) S (some ⟨gg, 0, none⟩) cap (ds ++ [d]) A' ∧ Only R w w1 := by
  have o1 : Only (rowOf (.slice va ds.length vc)) w w1 := ⟨hg.os, hg.tape, hg.output, hg.size, fun b hb hn => hg.block b hb (fun e => hn e.symm)⟩
  have oR : Only R w w1 := o1.toward h.rR
  have hap : Apart S (rowOf (.slice va ds.length vc)) := fun b hb hr => h.ap b (h.rR b hr) hb
  have rapt : ∀ i, i < ds.length → Apart (rowOf (A.opV ds i)) (rowOf (.slice va ds.length vc)) := fun i hi => (rows_apart h.row (h.ops i hi) (by decide)).symm
  refine ⟨⟨fun i => if i = ds.length then none else A.oa i, fun i => if i = ds.length then 0 else A.oc i, A.pa, A.pc⟩, ?_, oR⟩
  have hat' : ∀ i, i < ds.length → dAt (ds ++ [d]) i = dAt ds i := fun i hi => by rw [dAt_app, if_neg (by omega)]
  have hat2 : dAt (ds ++ [d]) ds.length = d := by rw [dAt_app, if_pos rfl]
  have hV : ∀ i, i < ds.length → DAd.opV ⟨fun i => if i = ds.length then none else A.oa i, fun i => if i = ds.length then 0 else A.oc i, A.pa, A.pc⟩ (ds ++ [d]) i = A.opV ds i := fun i hi => by
    unfold DAd.opV
    simp only [if_neg (show ¬ i = ds.length by omega), hat' i hi]
  have hV2 : DAd.opV ⟨fun i => if i = ds.length then none else A.oa i, fun i => if i = ds.length then 0 else A.oc i, A.pa, A.pc⟩ (ds ++ [d]) ds.length = .slice none 0 0 := by
    unfold DAd.opV
    simp only [if_true, hat2, hd, List.length_nil]
  have hn : (ds ++ [d]).length = ds.length + 1 := by simp
  have hrow : dlRow (ds ++ [d]) (fun i => if i = ds.length then none else A.oa i) (fun i => if i = ds.length then 0 else A.oc i) = dlRow ds A.oa A.oc ++ dlCells d none 0 := by
    unfold dlRow
    rw [hn, grid_succ]
    congr 1
    · exact grid_congr _ (fun i hi => by simp only [if_neg (show ¬ i = ds.length by omega), hat' i hi])
    · simp only [if_true, hat2]
  refine ⟨?_, fun i hi => ?_, fun i j hi hj hne => ?_, fun i m hi hm => ?_, fun b hb => ?_, fun i hi b hb => ?_, fun b hb hS => ?_, fun b hb => ?_, h.uS.mono o1.size, fun b hb => ?_, h.aS⟩
  · rw [hrow, hn]; exact hown
  · by_cases e : i = ds.length
    · subst e
      rw [hV2, hat2, hd]
      exact World.ownsRow_nil _ _ _ _
    · have hi' : i < ds.length := by simp at hi; omega
      rw [hV i hi', hat' i hi']
      exact rows_only (h.ops i hi') o1 (rapt i hi')
  · by_cases e : i = ds.length
    · subst e; rw [hV2]; exact fun b hb => absurd hb (rowOf_none _ _ _)
    · by_cases e' : j = ds.length
      · subst e'; rw [hV2]; exact fun b _ hb => rowOf_none _ _ _ hb
      · have hi' : i < ds.length := by simp at hi; omega
        have hj' : j < ds.length := by simp at hj; omega
        rw [hV i hi', hV j hj']; exact h.inj i j hi' hj' hne
  · by_cases e : i = ds.length
    · subst e; rw [hat2, hd] at hm; simp at hm
    · have hi' : i < ds.length := by simp at hi; omega
      rw [hat' i hi'] at hm ⊢
      exact ⟨(h.pr i m hi' hm).1.onlyS o1 (h.pr i m hi' hm).2 hap, (h.pr i m hi' hm).2⟩
  · exact .inr (rowOf_some.1 hb)
  · by_cases e : i = ds.length
    · subst e; rw [hV2] at hb; exact absurd hb (rowOf_none _ _ _)
    · have hi' : i < ds.length := by simp at hi; omega
      rw [hV i hi'] at hb
      exact .inl (h.oR i hi' b hb)
  · rcases hb with hb | rfl
    · exact h.ap b hb hS
    · rcases hat with x | x
      · exact h.ap b (h.rR b x) hS
      · have := h.uS b hS; omega
  · rcases hb with hb | rfl
    · exact Nat.lt_of_lt_of_le (h.uR b hb) o1.size
    · exact hlt
  · rcases hb with hb | rfl
    · exact h.aR b hb
    · exact (hown.lt b rfl).1
end Go.Proofs.Ytdjehgnkpbkdbaa
namespace Go.Proofs.Ytdjehgnkpbkdbaa
open Go.RowKit
set_option linter.unusedVariables false
set_option linter.unusedSimpArgs false
/-- The main row's address. -/
theorem DO.at_ {B : Nat} {w : World} {R S : Nat → Prop} {va : Option Addr} {vc : Nat} {ds : List Dl} {A : DAd} (h : DO B w R S va vc ds A) (hn : 0 < ds.length) : ∃ g, va = some ⟨g, 0, none⟩ ∧ R g ∧ g < w.heap.size ∧ (∀ o, w.frozen? ⟨g, o, none⟩ = false) ∧
    ∀ i, i < ds.length → ∀ f v, (dlCells (dAt ds i) (A.oa i) (A.oc i))[f]? = some v → w.cell? ⟨g, i * 6 + f, none⟩ = some v := by
  rcases h.row.2 with ⟨e, h0⟩ | ⟨g, cap, cur, hv, _, hg, _⟩
  · omega
  · injection hv with e1 e2 e3
    have H' := h.row
    rw [e1] at H'
    refine ⟨g, e1, h.rR g (by rw [e1]; exact rowOf_some.2 rfl), lt_of_block hg, fun o => H'.frozenAt o, fun i hi f v hv => ?_⟩
    have hf : f < 6 := by
      have := (List.getElem?_eq_some_iff.1 hv).1
      rw [dlCells_len] at this; exact this
    rw [H'.cellAt (i * 6 + f) (by omega)]
    unfold dlRow
    rw [grid_get (fun k => dlCells_len _ _ _) _ _ _ hi hf]
    exact hv
/-- A cell of a Deal turns; its calls stay. -/
theorem DO.turn {B g : Nat} {w : World} {R S : Nat → Prop} {vc : Nat} {ds : List Dl} {A : DAd} (h : DO B w R S (some ⟨g, 0, none⟩) vc ds A) {i f : Nat} {v : Value} (hi : i < ds.length) (hf : f < 6) {d' : Dl} (hops : d'.ops = (dAt ds i).ops) (hc : ∀ a c, dlCells d' a c = (dlCells (dAt ds i) a c).set f v) :
    DO B (w.setCell ⟨g, i * 6 + f, none⟩ v) R S (some ⟨g, 0, none⟩) vc (ds.set i d') A ∧ Only R w (w.setCell ⟨g, i * 6 + f, none⟩ v) := by
  have hn : (ds.set i d').length = ds.length := List.length_set
  have hS : ∀ k, dAt (ds.set i d') k = if k = i then d' else dAt ds k := fun k => dAt_set hi
  have hgR : R g := h.rR g (rowOf_some.2 rfl)
  have o1 : Only (rowOf (.slice (some ⟨g, 0, none⟩) ds.length vc)) w (w.setCell ⟨g, i * 6 + f, none⟩ v) := Only.setCell (S := rowOf (.slice (some ⟨g, 0, none⟩) ds.length vc)) (Only.refl _ w) (fun _ => rowOf_some.2 rfl) v
  have oR : Only R w (w.setCell ⟨g, i * 6 + f, none⟩ v) := o1.toward h.rR
  have hO : ∀ k, (dAt (ds.set i d') k).ops = (dAt ds k).ops := fun k => by
    rw [hS]; split
    · rename_i e; subst e; exact hops
    · rfl
  have hV : ∀ k, A.opV (ds.set i d') k = A.opV ds k := fun k => by unfold DAd.opV; rw [hO]
  have hap : Apart S (rowOf (.slice (some ⟨g, 0, none⟩) ds.length vc)) := fun b hb hr => h.ap b (h.rR b hr) hb
  have rapt : ∀ k, k < ds.length → Apart (rowOf (A.opV ds k)) (rowOf (.slice (some ⟨g, 0, none⟩) ds.length vc)) := fun k hk => (rows_apart h.row (h.ops k hk) (by decide)).symm
  refine ⟨⟨?_, fun k hk => ?_, fun k j hk hj hne => ?_, fun k m hk hm => ?_, fun b hb => ?_, fun k hk b hb => ?_, h.ap, h.uR.mono o1.size, h.uS.mono o1.size, h.aR, h.aS⟩, oR⟩
  · have := (h.row.stored (i * 6 + f) v).1
    have e : (dlRow ds A.oa A.oc).set (i * 6 + f) v = dlRow (ds.set i d') A.oa A.oc := by
      unfold dlRow
      rw [hn]
      exact grid_set (fun k => dlCells_len _ _ _) hi hf (fun k hk hne => by rw [hS, if_neg hne]) (by rw [hS, if_pos rfl]; exact hc _ _) (fun k => dlCells_len _ _ _)
    rw [e] at this
    rw [hn]; exact this
  · rw [hn] at hk
    rw [hV, hO]
    exact rows_only (h.ops k hk) o1 (rapt k hk)
  · rw [hn] at hk hj
    rw [hV, hV]; exact h.inj k j hk hj hne
  · rw [hn] at hk
    rw [hO] at hm ⊢
    exact ⟨(h.pr k m hk hm).1.onlyS o1 (h.pr k m hk hm).2 hap, (h.pr k m hk hm).2⟩
  · rw [hn] at hb; exact h.rR b hb
  · rw [hn] at hk
    rw [hV] at hb; exact h.oR k hk b hb
/-- One call more: the row of calls has grown, and the Deal is told. -/
theorem DO.call {B g gg cap : Nat} {w w1 : World} {R S : Nat → Prop} {vc : Nat} {ds : List Dl} {A : DAd} (h : DO B w R S (some ⟨g, 0, none⟩) vc ds A) {i : Nat} (hi : i < ds.length) {c : Cl} {pa : Option Addr} {pc : Nat}
    (hp : PairsIn w pa c.res.pairs) (hpn : c.res.pairs ≠ [] → ∀ x, pa = some x → ¬ R x.block ∧ x.block < w.heap.size ∧ B ≤ x.block)
    (hown : w1.ownsRow B 70 9 (.slice (some ⟨gg, 0, none⟩) ((dAt ds i).ops.length + 1) cap) ((dAt ds i).ops.length + 1) (clRow (dAt ds i).ops (A.pa i) (A.pc i) ++ clCells c pa pc)) (hg : w.grownBy w1 (A.opV ds i).ownBlock) (hat : (A.opV ds i).ownBlock = some gg ∨ w.heap.size ≤ gg) (hlt : gg < w1.heap.size) :
    ∃ A', DO B (w1.setCell ⟨g, i * 6 + 5, none⟩ (.slice (some ⟨gg, 0, none⟩) ((dAt ds i).ops.length + 1) cap)) (fun b => R b ∨ b = gg) (fun b => S b ∨ (c.res.pairs ≠ [] ∧ ∃ x, pa = some x ∧ x.block = b)) (some ⟨g, 0, none⟩) vc (ds.set i { dAt ds i with ops := (dAt ds i).ops ++ [c] }) A'
      ∧ Only R w (w1.setCell ⟨g, i * 6 + 5, none⟩ (.slice (some ⟨gg, 0, none⟩) ((dAt ds i).ops.length + 1) cap)) := by
  obtain ⟨ops, hops⟩ : ∃ ops, ops = (dAt ds i).ops := ⟨_, rfl⟩
  rw [← hops] at hown ⊢
  obtain ⟨d', hd'⟩ : ∃ d' : Dl, d' = { dAt ds i with ops := ops ++ [c] } := ⟨_, rfl⟩
  have hd'o : d'.ops = ops ++ [c] := by rw [hd']
  have hd'c : ∀ a c1, dlCells d' a c1 = (dlCells (dAt ds i) a c1).set 5 (.slice a (ops.length + 1) c1) := fun a c1 => by rw [hd']; unfold dlCells; simp
  rw [← hd']
  have o1 : Only (rowOf (A.opV ds i)) w w1 := ⟨hg.os, hg.tape, hg.output, hg.size, fun b hb hn => hg.block b hb (fun e => hn e.symm)⟩
  have hrow1 := rows_only h.row o1 (rows_apart h.row (h.ops i hi) (by decide))
  have hgR : R g := h.rR g (rowOf_some.2 rfl)
  have hglt : g < w.heap.size := h.uR g hgR
  have hgne : gg ≠ g := fun e => by
    have := rows_apart hrow1 hown (by decide)
    exact this g (rowOf_some.2 rfl) (rowOf_some.2 e.symm)
  have o2 : Only (fun b => b = g) w1 (w1.setCell ⟨g, i * 6 + 5, none⟩ (.slice (some ⟨gg, 0, none⟩) (ops.length + 1) cap)) := Only.setCell (S := fun b => b = g) (Only.refl _ w1) (fun _ => rfl) _
  obtain ⟨W, hW⟩ : ∃ W, W = w1.setCell ⟨g, i * 6 + 5, none⟩ (.slice (some ⟨gg, 0, none⟩) (ops.length + 1) cap) := ⟨_, rfl⟩
  have hst := (hrow1.stored (i * 6 + 5) (.slice (some ⟨gg, 0, none⟩) (ops.length + 1) cap)).1
  rw [← hW] at o2 hst ⊢
  have oR : Only R w W := (o1.toward (h.oR i hi)).trans (o2.mono (fun b _ hb => by subst hb; exact hgR)) 
  have hn : (ds.set i d').length = ds.length := List.length_set
  have hS : ∀ k, dAt (ds.set i d') k = if k = i then d' else dAt ds k := fun k => dAt_set hi
  have hne5 : ∀ k, k < ds.length → k ≠ i → Apart (rowOf (A.opV ds k)) (rowOf (A.opV ds i)) := fun k hk hne => h.inj k i hk hi hne
  have hSR : Apart S (rowOf (A.opV ds i)) := fun b hb hr => h.ap b (h.oR i hi b hr) hb
  have hSg : Apart S (fun b => b = g) := fun b hb e => by subst e; exact h.ap b hgR hb
  obtain ⟨A', hA'⟩ : ∃ A' : DAd, A' = ⟨fun k => if k = i then some ⟨gg, 0, none⟩ else A.oa k, fun k => if k = i then cap else A.oc k, fun k m => if k = i ∧ m = ops.length then pa else A.pa k m, fun k m => if k = i ∧ m = ops.length then pc else A.pc k m⟩ := ⟨_, rfl⟩
  have hVi : A'.opV (ds.set i d') i = .slice (some ⟨gg, 0, none⟩) (ops.length + 1) cap := by
    unfold DAd.opV; rw [hS, if_pos rfl, hd'o, hA']; simp
  have hVk : ∀ k, k ≠ i → A'.opV (ds.set i d') k = A.opV ds k := fun k hk => by
    unfold DAd.opV; rw [hS, if_neg hk, hA']; simp only [if_neg hk]
  have hggR : ∀ b, b = gg → R b ∨ b = gg := fun b e => .inr e
  have ggw : ∀ k, k < ds.length → k ≠ i → ¬ rowOf (A.opV ds k) gg := fun k hk hne hx => by
    rcases hat with x | x
    · exact hne5 k hk hne gg hx x
    · have := h.uR gg (h.oR k hk gg hx); omega
  have ggS : ¬ S gg := fun hx => by
    rcases hat with x | x
    · exact h.ap gg (h.oR i hi gg x) hx
    · have := h.uS gg hx; omega
  have hpx : c.res.pairs ≠ [] → ∀ x, pa = some x → x.block ≠ gg := fun hne x hx e => by
    obtain ⟨p1, p2, p3⟩ := hpn hne x hx
    rcases hat with y | y
    · exact p1 (by rw [e]; exact h.oR i hi gg y)
    · omega
  have hw1 : w.heap.size ≤ W.heap.size := Nat.le_trans o1.size o2.size
  refine ⟨A', ⟨?_, fun k hk => ?_, fun k j hk hj hne => ?_, fun k m hk hm => ?_, fun b hb => ?_, fun k hk b hb => ?_, fun b hb hs => ?_, fun b hb => ?_, fun b hb => ?_, fun b hb => ?_, fun b hb => ?_⟩, oR⟩
  · have e : (dlRow ds A.oa A.oc).set (i * 6 + 5) (.slice (some ⟨gg, 0, none⟩) (ops.length + 1) cap) = dlRow (ds.set i d') A'.oa A'.oc := by
      unfold dlRow
      rw [hn]
      refine grid_set (fun k => dlCells_len _ _ _) hi (by decide) (fun k hk hne => ?_) ?_ (fun k => dlCells_len _ _ _)
      · rw [hS, if_neg hne, hA']; simp only [if_neg hne]
      · rw [hS, if_pos rfl, hd'c, hA']; simp only [if_true]; unfold dlCells; simp
    rw [e] at hst
    rw [hn]; exact hst
  · rw [hn] at hk
    by_cases e : k = i
    · subst e
      have hrow : clRow (ops ++ [c]) (A'.pa k) (A'.pc k) = clRow ops (A.pa k) (A.pc k) ++ clCells c pa pc := by
        unfold clRow
        rw [show (ops ++ [c]).length = ops.length + 1 by simp, grid_succ]
        congr 1
        · refine grid_congr _ (fun m hm => ?_)
          have hm2 : ¬ m = ops.length := by omega
          have e1 : A'.pa k m = A.pa k m := by rw [hA']; simp [hm2]
          have e2 : A'.pc k m = A.pc k m := by rw [hA']; simp [hm2]
          have e3 : (ops ++ [c]).getD m default = ops.getD m default := by
            rw [List.getD_eq_getElem?_getD, List.getD_eq_getElem?_getD, List.getElem?_append_left hm]
          show clCells _ _ _ = clCells _ _ _
          rw [e1, e2, e3]
        · rw [hA']
          simp only [and_self, if_true]
          rw [List.getD_eq_getElem?_getD, List.getElem?_append_right (Nat.le_refl _)]; simp
      rw [hVi, hS, if_pos rfl, hd'o, hrow, show (ops ++ [c]).length = ops.length + 1 by simp]
      exact rows_only hown o2 (fun b hb e => hgne ((rowOf_some.1 hb).symm.trans e))
    · rw [hVk k e, hS, if_neg e]
      have h1 := rows_only (h.ops k hk) o1 (hne5 k hk e)
      have h2 := rows_only h1 o2 (fun b hb e => by
        subst e
        exact (rows_apart h.row (h.ops k hk) (by decide)) b (rowOf_some.2 rfl) hb)
      have e3 : clRow (dAt ds k).ops (A'.pa k) (A'.pc k) = clRow (dAt ds k).ops (A.pa k) (A.pc k) := by
        unfold clRow
        refine grid_congr _ (fun m hm => ?_)
        rw [hA']
        simp only [show ¬ (k = i ∧ m = ops.length) from fun x => e x.1, if_false]
      rw [e3]; exact h2
  · rw [hn] at hk hj
    by_cases e : k = i
    · subst e
      rw [hVi, hVk j (fun x => hne x.symm)]
      exact fun b hb hb' => ggw j hj (fun x => hne x.symm) (by rw [← rowOf_some.1 hb]; exact hb')
    · by_cases e' : j = i
      · subst e'
        rw [hVi, hVk k e]
        exact fun b hb hb' => ggw k hk e (by rw [← rowOf_some.1 hb']; exact hb)
      · rw [hVk k e, hVk j e']; exact h.inj k j hk hj hne
  · rw [hn] at hk
    have old : ∀ m, m < (dAt ds k).ops.length → PairsIn W (A.pa k m) ((dAt ds k).ops.getD m default).res.pairs ∧ (((dAt ds k).ops.getD m default).res.pairs ≠ [] → ∀ x, A.pa k m = some x → S x.block ∨ (c.res.pairs ≠ [] ∧ ∃ y, pa = some y ∧ y.block = x.block)) := fun m hm => by
      obtain ⟨p1, p2⟩ := h.pr k m hk hm
      exact ⟨(p1.onlyS o1 p2 hSR).onlyS o2 p2 hSg, fun hne x hx => .inl (p2 hne x hx)⟩
    by_cases e : k = i
    · subst e
      rw [hS, if_pos rfl, hd'o] at hm ⊢
      by_cases em : m = ops.length
      · subst em
        have e1 : A'.pa k ops.length = pa := by rw [hA']; simp
        rw [e1, show (ops ++ [c]).getD ops.length default = c by rw [List.getD_eq_getElem?_getD, List.getElem?_append_right (Nat.le_refl _)]; simp]
        refine ⟨?_, fun hne x hx => .inr ⟨hne, x, hx, rfl⟩⟩
        by_cases hne : c.res.pairs = []
        · exact .inl hne
        · refine (hp.only o1 (fun x hx hr => (hpn hne x hx).1 (h.oR k hi _ hr))).only o2 (fun x hx e => (hpn hne x hx).1 (by rw [e]; exact hgR))
      · have hm' : m < ops.length := by simp at hm; omega
        have e1 : A'.pa k m = A.pa k m := by rw [hA']; simp [em]
        have e2 : (ops ++ [c]).getD m default = (dAt ds k).ops.getD m default := by
          rw [← hops, List.getD_eq_getElem?_getD, List.getD_eq_getElem?_getD, List.getElem?_append_left hm']
        rw [e1, e2]
        exact old m (by rw [← hops]; exact hm')
    · rw [hS, if_neg e] at hm ⊢
      have e1 : A'.pa k m = A.pa k m := by rw [hA']; simp [e]
      rw [e1]
      exact old m hm
  · rw [hn] at hb; exact .inl (h.rR b hb)
  · rw [hn] at hk
    by_cases e : k = i
    · subst e; rw [hVi] at hb; exact .inr (rowOf_some.1 hb)
    · rw [hVk k e] at hb; exact .inl (h.oR k hk b hb)
  · rcases hb with hb | rfl
    · rcases hs with hs | ⟨hne, x, hx, rfl⟩
      · exact h.ap b hb hs
      · exact (hpn hne x hx).1 hb
    · rcases hs with hs | ⟨hne, x, hx, e⟩
      · exact ggS hs
      · exact hpx hne x hx e
  · rcases hb with hb | rfl
    · exact Nat.lt_of_lt_of_le (h.uR b hb) hw1
    · exact Nat.lt_of_lt_of_le hlt o2.size
  · rcases hb with hb | ⟨hne, x, hx, rfl⟩
    · exact Nat.lt_of_lt_of_le (h.uS b hb) hw1
    · exact Nat.lt_of_lt_of_le (hpn hne x hx).2.1 hw1
  · rcases hb with hb | rfl
    · exact h.aR b hb
    · exact (hown.lt b rfl).1
  · rcases hb with hb | ⟨hne, x, hx, rfl⟩
    · exact h.aS b hb
    · exact (hpn hne x hx).2.2
end Go.Proofs.Ytdjehgnkpbkdbaa
namespace Go.Proofs.Ytdjehgnkpbkdbaa
open Go.RowKit
set_option linter.unusedVariables false
set_option linter.unusedSimpArgs false
def statAll (s : St) (j : Int) : Array Value := if sessB j then statV (s.tx j.toNat) else statV none
/-- The id that Status tells; 0: none. -/
def idV (s : St) (j : Int) : Int := if sessB j then (match s.tx j.toNat with | some t => t.id | none => 0) else 0
theorem statAll_shape (s : St) (j : Int) : ∃ l lv st bg op, statAll s j = #[.bool l, .bool false, .bool false, .int .i64 (idV s j), .int .i64 lv, .int .i64 st, .int .u64 bg, .int .u64 0, .int .i64 op] := by
  unfold statAll idV
  cases sessB j with
  | false => exact ⟨_, _, _, _, _, rfl⟩
  | true =>
    simp only [if_true]
    cases s.tx j.toNat with
    | none => exact ⟨_, _, _, _, _, rfl⟩
    | some t => exact ⟨_, _, _, _, _, rfl⟩
set_option maxRecDepth 100000 in
set_option maxHeartbeats 8000000 in
theorem md_statusA {B m : Nat} {w : World} {P : Nat → Prop} {s : St} (h : MAt B w P m s) (j : Int) :
    Calls Try.prog 19 #[.pointer (some ⟨m, 0, none⟩), .int .i64 j] w fun e w' => e = .returned (.agg (statAll s j)) ∧ Only0 w w' := by
  cases hs : sessB j with
  | true =>
    obtain ⟨jn, rfl⟩ : ∃ n : Nat, j = n := ⟨j.toNat, by simp [sessB] at hs; omega⟩
    have hj : jn < 8 := by simp [sessB] at hs; omega
    have e : statAll s (jn : Int) = statV (s.tx jn) := by unfold statAll; rw [hs]; rfl
    rw [e]
    exact md_status h jn hj
  | false =>
    have HS : Hid (statAll s j = statV none) := Lib.hid (by unfold statAll; rw [hs]; rfl)
    obtain ⟨W, hW⟩ : ∃ W, W = w.alloc (.cells #[.bool false, .bool false, .bool false, .int .i64 0, .int .i64 0, .int .i64 0, .int .u64 0, .int .u64 0, .int .i64 0] 62) := ⟨_, rfl⟩
    obtain ⟨n0, hn0⟩ : ∃ n0, n0 = w.heap.size := ⟨_, rfl⟩
    have oW : Only0 w W := by rw [hW]; exact (Only0.refl w).alloc _
    have BX : Blk W n0 62 #[.bool false, .bool false, .bool false, .int .i64 0, .int .i64 0, .int .i64 0, .int .u64 0, .int .u64 0, .int .i64 0] := by rw [hW, hn0]; exact Blk.new _ _ _
    have HN := Lib.hid hn0
    have HO := Lib.hid oW
    have CS := md_sess j W
    rw [hs] at CS
    have b0 : W.cell? ⟨n0, 0, none⟩ = some (.bool false) := BX.cell 0
    have b1 : W.cell? ⟨n0, 1, none⟩ = some (.bool false) := BX.cell 1
    have b2 : W.cell? ⟨n0, 2, none⟩ = some (.bool false) := BX.cell 2
    have b3 : W.cell? ⟨n0, 3, none⟩ = some (.int .i64 0) := BX.cell 3
    have b4 : W.cell? ⟨n0, 4, none⟩ = some (.int .i64 0) := BX.cell 4
    have b5 : W.cell? ⟨n0, 5, none⟩ = some (.int .i64 0) := BX.cell 5
    have b6 : W.cell? ⟨n0, 6, none⟩ = some (.int .u64 0) := BX.cell 6
    have b7 : W.cell? ⟨n0, 7, none⟩ = some (.int .u64 0) := BX.cell 7
    have b8 : W.cell? ⟨n0, 8, none⟩ = some (.int .i64 0) := BX.cell 8
    have bf := fun i => BX.free i
    have HBX := Lib.hid BX
    clear BX hn0 h oW hs
    go_enter Try.func19, Try.ntmps19
    go_upto_region 1 with (fail)
    rw [← hW, ← HN.out]
    clear hW
    go_wp2_with fail
    refine CS.mono ?_
    rintro e w1 ⟨rfl, rfl⟩
    go_wp2_with fail
    obtain ⟨B9, o9⟩ := set9 HBX.out (.bool false) (.bool false) (.bool false) (.int .i64 0) (.int .i64 0) (.int .i64 0) (.int .u64 0) (.int .u64 0) (.int .i64 0)
    exact bodyPost_ret (v := .agg (statV none)) (results_cell_row Try.results19 _ _ n0 _ _ _ _ rfl B9 Try.underlying62 rfl info_stat) rfl ⟨by rw [HS.out], HO.out.box (by rw [HN.out]; exact Nat.le_refl _) o9⟩
end Go.Proofs.Ytdjehgnkpbkdbaa
namespace Go.Proofs.Ytdjehgnkpbkdbaa
open Go.RowKit
set_option linter.unusedVariables false
set_option linter.unusedSimpArgs false
theorem md_dopq {B m : Nat} {w : World} {P : Nat → Prop} {s : St} (h : MAt B w P m s) (j kind key hi value : Int) {re rv ro rr er : Int} {ps : List (Int × Int)} {s' : St} (hs : s.do_ j ⟨kind, key, hi, value⟩ = (⟨re, rv, ps, ro, rr⟩, er, s')) :
    Calls Try.prog 20 #[.pointer (some ⟨m, 0, none⟩), .int .i64 j, .agg #[.int .i64 kind, .int .i64 key, .int .i64 hi, .int .i64 value]] w fun e w' => ∃ (P' : Nat → Prop) (a : Option Addr) (c : Nat), e = .returned (.tuple #[.agg #[.int .i64 re, .int .i64 rv, .slice a ps.length c, .int .i64 ro, .int .i64 rr], .int .i64 er]) ∧ MAt B w' P' m s' ∧ Only P w w' ∧ Grew w.heap.size P P' ∧ PairsIn w' a ps ∧ ∀ y, a = some y → w.heap.size ≤ y.block ∧ ¬ P' y.block := by
  refine (md_do h j kind key hi value).mono ?_
  rintro e w' ⟨P', a, c, he, h', o, g, p, q⟩
  rw [hs] at he h' p
  exact ⟨P', a, c, he, h', o, g, p, q⟩
/-- w: the world at the start; P0: the Model's blocks then. -/
structure DL (B : Nat) (w w' : World) (P0 P R S : Nat → Prop) (m : Nat) (s : St) (va : Option Addr) (vc : Nat) (ds : List Dl) (A : DAd) : Prop where
  o : Only P0 w w'
  g : Grew w.heap.size P0 P
  mat : MAt B w' P m s
  dd : DO w.heap.size w' R S va vc ds A
  pr : Apart P R
  ps : Apart P S
theorem DL.start {B m : Nat} {w : World} {P : Nat → Prop} {s : St} (h : MAt B w P m s) : DL B w w P P (fun _ => False) (fun _ => False) m s none 0 [] ⟨fun _ => none, fun _ => 0, fun _ _ => none, fun _ _ => 0⟩ :=
  ⟨Only.refl _ _, Grew.refl _ _, h, DO.nil _ _, fun _ _ hf => hf, fun _ _ hf => hf⟩
theorem DL.only0 {B m : Nat} {w w' w2 : World} {P0 P R S : Nat → Prop} {s : St} {va : Option Addr} {vc : Nat} {ds : List Dl} {A : DAd} (h : DL B w w' P0 P R S m s va vc ds A) (o : Only0 w' w2) : DL B w w2 P0 P R S m s va vc ds A :=
  ⟨h.o.trans (o.any _), h.g, MAt.only0 h.mat o, h.dd.only0 o, h.pr, h.ps⟩
/-- The Model turns. -/
theorem DL.model {B m : Nat} {w w' w2 : World} {P0 P P2 R S : Nat → Prop} {s s2 : St} {va : Option Addr} {vc : Nat} {ds : List Dl} {A : DAd} (h : DL B w w' P0 P R S m s va vc ds A) (M : MAt B w2 P2 m s2) (o : Only P w' w2) (g : Grew w'.heap.size P P2) : DL B w w2 P0 P2 R S m s2 va vc ds A :=
  ⟨h.o.grewTrans h.g o, h.g.trans g h.o.size, M, h.dd.only o h.pr.symm h.ps.symm, h.pr.grew g h.dd.uR, h.ps.grew g h.dd.uS⟩
/-- The Deals turn. -/
theorem DL.deal {B m : Nat} {w w' w2 : World} {P0 P R R2 S S2 : Nat → Prop} {s : St} {va va2 : Option Addr} {vc vc2 : Nat} {ds ds2 : List Dl} {A A2 : DAd} (h : DL B w w' P0 P R S m s va vc ds A) (D : DO w.heap.size w2 R2 S2 va2 vc2 ds2 A2) (o : Only R w' w2)
    (gR : Grew w'.heap.size R R2) (gS : ∀ b, S2 b → S b ∨ ¬ P b) : DL B w w2 P0 P R2 S2 m s va2 vc2 ds2 A2 := by
  refine ⟨⟨o.os.trans h.o.os, o.tape.trans h.o.tape, o.output.trans h.o.output, Nat.le_trans h.o.size o.size, fun k hk hn => (o.block k (Nat.lt_of_lt_of_le hk h.o.size) (fun hr => by have := h.dd.aR k hr; omega)).trans (h.o.block k hk hn)⟩, h.g, MAt.only h.mat o h.pr, D, (h.pr.symm.grew gR (MAt.under h.mat)).symm, fun b hb hs => ?_⟩
  rcases gS b hs with x | x
  · exact h.ps b hb x
  · exact x hb
end Go.Proofs.Ytdjehgnkpbkdbaa
namespace Go
section
variable {P : Program} {ops : Array Oper} {Q : Exit → Act → World → Prop} {md : Region.Mode} {S : World → Prop} {l : Nat}
def heldL (P : Program) (md : Region.Mode) (ops : Array Oper) (Q : Exit → Act → World → Prop) (S : World → Prop) (l : Nat) : Nat → Array Bool → Act → World → Prop
  | 0, d, a, w => Region.ready md ops d = [] ∧ Q .normal a w
  | n + 1, d, a, w => (Region.ready md ops d = [] → Q .normal a w) ∧
    ∀ i ∈ Region.ready md ops d, wpOp P ops Q i (fun a' w' => (i = l ∨ S w') ∧ heldL P md ops Q S l n (d.setIfInBounds i true) a' w') a w
theorem any_of_heldL : ∀ (n : Nat) (d : Array Bool) (a : Act) (w : World), heldL P md ops Q S l n d a w → wpAny P md ops Q n d a w
  | 0, _, _, _, h => h
  | n + 1, _, _, _, h => ⟨h.1, fun i hi => wpOp_mono (fun a' w' h' => any_of_heldL n _ a' w' h'.2) (h.2 i hi)⟩
/-- l waits for i. -/
def waitsB (md : Region.Mode) (ops : Array Oper) (l i : Nat) : Bool := match ops[l]? with
  | some o => o.after.toList.any fun e => Region.binds md e && (e.on == i)
  | none => true
theorem not_ready_of_waits {k i : Nat} {d : Array Bool} (h : waitsB md ops k i = true) (hi : d.getD i true = false) : k ∉ Region.ready md ops d := by
  intro hl
  obtain ⟨_, o, ho, hall⟩ := mem_ready.1 hl
  unfold waitsB at h
  rw [ho] at h
  simp only [List.any_eq_true, Bool.and_eq_true, beq_iff_eq] at h
  obtain ⟨e, he, hb, heq⟩ := h
  have h1 := hall e (by simpa using he) hb
  have h0 := hi
  rw [heq] at h1
  rcases Nat.lt_or_ge i d.size with h' | h'
  · simp [h'] at h0 h1; rw [h0] at h1; cases h1
  · simp [Array.getElem?_eq_none h'] at h1
/-- A chain of operations, each of which waits for the one ahead of it; none is done. -/
def chainB (md : Region.Mode) (ops : Array Oper) (d : Array Bool) : Nat → List Nat → Bool
  | i, [] => !d.getD i true
  | i, k :: c => !d.getD i true && (waitsB md ops k i && chainB md ops d k c)
theorem chain_head {d : Array Bool} {i : Nat} {c : List Nat} (h : chainB md ops d i c = true) : d.getD i true = false := by
  cases c with
  | nil => simpa [chainB] using h
  | cons k c => simp only [chainB, Bool.and_eq_true] at h; simpa using h.1
theorem chain_not_ready {d : Array Bool} : ∀ (c : List Nat) (i : Nat), chainB md ops d i c = true → ∀ k ∈ c, k ∉ Region.ready md ops d := by
  intro c
  induction c with
  | nil => intro i _ k hk; cases hk
  | cons k0 c ih =>
    intro i h k hk
    have h0 := chain_head h
    simp only [chainB, Bool.and_eq_true] at h
    rcases List.mem_cons.1 hk with rfl | hk
    · exact not_ready_of_waits h.2.1 h0
    · exact ih k0 h.2.2 k hk
theorem chain_step {d : Array Bool} {j : Nat} (hj : j ∈ Region.ready md ops d) : ∀ (c : List Nat) (i : Nat), j ≠ i → chainB md ops d i c = true → chainB md ops (d.setIfInBounds j true) i c = true := by
  intro c
  induction c with
  | nil =>
    intro i hne h
    have h0 := chain_head h
    unfold chainB
    rw [getD_set_ne true hne, h0]; rfl
  | cons k c ih =>
    intro i hne h
    have h0 := chain_head h
    have hk : k ∉ Region.ready md ops d := chain_not_ready (k :: c) i h k (by simp)
    unfold chainB at h ⊢
    simp only [Bool.and_eq_true] at h ⊢
    refine ⟨by rw [getD_set_ne true hne, h0]; rfl, h.2.1, ih k (fun e => hk (e ▸ hj)) h.2.2⟩
theorem heldL_first {i : Nat} {oi : Oper} {v : Value} (hi : ops[i]? = some oi) (hsel : ∀ (j : Nat) (o : Oper) cs b, ops[j]? = some o → o.op ≠ .select cs b)
    (hQ : ∀ c a w, Q (.panic c) (a.put oi.dst v) w → Q (.panic c) a w) (ch : List Nat) (hl : l ∈ ch) :
    ∀ (n : Nat) (d : Array Bool) (a : Act) (w : World), chainB md ops d i ch = true →
      (∀ j oj, ops[j]? = some oj → j ≠ i → d.getD j true = false → (∀ e ∈ oj.after, Region.binds md e = true → e.on ≠ i) → oi.apart ops oj = true) →
      i ∈ Region.ready md ops d → YieldsIf P ops S oi v a → S w →
      heldL P md ops Q S l n (d.setIfInBounds i true) (a.put oi.dst v) w → heldL P md ops Q S l (n + 1) d a w := by
  intro n
  induction n with
  | zero =>
    intro d a w hch _ hr hy hS H
    refine ⟨fun h => (by rw [h] at hr; cases hr), fun j hj => ?_⟩
    by_cases hji : j = i
    · subst hji; exact hy.wpOp hi hS ⟨.inr hS, H⟩
    · have := ready_mono hj hji
      rw [H.1] at this
      cases this
  | succ n ih =>
    intro d a w hch hfree hr hy hS H
    refine ⟨fun h => (by rw [h] at hr; cases hr), fun j hj => ?_⟩
    by_cases hji : j = i
    · subst hji; exact hy.wpOp hi hS ⟨.inr hS, H⟩
    · have hjl : j ≠ l := fun e => chain_not_ready ch i hch l hl (e ▸ hj)
      have h1 := H.2 j (ready_mono hj hji)
      obtain ⟨hjun, oj, hoj, hall⟩ := mem_ready.1 hj
      have hnot : ∀ e ∈ oj.after, Region.binds md e = true → e.on ≠ i := fun e he hb heq => by
        have h1 := hall e he hb
        have h0 := (mem_ready.1 hr).1
        rw [heq] at h1
        rcases Nat.lt_or_ge i d.size with h' | h'
        · simp [h'] at h0 h1; rw [h0] at h1; cases h1
        · simp [Array.getElem?_eq_none h'] at h1
      have h2 := wpOp_putIf hoj (hfree j oj hoj hji hjun hnot) (fun cs b => hsel i oi cs b hi) (fun cs b => hsel j oj cs b hoj) hQ hy (wpOp_mono (fun a' w' h3 => (⟨h3.1.resolve_left hjl, h3.2⟩ : S w' ∧ _)) h1)
      have hfree' : ∀ k ok, ops[k]? = some ok → k ≠ i → (d.setIfInBounds j true).getD k true = false →
          (∀ e ∈ ok.after, Region.binds md e = true → e.on ≠ i) → oi.apart ops ok = true := fun k ok hk hki hun hno => by
        refine hfree k ok hk hki ?_ hno
        by_cases hjk : j = k
        · subst hjk; exact hjun
        · rw [getD_set_ne true hjk] at hun; exact hun
      refine wpOp_mono (fun a' w' h3 => ⟨.inr h3.2.1, ih (d.setIfInBounds j true) a' w' (chain_step hj ch i hji hch) hfree' (ready_mono hr (Ne.symm hji)) h3.1 h3.2.1 ?_⟩) h2
      rw [Array.setIfInBounds_comm _ _ hji]
      exact h3.2.2
theorem heldL_take {i : Nat} {oi : Oper} {v : Value} {n : Nat} {d : Array Bool} {a : Act} {w : World} (hi : ops[i]? = some oi)
    (hs : Region.noSelect ops = true) (hf : Region.free md ops d i = true) (hr : (Region.ready md ops d).contains i = true) (ch : List Nat) (hl : ch.contains l = true) (hch : chainB md ops d i ch = true)
    (hQ : ∀ c a w, Q (.panic c) (a.put oi.dst v) w → Q (.panic c) a w) (hy : YieldsIf P ops S oi v a) (hS : S w)
    (h : heldL P md ops Q S l n (d.setIfInBounds i true) (a.put oi.dst v) w) : heldL P md ops Q S l (n + 1) d a w :=
  heldL_first hi (Region.noSelect_spec hs) hQ ch (by simpa using hl) n d a w hch (Region.free_spec hi hf) (by simpa using hr) hy hS h
/-- One operation alone may come up; it keeps S. -/
theorem heldL_step {i : Nat} {o : Oper} {n : Nat} {d : Array Bool} {a : Act} {w : World} (hr : Region.ready md ops d = [i]) (ho : ops[i]? = some o)
    (h : ∀ K' : Act → World → Prop, Shut (∀ a w, S w → (S w → heldL P md ops Q S l n (d.setIfInBounds i true) a w) → K' a w) → if Region.wanted o (yielded ops a.tmps) = true then Oper.wp P o a w K' Q else K' (a.put o.dst undef) w) :
    heldL P md ops Q S l (n + 1) d a w := by
  refine ⟨fun h0 => (by rw [h0] at hr; cases hr), fun j hj => ?_⟩
  rw [hr] at hj
  obtain rfl : j = i := by simpa using hj
  exact wpOp_step ho (fun K' hK => h K' (fun a w hS hW => hK a w ⟨.inr hS, hW hS⟩))
/-- The last one. -/
theorem heldL_last {o : Oper} {n : Nat} {d : Array Bool} {a : Act} {w : World} (hr : Region.ready md ops d = [l]) (ho : ops[l]? = some o) (hd : Region.ready md ops (d.setIfInBounds l true) = [])
    (h : ∀ K' : Act → World → Prop, Shut (∀ a w, Q .normal a w → K' a w) → if Region.wanted o (yielded ops a.tmps) = true then Oper.wp P o a w K' Q else K' (a.put o.dst undef) w) :
    heldL P md ops Q S l (n + 1) d a w := by
  refine ⟨fun h0 => (by rw [h0] at hr; cases hr), fun j hj => ?_⟩
  rw [hr] at hj
  obtain rfl : j = l := by simpa using hj
  refine wpOp_step ho (fun K' hK => h K' (fun a w hq => hK a w ⟨.inl rfl, ?_⟩))
  cases n with
  | zero => exact ⟨hd, hq⟩
  | succ n => exact ⟨fun _ => hq, by rw [hd]; simp⟩
theorem wp_region_heldL {id : Nat} {a : Act} {w : World} (l : Nat) (hm : P.follows .mixedOrders = true) (hS : S w.drew)
    (h : S w.drew → heldL P .any ops Q S l ops.size (Array.replicate ops.size false) a w.drew) : (Code.region id ops true).wp P Q a w :=
  wp_region_any hm (any_of_heldL _ _ _ _ (h hS))
end
end Go

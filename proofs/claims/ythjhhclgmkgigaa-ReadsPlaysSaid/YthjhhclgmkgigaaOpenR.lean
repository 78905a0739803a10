/-
  How arguments that are slices of structs are opened, whose fields are integers, bools, and slices of integers.
-/
import Derived.Test.YthjhhclgmkgigaaOpen
namespace Go.Proofs.Ythjhhclgmkgigaa
open Go.RowKit Go.ChangeShapes Go.WideShapes Go.Deep
set_option linter.unusedVariables false

/-- The kinds of a field. -/
inductive FK where
  | int (k : IntKind)
  | bool
  | ints (k : IntKind)
def FQ (W : World) : FK → Value → Prop
  | .int k, v => ∃ n, v = .int k n ∧ (Lit.int k n).wf = true
  | .bool, v => ∃ b, v = .bool b
  | .ints k, v => ∃ (a : Option Addr) (zs : List Int) (cap : Nat), v = .slice a zs.length cap ∧ Ints k W a zs ∧ (∀ n ∈ zs, (Lit.int k n).wf = true) ∧ zs.length ≤ cap ∧ cap ≤ 9223372036854775807 ∧ (a = none → cap = 0)
def FT (P : Program) (t : TypeId) : FK → Prop
  | .int k => P.underlying t = some (.int k) ∧ P.cellsOf t = 1
  | .bool => P.underlying t = some .bool ∧ P.cellsOf t = 1
  | .ints k => ∃ e, P.underlying t = some (.slice e) ∧ P.underlying e = some (.int k) ∧ P.cellsOf e = 1 ∧ P.cellsOf t = 1

section
variable {H : Type} {enc : TypeId × Value → H} {P : Program} {W : World}
theorem FT.one {t : TypeId} {q : FK} (h : FT P t q) : P.cellsOf t = 1 := by
  cases q with
  | int k => exact h.2
  | bool => exact h.2
  | ints k => obtain ⟨e, _, _, _, h⟩ := h; exact h
theorem FT.read {t : TypeId} {q : FK} {n : Nat} {v : Value} {x : DataW H × List MemPlace} (h : FT P t q) (hx : DataW.trod enc P W 0 (fun _ => true) true n t [v] = some x) : FQ W q v := by
  cases q with
  | int k =>
    obtain ⟨m, hm, _, hw⟩ := DataW.trod_int h.1 hx
    exact ⟨m, by simpa using hm, hw⟩
  | bool =>
    obtain ⟨b, hb, _⟩ := DataW.trod_bool h.1 hx
    exact ⟨b, by simpa using hb⟩
  | ints k =>
    obtain ⟨e, ht, he, hc, _⟩ := h
    rcases open_ints ht he hc hx with ⟨hcs, _⟩ | ⟨y, l, c, zs, hcs, _, hl, hm, hz, _, hcell, hwz⟩
    · obtain rfl : v = .slice none 0 0 := by simpa using hcs
      exact ⟨none, [], 0, rfl, .inl rfl, by simp, by simp, by omega, fun _ => rfl⟩
    · obtain rfl : v = .slice (some y) l c := by simpa using hcs
      simp only [if_true] at hz
      unfold maxLen at hm
      have hlen : (zs.take l).length = l := by simp; omega
      refine ⟨some y, zs.take l, c, by rw [hlen], ?_, fun n hn => hwz n (List.mem_of_mem_take hn), by rw [hlen]; exact hl, by omega, fun e => by cases e⟩
      by_cases h0 : l = 0
      · left; simp [h0]
      · obtain ⟨b, off, spot⟩ := y
        have hspot : spot = none := by simpa [Addr.add] using World.cell?_spot (hcell 0 (by omega))
        subst hspot
        refine .inr ⟨b, off, rfl, fun i hi => ?_⟩
        simp at hi
        rw [← Addr.add_lit, hcell i (by omega)]
        have h1 : i < zs.length := by omega
        simp [List.getD_eq_getElem?_getD, hi, h1]
def FsT (P : Program) : Nat → List Field → List FK → Prop
  | _, [], [] => True
  | o, f :: l, q :: qs => f.offset = o ∧ FT P f.type q ∧ FsT P (o + 1) l qs
  | _, _, _ => False
def RowQ (W : World) : List FK → List Value → Prop
  | [], [] => True
  | q :: qs, v :: vs => FQ W q v ∧ RowQ W qs vs
  | _, _ => False
theorem fs_read {n : Nat} {cs : List Value} : ∀ (o : Nat) (l : List Field) (qs : List FK), FsT P o l qs → o + qs.length = cs.length → (∀ f ∈ l, ∃ x, DataW.trod enc P W 0 (fun _ => true) true n f.type ((cs.drop f.offset).take (P.cellsOf f.type)) = some x) → RowQ W qs (cs.drop o)
  | o, [], [], _, hl, _ => by
    rw [List.drop_of_length_le (by simp at hl; omega)]; trivial
  | o, [], _ :: _, h, _, _ => h.elim
  | o, _ :: _, [], h, _, _ => h.elim
  | o, f :: l, q :: qs, ⟨h1, h2, h3⟩, hl, hf => by
    simp at hl
    have ho : o < cs.length := by omega
    obtain ⟨x, hx⟩ := hf f (by simp)
    rw [h1, h2.one, List.drop_eq_getElem_cons ho, List.take_succ_cons, List.take_zero] at hx
    rw [List.drop_eq_getElem_cons ho]
    exact ⟨h2.read hx, fs_read (o + 1) l qs h3 (by omega) (fun g hg => hf g (by simp [hg]))⟩
theorem struct_read {t : TypeId} {fs : Array Field} {qs : List FK} {n : Nat} {cs : List Value} {x : DataW H × List MemPlace} (ht : P.underlying t = some (.struct fs)) (hc : P.cellsOf t = qs.length) (h : FsT P 0 fs.toList qs) (hx : DataW.trod enc P W 0 (fun _ => true) true n t cs = some x) : cs.length = qs.length ∧ RowQ W qs cs := by
  obtain ⟨xs, m, _, _, hlen, hxl, hf⟩ := DataW.trod_struct ht hx
  refine ⟨by omega, ?_⟩
  have := fs_read (n := m) (cs := cs) 0 fs.toList qs h (by omega) (fun f hfm => by
    obtain ⟨i, hi, he⟩ := List.getElem_of_mem hfm
    have := hf i f (by rw [← he]; simp at hi; simp [hi])
    simp at hi
    rw [List.getElem?_eq_getElem (by omega)] at this
    exact ⟨_, this⟩)
  simpa using this
end

/-- Rows of cells at an address. -/
def RowsAt (n : Nat) (w : World) (a : Option Addr) (rows : List (List Value)) : Prop :=
  rows = [] ∨ ∃ b off, a = some ⟨b, off, none⟩ ∧ ∀ i j, i < rows.length → j < n → w.cell? ⟨b, off + i * n + j, none⟩ = (rows.getD i [])[j]?
theorem RowsAt.at {n : Nat} {w : World} {a : Option Addr} {rows : List (List Value)} (h : RowsAt n w a rows) (hn : 0 < rows.length) :
    ∃ b off, a = some ⟨b, off, none⟩ ∧ ∀ i j, i < rows.length → j < n → w.cell? ⟨b, off + i * n + j, none⟩ = (rows.getD i [])[j]? := by
  rcases h with rfl | h
  · simp at hn
  · exact h
/-- A slice of such structs. -/
theorem take_rows {H : Type} {enc : TypeId × Value → H} {P : Program} {W : World} {t e : TypeId} {fs : Array Field} {qs : List FK} {a : Option Addr} {len cap : Nat} {d : DataW H} {p : List MemPlace} {ts : List TypeId} {ds : List (DataW H)} {bytes : Nat} (j : Nat)
    (ht : P.underlying t = some (.slice e)) (he : P.underlying e = some (.struct fs)) (hc : P.cellsOf e = qs.length) (hF : FsT P 0 fs.toList qs) (hk : 0 < qs.length) (hb : P.bytesOf e = bytes)
    (h : DataW.Trod enc P W 0 (fun _ => true) true t (.slice a len cap) d p) (hsz : (DataW.weightsEach P ts ds).all (· ≤ reachBytes) = true) (hj : ts[j]? = some t) (hd : ds[j]? = some d) :
    ∃ rows : List (List Value), rows.length = len ∧ (RowsAt qs.length W a rows ∧ ∀ r ∈ rows, r.length = qs.length ∧ RowQ W qs r) ∧ len * bytes ≤ 140737488351232 ∧ len ≤ cap ∧ cap ≤ 9223372036854775807 := by
  obtain ⟨fuel, hf⟩ := h
  rcases open_slice ht hf with ⟨hcs, hx⟩ | ⟨x, l, c, m, n, D, Pl, hcs, _, hl, hm, hmm, hx, hi⟩
  · simp [Value.cells] at hcs
    obtain ⟨rfl, rfl, rfl⟩ := hcs
    exact ⟨[], rfl, ⟨.inl rfl, by simp⟩, by omega, by omega, by omega⟩
  · simp [Value.cells] at hcs
    obtain ⟨rfl, rfl, rfl⟩ := hcs
    simp only [Prod.mk.injEq] at hx
    obtain ⟨rfl, _⟩ := hx
    have hs := sized_slice hsz hj hd ht
    simp only [if_true] at hmm
    rw [hb] at hs
    simp only [List.length_map, List.length_range, reachBytes] at hs
    have hs1 : len * bytes ≤ (len + (m - len)) * bytes := Nat.mul_le_mul_right _ (by omega)
    unfold maxLen at hm
    have hB : ∀ i, i < m → ∃ r : List Value, r.length = qs.length ∧ RowQ W qs r ∧ ∀ j, j < qs.length → W.cell? (x.add (i * qs.length + j)) = r[j]? := fun i h => by
      obtain ⟨cs', h1, h2⟩ := hi i h
      obtain ⟨r1, r3⟩ := struct_read he hc hF h2
      rw [hc] at h1
      obtain ⟨_, hcl, hat⟩ := World.cells?_some h1
      refine ⟨cs', r1, r3, fun j hj => ?_⟩
      rw [← hat j hj, ← Go.Deep.add_add]
    obtain ⟨F, hF'⟩ := choose_lt (α := List Value) hB
    refine ⟨(List.range len).map F, by simp, ⟨?_, ?_⟩, by omega, hl, by omega⟩
    · by_cases h0 : len = 0
      · left; simp [h0]
      · obtain ⟨b, off, spot⟩ := x
        have h00 := (hF' 0 (by omega)).2.2 0 hk
        have hr0 := (hF' 0 (by omega)).1
        have hspot : spot = none := by
          have hz : (F 0)[0]? = some ((F 0)[0]'(by omega)) := List.getElem?_eq_getElem _
          rw [hz] at h00
          simpa [Addr.add] using World.cell?_spot h00
        subst hspot
        refine .inr ⟨b, off, rfl, fun i j hi hj => ?_⟩
        simp at hi
        have := (hF' i (by omega)).2.2 j hj
        rw [Addr.add_lit] at this
        rw [Nat.add_assoc, this]
        simp [List.getD_eq_getElem?_getD, hi]
    · intro r hr
      obtain ⟨i, hi, rfl⟩ := List.mem_map.1 hr
      simp at hi
      exact ⟨(hF' i (by omega)).1, (hF' i (by omega)).2.1⟩
end Go.Proofs.Ythjhhclgmkgigaa

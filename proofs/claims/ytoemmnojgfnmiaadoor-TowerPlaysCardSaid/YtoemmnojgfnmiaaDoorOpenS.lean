/-
  How arguments that are slices of structs of integers (nested or not) are opened: each element's cells are integers that fit their kinds.
-/
import Derived.Test.YtoemmnojgfnmiaaDoorOpen
namespace Go.Proofs.YtoemmnojgfnmiaaDoor
open Go.RowKit Go.ChangeShapes Go.WideShapes Go.Deep

def zipInts (ks : List IntKind) (ns : List Int) : List Value := List.zipWith Value.int ks ns
def wfs : List IntKind → List Int → Prop
  | k :: ks, n :: ns => (Lit.int k n).wf = true ∧ wfs ks ns
  | _, _ => True
theorem wfs_append {ks ks' : List IntKind} {ns ns' : List Int} (hl : ns.length = ks.length) (h : wfs ks ns) (h' : wfs ks' ns') : wfs (ks ++ ks') (ns ++ ns') := by
  induction ks generalizing ns with
  | nil => cases ns with
    | nil => exact h'
    | cons n ns => simp at hl
  | cons k ks ih => cases ns with
    | nil => simp at hl
    | cons n ns => exact ⟨h.1, ih (by simpa using hl) h.2⟩

section
variable {H : Type} {enc : TypeId × Value → H} {P : Program} {W : World} {base : Nat} {spare : Nat → Bool} {held : Bool}
/-- Whatever is read as type t is integers of the kinds ks. -/
def Plain (enc : TypeId × Value → H) (P : Program) (W : World) (base : Nat) (spare : Nat → Bool) (held : Bool) (t : TypeId) (ks : List IntKind) : Prop :=
  P.cellsOf t = ks.length ∧ ∀ n cs x, DataW.trod enc P W base spare held n t cs = some x → ∃ ns : List Int, ns.length = ks.length ∧ cs = zipInts ks ns ∧ wfs ks ns
theorem Plain.int {t : TypeId} {k : IntKind} (ht : P.underlying t = some (.int k)) (hc : P.cellsOf t = 1) : Plain enc P W base spare held t [k] := by
  refine ⟨hc, fun n cs x h => ?_⟩
  obtain ⟨m, hm, _, hw⟩ := DataW.trod_int ht h
  exact ⟨[m], rfl, by simpa [zipInts] using hm, hw, trivial⟩
/-- The fields l, from cell o on, are integers of the kinds ks. -/
def FP (enc : TypeId × Value → H) (P : Program) (W : World) (base : Nat) (spare : Nat → Bool) (held : Bool) (o : Nat) (l : List Field) (ks : List IntKind) : Prop :=
  ∀ n (cs : List Value), o + ks.length ≤ cs.length → (∀ f ∈ l, ∃ x, DataW.trod enc P W base spare held n f.type ((cs.drop f.offset).take (P.cellsOf f.type)) = some x) →
    ∃ ns : List Int, ns.length = ks.length ∧ (cs.drop o).take ks.length = zipInts ks ns ∧ wfs ks ns
theorem FP.nil (o : Nat) : FP enc P W base spare held o [] [] := fun n cs _ _ => ⟨[], rfl, by simp [zipInts], trivial⟩
theorem FP.cons {o : Nat} {f : Field} {l : List Field} {K ks : List IntKind} (hp : Plain enc P W base spare held f.type K) (ho : f.offset = o) (h : FP enc P W base spare held (o + K.length) l ks) : FP enc P W base spare held o (f :: l) (K ++ ks) := by
  intro n cs hl hf
  obtain ⟨x, hx⟩ := hf f (by simp)
  rw [ho, hp.1] at hx
  obtain ⟨n1, e1, e2, e3⟩ := hp.2 _ _ _ hx
  obtain ⟨n2, d1, d2, d3⟩ := h n cs (by simp at hl; omega) (fun g hg => hf g (by simp [hg]))
  refine ⟨n1 ++ n2, by simp [e1, d1], ?_, wfs_append e1 e3 d3⟩
  rw [List.length_append, List.take_add, e2, List.drop_drop, d2]
  unfold zipInts
  rw [List.zipWith_append (by rw [e1])]
theorem Plain.struct {t : TypeId} {fs : Array Field} {ks : List IntKind} (ht : P.underlying t = some (.struct fs)) (hc : P.cellsOf t = ks.length) (h : FP enc P W base spare held 0 fs.toList ks) : Plain enc P W base spare held t ks := by
  refine ⟨hc, fun n cs x hx => ?_⟩
  obtain ⟨xs, m, _, _, hlen, hxl, hf⟩ := DataW.trod_struct ht hx
  obtain ⟨ns, h1, h2, h3⟩ := h m cs (by omega) (fun f hfm => by
    obtain ⟨i, hi, he⟩ := List.getElem_of_mem hfm
    have := hf i f (by rw [← he]; simp at hi; simp [hi])
    simp at hi
    rw [List.getElem?_eq_getElem (by omega)] at this
    exact ⟨_, this⟩)
  refine ⟨ns, h1, ?_, h3⟩
  rw [← h2, List.drop_zero, List.take_of_length_le (by omega)]
end

/-- Rows of integers of the kinds ks at an address. -/
def Recs (ks : List IntKind) (w : World) (a : Option Addr) (rows : List (List Int)) : Prop :=
  rows = [] ∨ ∃ b off, a = some ⟨b, off, none⟩ ∧ ∀ i j, i < rows.length → j < ks.length → w.cell? ⟨b, off + i * ks.length + j, none⟩ = (zipInts ks (rows.getD i []))[j]?
theorem Recs.at {ks : List IntKind} {w : World} {a : Option Addr} {rows : List (List Int)} (h : Recs ks w a rows) (hn : 0 < rows.length) :
    ∃ b off, a = some ⟨b, off, none⟩ ∧ ∀ i j, i < rows.length → j < ks.length → w.cell? ⟨b, off + i * ks.length + j, none⟩ = (zipInts ks (rows.getD i []))[j]? := by
  rcases h with rfl | h
  · simp at hn
  · exact h
/-- A slice of such structs. -/
theorem take_recs {H : Type} {enc : TypeId × Value → H} {P : Program} {W : World} {t e : TypeId} {ks : List IntKind} {a : Option Addr} {len cap : Nat} {d : DataW H} {p : List MemPlace} {ts : List TypeId} {ds : List (DataW H)} {bytes : Nat} (j : Nat)
    (ht : P.underlying t = some (.slice e)) (hp : Plain enc P W 0 (fun _ => true) true e ks) (hk : 0 < ks.length) (hb : P.bytesOf e = bytes)
    (h : DataW.Trod enc P W 0 (fun _ => true) true t (.slice a len cap) d p) (hsz : (DataW.weightsEach P ts ds).all (· ≤ reachBytes) = true) (hj : ts[j]? = some t) (hd : ds[j]? = some d) :
    ∃ rows : List (List Int), rows.length = len ∧ (Recs ks W a rows ∧ ∀ r ∈ rows, r.length = ks.length ∧ wfs ks r) ∧ len * bytes ≤ 140737488351232 ∧ len ≤ cap ∧ cap ≤ 9223372036854775807 := by
  obtain ⟨fuel, hf⟩ := h
  rcases open_slice ht hf with ⟨hcs, hx⟩ | ⟨x, l, c, m, n, D, Pl, hcs, _, hl, hm, hmm, hx, hi⟩
  · simp [Value.cells] at hcs
    obtain ⟨rfl, rfl, rfl⟩ := hcs
    exact ⟨[], rfl, ⟨.inl rfl, by simp⟩, by omega, by omega, by omega⟩
  · simp [Value.cells] at hcs
    obtain ⟨rfl, rfl, rfl⟩ := hcs
    simp only [Prod.mk.injEq] at hx
    obtain ⟨rfl, _⟩ := hx
    have hs := sized_slice hsz hj hd ht
    simp only [if_true] at hmm
    rw [hb] at hs
    simp only [List.length_map, List.length_range, reachBytes] at hs
    have hs1 : len * bytes ≤ (len + (m - len)) * bytes := Nat.mul_le_mul_right _ (by omega)
    unfold maxLen at hm
    have hB : ∀ i, i < m → ∃ r : List Int, r.length = ks.length ∧ wfs ks r ∧ ∀ j, j < ks.length → W.cell? (x.add (i * ks.length + j)) = (zipInts ks r)[j]? := fun i h => by
      obtain ⟨cs', h1, h2⟩ := hi i h
      obtain ⟨r, r1, r2, r3⟩ := hp.2 _ _ _ h2
      rw [hp.1] at h1
      obtain ⟨_, hcl, hat⟩ := World.cells?_some h1
      refine ⟨r, r1, r3, fun j hj => ?_⟩
      rw [← r2, ← hat j hj, ← Go.Deep.add_add]
    obtain ⟨F, hF⟩ := choose_lt (α := List Int) hB
    refine ⟨(List.range len).map F, by simp, ⟨?_, ?_⟩, by omega, hl, by omega⟩
    · by_cases h0 : len = 0
      · left; simp [h0]
      · obtain ⟨b, off, spot⟩ := x
        have h00 := (hF 0 (by omega)).2.2 0 hk
        have hr0 := (hF 0 (by omega)).1
        have hspot : spot = none := by
          have hz : (zipInts ks (F 0))[0]? = some ((zipInts ks (F 0))[0]'(by simp [zipInts]; omega)) := List.getElem?_eq_getElem _
          rw [hz] at h00
          simpa [Addr.add] using World.cell?_spot h00
        subst hspot
        refine .inr ⟨b, off, rfl, fun i j hi hj => ?_⟩
        simp at hi
        have := (hF i (by omega)).2.2 j hj
        rw [Addr.add_lit] at this
        rw [Nat.add_assoc, this]
        simp [List.getD_eq_getElem?_getD, hi]
    · intro r hr
      obtain ⟨i, hi, rfl⟩ := List.mem_map.1 hr
      simp at hi
      exact ⟨(hF i (by omega)).1, (hF i (by omega)).2.1⟩
end Go.Proofs.YtoemmnojgfnmiaaDoor

/-
  ModelReplays: what its proof rests on, part 6.
-/
import Derived.ProofKit
import Derived.SizedLaws
import Derived.Deep.Slices
import Derived.ChangeOld
import Derived.ShutString
import Derived.OpenShut
import Derived.Deep.QuietTactic
import Derived.BigQuiet
import Derived.Test.YtdjehgnkpbkdbaaProg
import Derived.Test.YtdjehgnkpbkdbaaZModelReplays1
import Derived.Test.YtdjehgnkpbkdbaaZModelReplays2
import Derived.Test.YtdjehgnkpbkdbaaZModelReplays5
namespace Go.Proofs.Ytdjehgnkpbkdbaa
open Go.RowKit
set_option linter.unusedVariables false
set_option linter.unusedSimpArgs false
theorem DI.goodAt {s : St} {ds : List Dl} {cs : List Nat} (h : DI s ds cs) {i : Nat} (hi : i ∈ cs) {a : Int} (ha : a < (dAt ds i).fin) (hg : goodF (dAt ds i).ops (valAt s a) = true) : GoodAt ds i a :=
  ⟨⟨_, (h.holdsB hi ha hg).2⟩, (h.holdsB hi ha hg).1⟩
theorem PL.dls {LV : Int → Prop} {s : St} {ds : List Dl} {cs : List Nat} (h : PL LV s ds cs 100) : DlsOk ds :=
  ⟨by have := h.len; omega, fun i hi => by have := h.ops i hi; omega, h.di.ord.ok⟩
theorem PL.ax {LV : Int → Prop} {s : St} {ds : List Dl} {cs : List Nat} (h : PL LV s ds cs 100) (hn : s.now ≤ 1099511627776) : AxOk ds := by
  refine ⟨h.dls, h.di.ids, fun i hi h3 => ?_, fun i hi h3 => ?_⟩
  · have := h.di.fins i ((h.di.ord.mem i).2 ⟨hi, h3⟩); omega
  · have hc := (h.di.ord.mem i).2 ⟨hi, h3⟩
    have hf := h.di.fins i hc
    have hb : before1 (dAt ds i).fin = (dAt ds i).fin - 1 := by unfold before1; rw [if_neg (by omega)]
    refine ⟨h.di.goodAt hc hf.2.1 (h.di.snap i hc), ?_⟩
    rcases h.di.lev i hc with hl | ⟨hl, hr⟩ | ⟨hl, hg⟩
    · exact .inl hl
    · refine .inr (.inl ⟨hl, ?_⟩)
      rw [hb]
      have e : stateP ds ((dAt ds i).fin - 1) i = listOf (uptoF ds cs ((dAt ds i).fin - 1)) := by
        rw [h.di.ord.stateP]
        unfold uptoF
        rw [uptoR_same (b := (dAt ds i).fin - 1) (but' := -1) (fun k hk => ?_)]
        constructor
        · rintro ⟨x, _⟩; exact ⟨x, by omega⟩
        · rintro ⟨x, _⟩
          refine ⟨x, fun e => ?_⟩
          have : k = i := by omega
          subst this; omega
      refine ⟨_, e, ?_⟩
      rw [repOps_listOf _ _ _ (h.di.ord.ok i hi), repF_congr (h.di.ord.ok i hi) (fun k hk => h.di.st _ k (by omega) hk)]
      exact hr
    · refine .inr (.inr ⟨hl, ?_⟩)
      rw [hb]
      exact h.di.goodAt hc (by omega) hg
end Go.Proofs.Ytdjehgnkpbkdbaa
namespace Go.Proofs.Ytdjehgnkpbkdbaa
open Go.RowKit Go.ChangeShapes Go.WideShapes Go.Deep
def zipInts (ks : List IntKind) (ns : List Int) : List Value := List.zipWith Value.int ks ns
def wfs : List IntKind → List Int → Prop
  | k :: ks, n :: ns => (Lit.int k n).wf = true ∧ wfs ks ns
  | _, _ => True
theorem wfs_append {ks ks' : List IntKind} {ns ns' : List Int} (hl : ns.length = ks.length) (h : wfs ks ns) (h' : wfs ks' ns') : wfs (ks ++ ks') (ns ++ ns') := by
  induction ks generalizing ns with
  | nil => cases ns with
    | nil => exact h'
    | cons n ns => simp at hl
  | cons k ks ih => cases ns with
    | nil => simp at hl
    | cons n ns => exact ⟨h.1, ih (by simpa using hl) h.2⟩
section
variable {H : Type} {enc : TypeId × Value → H} {P : Program} {W : World} {base : Nat} {spare : Nat → Bool} {held : Bool}
/-- Whatever is read as type t is integers of the kinds ks. -/
def Plain (enc : TypeId × Value → H) (P : Program) (W : World) (base : Nat) (spare : Nat → Bool) (held : Bool) (t : TypeId) (ks : List IntKind) : Prop :=
  P.cellsOf t = ks.length ∧ ∀ n cs x, DataW.trod enc P W base spare held n t cs = some x → ∃ ns : List Int, ns.length = ks.length ∧ cs = zipInts ks ns ∧ wfs ks ns
theorem Plain.int {t : TypeId} {k : IntKind} (ht : P.underlying t = some (.int k)) (hc : P.cellsOf t = 1) : Plain enc P W base spare held t [k] := by
  refine ⟨hc, fun n cs x h => ?_⟩
  obtain ⟨m, hm, _, hw⟩ := DataW.trod_int ht h
  exact ⟨[m], rfl, by simpa [zipInts] using hm, hw, trivial⟩
/-- The fields l, from cell o on, are integers of the kinds ks. -/
def FP (enc : TypeId × Value → H) (P : Program) (W : World) (base : Nat) (spare : Nat → Bool) (held : Bool) (o : Nat) (l : List Field) (ks : List IntKind) : Prop :=
  ∀ n (cs : List Value), o + ks.length ≤ cs.length → (∀ f ∈ l, ∃ x, DataW.trod enc P W base spare held n f.type ((cs.drop f.offset).take (P.cellsOf f.type)) = some x) →
    ∃ ns : List Int, ns.length = ks.length ∧ (cs.drop o).take ks.length = zipInts ks ns ∧ wfs ks ns
theorem FP.nil (o : Nat) : FP enc P W base spare held o [] [] := fun n cs _ _ => ⟨[], rfl, by simp [zipInts], trivial⟩
theorem FP.cons {o : Nat} {f : Field} {l : List Field} {K ks : List IntKind} (hp : Plain enc P W base spare held f.type K) (ho : f.offset = o) (h : FP enc P W base spare held (o + K.length) l ks) : FP enc P W base spare held o (f :: l) (K ++ ks) := by
  intro n cs hl hf
  obtain ⟨x, hx⟩ := hf f (by simp)
  rw [ho, hp.1] at hx
  obtain ⟨n1, e1, e2, e3⟩ := hp.2 _ _ _ hx
  obtain ⟨n2, d1, d2, d3⟩ := h n cs (by simp at hl; omega) (fun g hg => hf g (by simp [hg]))
  refine ⟨n1 ++ n2, by simp [e1, d1], ?_, wfs_append e1 e3 d3⟩
  rw [List.length_append, List.take_add, e2, List.drop_drop, d2]
  unfold zipInts
  rw [List.zipWith_append (by rw [e1])]
theorem Plain.struct {t : TypeId} {fs : Array Field} {ks : List IntKind} (ht : P.underlying t = some (.struct fs)) (hc : P.cellsOf t = ks.length) (h : FP enc P W base spare held 0 fs.toList ks) : Plain enc P W base spare held t ks := by
  refine ⟨hc, fun n cs x hx => ?_⟩
  obtain ⟨xs, m, _, _, hlen, hxl, hf⟩ := DataW.trod_struct ht hx
  obtain ⟨ns, h1, h2, h3⟩ := h m cs (by omega) (fun f hfm => by
    obtain ⟨i, hi, he⟩ := List.getElem_of_mem hfm
    have := hf i f (by rw [← he]; simp at hi; simp [hi])
    simp at hi
    rw [List.getElem?_eq_getElem (by omega)] at this
    exact ⟨_, this⟩)
  refine ⟨ns, h1, ?_, h3⟩
  rw [← h2, List.drop_zero, List.take_of_length_le (by omega)]
end
/-- Rows of integers of the kinds ks at an address. -/
def Recs (ks : List IntKind) (w : World) (a : Option Addr) (rows : List (List Int)) : Prop :=
  rows = [] ∨ ∃ b off, a = some ⟨b, off, none⟩ ∧ ∀ i j, i < rows.length → j < ks.length → w.cell? ⟨b, off + i * ks.length + j, none⟩ = (zipInts ks (rows.getD i []))[j]?
theorem Recs.at {ks : List IntKind} {w : World} {a : Option Addr} {rows : List (List Int)} (h : Recs ks w a rows) (hn : 0 < rows.length) :
    ∃ b off, a = some ⟨b, off, none⟩ ∧ ∀ i j, i < rows.length → j < ks.length → w.cell? ⟨b, off + i * ks.length + j, none⟩ = (zipInts ks (rows.getD i []))[j]? := by
  rcases h with rfl | h
  · simp at hn
  · exact h
/-- A slice of such structs. -/
theorem take_recs {H : Type} {enc : TypeId × Value → H} {P : Program} {W : World} {t e : TypeId} {ks : List IntKind} {a : Option Addr} {len cap : Nat} {d : DataW H} {p : List MemPlace} {ts : List TypeId} {ds : List (DataW H)} {bytes : Nat} (j : Nat)
    (ht : P.underlying t = some (.slice e)) (hp : Plain enc P W 0 (fun _ => true) true e ks) (hk : 0 < ks.length) (hb : P.bytesOf e = bytes)
    (h : DataW.Trod enc P W 0 (fun _ => true) true t (.slice a len cap) d p) (hsz : (DataW.weightsEach P ts ds).all (· ≤ reachBytes) = true) (hj : ts[j]? = some t) (hd : ds[j]? = some d) :
    ∃ rows : List (List Int), rows.length = len ∧ (Recs ks W a rows ∧ ∀ r ∈ rows, r.length = ks.length ∧ wfs ks r) ∧ len * bytes ≤ 140737488351232 ∧ len ≤ cap ∧ cap ≤ 9223372036854775807 := by
  obtain ⟨fuel, hf⟩ := h
  rcases open_slice ht hf with ⟨hcs, hx⟩ | ⟨x, l, c, m, n, D, Pl, hcs, _, hl, hm, hmm, hx, hi⟩
  · simp [Value.cells] at hcs
    obtain ⟨rfl, rfl, rfl⟩ := hcs
    exact ⟨[], rfl, ⟨.inl rfl, by simp⟩, by omega, by omega, by omega⟩
  · simp [Value.cells] at hcs
    obtain ⟨rfl, rfl, rfl⟩ := hcs
    simp only [Prod.mk.injEq] at hx
    obtain ⟨rfl, _⟩ := hx
    have hs := sized_slice hsz hj hd ht
    simp only [if_true] at hmm
    rw [hb] at hs
    simp only [List.length_map, List.length_range, reachBytes] at hs
    have hs1 : len * bytes ≤ (len + (m - len)) * bytes := Nat.mul_le_mul_right _ (by omega)
    unfold maxLen at hm
    have hB : ∀ i, i < m → ∃ r : List Int, r.length = ks.length ∧ wfs ks r ∧ ∀ j, j < ks.length → W.cell? (x.add (i * ks.length + j)) = (zipInts ks r)[j]? := fun i h => by
      obtain ⟨cs', h1, h2⟩ := hi i h
      obtain ⟨r, r1, r2, r3⟩ := hp.2 _ _ _ h2
      rw [hp.1] at h1
      obtain ⟨_, hcl, hat⟩ := World.cells?_some h1
      refine ⟨r, r1, r3, fun j hj => ?_⟩
      rw [← r2, ← hat j hj, ← Go.Deep.add_add]
    obtain ⟨F, hF⟩ := choose_lt (α := List Int) hB
    refine ⟨(List.range len).map F, by simp, ⟨?_, ?_⟩, by omega, hl, by omega⟩
    · by_cases h0 : len = 0
      · left; simp [h0]
      · obtain ⟨b, off, spot⟩ := x
        have h00 := (hF 0 (by omega)).2.2 0 hk
        have hr0 := (hF 0 (by omega)).1
        have hspot : spot = none := by
          have hz : (zipInts ks (F 0))[0]? = some ((zipInts ks (F 0))[0]'(by simp [zipInts]; omega)) := List.getElem?_eq_getElem _
          rw [hz] at h00
          simpa [Addr.add] using World.cell?_spot h00
        subst hspot
        refine .inr ⟨b, off, rfl, fun i j hi hj => ?_⟩
        simp at hi
        have := (hF i (by omega)).2.2 j hj
        rw [Addr.add_lit] at this
        rw [Nat.add_assoc, this]
        simp [List.getD_eq_getElem?_getD, hi]
    · intro r hr
      obtain ⟨i, hi, rfl⟩ := List.mem_map.1 hr
      simp at hi
      exact ⟨(hF i (by omega)).1, (hF i (by omega)).2.1⟩
end Go.Proofs.Ytdjehgnkpbkdbaa
namespace Go.Proofs.Ytdjehgnkpbkdbaa
open Go.RowKit Go.ChangeShapes Go.WideShapes Go.Deep
set_option linter.unusedVariables false
def opKinds : List IntKind := [.i64, .i64, .i64, .i64]
def actKinds : List IntKind := [.i64, .i64, .i64, .i64, .i64, .i64, .i64]
theorem plain_op {H : Type} {enc : TypeId × Value → H} {W : World} : Plain enc Try.prog W 0 (fun _ => true) true 31 opKinds := by
  have i1 : Plain enc Try.prog W 0 (fun _ => true) true 3 [.i64] := Plain.int Try.underlying3 (by kernel_rfl)
  refine Plain.struct Try.underlying31 (by kernel_rfl) ?_
  change FP enc Try.prog W 0 _ true 0 [_, _, _, _] ([.i64] ++ ([.i64] ++ ([.i64] ++ ([.i64] ++ []))))
  exact FP.cons i1 rfl (FP.cons i1 rfl (FP.cons i1 rfl (FP.cons i1 rfl (FP.nil _))))
theorem plain_act {H : Type} {enc : TypeId × Value → H} {W : World} : Plain enc Try.prog W 0 (fun _ => true) true 33 actKinds := by
  have i1 : Plain enc Try.prog W 0 (fun _ => true) true 3 [.i64] := Plain.int Try.underlying3 (by kernel_rfl)
  refine Plain.struct Try.underlying33 (by kernel_rfl) ?_
  change FP enc Try.prog W 0 _ true 0 [_, _, _, _] ([.i64] ++ ([.i64] ++ ([.i64] ++ (opKinds ++ []))))
  exact FP.cons i1 rfl (FP.cons i1 rfl (FP.cons i1 rfl (FP.cons plain_op rfl (FP.nil _))))
theorem take_Act {H : Type} {enc : TypeId × Value → H} {W : World} {a : Option Addr} {len cap : Nat} {d : DataW H} {p : List MemPlace} {ts : List TypeId} {ds : List (DataW H)} (j : Nat)
    (h : DataW.Trod enc Try.prog W 0 (fun _ => true) true 22 (.slice a len cap) d p) (hsz : (DataW.weightsEach Try.prog ts ds).all (· ≤ reachBytes) = true) (hj : ts[j]? = some 22) (hd : ds[j]? = some d) :
    ∃ rows : List (List Int), rows.length = len ∧ (Recs actKinds W a rows ∧ ∀ r ∈ rows, r.length = actKinds.length ∧ wfs actKinds r) ∧ len * 56 ≤ 140737488351232 ∧ len ≤ cap ∧ cap ≤ 9223372036854775807 :=
  take_recs j Try.underlying22 plain_act (by decide) (by kernel_rfl) h hsz hj hd
theorem getD_mem' {l : List (List Int)} {k : Nat} (hk : k < l.length) : l.getD k [] ∈ l := by
  rw [List.getD_eq_getElem?_getD, List.getElem?_eq_getElem hk]; exact List.getElem_mem _
end Go.Proofs.Ytdjehgnkpbkdbaa
namespace Go.Proofs.Ytdjehgnkpbkdbaa
open Go.RowKit
set_option linter.unusedVariables false
set_option linter.unusedSimpArgs false
def acOf (r : List Int) : Ac := ⟨r.getD 0 0, r.getD 1 0, r.getD 2 0, r.getD 3 0, r.getD 4 0, r.getD 5 0, r.getD 6 0⟩
theorem acOf_cells {r : List Int} (hl : r.length = 7) : zipInts actKinds r = acCells (acOf r) := by
  match r, hl with
  | [A, S, L, K, k, h, v], _ => rfl
theorem acts_get (rows : List (List Int)) {i : Nat} (hi : i < rows.length) : (rows.map acOf).getD i default = acOf (rows.getD i []) := by
  rw [List.getD_eq_getElem?_getD, List.getD_eq_getElem?_getD, List.getElem?_map, List.getElem?_eq_getElem hi]; rfl
theorem ActsAt.of_recs {w : World} {a : Option Addr} {rows : List (List Int)} (h : Recs actKinds w a rows ∧ ∀ r ∈ rows, r.length = actKinds.length ∧ wfs actKinds r) : ActsAt w a (rows.map acOf) := by
  intro i hi
  rw [List.length_map] at hi
  obtain ⟨b, off, rfl, hc⟩ := h.1.at (by omega)
  refine ⟨b, off, rfl, fun f v hv => ?_⟩
  rw [acts_get rows hi] at hv
  have hr := acOf_cells (h.2 _ (getD_mem' hi)).1
  have hf : f < 7 := by
    have := (List.getElem?_eq_some_iff.1 hv).1
    exact this
  have := hc i f hi hf
  rw [hr] at this
  exact this.trans hv
end Go.Proofs.Ytdjehgnkpbkdbaa
namespace Go.Proofs.Ytdjehgnkpbkdbaa
open Go.RowKit Go.ChangeShapes Go.WideShapes Go.Deep
set_option linter.unusedVariables false
set_option linter.unusedSimpArgs false
/-- A slice that is none has no room. -/
theorem take_none_act {H : Type} {enc : TypeId × Value → H} {P : Program} {W : World} {t e : TypeId} {len cap : Nat} {d : DataW H} {p : List MemPlace} (ht : P.underlying t = some (.slice e))
    (h : DataW.Trod enc P W 0 (fun _ => true) true t (.slice none len cap) d p) : cap = 0 := by
  obtain ⟨fuel, hf⟩ := h
  rcases open_slice ht hf with ⟨hcs, hx⟩ | ⟨x, l, c, m, n, D, Pl, hcs, _⟩
  · simp [Value.cells] at hcs
    omega
  · simp [Value.cells] at hcs
theorem take_Act0 {H : Type} {enc : TypeId × Value → H} {W : World} {a : Option Addr} {len cap : Nat} {d : DataW H} {p : List MemPlace} {ts : List TypeId} {ds : List (DataW H)} (j : Nat)
    (h : DataW.Trod enc Try.prog W 0 (fun _ => true) true 22 (.slice a len cap) d p) (hsz : (DataW.weightsEach Try.prog ts ds).all (· ≤ reachBytes) = true) (hj : ts[j]? = some 22) (hd : ds[j]? = some d) :
    ∃ rows : List (List Int), rows.length = len ∧ (Recs actKinds W a rows ∧ ∀ r ∈ rows, r.length = actKinds.length ∧ wfs actKinds r) ∧ len * 56 ≤ 140737488351232 ∧ len ≤ cap ∧ (cap ≤ 9223372036854775807 ∧ (a = none → cap = 0)) := by
  obtain ⟨z, h1, h2, h3, h4, h5⟩ := take_Act j h hsz hj hd
  exact ⟨z, h1, h2, h3, h4, h5, fun ha => by subst ha; exact take_none_act Try.underlying22 h⟩
def serA (c : Ac) : Ac := if c.kind = 0 then { c with level := 3 } else c
def serL (q : Nat) (l : List Ac) : Nat → Ac := fun i => if i < q then serA (l.getD i default) else l.getD i default
def actRow (c : Nat → Ac) (n : Nat) : List Value := grid (fun i => acCells (c i)) n
theorem acCells_len (c : Ac) : (acCells c).length = 7 := rfl
theorem actRow_len (c : Nat → Ac) (n : Nat) : (actRow c n).length = n * 7 := grid_len (fun i => acCells_len _) n
theorem actRow_get (c : Nat → Ac) {n i f : Nat} (hi : i < n) (hf : f < 7) : (actRow c n)[i * 7 + f]? = (acCells (c i))[f]? := grid_get (fun i => acCells_len _) n i f hi hf
theorem serL_zero (l : List Ac) : serL 0 l = fun i => l.getD i default := by funext i; unfold serL; rw [if_neg (by omega)]
theorem serL_same {q : Nat} {l : List Ac} (h : (l.getD q default).kind ≠ 0) : serL (q + 1) l = serL q l := by
  funext i
  unfold serL
  by_cases h1 : i < q
  · rw [if_pos (by omega), if_pos h1]
  · by_cases h2 : i = q
    · subst h2
      rw [if_pos (by omega), if_neg (by omega)]
      unfold serA; rw [if_neg h]
    · rw [if_neg (by omega), if_neg h1]
theorem serL_set {q n : Nat} {l : List Ac} (hq : q < n) (h : (l.getD q default).kind = 0) : (actRow (serL q l) n).set (q * 7 + 2) (.int .i64 3) = actRow (serL (q + 1) l) n := by
  refine grid_set (fun i => acCells_len _) hq (by decide) (fun k _ hk => ?_) ?_ (fun i => acCells_len _)
  · have : serL (q + 1) l k = serL q l k := by
      unfold serL
      by_cases h1 : k < q
      · rw [if_pos (by omega), if_pos h1]
      · rw [if_neg (by omega), if_neg h1]
    show acCells (serL (q + 1) l k) = acCells (serL q l k)
    rw [this]
  · have e1 : serL (q + 1) l q = { l.getD q default with level := 3 } := by unfold serL serA; rw [if_pos (by omega), if_pos h]
    have e2 : serL q l q = l.getD q default := by unfold serL; rw [if_neg (by omega)]
    show acCells (serL (q + 1) l q) = (acCells (serL q l q)).set 2 (.int .i64 3)
    rw [e1, e2]; rfl
theorem actRow_one (c : Nat → Ac) (n : Nat) : ∀ u ∈ actRow c n, u.oneCell' = true := by
  intro u hu
  unfold actRow grid at hu
  obtain ⟨i, _, hi⟩ := List.mem_flatMap.1 hu
  simp only [acCells, List.mem_cons, List.not_mem_nil, or_false] at hi
  rcases hi with rfl | rfl | rfl | rfl | rfl | rfl | rfl <;> rfl
theorem ActsAt.news {w : World} {a : Option Addr} {l : List Ac} (h : ActsAt w a l) : ∀ ad, a = some ad → ∀ j u, (actRow (serL 0 l) l.length)[j]? = some u → w.cell? (ad.add j) = some u := by
  intro ad had j u hu
  rw [serL_zero] at hu
  have hj : j < l.length * 7 := by
    have := (List.getElem?_eq_some_iff.1 hu).1
    rw [actRow_len] at this; exact this
  have hi : j / 7 < l.length := by omega
  have e : j = j / 7 * 7 + j % 7 := by omega
  rw [e, actRow_get _ hi (by omega)] at hu
  obtain ⟨b, off, e2, hc⟩ := h _ hi
  rw [had] at e2; injection e2 with e2; subst e2
  have := hc _ _ hu
  rw [Addr.add_lit]
  rw [show off + j = off + j / 7 * 7 + j % 7 by omega]
  exact this
theorem ActsAt.of_row {w : World} {B n c : Nat} {a : Option Addr} {l : List Ac} {F : Nat → Ac} (h : w.ownsRow B 33 7 (.slice a n c) n (actRow F n)) (hl : l.length = n) (hF : ∀ i, i < n → l.getD i default = F i) : ActsAt w a l := by
  intro i hi
  rw [hl] at hi
  have H := h
  rcases h.2 with ⟨e, h0⟩ | ⟨g, cap, cur, hv, _⟩
  · omega
  · injection hv with e1 e2 e3
    subst e1
    refine ⟨g, 0, rfl, fun f v hv => ?_⟩
    have hf : f < 7 := by
      have := (List.getElem?_eq_some_iff.1 hv).1
      rw [acCells_len] at this; exact this
    rw [Nat.zero_add, H.cellAt (i * 7 + f) (by omega), actRow_get _ hi hf, ← hF i hi]
    exact hv
theorem own_caps {B s n m c : Nat} {w : World} {a : Option Addr} {e : TypeId} {xs : List Value} (h : w.ownsRow B e s (.slice a n c) m xs) : n ≤ c ∧ c ≤ 9223372036854775807 := by
  have hm : maxLen = 9223372036854775807 := rfl
  rcases h.2 with ⟨e, h0⟩ | ⟨g, cap, cur, hv, _, _, h1, h2, _⟩
  · injection e with e1 e2 e3
    omega
  · injection hv with e1 e2 e3
    omega
theorem info_act : (Try.prog.info? 33).map (fun i => (i.zero, i.size, i.bytes)) = some (some (.agg #[.int .i64 0, .int .i64 0, .int .i64 0, .int .i64 0, .int .i64 0, .int .i64 0, .int .i64 0]), 7, 56) := by kernel_rfl
set_option maxRecDepth 100000 in
set_option maxHeartbeats 16000000 in
theorem modelReplays_walk (slots : Int) (a1 : Option Addr) (cc : Nat) (rows : List (List Int)) (w : World) (_w0 : (Lit.int .i64 slots).wf = true)
    (i1 : Recs actKinds w a1 rows ∧ ∀ r ∈ rows, r.length = actKinds.length ∧ wfs actKinds r) (s1 : rows.length * 56 ≤ 140737488351232) (_l1 : rows.length ≤ cc) (_m1 : cc ≤ 9223372036854775807 ∧ (a1 = none → cc = 0)) :
    Calls Try.prog 3 #[.int .i64 slots, .slice a1 rows.length cc] w fun e w' => e = .returned (.bool true) ∧ Below w.heap.size w w' := by
  obtain ⟨x, hx, hx0, hx1⟩ : ∃ x : Int, bits .and .i64 slots 255 = x ∧ 0 ≤ x ∧ x ≤ 255 := ⟨slots % 256, i64_and255 slots, by omega, by omega⟩
  have z0 : 0 ≤ x % 60 := by omega
  have z1 : x % 60 ≤ 59 := by omega
  have hA := ActsAt.of_recs i1
  have hN : (rows.map acOf).length = rows.length := List.length_map _
  generalize rows.map acOf = l at hA hN
  rw [← hN] at s1 _l1 ⊢
  have HA := Lib.hid hA
  have HN0 := Lib.hid _m1.2
  have hm1 := _m1.1
  obtain ⟨i0, hi0, hy0, hy1, hy2⟩ := info_parts info_act
  clear i1 _w0 hA _m1 hN
  go_enter Try.func3, Try.ntmps3
  go_wp2_with fail
  refine (md_new (x % 60 + 5) 500 _ (by simp [confB]; omega)).mono ?_
  rintro e w1 ⟨m, rfl, h1, o1, hm⟩
  have HM1 := Lib.hid h1
  have O1 := Lib.hid o1
  have HMS : Hid (m < w1.heap.size) := Lib.hid (h1.under m rfl)
  have HMB : Hid (w.heap.size ≤ m) := Lib.hid hm
  have HZ1 : Hid (w.heap.size ≤ w1.heap.size) := Lib.hid o1.size
  have c1_ : Hid ((actRow (serL 0 l) l.length).length = l.length * 7) := Lib.hid (actRow_len _ _)
  have c3_ : Hid (∀ ad, a1 = some ad → ∀ j u, (actRow (serL 0 l) l.length)[j]? = some u → (w1.alloc (.cells #[] 33)).cell? (ad.add j) = some u) := Lib.hid (fun ad had j u hu => cell_only0 ((O1.out).alloc _) (HA.out.news ad had j u hu))
  have hn_ : Hid (a1 = none → l.length = 0 ∧ cc = 0) := Lib.hid (fun hn => ⟨by have := HN0.out hn; omega, HN0.out hn⟩)
  clear h1 o1 hm HA HN0
  go_wp2_with (at_builtin; refine wpList_append_all _ rfl _ _ 22 rfl w1.heap.size 33 i0 _ 7 56 Try.underlying22 hi0 hy0 hy1 hy2 rfl (by decide) (.slice (some ⟨w1.heap.size, 0, none⟩) 0 0) 0 [] rfl (World.ownsRow_made w1 #[] 0 (Nat.le_refl _) (Nat.zero_le _) rfl) a1 l.length cc (actRow (serL 0 l) l.length) rfl c1_.out hn_.out c3_.out (actRow_one _ _) (by unfold maxLen; omega) (by omega) (by simp) l.length (by omega) ?_)
  intro a2 c2 w2 hown2 hgrow2
  have o2 : Only0 w1 w2 := ((Only0.refl w1).alloc _).grown hgrow2 (fun k hk => by simp [Value.ownBlock] at hk; omega)
  have HI0 : Hid (w2.ownsRow w1.heap.size 33 7 (.slice a2 l.length c2) l.length (actRow (serL 0 l) l.length) ∧ Only0 w1 w2) := Lib.hid ⟨hown2, o2⟩
  have hll : l.length ≤ 2513169434844 := by omega
  clear hgrow2 hown2 o2 c1_ c3_ hn_ s1
  go_wp2_with fail
  go_loopw [8] (fun s8 wr => ∃ q : Nat, s8 = .int .i64 q ∧ q ≤ l.length ∧ Hid (wr.ownsRow w1.heap.size 33 7 (.slice a2 l.length c2) l.length (actRow (serL q l) l.length) ∧ Only0 w1 wr)) (fun s8 _ => l.length - (intOf s8).toNat)
  case atStart => exact ⟨0, rfl, Nat.zero_le _, HI0⟩
  case round =>
    obtain ⟨q, rfl, hq, HL⟩ := hrel
    clear HI0
    by_cases hlt : q < l.length
    · have hform : ∃ g, a2 = some ⟨g, 0, none⟩ := by
        rcases HL.out.1.2 with ⟨e, h0⟩ | ⟨g, cap, cur, hv, _⟩
        · omega
        · injection hv with e1 e2 e3; exact ⟨g, e1⟩
      obtain ⟨g, rfl⟩ := hform
      obtain ⟨K0, hK⟩ : ∃ K0, (l.getD q default).kind = K0 := ⟨_, rfl⟩
      have hsq : serL q l q = l.getD q default := by unfold serL; rw [if_neg (by omega)]
      have d0 : wr.cell? ⟨g, q * 7, none⟩ = some (.int .i64 K0) := by
        rw [show q * 7 = q * 7 + 0 from rfl, HL.out.1.cellAt (q * 7 + 0) (by omega), actRow_get _ hlt (by decide), hsq, ← hK]; rfl
      obtain ⟨L0, hL0⟩ : ∃ L0, (l.getD q default).level = L0 := ⟨_, rfl⟩
      have d2 : wr.cell? ⟨g, q * 7 + 2, none⟩ = some (.int .i64 L0) := by
        rw [HL.out.1.cellAt (q * 7 + 2) (by omega), actRow_get _ hlt (by decide), hsq, ← hL0]; rfl
      have gf : ∀ o, wr.frozen? ⟨g, o, none⟩ = false := fun o => HL.out.1.frozenAt o
      clear hsq hL0
      by_cases h00 : K0 = 0
      · subst h00
        have HS : Hid ((wr.setCell ⟨g, q * 7 + 2, none⟩ (.int .i64 3)).ownsRow w1.heap.size 33 7 (.slice (some ⟨g, 0, none⟩) l.length c2) l.length (actRow (serL (q + 1) l) l.length) ∧ Only0 w1 (wr.setCell ⟨g, q * 7 + 2, none⟩ (.int .i64 3))) := Lib.hid (by
          have h1 := (HL.out.1.stored (q * 7 + 2) (.int .i64 3)).1
          rw [serL_set hlt hK] at h1
          exact ⟨h1, HL.out.2.setCell (HL.out.1.lt g rfl).1 _⟩)
        clear HL hK
        go_wp2_with fail
        go_roundw
        case rel => exact ⟨q + 1, by go_num, by omega, HS⟩
        case measure => simp [intOf]; omega
      · have HS : Hid (wr.ownsRow w1.heap.size 33 7 (.slice (some ⟨g, 0, none⟩) l.length c2) l.length (actRow (serL (q + 1) l) l.length) ∧ Only0 w1 wr) := Lib.hid (by
          rw [serL_same (by rw [hK]; exact h00)]
          exact HL.out)
        clear HL hK
        go_wp2_with fail
        go_roundw
        case rel => exact ⟨q + 1, by go_num, by omega, HS⟩
        case measure => simp [intOf]; omega
    · obtain rfl : q = l.length := by omega
      have HX := HL
      obtain ⟨l3, hl3⟩ : ∃ l3, l3 = l.map serA := ⟨_, rfl⟩
      have hl3n : l3.length = l.length := by rw [hl3]; exact List.length_map _
      have hl3g : ∀ i, i < l.length → l3.getD i default = serA (l.getD i default) := fun i hi => by
        rw [hl3, List.getD_eq_getElem?_getD, List.getD_eq_getElem?_getD, List.getElem?_map, List.getElem?_eq_getElem hi]; rfl
      have hA3 : ActsAt wr a2 l3 := ActsAt.of_row HX.out.1 hl3n (fun i hi => by rw [hl3g i hi]; unfold serL; rw [if_pos hi])
      have hcap := own_caps HX.out.1
      have C := law_deals (HM1.out.only0 HX.out.2) (by show 0 < x % 60 + 5; omega) a2 c2 l3 hA3 (fun y hy h0 e => by
        have h1 := (HX.out.1.lt y.block (by rw [hy]; rfl)).1
        have h2 : y.block = m := e
        have := HMS.out
        omega) (by omega) hcap.2 100 (by omega) (fun L => L = 3) (fun i hi hk => by
        rw [hl3g i (by omega)] at hk ⊢
        by_cases hz : (l.getD i default).kind = 0
        · unfold serA; rw [if_pos hz]
        · unfold serA at hk; rw [if_neg hz] at hk; exact absurd hk hz)
      rw [hl3n, show ((100 : Nat) : Int) = 100 from rfl] at C
      have HB0 : Hid (Below w.heap.size w wr) := Lib.hid (O1.out.trans HX.out.2).below
      have HZ : Hid (w.heap.size ≤ wr.heap.size) := Lib.hid (Nat.le_trans HZ1.out HX.out.2.size)
      clear HX HL hA3 hl3 hl3n hl3g hcap HM1 O1 HMS
      go_wp2_with fail
      refine C.mono ?_
      rintro e w4 ⟨P, R, S, s, va, vc, ds, A, cs, rfl, hDL, hPL⟩
      have HB4 : Hid (Below w.heap.size w w4) := Lib.hid (HB0.out.trans (hDL.o.below _ HZ.out (fun k hk => by have e : k = m := hk; rw [e]; exact HMB.out)))
      have HD := Lib.hid hDL.dd.deals
      have HLV := Lib.hid hPL.lv
      have hnow : s.now ≤ 1099511627776 := by
        have h1 := (MAt.ok hDL.mat).now
        have h2 := (MAt.ok hDL.mat).limit
        omega
      have HAX := Lib.hid (hPL.ax hnow)
      have hdl : ds.length ≤ 100 := hPL.len
      clear C hDL hPL hnow HB0 HZ HMB
      go_wp2_with fail
      refine (ref_Replay va vc ds w4 HD.out.1 HAX.out HLV.out HD.out.2).mono ?_
      rintro e w5 ⟨o5, rfl⟩
      have O5 := Lib.hid o5
      clear o5
      go_wp2_with fail
      refine (awake19_any _).mono ?_
      rintro e w10 ⟨rfl, o10⟩
      have HE : Hid (Below w.heap.size w w10) := Lib.hid (HB4.out.trans (((O5.out.trans o10).below).mono (HB4.out.size)))
      clear o10 O5
      go_wp2_with fail
      go_ret
      exact ⟨rfl, HE.out⟩
end Go.Proofs.Ytdjehgnkpbkdbaa

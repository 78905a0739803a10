/-
  ModelAxioms: what its proof rests on, part 7.
-/
import Derived.ProofKit
import Derived.SizedLaws
import Derived.Deep.Slices
import Derived.ChangeOld
import Derived.ShutString
import Derived.OpenShut
import Derived.Deep.QuietTactic
import Derived.BigQuiet
import Derived.Test.YtdjehgnkpbkdbaaProg
import Derived.Test.YtdjehgnkpbkdbaaZModelAxioms1
import Derived.Test.YtdjehgnkpbkdbaaZModelAxioms2
import Derived.Test.YtdjehgnkpbkdbaaZModelAxioms6
namespace Go.Proofs.Ytdjehgnkpbkdbaa
open Go.RowKit
set_option linter.unusedVariables false
set_option linter.unusedSimpArgs false
theorem DI.goodAt {s : St} {ds : List Dl} {cs : List Nat} (h : DI s ds cs) {i : Nat} (hi : i ∈ cs) {a : Int} (ha : a < (dAt ds i).fin) (hg : goodF (dAt ds i).ops (valAt s a) = true) : GoodAt ds i a :=
  ⟨⟨_, (h.holdsB hi ha hg).2⟩, (h.holdsB hi ha hg).1⟩
theorem PL.dls {LV : Int → Prop} {s : St} {ds : List Dl} {cs : List Nat} (h : PL LV s ds cs 100) : DlsOk ds :=
  ⟨by have := h.len; omega, fun i hi => by have := h.ops i hi; omega, h.di.ord.ok⟩
theorem PL.ax {LV : Int → Prop} {s : St} {ds : List Dl} {cs : List Nat} (h : PL LV s ds cs 100) (hn : s.now ≤ 1099511627776) : AxOk ds := by
  refine ⟨h.dls, h.di.ids, fun i hi h3 => ?_, fun i hi h3 => ?_⟩
  · have := h.di.fins i ((h.di.ord.mem i).2 ⟨hi, h3⟩); omega
  · have hc := (h.di.ord.mem i).2 ⟨hi, h3⟩
    have hf := h.di.fins i hc
    have hb : before1 (dAt ds i).fin = (dAt ds i).fin - 1 := by unfold before1; rw [if_neg (by omega)]
    refine ⟨h.di.goodAt hc hf.2.1 (h.di.snap i hc), ?_⟩
    rcases h.di.lev i hc with hl | ⟨hl, hr⟩ | ⟨hl, hg⟩
    · exact .inl hl
    · refine .inr (.inl ⟨hl, ?_⟩)
      rw [hb]
      have e : stateP ds ((dAt ds i).fin - 1) i = listOf (uptoF ds cs ((dAt ds i).fin - 1)) := by
        rw [h.di.ord.stateP]
        unfold uptoF
        rw [uptoR_same (b := (dAt ds i).fin - 1) (but' := -1) (fun k hk => ?_)]
        constructor
        · rintro ⟨x, _⟩; exact ⟨x, by omega⟩
        · rintro ⟨x, _⟩
          refine ⟨x, fun e => ?_⟩
          have : k = i := by omega
          subst this; omega
      refine ⟨_, e, ?_⟩
      rw [repOps_listOf _ _ _ (h.di.ord.ok i hi), repF_congr (h.di.ord.ok i hi) (fun k hk => h.di.st _ k (by omega) hk)]
      exact hr
    · refine .inr (.inr ⟨hl, ?_⟩)
      rw [hb]
      exact h.di.goodAt hc (by omega) hg
end Go.Proofs.Ytdjehgnkpbkdbaa
namespace Go.Proofs.Ytdjehgnkpbkdbaa
open Go.RowKit Go.ChangeShapes Go.WideShapes Go.Deep
def zipInts (ks : List IntKind) (ns : List Int) : List Value := List.zipWith Value.int ks ns
def wfs : List IntKind → List Int → Prop
  | k :: ks, n :: ns => (Lit.int k n).wf = true ∧ wfs ks ns
  | _, _ => True
theorem wfs_append {ks ks' : List IntKind} {ns ns' : List Int} (hl : ns.length = ks.length) (h : wfs ks ns) (h' : wfs ks' ns') : wfs (ks ++ ks') (ns ++ ns') := by
  induction ks generalizing ns with
  | nil => cases ns with
    | nil => exact h'
    | cons n ns => simp at hl
  | cons k ks ih => cases ns with
    | nil => simp at hl
    | cons n ns => exact ⟨h.1, ih (by simpa using hl) h.2⟩
section
variable {H : Type} {enc : TypeId × Value → H} {P : Program} {W : World} {base : Nat} {spare : Nat → Bool} {held : Bool}
/-- Whatever is read as type t is integers of the kinds ks. -/
def Plain (enc : TypeId × Value → H) (P : Program) (W : World) (base : Nat) (spare : Nat → Bool) (held : Bool) (t : TypeId) (ks : List IntKind) : Prop :=
  P.cellsOf t = ks.length ∧ ∀ n cs x, DataW.trod enc P W base spare held n t cs = some x → ∃ ns : List Int, ns.length = ks.length ∧ cs = zipInts ks ns ∧ wfs ks ns
theorem Plain.int {t : TypeId} {k : IntKind} (ht : P.underlying t = some (.int k)) (hc : P.cellsOf t = 1) : Plain enc P W base spare held t [k] := by
  refine ⟨hc, fun n cs x h => ?_⟩
  obtain ⟨m, hm, _, hw⟩ := DataW.trod_int ht h
  exact ⟨[m], rfl, by simpa [zipInts] using hm, hw, trivial⟩
/-- The fields l, from cell o on, are integers of the kinds ks. -/
def FP (enc : TypeId × Value → H) (P : Program) (W : World) (base : Nat) (spare : Nat → Bool) (held : Bool) (o : Nat) (l : List Field) (ks : List IntKind) : Prop :=
  ∀ n (cs : List Value), o + ks.length ≤ cs.length → (∀ f ∈ l, ∃ x, DataW.trod enc P W base spare held n f.type ((cs.drop f.offset).take (P.cellsOf f.type)) = some x) →
    ∃ ns : List Int, ns.length = ks.length ∧ (cs.drop o).take ks.length = zipInts ks ns ∧ wfs ks ns
theorem FP.nil (o : Nat) : FP enc P W base spare held o [] [] := fun n cs _ _ => ⟨[], rfl, by simp [zipInts], trivial⟩
theorem FP.cons {o : Nat} {f : Field} {l : List Field} {K ks : List IntKind} (hp : Plain enc P W base spare held f.type K) (ho : f.offset = o) (h : FP enc P W base spare held (o + K.length) l ks) : FP enc P W base spare held o (f :: l) (K ++ ks) := by
  intro n cs hl hf
  obtain ⟨x, hx⟩ := hf f (by simp)
  rw [ho, hp.1] at hx
  obtain ⟨n1, e1, e2, e3⟩ := hp.2 _ _ _ hx
  obtain ⟨n2, d1, d2, d3⟩ := h n cs (by simp at hl; omega) (fun g hg => hf g (by simp [hg]))
  refine ⟨n1 ++ n2, by simp [e1, d1], ?_, wfs_append e1 e3 d3⟩
  rw [List.length_append, List.take_add, e2, List.drop_drop, d2]
  unfold zipInts
  rw [List.zipWith_append (by rw [e1])]
theorem Plain.struct {t : TypeId} {fs : Array Field} {ks : List IntKind} (ht : P.underlying t = some (.struct fs)) (hc : P.cellsOf t = ks.length) (h : FP enc P W base spare held 0 fs.toList ks) : Plain enc P W base spare held t ks := by
  refine ⟨hc, fun n cs x hx => ?_⟩
  obtain ⟨xs, m, _, _, hlen, hxl, hf⟩ := DataW.trod_struct ht hx
  obtain ⟨ns, h1, h2, h3⟩ := h m cs (by omega) (fun f hfm => by
    obtain ⟨i, hi, he⟩ := List.getElem_of_mem hfm
    have := hf i f (by rw [← he]; simp at hi; simp [hi])
    simp at hi
    rw [List.getElem?_eq_getElem (by omega)] at this
    exact ⟨_, this⟩)
  refine ⟨ns, h1, ?_, h3⟩
  rw [← h2, List.drop_zero, List.take_of_length_le (by omega)]
end
/-- Rows of integers of the kinds ks at an address. -/
def Recs (ks : List IntKind) (w : World) (a : Option Addr) (rows : List (List Int)) : Prop :=
  rows = [] ∨ ∃ b off, a = some ⟨b, off, none⟩ ∧ ∀ i j, i < rows.length → j < ks.length → w.cell? ⟨b, off + i * ks.length + j, none⟩ = (zipInts ks (rows.getD i []))[j]?
theorem Recs.at {ks : List IntKind} {w : World} {a : Option Addr} {rows : List (List Int)} (h : Recs ks w a rows) (hn : 0 < rows.length) :
    ∃ b off, a = some ⟨b, off, none⟩ ∧ ∀ i j, i < rows.length → j < ks.length → w.cell? ⟨b, off + i * ks.length + j, none⟩ = (zipInts ks (rows.getD i []))[j]? := by
  rcases h with rfl | h
  · simp at hn
  · exact h
/-- A slice of such structs. -/
theorem take_recs {H : Type} {enc : TypeId × Value → H} {P : Program} {W : World} {t e : TypeId} {ks : List IntKind} {a : Option Addr} {len cap : Nat} {d : DataW H} {p : List MemPlace} {ts : List TypeId} {ds : List (DataW H)} {bytes : Nat} (j : Nat)
    (ht : P.underlying t = some (.slice e)) (hp : Plain enc P W 0 (fun _ => true) true e ks) (hk : 0 < ks.length) (hb : P.bytesOf e = bytes)
    (h : DataW.Trod enc P W 0 (fun _ => true) true t (.slice a len cap) d p) (hsz : (DataW.weightsEach P ts ds).all (· ≤ reachBytes) = true) (hj : ts[j]? = some t) (hd : ds[j]? = some d) :
    ∃ rows : List (List Int), rows.length = len ∧ (Recs ks W a rows ∧ ∀ r ∈ rows, r.length = ks.length ∧ wfs ks r) ∧ len * bytes ≤ 140737488351232 ∧ len ≤ cap ∧ cap ≤ 9223372036854775807 := by
  obtain ⟨fuel, hf⟩ := h
  rcases open_slice ht hf with ⟨hcs, hx⟩ | ⟨x, l, c, m, n, D, Pl, hcs, _, hl, hm, hmm, hx, hi⟩
  · simp [Value.cells] at hcs
    obtain ⟨rfl, rfl, rfl⟩ := hcs
    exact ⟨[], rfl, ⟨.inl rfl, by simp⟩, by omega, by omega, by omega⟩
  · simp [Value.cells] at hcs
    obtain ⟨rfl, rfl, rfl⟩ := hcs
    simp only [Prod.mk.injEq] at hx
    obtain ⟨rfl, _⟩ := hx
    have hs := sized_slice hsz hj hd ht
    simp only [if_true] at hmm
    rw [hb] at hs
    simp only [List.length_map, List.length_range, reachBytes] at hs
    have hs1 : len * bytes ≤ (len + (m - len)) * bytes := Nat.mul_le_mul_right _ (by omega)
    unfold maxLen at hm
    have hB : ∀ i, i < m → ∃ r : List Int, r.length = ks.length ∧ wfs ks r ∧ ∀ j, j < ks.length → W.cell? (x.add (i * ks.length + j)) = (zipInts ks r)[j]? := fun i h => by
      obtain ⟨cs', h1, h2⟩ := hi i h
      obtain ⟨r, r1, r2, r3⟩ := hp.2 _ _ _ h2
      rw [hp.1] at h1
      obtain ⟨_, hcl, hat⟩ := World.cells?_some h1
      refine ⟨r, r1, r3, fun j hj => ?_⟩
      rw [← r2, ← hat j hj, ← Go.Deep.add_add]
    obtain ⟨F, hF⟩ := choose_lt (α := List Int) hB
    refine ⟨(List.range len).map F, by simp, ⟨?_, ?_⟩, by omega, hl, by omega⟩
    · by_cases h0 : len = 0
      · left; simp [h0]
      · obtain ⟨b, off, spot⟩ := x
        have h00 := (hF 0 (by omega)).2.2 0 hk
        have hr0 := (hF 0 (by omega)).1
        have hspot : spot = none := by
          have hz : (zipInts ks (F 0))[0]? = some ((zipInts ks (F 0))[0]'(by simp [zipInts]; omega)) := List.getElem?_eq_getElem _
          rw [hz] at h00
          simpa [Addr.add] using World.cell?_spot h00
        subst hspot
        refine .inr ⟨b, off, rfl, fun i j hi hj => ?_⟩
        simp at hi
        have := (hF i (by omega)).2.2 j hj
        rw [Addr.add_lit] at this
        rw [Nat.add_assoc, this]
        simp [List.getD_eq_getElem?_getD, hi]
    · intro r hr
      obtain ⟨i, hi, rfl⟩ := List.mem_map.1 hr
      simp at hi
      exact ⟨(hF i (by omega)).1, (hF i (by omega)).2.1⟩
end Go.Proofs.Ytdjehgnkpbkdbaa
namespace Go.Proofs.Ytdjehgnkpbkdbaa
open Go.RowKit Go.ChangeShapes Go.WideShapes Go.Deep
set_option linter.unusedVariables false
def opKinds : List IntKind := [.i64, .i64, .i64, .i64]
def actKinds : List IntKind := [.i64, .i64, .i64, .i64, .i64, .i64, .i64]
theorem plain_op {H : Type} {enc : TypeId × Value → H} {W : World} : Plain enc Try.prog W 0 (fun _ => true) true 31 opKinds := by
  have i1 : Plain enc Try.prog W 0 (fun _ => true) true 3 [.i64] := Plain.int Try.underlying3 (by kernel_rfl)
  refine Plain.struct Try.underlying31 (by kernel_rfl) ?_
  change FP enc Try.prog W 0 _ true 0 [_, _, _, _] ([.i64] ++ ([.i64] ++ ([.i64] ++ ([.i64] ++ []))))
  exact FP.cons i1 rfl (FP.cons i1 rfl (FP.cons i1 rfl (FP.cons i1 rfl (FP.nil _))))
theorem plain_act {H : Type} {enc : TypeId × Value → H} {W : World} : Plain enc Try.prog W 0 (fun _ => true) true 33 actKinds := by
  have i1 : Plain enc Try.prog W 0 (fun _ => true) true 3 [.i64] := Plain.int Try.underlying3 (by kernel_rfl)
  refine Plain.struct Try.underlying33 (by kernel_rfl) ?_
  change FP enc Try.prog W 0 _ true 0 [_, _, _, _] ([.i64] ++ ([.i64] ++ ([.i64] ++ (opKinds ++ []))))
  exact FP.cons i1 rfl (FP.cons i1 rfl (FP.cons i1 rfl (FP.cons plain_op rfl (FP.nil _))))
theorem take_Act {H : Type} {enc : TypeId × Value → H} {W : World} {a : Option Addr} {len cap : Nat} {d : DataW H} {p : List MemPlace} {ts : List TypeId} {ds : List (DataW H)} (j : Nat)
    (h : DataW.Trod enc Try.prog W 0 (fun _ => true) true 22 (.slice a len cap) d p) (hsz : (DataW.weightsEach Try.prog ts ds).all (· ≤ reachBytes) = true) (hj : ts[j]? = some 22) (hd : ds[j]? = some d) :
    ∃ rows : List (List Int), rows.length = len ∧ (Recs actKinds W a rows ∧ ∀ r ∈ rows, r.length = actKinds.length ∧ wfs actKinds r) ∧ len * 56 ≤ 140737488351232 ∧ len ≤ cap ∧ cap ≤ 9223372036854775807 :=
  take_recs j Try.underlying22 plain_act (by decide) (by kernel_rfl) h hsz hj hd
theorem getD_mem' {l : List (List Int)} {k : Nat} (hk : k < l.length) : l.getD k [] ∈ l := by
  rw [List.getD_eq_getElem?_getD, List.getElem?_eq_getElem hk]; exact List.getElem_mem _
end Go.Proofs.Ytdjehgnkpbkdbaa
namespace Go.Proofs.Ytdjehgnkpbkdbaa
open Go.RowKit
set_option linter.unusedVariables false
set_option linter.unusedSimpArgs false
theorem info_conf : (Try.prog.info? 29).map (·.size) = some 2 := by kernel_rfl
set_option maxRecDepth 100000 in
set_option maxHeartbeats 4000000 in
theorem conf_any (slots limit : Int) (w : World) (h0 : 0 ≤ limit) : ∃ a b : Int, confB a b = true ∧ Calls Try.prog 9 #[.int .i64 slots, .int .u64 limit] w fun e w' => e = .returned (.agg #[.int .i64 a, .int .u64 b]) ∧ Only0 w w' := by
  obtain ⟨x, hx, hx0, hx1⟩ : ∃ x : Int, bits .and .i64 slots 255 = x ∧ 0 ≤ x ∧ x ≤ 255 := ⟨slots % 256, i64_and255 slots, by omega, by omega⟩
  obtain ⟨y, hy, hy0, hy1⟩ : ∃ y : Int, bits .and .u64 limit 255 = y ∧ 0 ≤ y ∧ y ≤ 255 := ⟨limit % 256, u64_and255 limit, by omega, by omega⟩
  have z0 : 0 ≤ x % 40 := by omega
  have z1 : x % 40 ≤ 39 := by omega
  refine ⟨x % 40 + 1, y + 20, by simp [confB]; omega, ?_⟩
  obtain ⟨W, hW⟩ : ∃ W, W = w.alloc (.cells #[.int .i64 0, .int .u64 0] 29) := ⟨_, rfl⟩
  obtain ⟨n0, hn0⟩ : ∃ n0, n0 = w.heap.size := ⟨_, rfl⟩
  have BX : Blk W n0 29 #[.int .i64 0, .int .u64 0] := by rw [hW, hn0]; exact Blk.new _ _ _
  have HO := Lib.hid (show Only0 w W by rw [hW]; exact (Only0.refl w).alloc _)
  have HN := Lib.hid hn0
  have b0 : W.cell? ⟨n0, 0, none⟩ = some (.int .i64 0) := BX.cell 0
  have b1 : W.cell? ⟨n0, 1, none⟩ = some (.int .u64 0) := BX.cell 1
  have bf := fun i => BX.free i
  have HBX := Lib.hid BX
  clear BX hn0
  go_enter Try.func9, Try.ntmps9
  go_upto_region 1 with (fail)
  rw [← hW, ← HN.out]
  clear hW
  go_wp2_with fail
  have B1 := (HBX.out.set 0 (.int .i64 (x % 40 + 1))).set 1 (.int .u64 (y + 20))
  have o1 := (Only.set1 W n0 0 (.int .i64 (x % 40 + 1))).trans (Only.set1 _ n0 1 (.int .u64 (y + 20)))
  exact bodyPost_ret (v := .agg #[.int .i64 (x % 40 + 1), .int .u64 (y + 20)]) (results_cell_row Try.results9 _ _ n0 _ _ _ _ rfl B1 Try.underlying29 rfl info_conf) rfl ⟨rfl, HO.out.box (by rw [HN.out]; exact Nat.le_refl _) o1⟩
def acOf (r : List Int) : Ac := ⟨r.getD 0 0, r.getD 1 0, r.getD 2 0, r.getD 3 0, r.getD 4 0, r.getD 5 0, r.getD 6 0⟩
theorem acOf_cells {r : List Int} (hl : r.length = 7) : zipInts actKinds r = acCells (acOf r) := by
  match r, hl with
  | [A, S, L, K, k, h, v], _ => rfl
theorem acts_get (rows : List (List Int)) {i : Nat} (hi : i < rows.length) : (rows.map acOf).getD i default = acOf (rows.getD i []) := by
  rw [List.getD_eq_getElem?_getD, List.getD_eq_getElem?_getD, List.getElem?_map, List.getElem?_eq_getElem hi]; rfl
theorem ActsAt.of_recs {w : World} {a : Option Addr} {rows : List (List Int)} (h : Recs actKinds w a rows ∧ ∀ r ∈ rows, r.length = actKinds.length ∧ wfs actKinds r) : ActsAt w a (rows.map acOf) := by
  intro i hi
  rw [List.length_map] at hi
  obtain ⟨b, off, rfl, hc⟩ := h.1.at (by omega)
  refine ⟨b, off, rfl, fun f v hv => ?_⟩
  rw [acts_get rows hi] at hv
  have hr := acOf_cells (h.2 _ (getD_mem' hi)).1
  have hf : f < 7 := by
    have := (List.getElem?_eq_some_iff.1 hv).1
    exact this
  have := hc i f hi hf
  rw [hr] at this
  exact this.trans hv
set_option maxRecDepth 100000 in
set_option maxHeartbeats 16000000 in
theorem modelAxioms_walk (slots limit : Int) (a2 : Option Addr) (cc : Nat) (rows : List (List Int)) (w : World) (_w0 : (Lit.int .i64 slots).wf = true) (w1 : (Lit.int .u64 limit).wf = true)
    (i2 : Recs actKinds w a2 rows ∧ ∀ r ∈ rows, r.length = actKinds.length ∧ wfs actKinds r) (s2 : rows.length * 56 ≤ 140737488351232) (_l2 : rows.length ≤ cc) (_m2 : cc ≤ 9223372036854775807) :
    Calls Try.prog 4 #[.int .i64 slots, .int .u64 limit, .slice a2 rows.length cc] w fun e w' => e = .returned (.bool true) ∧ Below w.heap.size w w' := by
  have HA := Lib.hid (ActsAt.of_recs i2)
  have HAL : Hid ((rows.map acOf).length = rows.length) := Lib.hid (List.length_map _)
  obtain ⟨ca, cb, hcf, CC⟩ := conf_any slots limit w (bounds_u64 w1).1
  have HCF := Lib.hid hcf
  have HAB : Hid (∀ x, a2 = some x → rows ≠ [] → x.block < w.heap.size) := Lib.hid (fun x hx hne => by
    obtain ⟨b, off, e, hc⟩ := HA.out 0 (by rw [HAL.out]; exact List.length_pos_iff.2 hne)
    rw [hx] at e; injection e with e; subst e
    exact block_lt_of_cell (hc 0 _ rfl))
  have hrl : rows.length ≤ 17592186044000 := by omega
  clear i2 s2 w1 _w0 hcf
  go_enter Try.func4, Try.ntmps4
  go_wp2_with fail
  refine CC.mono ?_
  rintro e w1 ⟨rfl, o1⟩
  have O1 := Lib.hid o1
  clear CC o1
  go_wp2_with fail
  refine (md_new ca cb _ HCF.out).mono ?_
  rintro e w3 ⟨m, rfl, h3, o3, hm⟩
  have C := law_deals h3 (by have := HCF.out; simp [confB] at this; omega) a2 cc (rows.map acOf) (fun i hi => by
    obtain ⟨b, off, e, hc⟩ := HA.out i hi
    exact ⟨b, off, e, fun f v hv => cell_only0 (O1.out.trans o3) (hc f v hv)⟩) (fun x hx h0 e => by
    have h1 := HAB.out x hx (fun e => by rw [e] at h0; simp at h0)
    have h2 : x.block = m := e
    have h4 := O1.out.size
    omega) (by rw [HAL.out]; exact _l2) _m2 80 (by omega) (fun _ => True) (fun _ _ _ => trivial)
  rw [HAL.out, show ((80 : Nat) : Int) = 80 from rfl] at C
  have HB0 : Hid (Below w.heap.size w w3) := Lib.hid (O1.out.trans o3).below
  have HM : Hid (w.heap.size ≤ m) := Lib.hid (Nat.le_trans O1.out.size hm)
  have HZ : Hid (w.heap.size ≤ w3.heap.size) := Lib.hid (O1.out.trans o3).size
  clear h3 o3 hm O1
  go_wp2_with fail
  refine C.mono ?_
  rintro e w4 ⟨P, R, S, s, va, vc, ds, A, cs, rfl, hDL, hPL⟩
  have HB4 : Hid (Below w.heap.size w w4) := Lib.hid (HB0.out.trans (hDL.o.below _ HZ.out (fun k hk => by have e : k = m := hk; rw [e]; exact HM.out)))
  have HMT := Lib.hid hDL.mat
  have HD := Lib.hid hDL.dd.deals
  have HPL := Lib.hid hPL
  have hnow : s.now ≤ 1099511627776 := by
    have h1 := (MAt.ok hDL.mat).now
    have h2 := (MAt.ok hDL.mat).limit
    omega
  have HAX := Lib.hid (hPL.ax hnow)
  have HSP : Hid (stateP ds s.now (-1) = s.pairs s.now) := Lib.hid hPL.di.state
  have hdl : ds.length ≤ 100 := hPL.len
  have HFW : Hid ((s.pairs s.now).length ≤ 64) := Lib.hid (pairsTo_few s s.now 64)
  clear C hDL hPL hnow HB0 HM HZ HA HAB HAL
  go_wp2_with fail
  refine (ref_Holds va vc ds w4 HD.out.1 HAX.out HD.out.2).mono ?_
  rintro e w5 ⟨o5, rfl⟩
  have O5 := Lib.hid o5
  clear o5
  go_wp2_with fail
  refine (ref_Writers va vc ds w5 (HD.out.1.only0 O5.out) HAX.out.dls HPL.out.di.writers HD.out.2).mono ?_
  rintro e w6 ⟨o6, rfl⟩
  have O6 := Lib.hid (O5.out.trans o6)
  clear o6 O5
  go_wp2_with fail
  refine (md_now (MAt.only0 HMT.out O6.out)).mono ?_
  rintro e w6' ⟨rfl, rfl⟩
  go_wp2_with fail
  refine (md_pairs (MAt.only0 HMT.out O6.out) s.now).mono ?_
  rintro e w7 ⟨⟨a7, c7, rfl, hp7, -⟩, o7⟩
  have O7 := Lib.hid (O6.out.trans o7)
  have HP7 := Lib.hid hp7
  clear o7 hp7 O6
  generalize hps : s.pairs s.now = ps at *
  have HPS := Lib.hid hps
  clear hps
  go_wp2_with fail
  refine (md_now (MAt.only0 HMT.out O7.out)).mono ?_
  rintro e w7' ⟨rfl, rfl⟩
  go_wp2_with fail
  refine (ref_State va vc ds w7 (HD.out.1.only0 O7.out) HAX.out.dls HD.out.2 s.now).mono ?_
  rintro e w8 ⟨a8, c8, rfl, hp8, o8⟩
  rw [HSP.out] at hp8 ⊢
  have C := samePairs_any a7 a8 c7 c8 ps ps w8 (HP7.out.only (S := fun _ => False) o8 (fun _ _ hf => hf)) hp8.at_ (by have := HFW.out; omega) (by have := HFW.out; omega)
  rw [decide_eq_true rfl] at C
  have O8 := Lib.hid (O7.out.trans o8)
  clear hp8 o8 O7
  go_wp2_with fail
  refine C.mono ?_
  rintro e w9 ⟨rfl, n9, rfl⟩
  have O9 := Lib.hid (O8.out.drewN n9)
  clear C O8
  go_wp2_with fail
  refine (awake19_any _).mono ?_
  rintro e w10 ⟨rfl, o10⟩
  have HE : Hid (Below w.heap.size w w10) := Lib.hid (HB4.out.trans (((O9.out.trans o10).below).mono (HB4.out.size)))
  clear o10 O9
  go_wp2_with fail
  go_ret
  exact ⟨rfl, HE.out⟩
end Go.Proofs.Ytdjehgnkpbkdbaa

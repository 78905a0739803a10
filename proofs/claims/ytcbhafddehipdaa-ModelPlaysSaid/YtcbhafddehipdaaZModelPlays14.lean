/-
  ModelPlays: what its proof rests on, part 14.
-/
import Derived.ProofKit
import Derived.SizedLaws
import Derived.Deep.Slices
import Derived.ChangeOld
import Derived.ShutString
import Derived.OpenShut
import Derived.Test.YtcbhafddehipdaaProg
import Derived.Test.YtcbhafddehipdaaZModelPlays1
import Derived.Test.YtcbhafddehipdaaZModelPlays5
import Derived.Test.YtcbhafddehipdaaZModelPlays6
import Derived.Test.YtcbhafddehipdaaZModelPlays12
import Derived.Test.YtcbhafddehipdaaZModelPlays13
namespace Go.Proofs.Ytcbhafddehipdaa
open Go.RowKit Go.ChangeShapes Go.WideShapes Go.Deep
def zipInts (ks : List IntKind) (ns : List Int) : List Value := List.zipWith Value.int ks ns
def wfs : List IntKind → List Int → Prop
  | k :: ks, n :: ns => (Lit.int k n).wf = true ∧ wfs ks ns
  | _, _ => True
theorem wfs_append {ks ks' : List IntKind} {ns ns' : List Int} (hl : ns.length = ks.length) (h : wfs ks ns) (h' : wfs ks' ns') : wfs (ks ++ ks') (ns ++ ns') := by
  induction ks generalizing ns with
  | nil => cases ns with
    | nil => exact h'
    | cons n ns => simp at hl
  | cons k ks ih => cases ns with
    | nil => simp at hl
    | cons n ns => exact ⟨h.1, ih (by simpa using hl) h.2⟩
section
variable {H : Type} {enc : TypeId × Value → H} {P : Program} {W : World} {base : Nat} {spare : Nat → Bool} {held : Bool}
/-- Whatever is read as type t is integers of the kinds ks. -/
def Plain (enc : TypeId × Value → H) (P : Program) (W : World) (base : Nat) (spare : Nat → Bool) (held : Bool) (t : TypeId) (ks : List IntKind) : Prop :=
  P.cellsOf t = ks.length ∧ ∀ n cs x, DataW.trod enc P W base spare held n t cs = some x → ∃ ns : List Int, ns.length = ks.length ∧ cs = zipInts ks ns ∧ wfs ks ns
theorem Plain.int {t : TypeId} {k : IntKind} (ht : P.underlying t = some (.int k)) (hc : P.cellsOf t = 1) : Plain enc P W base spare held t [k] := by
  refine ⟨hc, fun n cs x h => ?_⟩
  obtain ⟨m, hm, _, hw⟩ := DataW.trod_int ht h
  exact ⟨[m], rfl, by simpa [zipInts] using hm, hw, trivial⟩
/-- The fields l, from cell o on, are integers of the kinds ks. -/
def FP (enc : TypeId × Value → H) (P : Program) (W : World) (base : Nat) (spare : Nat → Bool) (held : Bool) (o : Nat) (l : List Field) (ks : List IntKind) : Prop :=
  ∀ n (cs : List Value), o + ks.length ≤ cs.length → (∀ f ∈ l, ∃ x, DataW.trod enc P W base spare held n f.type ((cs.drop f.offset).take (P.cellsOf f.type)) = some x) →
    ∃ ns : List Int, ns.length = ks.length ∧ (cs.drop o).take ks.length = zipInts ks ns ∧ wfs ks ns
theorem FP.nil (o : Nat) : FP enc P W base spare held o [] [] := fun n cs _ _ => ⟨[], rfl, by simp [zipInts], trivial⟩
theorem FP.cons {o : Nat} {f : Field} {l : List Field} {K ks : List IntKind} (hp : Plain enc P W base spare held f.type K) (ho : f.offset = o) (h : FP enc P W base spare held (o + K.length) l ks) : FP enc P W base spare held o (f :: l) (K ++ ks) := by
  intro n cs hl hf
  obtain ⟨x, hx⟩ := hf f (by simp)
  rw [ho, hp.1] at hx
  obtain ⟨n1, e1, e2, e3⟩ := hp.2 _ _ _ hx
  obtain ⟨n2, d1, d2, d3⟩ := h n cs (by simp at hl; omega) (fun g hg => hf g (by simp [hg]))
  refine ⟨n1 ++ n2, by simp [e1, d1], ?_, wfs_append e1 e3 d3⟩
  rw [List.length_append, List.take_add, e2, List.drop_drop, d2]
  unfold zipInts
  rw [List.zipWith_append (by rw [e1])]
theorem Plain.struct {t : TypeId} {fs : Array Field} {ks : List IntKind} (ht : P.underlying t = some (.struct fs)) (hc : P.cellsOf t = ks.length) (h : FP enc P W base spare held 0 fs.toList ks) : Plain enc P W base spare held t ks := by
  refine ⟨hc, fun n cs x hx => ?_⟩
  obtain ⟨xs, m, _, _, hlen, hxl, hf⟩ := DataW.trod_struct ht hx
  obtain ⟨ns, h1, h2, h3⟩ := h m cs (by omega) (fun f hfm => by
    obtain ⟨i, hi, he⟩ := List.getElem_of_mem hfm
    have := hf i f (by rw [← he]; simp at hi; simp [hi])
    simp at hi
    rw [List.getElem?_eq_getElem (by omega)] at this
    exact ⟨_, this⟩)
  refine ⟨ns, h1, ?_, h3⟩
  rw [← h2, List.drop_zero, List.take_of_length_le (by omega)]
end
/-- Rows of integers of the kinds ks at an address. -/
def Recs (ks : List IntKind) (w : World) (a : Option Addr) (rows : List (List Int)) : Prop :=
  rows = [] ∨ ∃ b off, a = some ⟨b, off, none⟩ ∧ ∀ i j, i < rows.length → j < ks.length → w.cell? ⟨b, off + i * ks.length + j, none⟩ = (zipInts ks (rows.getD i []))[j]?
theorem Recs.at {ks : List IntKind} {w : World} {a : Option Addr} {rows : List (List Int)} (h : Recs ks w a rows) (hn : 0 < rows.length) :
    ∃ b off, a = some ⟨b, off, none⟩ ∧ ∀ i j, i < rows.length → j < ks.length → w.cell? ⟨b, off + i * ks.length + j, none⟩ = (zipInts ks (rows.getD i []))[j]? := by
  rcases h with rfl | h
  · simp at hn
  · exact h
/-- A slice of such structs. -/
theorem take_recs {H : Type} {enc : TypeId × Value → H} {P : Program} {W : World} {t e : TypeId} {ks : List IntKind} {a : Option Addr} {len cap : Nat} {d : DataW H} {p : List MemPlace} {ts : List TypeId} {ds : List (DataW H)} {bytes : Nat} (j : Nat)
    (ht : P.underlying t = some (.slice e)) (hp : Plain enc P W 0 (fun _ => true) true e ks) (hk : 0 < ks.length) (hb : P.bytesOf e = bytes)
    (h : DataW.Trod enc P W 0 (fun _ => true) true t (.slice a len cap) d p) (hsz : (DataW.weightsEach P ts ds).all (· ≤ reachBytes) = true) (hj : ts[j]? = some t) (hd : ds[j]? = some d) :
    ∃ rows : List (List Int), rows.length = len ∧ (Recs ks W a rows ∧ ∀ r ∈ rows, r.length = ks.length ∧ wfs ks r) ∧ len * bytes ≤ 140737488351232 ∧ len ≤ cap ∧ cap ≤ 9223372036854775807 := by
  obtain ⟨fuel, hf⟩ := h
  rcases open_slice ht hf with ⟨hcs, hx⟩ | ⟨x, l, c, m, n, D, Pl, hcs, _, hl, hm, hmm, hx, hi⟩
  · simp [Value.cells] at hcs
    obtain ⟨rfl, rfl, rfl⟩ := hcs
    exact ⟨[], rfl, ⟨.inl rfl, by simp⟩, by omega, by omega, by omega⟩
  · simp [Value.cells] at hcs
    obtain ⟨rfl, rfl, rfl⟩ := hcs
    simp only [Prod.mk.injEq] at hx
    obtain ⟨rfl, _⟩ := hx
    have hs := sized_slice hsz hj hd ht
    simp only [if_true] at hmm
    rw [hb] at hs
    simp only [List.length_map, List.length_range, reachBytes] at hs
    have hs1 : len * bytes ≤ (len + (m - len)) * bytes := Nat.mul_le_mul_right _ (by omega)
    unfold maxLen at hm
    have hB : ∀ i, i < m → ∃ r : List Int, r.length = ks.length ∧ wfs ks r ∧ ∀ j, j < ks.length → W.cell? (x.add (i * ks.length + j)) = (zipInts ks r)[j]? := fun i h => by
      obtain ⟨cs', h1, h2⟩ := hi i h
      obtain ⟨r, r1, r2, r3⟩ := hp.2 _ _ _ h2
      rw [hp.1] at h1
      obtain ⟨_, hcl, hat⟩ := World.cells?_some h1
      refine ⟨r, r1, r3, fun j hj => ?_⟩
      rw [← r2, ← hat j hj, ← Go.Deep.add_add]
    obtain ⟨F, hF⟩ := choose_lt (α := List Int) hB
    refine ⟨(List.range len).map F, by simp, ⟨?_, ?_⟩, by omega, hl, by omega⟩
    · by_cases h0 : len = 0
      · left; simp [h0]
      · obtain ⟨b, off, spot⟩ := x
        have h00 := (hF 0 (by omega)).2.2 0 hk
        have hr0 := (hF 0 (by omega)).1
        have hspot : spot = none := by
          have hz : (zipInts ks (F 0))[0]? = some ((zipInts ks (F 0))[0]'(by simp [zipInts]; omega)) := List.getElem?_eq_getElem _
          rw [hz] at h00
          simpa [Addr.add] using World.cell?_spot h00
        subst hspot
        refine .inr ⟨b, off, rfl, fun i j hi hj => ?_⟩
        simp at hi
        have := (hF i (by omega)).2.2 j hj
        rw [Addr.add_lit] at this
        rw [Nat.add_assoc, this]
        simp [List.getD_eq_getElem?_getD, hi]
    · intro r hr
      obtain ⟨i, hi, rfl⟩ := List.mem_map.1 hr
      simp at hi
      exact ⟨(hF i (by omega)).1, (hF i (by omega)).2.1⟩
end Go.Proofs.Ytcbhafddehipdaa
namespace Go.Proofs.Ytcbhafddehipdaa
open Go.RowKit Go.ChangeShapes Go.WideShapes Go.Deep
set_option linter.unusedVariables false
def opKinds : List IntKind := [.i64, .i64, .i64, .i64]
def actKinds : List IntKind := [.i64, .i64, .i64, .i64, .i64, .i64, .i64]
theorem plain_op {H : Type} {enc : TypeId × Value → H} {W : World} : Plain enc Try.prog W 0 (fun _ => true) true 31 opKinds := by
  have i1 : Plain enc Try.prog W 0 (fun _ => true) true 3 [.i64] := Plain.int Try.underlying3 (by kernel_rfl)
  refine Plain.struct Try.underlying31 (by kernel_rfl) ?_
  change FP enc Try.prog W 0 _ true 0 [_, _, _, _] ([.i64] ++ ([.i64] ++ ([.i64] ++ ([.i64] ++ []))))
  exact FP.cons i1 rfl (FP.cons i1 rfl (FP.cons i1 rfl (FP.cons i1 rfl (FP.nil _))))
theorem plain_act {H : Type} {enc : TypeId × Value → H} {W : World} : Plain enc Try.prog W 0 (fun _ => true) true 71 actKinds := by
  have i1 : Plain enc Try.prog W 0 (fun _ => true) true 3 [.i64] := Plain.int Try.underlying3 (by kernel_rfl)
  refine Plain.struct Try.underlying71 (by kernel_rfl) ?_
  change FP enc Try.prog W 0 _ true 0 [_, _, _, _] ([.i64] ++ ([.i64] ++ ([.i64] ++ (opKinds ++ []))))
  exact FP.cons i1 rfl (FP.cons i1 rfl (FP.cons i1 rfl (FP.cons plain_op rfl (FP.nil _))))
theorem take_Act {H : Type} {enc : TypeId × Value → H} {W : World} {a : Option Addr} {len cap : Nat} {d : DataW H} {p : List MemPlace} {ts : List TypeId} {ds : List (DataW H)} (j : Nat)
    (h : DataW.Trod enc Try.prog W 0 (fun _ => true) true 69 (.slice a len cap) d p) (hsz : (DataW.weightsEach Try.prog ts ds).all (· ≤ reachBytes) = true) (hj : ts[j]? = some 69) (hd : ds[j]? = some d) :
    ∃ rows : List (List Int), rows.length = len ∧ (Recs actKinds W a rows ∧ ∀ r ∈ rows, r.length = actKinds.length ∧ wfs actKinds r) ∧ len * 56 ≤ 140737488351232 ∧ len ≤ cap ∧ cap ≤ 9223372036854775807 :=
  take_recs j Try.underlying69 plain_act (by decide) (by kernel_rfl) h hsz hj hd
theorem act_cells {r : List Int} (hl : r.length = 7) : ∃ A S L K k h v : Int, zipInts actKinds r = [.int .i64 A, .int .i64 S, .int .i64 L, .int .i64 K, .int .i64 k, .int .i64 h, .int .i64 v] := by
  match r, hl with
  | [A, S, L, K, k, h, v], _ => exact ⟨A, S, L, K, k, h, v, rfl⟩
theorem getD_mem' {l : List (List Int)} {k : Nat} (hk : k < l.length) : l.getD k [] ∈ l := by
  rw [List.getD_eq_getElem?_getD, List.getElem?_eq_getElem hk]; exact List.getElem_mem _
/-- A row of such a slice, cell by cell. -/
theorem Recs.act {w : World} {a : Option Addr} {rows : List (List Int)} (h : Recs actKinds w a rows ∧ ∀ r ∈ rows, r.length = actKinds.length ∧ wfs actKinds r) {i : Nat} (hi : i < rows.length) :
    ∃ (b off : Nat) (A S L K k hh v : Int), a = some ⟨b, off, none⟩ ∧ w.cell? ⟨b, off + i * 7, none⟩ = some (.int .i64 A) ∧ w.cell? ⟨b, off + i * 7 + 1, none⟩ = some (.int .i64 S) ∧ w.cell? ⟨b, off + i * 7 + 2, none⟩ = some (.int .i64 L) ∧ w.cell? ⟨b, off + i * 7 + 3, none⟩ = some (.int .i64 K) ∧ w.cell? ⟨b, off + i * 7 + 4, none⟩ = some (.int .i64 k) ∧ w.cell? ⟨b, off + i * 7 + 5, none⟩ = some (.int .i64 hh) ∧ w.cell? ⟨b, off + i * 7 + 6, none⟩ = some (.int .i64 v) := by
  obtain ⟨b, off, rfl, hc⟩ := h.1.at (by omega)
  obtain ⟨A, S, L, K, k, hh, v, hr⟩ := act_cells (h.2 _ (getD_mem' hi)).1
  refine ⟨b, off, A, S, L, K, k, hh, v, rfl, ?_, ?_, ?_, ?_, ?_, ?_, ?_⟩
  · have := hc i 0 hi (by decide); rw [hr] at this; exact this
  · have := hc i 1 hi (by decide); rw [hr] at this; exact this
  · have := hc i 2 hi (by decide); rw [hr] at this; exact this
  · have := hc i 3 hi (by decide); rw [hr] at this; exact this
  · have := hc i 4 hi (by decide); rw [hr] at this; exact this
  · have := hc i 5 hi (by decide); rw [hr] at this; exact this
  · have := hc i 6 hi (by decide); rw [hr] at this; exact this
end Go.Proofs.Ytcbhafddehipdaa
namespace Go.Proofs.Ytcbhafddehipdaa
open Go.RowKit
set_option linter.unusedVariables false
set_option linter.unusedSimpArgs false
set_option maxRecDepth 100000 in
set_option maxHeartbeats 4000000 in
theorem sameRes_same (re rv ro rr : Int) (a a' : Option Addr) (c c' : Nat) (ps : List (Int × Int)) (w : World) (hx : PairsIn w a ps) (hy : PairsIn w a' ps) (lx : ps.length ≤ 1000000) :
    Calls Try.prog 25 #[.agg #[.int .i64 re, .int .i64 rv, .slice a ps.length c, .int .i64 ro, .int .i64 rr], .agg #[.int .i64 re, .int .i64 rv, .slice a' ps.length c', .int .i64 ro, .int .i64 rr]] w fun e w' => e = .returned (.bool true) ∧ Only0 w w' := by
  obtain ⟨W, hW⟩ : ∃ W, W = (w.alloc (.cells #[.int .i64 re, .int .i64 rv, .slice a ps.length c, .int .i64 ro, .int .i64 rr] 27)).alloc (.cells #[.int .i64 re, .int .i64 rv, .slice a' ps.length c', .int .i64 ro, .int .i64 rr] 27) := ⟨_, rfl⟩
  have oW : Only0 w W := by rw [hW]; exact ((Only0.refl w).alloc _).alloc _
  have C := samePairs_any a a' c c' ps ps W (hx.only oW (fun _ _ h => h)) (hy.only oW (fun _ _ h => h)) lx lx
  rw [show decide (ps = ps) = true from decide_eq_true rfl] at C
  have HO := Lib.hid oW
  clear hx hy oW
  go_enter Try.func25, Try.ntmps25
  go_wp2_with fail
  rw [← hW]
  clear hW
  refine C.mono ?_
  rintro e w1 ⟨rfl, n1, rfl⟩
  go_wp2_with fail
  go_ret
  exact ⟨rfl, HO.out.drewN n1⟩
end Go.Proofs.Ytcbhafddehipdaa
namespace Go.Proofs.Ytcbhafddehipdaa
open Go.RowKit
set_option linter.unusedVariables false
set_option linter.unusedSimpArgs false
def stA (l : Bool) (id lv st bg op : Int) : Array Value := #[.bool l, .bool false, .bool false, .int .i64 id, .int .i64 lv, .int .i64 st, .int .u64 bg, .int .u64 0, .int .i64 op]
theorem statV_shape (r : RSt) (j : Int) : ∃ l id lv st bg op, r.statV j = stA l id lv st bg op := by
  unfold RSt.statV
  split
  · split
    · exact ⟨false, 0, 0, 0, 0, 0, rfl⟩
    · exact ⟨true, _, _, 1, _, _, rfl⟩
  · exact ⟨false, 0, 0, 0, 0, 0, rfl⟩
set_option maxRecDepth 100000 in
theorem stood_stat : Try.prog.stoodInHeld 53 = false := by kernel_rfl
set_option maxRecDepth 100000 in
theorem fields_stat : Try.prog.underlying 53 = some (.struct (Try.prog.fieldsOf 53)) := by kernel_rfl
set_option maxRecDepth 100000 in
theorem guardt_stat : Try.prog.eqGuardType Try.prog.depth 53 = false := by kernel_rfl
set_option maxRecDepth 100000 in
theorem partS0 (l : Bool) (id lv st bg op : Int) (w : World) : (part 4 (stA l id lv st bg op) 0).run Try.prog w = .ok (.bool l) w := by kernel_rfl
set_option maxRecDepth 100000 in
theorem partS1 (l : Bool) (id lv st bg op : Int) (w : World) : (part 4 (stA l id lv st bg op) 1).run Try.prog w = .ok (.bool false) w := by kernel_rfl
set_option maxRecDepth 100000 in
theorem partS2 (l : Bool) (id lv st bg op : Int) (w : World) : (part 4 (stA l id lv st bg op) 2).run Try.prog w = .ok (.bool false) w := by kernel_rfl
set_option maxRecDepth 100000 in
theorem partS3 (l : Bool) (id lv st bg op : Int) (w : World) : (part 3 (stA l id lv st bg op) 3).run Try.prog w = .ok (.int .i64 id) w := by kernel_rfl
set_option maxRecDepth 100000 in
theorem partS4 (l : Bool) (id lv st bg op : Int) (w : World) : (part 3 (stA l id lv st bg op) 4).run Try.prog w = .ok (.int .i64 lv) w := by kernel_rfl
set_option maxRecDepth 100000 in
theorem partS5 (l : Bool) (id lv st bg op : Int) (w : World) : (part 3 (stA l id lv st bg op) 5).run Try.prog w = .ok (.int .i64 st) w := by kernel_rfl
set_option maxRecDepth 100000 in
theorem partS6 (l : Bool) (id lv st bg op : Int) (w : World) : (part 39 (stA l id lv st bg op) 6).run Try.prog w = .ok (.int .u64 bg) w := by kernel_rfl
set_option maxRecDepth 100000 in
theorem partS7 (l : Bool) (id lv st bg op : Int) (w : World) : (part 39 (stA l id lv st bg op) 7).run Try.prog w = .ok (.int .u64 0) w := by kernel_rfl
set_option maxRecDepth 100000 in
theorem partS8 (l : Bool) (id lv st bg op : Int) (w : World) : (part 3 (stA l id lv st bg op) 8).run Try.prog w = .ok (.int .i64 op) w := by kernel_rfl
set_option maxRecDepth 100000 in
set_option maxHeartbeats 1000000 in
theorem stat_equalIn (l : Bool) (id lv st bg op : Int) (w : World) : (Op.equalIn 10000 53 (.agg (stA l id lv st bg op)) (.agg (stA l id lv st bg op))).run Try.prog w = .ok true w := by
  rw [run_equalIn_agg w 9999 _ _ _ fields_stat stood_stat]
  have e : ∀ (x : Int), (Op.equalIn 9999 3 (.int .i64 x) (.int .i64 x)).run Try.prog w = .ok true w := fun x => by rw [run_equalIn_int w 9998 _ _ _ x x Try.underlying3]; simp
  have u : ∀ (x : Int), (Op.equalIn 9999 39 (.int .u64 x) (.int .u64 x)).run Try.prog w = .ok true w := fun x => by rw [run_equalIn_int w 9998 _ _ _ x x Try.underlying39]; simp
  have b : ∀ (x : Bool), (Op.equalIn 9999 4 (.bool x) (.bool x)).run Try.prog w = .ok true w := fun x => by rw [run_equalIn_bool' w 9998 _ x x Try.underlying4]; simp
  unfold Program.fieldsOf
  rw [Try.underlying53]
  simp [Op.eqFields, partS0, partS1, partS2, partS3, partS4, partS5, partS6, partS7, partS8, e, u, b, Result.andThen]
theorem stat_neq (l : Bool) (id lv st bg op : Int) (w : World) : (binOp .neq 53 (.agg (stA l id lv st bg op)) (.agg (stA l id lv st bg op))).run Try.prog w = .ok (.bool false) w := by
  rw [run_neq_struct, stat_equalIn]; rfl
theorem Sim.stat {s : St} {r : RSt} (S : Sim s r) (j : Nat) (hj : j < 8) : statV (s.tx j) = r.statV j := by
  unfold RSt.statV
  rw [if_pos (by simp [sessB]; omega)]
  rw [show ((j : Int)).toNat = j by omega]
  cases ht : s.tx j with
  | none => rw [if_pos ((S.id0 hj).2 ht)]; rfl
  | some t =>
    have T := S.some_ j t ht
    rw [if_neg (fun e => by rw [(S.id0 hj).1 e] at ht; cases ht), T.id, T.level, T.beg, T.ops]; rfl
set_option maxRecDepth 100000 in
set_option maxHeartbeats 8000000 in
theorem md_statusR {B m : Nat} {w : World} {P : Nat → Prop} {s : St} {r : RSt} (h : MAt B w P m s) (S : Sim s r) (j : Int) :
    Calls Try.prog 26 #[.pointer (some ⟨m, 0, none⟩), .int .i64 j] w fun e w' => e = .returned (.agg (r.statV j)) ∧ Only0 w w' := by
  cases hs : sessB j with
  | true =>
    obtain ⟨jn, rfl⟩ : ∃ n : Nat, j = n := ⟨j.toNat, by simp [sessB] at hs; omega⟩
    have hj : jn < 8 := by simp [sessB] at hs; omega
    rw [← S.stat jn hj]
    exact md_status h jn hj
  | false =>
    have HS : Hid (r.statV j = zStat) := Lib.hid (by unfold RSt.statV; rw [hs]; rfl)
    obtain ⟨W, hW⟩ : ∃ W, W = w.alloc (.cells #[.bool false, .bool false, .bool false, .int .i64 0, .int .i64 0, .int .i64 0, .int .u64 0, .int .u64 0, .int .i64 0] 53) := ⟨_, rfl⟩
    obtain ⟨n0, hn0⟩ : ∃ n0, n0 = w.heap.size := ⟨_, rfl⟩
    have oW : Only0 w W := by rw [hW]; exact (Only0.refl w).alloc _
    have BX : Blk W n0 53 #[.bool false, .bool false, .bool false, .int .i64 0, .int .i64 0, .int .i64 0, .int .u64 0, .int .u64 0, .int .i64 0] := by rw [hW, hn0]; exact Blk.new _ _ _
    have HN := Lib.hid hn0
    have HO := Lib.hid oW
    have CS := md_sess j W
    rw [hs] at CS
    have b0 : W.cell? ⟨n0, 0, none⟩ = some (.bool false) := BX.cell 0
    have b1 : W.cell? ⟨n0, 1, none⟩ = some (.bool false) := BX.cell 1
    have b2 : W.cell? ⟨n0, 2, none⟩ = some (.bool false) := BX.cell 2
    have b3 : W.cell? ⟨n0, 3, none⟩ = some (.int .i64 0) := BX.cell 3
    have b4 : W.cell? ⟨n0, 4, none⟩ = some (.int .i64 0) := BX.cell 4
    have b5 : W.cell? ⟨n0, 5, none⟩ = some (.int .i64 0) := BX.cell 5
    have b6 : W.cell? ⟨n0, 6, none⟩ = some (.int .u64 0) := BX.cell 6
    have b7 : W.cell? ⟨n0, 7, none⟩ = some (.int .u64 0) := BX.cell 7
    have b8 : W.cell? ⟨n0, 8, none⟩ = some (.int .i64 0) := BX.cell 8
    have bf := fun i => BX.free i
    have HBX := Lib.hid BX
    clear BX hn0 h oW hs
    go_enter Try.func26, Try.ntmps26
    go_upto_region 1 with (fail)
    rw [← hW, ← HN.out]
    clear hW
    go_wp2_with fail
    refine CS.mono ?_
    rintro e w1 ⟨rfl, rfl⟩
    go_wp2_with fail
    obtain ⟨B9, o9⟩ := set9 HBX.out (.bool false) (.bool false) (.bool false) (.int .i64 0) (.int .i64 0) (.int .i64 0) (.int .u64 0) (.int .u64 0) (.int .i64 0)
    exact bodyPost_ret (v := .agg zStat) (results_cell_row Try.results26 _ _ n0 _ _ _ _ rfl B9 Try.underlying53 rfl info_stat) rfl ⟨by rw [HS.out], HO.out.box (by rw [HN.out]; exact Nat.le_refl _) o9⟩
set_option maxRecDepth 100000 in
set_option maxHeartbeats 8000000 in
theorem md_live2 {B m : Nat} {w : World} {P : Nat → Prop} {s : St} (h : MAt B w P m s) :
    Calls Try.prog 32 #[.pointer (some ⟨m, 0, none⟩)] w fun e w' => (∃ a c, e = .returned (.slice a s.live.length c) ∧ Ints .i64 w' a s.live ∧ ∀ x, a = some x → w.heap.size ≤ x.block) ∧ Only0 w w' := by
  obtain ⟨A, h⟩ := h
  obtain ⟨p0, p1, p2, p3, p4, p5, p6, p7⟩ := h.txCell
  have HH := Lib.hid h
  obtain ⟨i0, hi0, hz0, hz1, hz2⟩ := info_parts info_lint
  clear h
  go_enter Try.func32, Try.ntmps32
  go_wp2_with fail
  go_loopw [3, 10] (fun s5 s8 wr => ∃ (q len : Nat) (ra : Option Addr) (rc : Nat), s8 = .int .i64 q ∧ q ≤ 8 ∧ s5 = .slice ra len rc ∧ len ≤ 8 ∧ Hid (len = ((List.range q).filterMap s.liveAt).length ∧ Only0 w wr ∧ wr.ownsRow w.heap.size 3 1 (.slice ra len rc) len (((List.range q).filterMap s.liveAt).map (Value.int .i64)))) (fun _ s8 _ => 8 - (intOf s8).toNat)
  case atStart => exact ⟨0, 0, none, 0, rfl, by omega, rfl, by omega, Lib.hid ⟨rfl, Only0.refl _, World.ownsRow_nil _ _ _ _⟩⟩
  case round =>
    obtain ⟨q, len, ra, rc, rfl, hq, rfl, hl, HR⟩ := hrel
    by_cases hlt : q < 8
    · have hix := tx_index A s.tx wr q hlt
      have few := liveTo_few s (q + 1)
      cases hu : s.tx q with
      | none =>
        rw [show txPtr A s.tx q = .pointer none by simp [txPtr, hu]] at hix
        have R := Lib.hid (show len = ((List.range (q + 1)).filterMap s.liveAt).length ∧ Only0 w wr ∧ wr.ownsRow w.heap.size 3 1 (.slice ra len rc) len (((List.range (q + 1)).filterMap s.liveAt).map (Value.int .i64)) by rw [liveTo_none hu]; exact HR.out)
        clear hu few HR
        go_wp2_with fail
        go_roundw
        case rel => exact ⟨q + 1, len, ra, rc, by go_num, by omega, rfl, hl, R⟩
        case measure => simp [intOf]; omega
      | some t =>
        rw [show txPtr A s.tx q = .pointer (some ⟨A.tb q, 0, none⟩) by simp [txPtr, hu]] at hix
        have e1 := liveTo_some hu
        have len1 := HR.out.1
        have hown := HR.out.2.2
        have hwr := HR.out.2.1.size
        have hl2 : len + 1 ≤ 8 := by rw [e1] at few; simp at few; omega
        have NEXT : ∀ (g cap : Nat) (w2 : World), w2.ownsRow w.heap.size 3 1 (.slice (some ⟨g, 0, none⟩) (len + 1) cap) (len + 1) (((List.range q).filterMap s.liveAt).map (Value.int .i64) ++ [.int .i64 q]) → (wr.alloc (.cells #[.int .i64 q] 3)).grownBy w2 (Value.slice ra len rc).ownBlock →
            len + 1 = ((List.range (q + 1)).filterMap s.liveAt).length ∧ Only0 w w2 ∧ w2.ownsRow w.heap.size 3 1 (.slice (some ⟨g, 0, none⟩) (len + 1) cap) (len + 1) (((List.range (q + 1)).filterMap s.liveAt).map (Value.int .i64)) := by
          intro g cap w2 h2 hg
          rw [e1, List.map_append]
          refine ⟨by simp [len1], (HR.out.2.1.alloc _).grown hg (fun b hb => (hown.lt b hb).1), h2⟩
        have HNX := Lib.hid NEXT
        clear hu few HR NEXT e1 len1
        go_wp2_with (at_builtin; refine wpList_append_lies _ rfl _ _ 51 rfl w.heap.size 3 i0 (.int .i64 0) 1 8 Try.underlying51 hi0 hz0 hz1 hz2 rfl (by decide) (.slice ra len rc) len (((List.range q).filterMap s.liveAt).map (Value.int .i64)) rfl (hown.alloc _) ⟨wr.heap.size, 0, none⟩ 1 1 [.int .i64 q] rfl rfl ?c1 ?c2 (by decide) ?c3 ?c4 ?c5 (wr.heap.size + 1) ?c6 ?_)
        case c1 => exact World.news_of_block (cs := #[.int .i64 q]) (t := 3) (fr := (0, 0)) (heap_alloc_new wr _)
        case c2 => intro u hu; simp at hu; subst hu; rfl
        case c3 => unfold maxLen; omega
        case c4 => omega
        case c5 => simp; omega
        case c6 => simp
        intro g cap w2 hown2 hgrow hat hlt2
        have R := Lib.hid (HNX.out g cap w2 hown2 hgrow)
        clear HNX hown hown2 hgrow hat hlt2
        go_wp2_with fail
        go_roundw
        case rel => exact ⟨q + 1, len + 1, _, cap, by go_num, by omega, rfl, by omega, R⟩
        case measure => simp [intOf]; omega
    · obtain rfl : q = 8 := by omega
      have R := Lib.hid HR.out
      clear HR
      go_wp2_with fail
      go_ret
      obtain ⟨e1, o1, r1⟩ := R.out
      rw [← live_eq] at e1 r1
      subst e1
      exact ⟨⟨ra, rc, rfl, Ints.of_own r1 rfl, fun x hx => by
        subst hx
        rcases r1.2 with ⟨h0, _⟩ | ⟨g, c1, c2, hv, hg, _⟩
        · cases h0
        · injection hv with h1 h2 h3; injection h1 with h1; subst h1; exact hg⟩, o1⟩
theorem info_conf : (Try.prog.info? 41).map (·.size) = some 2 := by kernel_rfl
set_option maxRecDepth 100000 in
set_option maxHeartbeats 4000000 in
theorem conf_any (slots limit : Int) (w : World) (h0 : 0 ≤ limit) : ∃ a b : Int, confB a b = true ∧ Calls Try.prog 39 #[.int .i64 slots, .int .u64 limit] w fun e w' => e = .returned (.agg #[.int .i64 a, .int .u64 b]) ∧ Only0 w w' := by
  obtain ⟨x, hx, hx0, hx1⟩ : ∃ x : Int, bits .and .i64 slots 255 = x ∧ 0 ≤ x ∧ x ≤ 255 := ⟨slots % 256, i64_and255 slots, by omega, by omega⟩
  obtain ⟨y, hy, hy0, hy1⟩ : ∃ y : Int, bits .and .u64 limit 255 = y ∧ 0 ≤ y ∧ y ≤ 255 := ⟨limit % 256, u64_and255 limit, by omega, by omega⟩
  have z0 : 0 ≤ x % 40 := by omega
  have z1 : x % 40 ≤ 39 := by omega
  refine ⟨x % 40 + 1, y + 20, by simp [confB]; omega, ?_⟩
  obtain ⟨W, hW⟩ : ∃ W, W = w.alloc (.cells #[.int .i64 0, .int .u64 0] 41) := ⟨_, rfl⟩
  obtain ⟨n0, hn0⟩ : ∃ n0, n0 = w.heap.size := ⟨_, rfl⟩
  have BX : Blk W n0 41 #[.int .i64 0, .int .u64 0] := by rw [hW, hn0]; exact Blk.new _ _ _
  have HO := Lib.hid (show Only0 w W by rw [hW]; exact (Only0.refl w).alloc _)
  have HN := Lib.hid hn0
  have b0 : W.cell? ⟨n0, 0, none⟩ = some (.int .i64 0) := BX.cell 0
  have b1 : W.cell? ⟨n0, 1, none⟩ = some (.int .u64 0) := BX.cell 1
  have bf := fun i => BX.free i
  have HBX := Lib.hid BX
  clear BX hn0
  go_enter Try.func39, Try.ntmps39
  go_upto_region 1 with (fail)
  rw [← hW, ← HN.out]
  clear hW
  go_wp2_with fail
  have B1 := (HBX.out.set 0 (.int .i64 (x % 40 + 1))).set 1 (.int .u64 (y + 20))
  have o1 := (Only.set1 W n0 0 (.int .i64 (x % 40 + 1))).trans (Only.set1 _ n0 1 (.int .u64 (y + 20)))
  exact bodyPost_ret (v := .agg #[.int .i64 (x % 40 + 1), .int .u64 (y + 20)]) (results_cell_row Try.results39 _ _ n0 _ _ _ _ rfl B1 Try.underlying41 rfl info_conf) rfl ⟨rfl, HO.out.box (by rw [HN.out]; exact Nat.le_refl _) o1⟩
structure LR2 (w0 w : World) (P : Nat → Prop) (m : Nat) (s : St) (Q : Nat → Prop) (n : Nat) (r : RSt) : Prop where
  a : LW w0 w P m s
  b : RAt w0.heap.size w Q n r
  ap : Apart P Q
theorem LR2.stepA {w0 w w' : World} {P P' Q : Nat → Prop} {m n : Nat} {s s' : St} {r : RSt} (h : LR2 w0 w P m s Q n r) (L : MAt w0.heap.size w' P' m s') (o : Only P w w') (g : Grew w.heap.size P P') : LR2 w0 w' P' m s' Q n r :=
  ⟨h.a.step L o, h.b.only o h.ap.symm, h.ap.grew g h.b.under⟩
theorem LR2.stepB {w0 w w' : World} {P Q Q' : Nat → Prop} {m n : Nat} {s : St} {r r' : RSt} (h : LR2 w0 w P m s Q n r) (L : RAt w0.heap.size w' Q' n r') (o : Only Q w w') (g : Grew w.heap.size Q Q') : LR2 w0 w' P m s Q' n r' := by
  refine ⟨⟨h.a.mat.only o h.ap, ⟨o.os.trans h.a.o.os, o.tape.trans h.a.o.tape, o.output.trans h.a.o.output, Nat.le_trans h.a.o.size o.size, fun k hk hn => ?_⟩⟩, L, h.ap.grew' g h.a.mat.under⟩
  rw [o.block k (Nat.lt_of_lt_of_le hk h.a.o.size) (fun hp => by have := h.b.above k hp; omega)]
  exact h.a.o.block k hk hn
theorem RAt.only0' {B m : Nat} {w w' : World} {P : Nat → Prop} {s : RSt} (h : RAt B w P m s) (o : Only0 w w') : RAt B w' P m s := by obtain ⟨A, h⟩ := h; exact ⟨A, h.only0 o⟩
theorem LR2.only0 {w0 w w' : World} {P Q : Nat → Prop} {m n : Nat} {s : St} {r : RSt} (h : LR2 w0 w P m s Q n r) (o : Only0 w w') : LR2 w0 w' P m s Q n r := ⟨h.a.only0 o, h.b.only0' o, h.ap⟩
theorem LR2.alloc {w0 w : World} {P Q : Nat → Prop} {m n : Nat} {s : St} {r : RSt} (h : LR2 w0 w P m s Q n r) (o : Obj) : LR2 w0 (w.alloc o) P m s Q n r := h.only0 ((Only0.refl _).alloc _)
theorem LR2.now {w0 w : World} {P Q : Nat → Prop} {m n : Nat} {s : St} {r : RSt} (h : LR2 w0 w P m s Q n r) : s.now ≤ 18446744073709551615 := by
  have h1 := h.a.mat.ok.now
  have h2 := h.a.mat.ok.limit
  omega
theorem LR2.spans {w0 w : World} {P Q : Nat → Prop} {m n : Nat} {s : St} {r : RSt} (h : LR2 w0 w P m s Q n r) : ∀ j x, x ∈ (r.s j).reads → 0 ≤ x.lo ∧ x.lo ≤ 63 ∧ 0 ≤ x.hi ∧ x.hi ≤ 63 := h.b.ok.span
/-- The cells of the document's Model that a law looks at. -/
theorem LR2.cells {w0 w : World} {P Q : Nat → Prop} {m n : Nat} {s : St} {r : RSt} (h : LR2 w0 w P m s Q n r) (S : Sim s r) : ∃ (va : Option Addr) (vc : Nat), w.cell? ⟨n, 2, none⟩ = some (.slice va s.l.length vc) ∧ w.cell? ⟨n, 51, none⟩ = some (.int .u64 s.now) := by
  obtain ⟨A, hb⟩ := h.b
  have hc := hb.head
  refine ⟨A.va, A.vc, ?_, ?_⟩
  · rw [← S.len]; exact hc.2.2.1
  · rw [← S.time]; exact hc.2.2.2.1
/-- What is there of the old world is there still. -/
theorem LR2.old' {w0 w : World} {P Q : Nat → Prop} {m n : Nat} {s : St} {r : RSt} (h : LR2 w0 w P m s Q n r) {b i : Nat} {v : Value} (hc : w0.cell? ⟨b, i, none⟩ = some v) : w.cell? ⟨b, i, none⟩ = some v :=
  (World.cell?_of_block (h.a.o.block b (block_lt_of_cell hc) (fun h => h))).trans hc
theorem sameInts_self (a a' : Option Addr) (c c' : Nat) (xs : List Int) (w : World) (hx : Ints .i64 w a xs) (hy : Ints .i64 w a' xs) (lx : xs.length ≤ 1000000000) :
    Calls Try.prog 44 #[.slice a xs.length c, .slice a' xs.length c'] w fun e w' => e = .returned (.bool true) ∧ Only0 w w' := by
  have C := sameInts_any a a' c c' xs xs w hx hy lx lx
  rw [decide_eq_true rfl] at C
  exact C.mono fun e w' ⟨h1, h2⟩ => ⟨h1, by obtain ⟨n, rfl⟩ := h2; exact (Only0.refl w).drewN n⟩
theorem samePairs_self (a a' : Option Addr) (c c' : Nat) (xs : List (Int × Int)) (w : World) (hx : PairsIn w a xs) (hy : PairsIn w a' xs) (lx : xs.length ≤ 1000000) :
    Calls Try.prog 36 #[.slice a xs.length c, .slice a' xs.length c'] w fun e w' => e = .returned (.bool true) ∧ Only0 w w' := by
  have C := samePairs_any a a' c c' xs xs w hx hy lx lx
  rw [decide_eq_true rfl] at C
  exact C.mono fun e w' ⟨h1, h2⟩ => ⟨h1, by obtain ⟨n, rfl⟩ := h2; exact (Only0.refl w).drewN n⟩
theorem lr_rlive {B n : Nat} {w : World} {Q : Nat → Prop} {s : St} {r : RSt} (h : RAt B w Q n r) (S : Sim s r) :
    Calls Try.prog 45 #[.pointer (some ⟨n, 0, none⟩)] w fun e w' => (∃ a c, e = .returned (.slice a s.live.length c) ∧ Ints .i64 w' a s.live ∧ ∀ x, a = some x → w.heap.size ≤ x.block) ∧ Only0 w w' := by
  have C := ref_live h
  rw [S.live] at C
  exact C
theorem lr_rpairs {B n : Nat} {w : World} {Q : Nat → Prop} {s : St} {r : RSt} (h : RAt B w Q n r) (S : Sim s r) (a : Int) :
    Calls Try.prog 46 #[.pointer (some ⟨n, 0, none⟩), .int .u64 a] w fun e w' => (∃ x c, e = .returned (.slice x (s.pairs a).length c) ∧ PairsIn w' x (s.pairs a) ∧ ∀ y, x = some y → w.heap.size ≤ y.block) ∧ Only0 w w' := by
  have C := ref_pairs h a
  rw [S.pairs] at C
  exact C
theorem lr_rcollect {B n : Nat} {w : World} {Q : Nat → Prop} {s : St} {r : RSt} (h : RAt B w Q n r) (S : Sim s r) (hn : s.now ≤ 18446744073709551615) :
    Calls Try.prog 43 #[.pointer (some ⟨n, 0, none⟩)] w fun e w' => ∃ Q' : Nat → Prop, e = .returned (.int .i64 ((s.l.length : Int) - (s.kept.length : Int))) ∧ RAt B w' Q' n r.collect ∧ Only Q w w' ∧ Grew w.heap.size Q Q' := by
  have C := ref_collect h
  unfold RCRes at C
  rw [S.gone hn] at C
  exact C
theorem pairs_64 (s : St) (a : Int) : (s.pairs a).length ≤ 64 := by
  refine Nat.le_trans (List.length_filterMap_le _ _) ?_
  simp
theorem live_8 (s : St) : s.live.length ≤ 8 := by
  refine Nat.le_trans (List.length_filterMap_le _ _) ?_
  simp
theorem do_few (s : St) (j : Int) (o : MOp) : (s.do_ j o).1.pairs.length ≤ 64 := by
  have hz : Res.zero.pairs.length ≤ 64 := by decide
  have ha : ∀ e r, (abortRes e r).pairs.length ≤ 64 := fun e r => (show ([] : List (Int × Int)).length ≤ 64 by decide)
  have he : ∀ e, (Res.err e).pairs.length ≤ 64 := fun e => (show ([] : List (Int × Int)).length ≤ 64 by decide)
  unfold St.do_
  split
  · split
    · exact hz
    · split
      · rename_i ho
        split
        · exact hz
        · unfold St.call
          split
          · unfold St.commit
            split
            · exact ha _ _
            · split
              · show ([] : List (Int × Int)).length ≤ 64; decide
              · exact ha _ _
          · split
            · exact ha _ _
            · split
              · unfold St.get
                split
                · exact he _
                · show ([] : List (Int × Int)).length ≤ 64; decide
              · split
                · rename_i n6 n7 n1 h5
                  refine Nat.le_trans (List.length_filterMap_le _ _) ?_
                  simp only [keysFrom, List.length_map, List.length_range]
                  simp [opOkB, h5, keyOkB] at ho
                  omega
                · unfold St.change
                  split
                  · exact he _
                  · simp only
                    split
                    · exact hz
                    · exact ha _ _
      · exact hz
  · exact hz
theorem lr_doA {B m : Nat} {w : World} {P : Nat → Prop} {s : St} (h : MAt B w P m s) (j kind key hi value : Int) {re rv ro rr er : Int} {ps : List (Int × Int)} {s' : St} (hs : s.do_ j ⟨kind, key, hi, value⟩ = (⟨re, rv, ps, ro, rr⟩, er, s')) :
    Calls Try.prog 19 #[.pointer (some ⟨m, 0, none⟩), .int .i64 j, .agg #[.int .i64 kind, .int .i64 key, .int .i64 hi, .int .i64 value]] w fun e w' => ∃ (P' : Nat → Prop) (a : Option Addr) (c : Nat), e = .returned (.tuple #[.agg #[.int .i64 re, .int .i64 rv, .slice a ps.length c, .int .i64 ro, .int .i64 rr], .int .i64 er]) ∧ MAt B w' P' m s' ∧ Only P w w' ∧ Grew w.heap.size P P' ∧ PairsIn w' a ps ∧ ∀ y, a = some y → w.heap.size ≤ y.block := by
  refine (md_do h j kind key hi value).mono ?_
  rintro e w' ⟨P', a, c, he, h', o, g, p, q⟩
  rw [hs] at he h' p
  exact ⟨P', a, c, he, h', o, g, p, fun y hy => (q y hy).1⟩
theorem lr_doB {B m : Nat} {w : World} {P : Nat → Prop} {s : RSt} (h : RAt B w P m s) (j kind key hi value : Int) {re rv ro rr er : Int} {ps : List (Int × Int)} {s' : RSt} (hs : s.do_ j ⟨kind, key, hi, value⟩ = (⟨re, rv, ps, ro, rr⟩, er, s')) :
    Calls Try.prog 30 #[.pointer (some ⟨m, 0, none⟩), .int .i64 j, .agg #[.int .i64 kind, .int .i64 key, .int .i64 hi, .int .i64 value]] w fun e w' => ∃ (P' : Nat → Prop) (a : Option Addr) (c : Nat), e = .returned (.tuple #[.agg #[.int .i64 re, .int .i64 rv, .slice a ps.length c, .int .i64 ro, .int .i64 rr], .int .i64 er]) ∧ RAt B w' P' m s' ∧ Only P w w' ∧ Grew w.heap.size P P' ∧ PairsIn w' a ps ∧ ∀ y, a = some y → w.heap.size ≤ y.block := by
  refine (ref_do h j kind key hi value).mono ?_
  rintro e w' ⟨P', a, c, he, h', o, g, p, q⟩
  rw [hs] at he h' p
  exact ⟨P', a, c, he, h', o, g, p, fun y hy => (q y hy).1⟩
/-- A new pair of Models. -/
theorem LR2.made {w0 w w1 w2 : World} {m n : Nat} {slots limit : Int} (hc : confB slots limit = true) (o : Only0 w0 w) (h1 : MAt w.heap.size w1 (fun b => b = m) m (newSt slots limit)) (o1 : Only0 w w1)
    (h2 : RAt w1.heap.size w2 (fun b => b = n) n (newRSt slots limit)) (o2 : Only0 w1 w2) (hn : w1.heap.size ≤ n) : LR2 w0 w2 (fun b => b = m) m (newSt slots limit) (fun b => b = n) n (newRSt slots limit) ∧ Sim (newSt slots limit) (newRSt slots limit) := by
  have L1 := LW.made o h1 o1
  have hm := L1.mat.under m rfl
  obtain ⟨A, h2⟩ := h2
  have hb : w0.heap.size ≤ w1.heap.size := L1.o.size
  refine ⟨⟨L1.only0 o2, ⟨A, ⟨h2.mod, rows_base h2.row hb, fun j hj => rows_base (h2.ws j hj) hb, fun j hj => rows_base (h2.rs j hj) hb, h2.winj, h2.rinj, h2.ok, h2.pm, h2.pr, h2.pw, h2.pd, h2.under, fun b hbb => Nat.le_trans hb (h2.above b hbb)⟩⟩, fun b hb hb' => ?_⟩, Sim.new _ _ ?_⟩
  · have e1 : b = m := hb
    have e2 : b = n := hb'
    omega
  · simp [confB] at hc; omega
end Go.Proofs.Ytcbhafddehipdaa

/-
  ModelBounds: what its proof rests on, part 12.
-/
import Derived.Deep.QuietTactic
import Derived.BigQuiet
import Derived.Test.YtcbhafddehipdaaProg
import Derived.Lib.SliceRun
import Derived.ProofKit
import Derived.SizedLaws
import Derived.Deep.Slices
import Derived.ChangeOld
import Derived.ShutString
import Derived.OpenShut
import Derived.Test.YtcbhafddehipdaaZModelBounds1
import Derived.Test.YtcbhafddehipdaaZModelBounds3
import Derived.Test.YtcbhafddehipdaaZModelBounds4
import Derived.Test.YtcbhafddehipdaaZModelBounds5
import Derived.Test.YtcbhafddehipdaaZModelBounds11
namespace Go.Proofs.Ytcbhafddehipdaa
open Go.RowKit
set_option linter.unusedVariables false
set_option linter.unusedSimpArgs false
theorem MIn.base {B B' m : Nat} {w : World} {P : Nat → Prop} {s : St} {A : Ad} (h : MIn B w P m s A) (hB : B' ≤ B) : MIn B' w P m s A :=
  ⟨h.mod, rows_base h.row hB, h.vers, h.txs, h.ok, h.pm, h.pr, h.under, fun b hb => Nat.le_trans hB (h.above b hb)⟩
/-- A law's Model, all of it in memory of its own. -/
structure LW (w0 w : World) (P : Nat → Prop) (m : Nat) (s : St) : Prop where
  mat : MAt w0.heap.size w P m s
  o : Only0 w0 w
theorem LW.made {w0 w w' : World} {m : Nat} {s : St} (o : Only0 w0 w) (h : MAt w.heap.size w' (fun b => b = m) m s) (o' : Only0 w w') : LW w0 w' (fun b => b = m) m s := by
  obtain ⟨A, h⟩ := h
  exact ⟨⟨A, h.base o.size⟩, o.trans o'⟩
theorem LW.step {w0 w w' : World} {P P' : Nat → Prop} {m : Nat} {s s' : St} (h : LW w0 w P m s) (h' : MAt w0.heap.size w' P' m s') (o : Only P w w') : LW w0 w' P' m s' := by
  refine ⟨h', ⟨o.os.trans h.o.os, o.tape.trans h.o.tape, o.output.trans h.o.output, Nat.le_trans h.o.size o.size, fun k hk hn => ?_⟩⟩
  rw [o.block k (Nat.lt_of_lt_of_le hk h.o.size) (fun hp => by have := h.mat.above k hp; omega)]
  exact h.o.block k hk hn
theorem LW.only0 {w0 w w' : World} {P : Nat → Prop} {m : Nat} {s : St} (h : LW w0 w P m s) (o : Only0 w w') : LW w0 w' P m s := ⟨h.mat.only0 o, h.o.trans o⟩
theorem LW.alloc {w0 w : World} {P : Nat → Prop} {m : Nat} {s : St} (h : LW w0 w P m s) (o : Obj) : LW w0 (w.alloc o) P m s := h.only0 ((Only0.refl _).alloc _)
/-- A box of the law's own, beside the Model. -/
def Bx (w : World) (P : Nat → Prop) (b : Nat) (t : TypeId) (cs : Array Value) : Prop := Blk w b t cs ∧ ¬ P b
theorem Bx.step {w w' : World} {P P' : Nat → Prop} {b : Nat} {t : TypeId} {cs : Array Value} (h : Bx w P b t cs) (o : Only P w w') (g : Grew w.heap.size P P') : Bx w' P' b t cs :=
  ⟨o.blk h.1 h.2, fun hp => by
    rcases g b hp with h1 | h1
    · exact h.2 h1
    · have := h.1.lt; omega⟩
theorem Bx.alloc {w : World} {P : Nat → Prop} {b : Nat} {t : TypeId} {cs : Array Value} (h : Bx w P b t cs) (o : Obj) : Bx (w.alloc o) P b t cs := ⟨h.1.alloc o, h.2⟩
theorem LW.box {w0 w : World} {P : Nat → Prop} {m : Nat} {s : St} (h : LW w0 w P m s) (t : TypeId) (cs : Array Value) : Bx (w.alloc (.cells cs t)) P w.heap.size t cs := ⟨Blk.new _ _ _, fun hp => by have := h.mat.under _ hp; omega⟩
/-- Begin, Do, in a law. -/
theorem lw_begin {w0 w : World} {P : Nat → Prop} {m : Nat} {s : St} (h : LW w0 w P m s) (j level : Int) {id er : Int} {s' : St} (hs : s.begin j level = (id, er, s')) :
    Calls Try.prog 23 #[.pointer (some ⟨m, 0, none⟩), .int .i64 j, .int .i64 level] w fun e w' => ∃ P' : Nat → Prop, e = .returned (.tuple #[.int .i64 id, .int .i64 er]) ∧ LW w0 w' P' m s' ∧ Only P w w' ∧ Grew w.heap.size P P' := by
  refine (md_begin h.mat j level).mono ?_
  rintro e w' ⟨P', he, h', o, g⟩
  rw [hs] at he h'
  exact ⟨P', he, h.step h' o, o, g⟩
theorem lw_do {w0 w : World} {P : Nat → Prop} {m : Nat} {s : St} (h : LW w0 w P m s) (j kind key hi value : Int) {re rv ro rr er : Int} {s' : St} (hs : s.do_ j ⟨kind, key, hi, value⟩ = (⟨re, rv, [], ro, rr⟩, er, s')) :
    Calls Try.prog 19 #[.pointer (some ⟨m, 0, none⟩), .int .i64 j, .agg #[.int .i64 kind, .int .i64 key, .int .i64 hi, .int .i64 value]] w fun e w' => ∃ (P' : Nat → Prop) (a : Option Addr) (c : Nat), e = .returned (.tuple #[.agg #[.int .i64 re, .int .i64 rv, .slice a 0 c, .int .i64 ro, .int .i64 rr], .int .i64 er]) ∧ LW w0 w' P' m s' ∧ Only P w w' ∧ Grew w.heap.size P P' := by
  refine (md_do h.mat j kind key hi value).mono ?_
  rintro e w' ⟨P', a, c, he, h', o, g, _, _⟩
  rw [hs] at he h'
  exact ⟨P', a, c, he, h.step h' o, o, g⟩
theorem PairsIn.lit (w : World) (ps : List (Int × Int)) : PairsIn (w.alloc (.cells (pairCells ps).toArray 48)) (some ⟨w.heap.size, 0, none⟩) ps := by
  by_cases h : ps = []
  · exact .inl h
  · refine .inr ⟨w.heap.size, 0, rfl, fun i hi => ?_⟩
    have G := pairCells_get ps i hi
    rw [Nat.zero_add, Nat.zero_add, (Blk.new w 48 _).cell, (Blk.new w 48 _).cell]
    simpa using G
def aw1 : St := ((newSt 4 100).begin 0 3).2.2
theorem aw1_eq : (newSt 4 100).begin 0 3 = (1, 0, aw1) := rfl
def aw2 : St := (aw1.do_ 0 ⟨2, 5, 0, 7⟩).2.2
theorem aw2_eq : aw1.do_ 0 ⟨2, 5, 0, 7⟩ = (⟨0, 0, [], 0, 0⟩, 0, aw2) := by rfl
def aw3 : St := (aw2.do_ 0 ⟨6, 0, 0, 0⟩).2.2
theorem aw3_eq : aw2.do_ 0 ⟨6, 0, 0, 0⟩ = (⟨0, 0, [], 3, 0⟩, 0, aw3) := by rfl
theorem aw3_pairs : aw3.pairs 9 = [(5, 7)] := by rfl
theorem aw3_now : aw3.now = 2 := by rfl
set_option maxRecDepth 100000 in
set_option maxHeartbeats 8000000 in
theorem awake19_any (w : World) : Calls Try.prog 20 #[] w fun e w' => e = .returned (.bool true) ∧ Only0 w w' := by
  have hp9 := aw3_pairs
  have hn9 := aw3_now
  go_enter Try.func20, Try.ntmps20
  go_wp2_with fail
  refine (md_new 4 100 _ (by decide)).mono ?_
  rintro e w1 ⟨m, rfl, h1, o1, -⟩
  have L1 := LW.made (Only0.refl w) h1 o1
  clear h1 o1
  go_wp2_with fail
  refine (lw_begin L1 0 3 aw1_eq).mono ?_
  rintro e w2 ⟨P2, rfl, L2, -, -⟩
  clear L1
  go_wp2_with fail
  refine (lw_do L2 0 2 5 0 7 aw2_eq).mono ?_
  rintro e w3 ⟨P3, a3, c3, rfl, L3, -, -⟩
  clear L2
  have X5 := L3.box 27 #[.int .i64 0, .int .i64 0, .slice a3 0 c3, .int .i64 0, .int .i64 0]
  have L3' := L3.alloc (.cells #[.int .i64 0, .int .i64 0, .slice a3 0 c3, .int .i64 0, .int .i64 0] 27)
  obtain ⟨b5, hb5⟩ : ∃ b, b = w3.heap.size := ⟨_, rfl⟩
  rw [← hb5] at X5
  go_wp2_with fail
  refine (lw_do L3' 0 6 0 0 0 aw3_eq).mono ?_
  rintro e w4 ⟨P4, a4, c4, rfl, L4, o4, g4⟩
  have X5' := (X5.step o4 g4).alloc (.cells #[.int .i64 0, .int .i64 0, .slice a4 0 c4, .int .i64 3, .int .i64 0] 27)
  have r0 : (w4.alloc (.cells #[.int .i64 0, .int .i64 0, .slice a4 0 c4, .int .i64 3, .int .i64 0] 27)).cell? ⟨b5, 0, none⟩ = some (.int .i64 0) := X5'.1.cell 0
  have L4' := L4.alloc (.cells #[.int .i64 0, .int .i64 0, .slice a4 0 c4, .int .i64 3, .int .i64 0] 27)
  rw [← hb5]
  have HP9 := Lib.hid hp9
  have HN9 := Lib.hid hn9
  clear L3 L3' X5 X5' o4 g4 hb5 L4 hp9 hn9
  go_wp2_with fail
  refine (md_pairs L4'.mat 9).mono ?_
  rintro e w5 ⟨⟨a5, c5, rfl, hp5, -⟩, o5⟩
  rw [HP9.out] at hp5 ⊢
  have L5 := L4'.only0 o5
  clear L4' r0 o5
  go_wp2_with fail
  refine (samePairs_any a5 (some ⟨w5.heap.size, 0, none⟩) c5 1 [(5, 7)] [(5, 7)] _ (hp5.only (S := fun _ => False) ((Only0.refl w5).alloc _) (fun _ _ h => h)) (PairsIn.lit w5 _) (by decide) (by decide)).mono ?_
  rintro e w6 ⟨rfl, n6, rfl⟩
  have L6 := (L5.alloc (.cells #[.int .i64 5, .int .i64 7] 48)).only0 ((Only0.refl _).drewN n6)
  clear L5 hp5
  go_wp2_with fail
  refine (md_now L6.mat).mono ?_
  rintro e w7 ⟨rfl, rfl⟩
  rw [HN9.out]
  have HO := Lib.hid L6.o
  go_wp2_with fail
  go_ret
  exact ⟨rfl, HO.out⟩
end Go.Proofs.Ytcbhafddehipdaa
namespace Go.Proofs.Ytcbhafddehipdaa
open Go.RowKit
set_option linter.unusedVariables false
set_option linter.unusedSimpArgs false
theorem setTx_same (s : St) (j : Nat) (t : Option Tx) : (s.setTx j t).tx j = t := by
  show upd s.tx j t j = t
  exact upd_same _ _ _
end Go.Proofs.Ytcbhafddehipdaa
namespace Go.Proofs.Ytcbhafddehipdaa
open Go.RowKit
set_option linter.unusedVariables false
set_option linter.unusedSimpArgs false
theorem anyC_iff {f : Nat → Option Cel} {p : Cel → Bool} : anyC f p = true ↔ ∃ k c, k < 64 ∧ f k = some c ∧ p c = true := by
  unfold anyC
  rw [List.any_eq_true]
  constructor
  · rintro ⟨k, hk, h⟩
    cases hf : f k with
    | none => rw [hf] at h; simp at h
    | some c => rw [hf] at h; exact ⟨k, c, by simpa using hk, hf, h⟩
  · rintro ⟨k, c, hk, hf, h⟩
    exact ⟨k, by simpa using hk, by rw [hf]; exact h⟩
theorem ver_grow {s : St} {v : Ver} {x : Nat} (h : x < s.vs.length) : (s.grow v).ver x = s.ver x := by
  simp [St.ver, St.grow, List.getD_eq_getElem?_getD, List.getElem?_append_left h]
theorem ver_grow_new {s : St} {v : Ver} : (s.grow v).ver s.vs.length = v := by
  simp [St.ver, St.grow, List.getD_eq_getElem?_getD]
theorem ver_setVal {s : St} {i x : Nat} {v : Int} : (s.setVal i v).ver x = if x = i ∧ i < s.vs.length then { s.ver i with value := v } else s.ver x := by
  simp only [St.ver, St.setVal, List.getD_eq_getElem?_getD, List.getElem?_set]
  by_cases h : i = x
  · subst h
    by_cases hl : i < s.vs.length
    · simp [hl]
    · simp [hl]
  · simp [h, Ne.symm h]
theorem put_cells (t : Tx) (k j : Nat) (c : Cel) : (t.put k c).cells j = if j = k then some c else t.cells j := rfl
theorem ver_kill {s : St} {j x : Nat} {t : Tx} (h : x < s.vs.length) : (s.kill j t).ver x = killV t.cells x (s.ver x) := by
  simp [St.ver, St.kill, List.getD_eq_getElem?_getD, List.getElem?_mapIdx, List.getElem?_eq_getElem h]
theorem ver_done {s : St} {j x : Nat} {t : Tx} (h : x < s.vs.length) : (s.done j t).ver x = doneV t.cells s.now x (s.ver x) := by
  simp [St.ver, St.done, List.getD_eq_getElem?_getD, List.getElem?_mapIdx, List.getElem?_eq_getElem h]
end Go.Proofs.Ytcbhafddehipdaa
namespace Go.Proofs.Ytcbhafddehipdaa
open Go.RowKit
set_option linter.unusedVariables false
set_option linter.unusedSimpArgs false
theorem look_beg (t : Tx) (k : Nat) : (t.look k).beg = t.beg ∧ (t.look k).ops = t.ops ∧ (t.look k).cells = t.cells := by
  unfold Tx.look; split <;> exact ⟨rfl, rfl, rfl⟩
theorem mark_beg (t : Tx) (k : Nat) : (t.mark k).beg = t.beg ∧ (t.mark k).ops = t.ops ∧ (t.mark k).cells = t.cells := by
  unfold Tx.mark; split <;> exact ⟨rfl, rfl, rfl⟩
end Go.Proofs.Ytcbhafddehipdaa
namespace Go.Proofs.Ytcbhafddehipdaa
set_option linter.unusedVariables false
set_option linter.unusedSimpArgs false
/-- A version that was committed by a time. -/
def Com (now : Int) (v : Ver) : Prop := v.dead = false ∧ 0 < v.beg ∧ v.beg ≤ now ∧ (v.fin = 0 ∨ v.beg ≤ v.fin ∧ v.fin ≤ now)
/-- A version that lies as its maker left it. -/
def Raw (v : Ver) : Prop := v.beg = 0 ∧ v.fin = 0
/-- Two versions of a key are not there at one time. -/
def Apt (v u : Ver) : Prop := (v.fin ≠ 0 ∧ v.fin ≤ u.beg) ∨ (u.fin ≠ 0 ∧ u.fin ≤ v.beg)
/-- The transaction in j has the cell c of key k. -/
def Has (s : St) (j k : Nat) (t : Tx) (c : Cel) : Prop := s.tx j = some t ∧ t.cells k = some c
structure Wf (s : St) : Prop where
  slots : 0 < s.slots
  nodup : s.l.Nodup
  lin : ∀ i, i ∈ s.l → i < s.vs.length
  /-- what is no slot any more is dead, or ended ahead of all that live. -/
  gone : ∀ i, i < s.vs.length → i ∉ s.l → (s.ver i).dead = true ∨ ((s.ver i).fin ≠ 0 ∧ ∀ j t, s.tx j = some t → (s.ver i).fin ≤ t.beg)
  kind : ∀ i, i < s.vs.length → ((s.ver i).dead = true ∧ Raw (s.ver i)) ∨ Com s.now (s.ver i) ∨ ((s.ver i).dead = false ∧ Raw (s.ver i) ∧ ∃ j k t c, Has s j k t c ∧ c.own = some i)
  /-- the own version of a cell. -/
  own : ∀ j k t c i, Has s j k t c → c.own = some i → i ∈ s.l ∧ (s.ver i).key = (k : Int) ∧ (s.ver i).dead = false ∧ Raw (s.ver i) ∧ (s.ver i).by_ = t.id
  /-- the version that a cell replaces. -/
  old : ∀ j k t c, Has s j k t c → c.old = s.at k t.beg
  kin : ∀ j k t c, Has s j k t c → k < 64
  there : ∀ j k t c, Has s j k t c → c.there = true → c.own.isSome = true
  only : ∀ j i k t u c d, Has s j k t c → Has s i k u d → i = j
  inj : ∀ j k j' k' t t' c c' i, Has s j k t c → Has s j' k' t' c' → c.own = some i → c'.own = some i → j = j' ∧ k = k'
  /-- whoever has a cell bars others: all versions of its key were there at its begin. -/
  bar : ∀ j k t c i, Has s j k t c → i < s.vs.length → (s.ver i).key = (k : Int) → (s.ver i).beg ≤ t.beg ∧ (s.ver i).fin ≤ t.beg
  apt : ∀ i i', i < s.vs.length → i' < s.vs.length → i ≠ i' → (s.ver i).key = (s.ver i').key → 0 < (s.ver i).beg → 0 < (s.ver i').beg → Apt (s.ver i) (s.ver i')
  now : 0 ≤ s.now
  beg : ∀ j t, s.tx j = some t → 0 < t.beg ∧ t.beg ≤ s.now ∧ 0 < t.id ∧ t.id ≤ s.made ∧ j < 8
  ids : ∀ i j t u, s.tx i = some t → s.tx j = some u → t.id = u.id → i = j
  made : 0 ≤ s.made
theorem Wf.new (slots limit : Int) (h : 0 < slots) : Wf (newSt slots limit) := by
  have nx : ∀ j k t c, ¬ Has (newSt slots limit) j k t c := fun j k t c h => by cases h.1
  refine ⟨h, List.nodup_nil, fun i h => (by cases h), fun i h => (by cases h), fun i h => (by cases h), fun j k t c i h => absurd h (nx _ _ _ _), fun j k t c h => absurd h (nx _ _ _ _), fun j k t c h => absurd h (nx _ _ _ _), fun j k t c h => absurd h (nx _ _ _ _), fun j i k t u c d h => absurd h (nx _ _ _ _), fun j k j' k' t t' c c' i h => absurd h (nx _ _ _ _), fun j k t c i h => absurd h (nx _ _ _ _), fun i i' h => (by cases h), Int.le_refl _, fun j t h => (by cases h), fun i j t u h => (by cases h), Int.le_refl _⟩
/-- A version of a key is there at a time. -/
def Vis (v : Ver) (k a : Int) : Prop := v.key = k ∧ 0 < v.beg ∧ v.beg ≤ a ∧ (v.fin = 0 ∨ a < v.fin)
theorem visB_iff {v : Ver} {k a : Int} : visB v k a = true ↔ Vis v k a := by
  unfold visB Vis
  simp only [Bool.and_eq_true, Bool.or_eq_true, decide_eq_true_eq]
  constructor
  · rintro ⟨⟨⟨h1, h2⟩, h3⟩, h4⟩; exact ⟨h1, h2, h3, h4⟩
  · rintro ⟨h1, h2, h3, h4⟩; exact ⟨⟨⟨h1, h2⟩, h3⟩, h4⟩
theorem Wf.one {s : St} (h : Wf s) {i i' : Nat} {k a : Int} (hi : i < s.vs.length) (hi' : i' < s.vs.length) (v : Vis (s.ver i) k a) (v' : Vis (s.ver i') k a) : i = i' := by
  apply Classical.byContradiction
  intro hne
  have := h.apt i i' hi hi' hne (v.1.trans v'.1.symm) v.2.1 v'.2.1
  have a1 := v.2.2.1
  have a2 := v.2.2.2
  have b1 := v'.2.2.1
  have b2 := v'.2.2.2
  rcases this with ⟨x, y⟩ | ⟨x, y⟩ <;> omega
theorem Wf.at_some {s : St} (h : Wf s) {k a : Int} {i : Nat} : s.at k a = some i ↔ i ∈ s.l ∧ Vis (s.ver i) k a := by
  unfold St.at
  constructor
  · intro hf
    exact ⟨List.mem_of_find?_eq_some hf, visB_iff.1 (List.find?_some (p := fun i => visB (s.ver i) k a) hf)⟩
  · rintro ⟨hi, hv⟩
    cases hf : s.l.find? (fun i => visB (s.ver i) k a) with
    | none => exact absurd (visB_iff.2 hv) (by simpa using List.find?_eq_none.1 hf i hi)
    | some x =>
      rw [h.one (h.lin x (List.mem_of_find?_eq_some hf)) (h.lin i hi) (visB_iff.1 (List.find?_some (p := fun i => visB (s.ver i) k a) hf)) hv]
/-- At a begin of one that lives, or later, nothing is lacking that was collected. -/
theorem Wf.vis_in {s : St} (h : Wf s) {k a : Int} {i : Nat} (hi : i < s.vs.length) (hv : Vis (s.ver i) k a) (ha : a = s.now ∨ ∃ j t, s.tx j = some t ∧ t.beg ≤ a) (hn : a = s.now → ∀ i, i < s.vs.length → (s.ver i).fin ≤ s.now) : i ∈ s.l := by
  apply Classical.byContradiction
  intro hm
  have a1 := hv.2.1
  have a2 := hv.2.2.2
  rcases h.gone i hi hm with hd | ⟨h0, hl⟩
  · rcases h.kind i hi with ⟨_, r⟩ | c | ⟨e, _⟩
    · have := r.1; omega
    · rw [c.1] at hd; cases hd
    · rw [e] at hd; cases hd
  · rcases ha with rfl | ⟨j, t, ht, hb⟩
    · have := hn rfl i hi; omega
    · have := hl j t ht; omega
theorem Wf.fin_le {s : St} (h : Wf s) {i : Nat} (hi : i < s.vs.length) : (s.ver i).fin ≤ s.now ∧ (s.ver i).beg ≤ s.now ∧ 0 ≤ (s.ver i).beg ∧ 0 ≤ (s.ver i).fin ∧ ((s.ver i).fin ≠ 0 → (s.ver i).beg ≤ (s.ver i).fin) := by
  have hn := h.now
  rcases h.kind i hi with ⟨_, r⟩ | c | ⟨_, r, _⟩
  · have := r.1; have := r.2; omega
  · obtain ⟨_, c2, c3, c4⟩ := c; omega
  · have := r.1; have := r.2; omega
theorem Wf.dead_raw {s : St} (h : Wf s) {i : Nat} (hi : i < s.vs.length) (hd : (s.ver i).dead = true) : Raw (s.ver i) := by
  rcases h.kind i hi with ⟨_, r⟩ | c | ⟨e, _⟩
  · exact r
  · rw [c.1] at hd; cases hd
  · rw [e] at hd; cases hd
/-- Nothing is lacking that is seen now, or at the begin of one that lives. -/
theorem Wf.in_l {s : St} (h : Wf s) {k a : Int} {i : Nat} (hi : i < s.vs.length) (hv : Vis (s.ver i) k a) (ha : a = s.now ∨ ∃ j t, s.tx j = some t ∧ t.beg ≤ a) : i ∈ s.l :=
  h.vis_in hi hv ha (fun _ i hi => (h.fin_le hi).1)
def VEq (v u : Ver) : Prop := v.key = u.key ∧ v.by_ = u.by_ ∧ v.beg = u.beg ∧ v.fin = u.fin ∧ v.dead = u.dead
theorem VEq.refl (v : Ver) : VEq v v := ⟨rfl, rfl, rfl, rfl, rfl⟩
theorem VEq.vis {v u : Ver} (h : VEq v u) (k a : Int) : visB v k a = visB u k a := by
  obtain ⟨h1, _, h3, h4, _⟩ := h
  unfold visB; rw [h1, h3, h4]
theorem at_congr {s s' : St} (hl : s'.l = s.l) (hv : ∀ i, VEq (s'.ver i) (s.ver i)) (k a : Int) : s'.at k a = s.at k a := by
  unfold St.at
  rw [hl]
  congr 1
  funext i
  exact (hv i).vis k a
theorem Wf.back {s s' : St} (h : Wf s) (hl : s'.l = s.l) (hn : s'.vs.length = s.vs.length) (hv : ∀ i, VEq (s'.ver i) (s.ver i)) (hnow : s'.now = s.now) (hsl : s'.slots = s.slots) (hm : s'.made = s.made)
    (hT : ∀ j t', s'.tx j = some t' → ∃ t, s.tx j = some t ∧ t.beg = t'.beg ∧ t.id = t'.id ∧ ∀ k c', t'.cells k = some c' → ∃ c, t.cells k = some c ∧ c.own = c'.own ∧ c.old = c'.old ∧ (c'.there = true → c'.own.isSome = true))
    (hF : ∀ j t, s.tx j = some t → ∃ t', s'.tx j = some t' ∧ ∀ k c, t.cells k = some c → ∃ c', t'.cells k = some c' ∧ c'.own = c.own) : Wf s' := by
  have B : ∀ j k t' c', Has s' j k t' c' → ∃ t c, Has s j k t c ∧ t.beg = t'.beg ∧ t.id = t'.id ∧ c.own = c'.own ∧ c.old = c'.old ∧ (c'.there = true → c'.own.isSome = true) := by
    rintro j k t' c' ⟨h1, h2⟩
    obtain ⟨t, ht, hb, hi, hc⟩ := hT j t' h1
    obtain ⟨c, hc1, hc2, hc3, hc4⟩ := hc k c' h2
    exact ⟨t, c, ⟨ht, hc1⟩, hb, hi, hc2, hc3, hc4⟩
  have kk : ∀ i, (s'.ver i).key = (s.ver i).key := fun i => (hv i).1
  have kb : ∀ i, (s'.ver i).beg = (s.ver i).beg := fun i => (hv i).2.2.1
  have kf : ∀ i, (s'.ver i).fin = (s.ver i).fin := fun i => (hv i).2.2.2.1
  have kd : ∀ i, (s'.ver i).dead = (s.ver i).dead := fun i => (hv i).2.2.2.2
  have ky : ∀ i, (s'.ver i).by_ = (s.ver i).by_ := fun i => (hv i).2.1
  have kR : ∀ i, Raw (s.ver i) → Raw (s'.ver i) := fun i r => ⟨(kb i).trans r.1, (kf i).trans r.2⟩
  have kC : ∀ i, Com s.now (s.ver i) → Com s'.now (s'.ver i) := fun i r => by
    unfold Com at *
    rw [kb, kf, kd, hnow]; exact r
  refine ⟨by rw [hsl]; exact h.slots, by rw [hl]; exact h.nodup, fun i hi => by rw [hn]; exact h.lin i (by rw [← hl]; exact hi), fun i hi hm => ?_, fun i hi => ?_, fun j k t c i hh ho => ?_, fun j k t c hh => ?_, fun j k t c hh => ?_, fun j k t c hh ht => ?_, fun j i k t u c d h1 h2 => ?_, fun j k j' k' t t' c c' i h1 h2 o1 o2 => ?_, fun j k t c i hh hi hk => ?_, fun i i' hi hi' hne hk hb hb' => ?_, by rw [hnow]; exact h.now, fun j t ht => ?_, fun i j t u h1 h2 e => ?_, by rw [hm]; exact h.made⟩
  · rw [kd, kf]
    rcases h.gone i (by omega) (by rw [← hl]; exact hm) with h1 | ⟨h1, h2⟩
    · exact .inl h1
    · refine .inr ⟨h1, fun j t ht => ?_⟩
      obtain ⟨t0, ht0, hb, _⟩ := hT j t ht
      rw [← hb]; exact h2 j t0 ht0
  · rcases h.kind i (by omega) with ⟨h1, h2⟩ | h1 | ⟨h1, h2, j, k, t, c, hh, ho⟩
    · exact .inl ⟨by rw [kd]; exact h1, kR i h2⟩
    · exact .inr (.inl (kC i h1))
    · obtain ⟨t', ht', hc⟩ := hF j t hh.1
      obtain ⟨c', hc', ho'⟩ := hc k c hh.2
      exact .inr (.inr ⟨by rw [kd]; exact h1, kR i h2, j, k, t', c', ⟨ht', hc'⟩, by rw [ho']; exact ho⟩)
  · obtain ⟨t0, c0, h0, hb, hi, e1, e2, e3⟩ := B j k t c hh
    obtain ⟨a1, a2, a3, a4, a5⟩ := h.own j k t0 c0 i h0 (by rw [e1]; exact ho)
    exact ⟨by rw [hl]; exact a1, by rw [kk]; exact a2, by rw [kd]; exact a3, kR i a4, by rw [ky, ← hi]; exact a5⟩
  · obtain ⟨t0, c0, h0, hb, hi, e1, e2, e3⟩ := B j k t c hh
    rw [← e2, h.old j k t0 c0 h0, hb]
    exact (at_congr hl hv _ _).symm
  · obtain ⟨t0, c0, h0, _⟩ := B j k t c hh
    exact h.kin j k t0 c0 h0
  · obtain ⟨t0, c0, h0, hb, hi, e1, e2, e3⟩ := B j k t c hh
    exact e3 ht
  · obtain ⟨t0, c0, h0, _⟩ := B j k t c h1
    obtain ⟨u0, d0, h0', _⟩ := B i k u d h2
    exact h.only j i k t0 u0 c0 d0 h0 h0'
  · obtain ⟨t0, c0, h0, hb, hi, e1, e2, e3⟩ := B j k t c h1
    obtain ⟨u0, d0, h0', hb', hi', e1', e2', e3'⟩ := B j' k' t' c' h2
    exact h.inj j k j' k' t0 u0 c0 d0 i h0 h0' (by rw [e1]; exact o1) (by rw [e1']; exact o2)
  · obtain ⟨t0, c0, h0, hb, _⟩ := B j k t c hh
    rw [kb, kf, ← hb]
    exact h.bar j k t0 c0 i h0 (by omega) (by rw [← kk]; exact hk)
  · have := h.apt i i' (by omega) (by omega) hne (by rw [← kk, ← kk]; exact hk) (by rw [← kb]; exact hb) (by rw [← kb]; exact hb')
    unfold Apt at *
    rw [kf, kb, kf, kb]; exact this
  · obtain ⟨t0, ht0, hb, hi, _⟩ := hT j t ht
    have := h.beg j t0 ht0
    rw [← hb, ← hi, hnow, hm]; exact this
  · obtain ⟨t0, ht0, _, hi, _⟩ := hT i t h1
    obtain ⟨u0, hu0, _, hi', _⟩ := hT j u h2
    exact h.ids i j t0 u0 ht0 hu0 (by rw [hi, hi']; exact e)
theorem setTx_tx (s : St) (j i : Nat) (t : Option Tx) : (s.setTx j t).tx i = if i = j then t else s.tx i := by
  by_cases h : i = j
  · subst h; rw [setTx_same, if_pos rfl]
  · rw [if_neg h]; exact upd_other _ _ _ h
/-- A transaction's numbers turn, but not its cells. -/
theorem Wf.retx {s : St} (h : Wf s) {j : Nat} {t t' : Tx} (ht : s.tx j = some t) (hc : t'.cells = t.cells) (hb : t'.beg = t.beg) (hi : t'.id = t.id) : Wf (s.setTx j (some t')) := by
  refine h.back rfl rfl (fun i => VEq.refl _) rfl rfl rfl (fun i u hu => ?_) (fun i u hu => ?_)
  · rw [setTx_tx] at hu
    by_cases e : i = j
    · subst e
      rw [if_pos rfl] at hu; injection hu with hu; subst hu
      exact ⟨t, ht, hb.symm, hi.symm, fun k c hk => ⟨c, by rw [← hc]; exact hk, rfl, rfl, h.there i k t c ⟨ht, by rw [← hc]; exact hk⟩⟩⟩
    · rw [if_neg e] at hu
      exact ⟨u, hu, rfl, rfl, fun k c hk => ⟨c, hk, rfl, rfl, h.there i k u c ⟨hu, hk⟩⟩⟩
  · by_cases e : i = j
    · subst e
      rw [ht] at hu; injection hu with hu; subst hu
      exact ⟨t', setTx_same _ _ _, fun k c hk => ⟨c, by rw [hc]; exact hk, rfl⟩⟩
    · exact ⟨u, by rw [setTx_tx, if_neg e]; exact hu, fun k c hk => ⟨c, hk, rfl⟩⟩
/-- A cell's flag turns. -/
theorem Wf.flag {s : St} (h : Wf s) {j k : Nat} {t : Tx} {c : Cel} (hh : Has s j k t c) (b : Bool) (hb : b = true → c.own.isSome = true) : Wf (s.setTx j (some (t.put k { c with there := b }))) := by
  refine h.back rfl rfl (fun i => VEq.refl _) rfl rfl rfl (fun i u hu => ?_) (fun i u hu => ?_)
  · rw [setTx_tx] at hu
    by_cases e : i = j
    · subst e
      rw [if_pos rfl] at hu; injection hu with hu; subst hu
      refine ⟨t, hh.1, rfl, rfl, fun k' c' hk => ?_⟩
      rw [put_cells] at hk
      by_cases e : k' = k
      · subst e
        rw [if_pos rfl] at hk; injection hk with hk; subst hk
        exact ⟨c, hh.2, rfl, rfl, hb⟩
      · rw [if_neg e] at hk
        exact ⟨c', hk, rfl, rfl, h.there i k' t c' ⟨hh.1, hk⟩⟩
    · rw [if_neg e] at hu
      exact ⟨u, hu, rfl, rfl, fun k c hk => ⟨c, hk, rfl, rfl, h.there i k u c ⟨hu, hk⟩⟩⟩
  · by_cases e : i = j
    · subst e
      rw [hh.1] at hu; injection hu with hu; subst hu
      refine ⟨_, setTx_same _ _ _, fun k' c' hk => ?_⟩
      rw [put_cells]
      by_cases e : k' = k
      · subst e
        rw [hh.2] at hk; injection hk with hk; subst hk
        exact ⟨{ c with there := b }, if_pos rfl, rfl⟩
      · exact ⟨c', by rw [if_neg e]; exact hk, rfl⟩
    · exact ⟨u, by rw [setTx_tx, if_neg e]; exact hu, fun k c hk => ⟨c, hk, rfl⟩⟩
theorem Wf.setVal {s : St} (h : Wf s) (i : Nat) (x : Int) : Wf (s.setVal i x) := by
  refine h.back rfl (by show (s.vs.set i _).length = _; simp) (fun k => ?_) rfl rfl rfl (fun j t ht => ⟨t, ht, rfl, rfl, fun k c hk => ⟨c, hk, rfl, rfl, h.there j k t c ⟨ht, hk⟩⟩⟩) (fun j t ht => ⟨t, ht, fun k c hk => ⟨c, hk, rfl⟩⟩)
  rw [ver_setVal]
  split
  · rename_i hx
    obtain ⟨rfl, _⟩ := hx
    exact VEq.refl _
  · exact VEq.refl _
end Go.Proofs.Ytcbhafddehipdaa
namespace Go.Proofs.Ytcbhafddehipdaa
set_option linter.unusedVariables false
set_option linter.unusedSimpArgs false
theorem find_congr {α : Type} {p q : α → Bool} : ∀ {l : List α}, (∀ x, x ∈ l → p x = q x) → l.find? p = l.find? q := by
  intro l
  induction l with
  | nil => intro _; rfl
  | cons a l ih =>
    intro h
    rw [List.find?_cons, List.find?_cons, h a (by simp), ih (fun x hx => h x (by simp [hx]))]
theorem upd_tx {α : Type} (f : Nat → α) (j i : Nat) (x : α) : upd f j x i = if i = j then x else f i := rfl
theorem Wf.begun {s : St} (h : Wf s) {j : Nat} (hj : j < 8) (hn : s.tx j = none) (level : Int) (s' : St) (hs : s' = { s with made := s.made + 1, now := s.now + 1, tx := upd s.tx j (some (newTx (s.made + 1) level (s.now + 1))) }) : Wf s' := by
  have htx : ∀ i, s'.tx i = if i = j then some (newTx (s.made + 1) level (s.now + 1)) else s.tx i := fun i => by rw [hs]; rfl
  have hnow : s'.now = s.now + 1 := by rw [hs]
  have hmade : s'.made = s.made + 1 := by rw [hs]
  have hl : s'.l = s.l := by rw [hs]
  have hvs : s'.vs = s.vs := by rw [hs]
  have hv : ∀ i, s'.ver i = s.ver i := fun i => by rw [hs]; rfl
  have hsl : s'.slots = s.slots := by rw [hs]
  have hat : ∀ k a, s'.at k a = s.at k a := fun k a => by rw [hs]; rfl
  have B : ∀ i k t c, Has s' i k t c → Has s i k t c := by
    rintro i k t c ⟨h1, h2⟩
    rw [htx] at h1
    by_cases e : i = j
    · rw [if_pos e] at h1; injection h1 with h1; subst h1; cases h2
    · rw [if_neg e] at h1; exact ⟨h1, h2⟩
  have F : ∀ i k t c, Has s i k t c → Has s' i k t c := by
    rintro i k t c ⟨h1, h2⟩
    refine ⟨?_, h2⟩
    rw [htx, if_neg (fun e => by rw [e, hn] at h1; cases h1)]; exact h1
  clear hs
  refine ⟨by rw [hsl]; exact h.slots, by rw [hl]; exact h.nodup, fun i hi => by rw [hvs]; exact h.lin i (by rw [← hl]; exact hi), fun i hi hm => ?_, fun i hi => ?_, fun i k t c x hh ho => ?_, fun i k t c hh => ?_, fun i k t c hh => h.kin i k t c (B _ _ _ _ hh), fun i k t c hh ht => h.there i k t c (B _ _ _ _ hh) ht, fun i i' k t u c d h1 h2 => h.only i i' k t u c d (B _ _ _ _ h1) (B _ _ _ _ h2), fun i k i' k' t t' c c' x h1 h2 o1 o2 => h.inj i k i' k' t t' c c' x (B _ _ _ _ h1) (B _ _ _ _ h2) o1 o2, fun i k t c x hh hi hk => ?_, fun i i' hi hi' hne hk hb hb' => ?_, by rw [hnow]; have := h.now; omega, fun i t ht => ?_, fun i i' t u h1 h2 e => ?_, by rw [hmade]; have := h.made; omega⟩
  · rw [hvs] at hi
    rw [hl] at hm
    rw [hv]
    rcases h.gone i hi hm with h1 | ⟨h1, h2⟩
    · exact .inl h1
    · refine .inr ⟨h1, fun i' t ht => ?_⟩
      rw [htx] at ht
      by_cases e : i' = j
      · rw [if_pos e] at ht; injection ht with ht; subst ht
        have := (h.fin_le hi).1
        show _ ≤ s.now + 1
        omega
      · rw [if_neg e] at ht; exact h2 i' t ht
  · rw [hvs] at hi
    rw [hv, hnow]
    rcases h.kind i hi with h1 | h1 | ⟨h1, h2, i', k, t, c, hh, ho⟩
    · exact .inl h1
    · obtain ⟨c1, c2, c3, c4⟩ := h1
      exact .inr (.inl ⟨c1, c2, by omega, by omega⟩)
    · exact .inr (.inr ⟨h1, h2, i', k, t, c, F _ _ _ _ hh, ho⟩)
  · rw [hl, hv]; exact h.own i k t c x (B _ _ _ _ hh) ho
  · rw [hat]; exact h.old i k t c (B _ _ _ _ hh)
  · rw [hv] at hk ⊢
    rw [hvs] at hi
    exact h.bar i k t c x (B _ _ _ _ hh) hi hk
  · rw [hvs] at hi hi'
    rw [hv] at hk hb
    rw [hv] at hk hb'
    rw [hv, hv]
    exact h.apt i i' hi hi' hne hk hb hb'
  · rw [htx] at ht
    rw [hnow, hmade]
    by_cases e : i = j
    · rw [if_pos e] at ht; injection ht with ht; subst ht
      have := h.now
      have := h.made
      subst e
      show 0 < s.now + 1 ∧ s.now + 1 ≤ s.now + 1 ∧ 0 < s.made + 1 ∧ s.made + 1 ≤ s.made + 1 ∧ _
      omega
    · rw [if_neg e] at ht
      have := h.beg i t ht
      omega
  · rw [htx] at h1 h2
    by_cases e1 : i = j
    · by_cases e2 : i' = j
      · rw [e1, e2]
      · rw [if_pos e1] at h1; rw [if_neg e2] at h2
        injection h1 with h1; subst h1
        have := h.beg i' u h2
        have e' : s.made + 1 = u.id := e
        omega
    · by_cases e2 : i' = j
      · rw [if_neg e1] at h1; rw [if_pos e2] at h2
        injection h2 with h2; subst h2
        have := h.beg i t h1
        have e' : t.id = s.made + 1 := e
        omega
      · rw [if_neg e1] at h1; rw [if_neg e2] at h2
        exact h.ids i i' t u h1 h2 e
theorem others_none {s : St} {j k : Nat} (h : s.others j k = false) {i : Nat} (hi : i < 8) (hij : i ≠ j) {u : Tx} (hu : s.tx i = some u) : u.cells k = none := by
  unfold St.others at h
  rw [List.any_eq_false] at h
  have := h i (by simpa using hi)
  unfold holderB at this
  rw [hu] at this
  simp [hij] at this
  exact this
theorem later_none {s : St} {k a : Int} (h : s.later k a = false) {i : Nat} (hi : i ∈ s.l) (hk : (s.ver i).key = k) : (s.ver i).beg ≤ a ∧ (s.ver i).fin ≤ a := by
  unfold St.later at h
  rw [List.any_eq_false] at h
  have := h i hi
  unfold laterB at this
  simp [hk] at this
  exact this
theorem Wf.newcell {s : St} (h : Wf s) {j k : Nat} {t : Tx} (ht : s.tx j = some t) (hc : t.cells k = none) (hk64 : k < 64) (ho : s.others j k = false) (hl : s.later k t.beg = false) : Wf (s.setTx j (some (t.put k ⟨none, s.at k t.beg, false⟩))) := by
  have htb := h.beg j t ht
  have hcell : ∀ k', (t.put k ⟨none, s.at k t.beg, false⟩).cells k' = if k' = k then some ⟨none, s.at k t.beg, false⟩ else t.cells k' := fun k' => put_cells _ _ _ _
  obtain ⟨t', ht'⟩ : ∃ t', t' = t.put k ⟨none, s.at k t.beg, false⟩ := ⟨_, rfl⟩
  have hb' : t'.beg = t.beg := by rw [ht']; rfl
  have hi' : t'.id = t.id := by rw [ht']; rfl
  rw [← ht'] at hcell ⊢
  clear ht'
  obtain ⟨s', hs'⟩ : ∃ s', s' = s.setTx j (some t') := ⟨_, rfl⟩
  have htx : ∀ i, s'.tx i = if i = j then some t' else s.tx i := fun i => by rw [hs']; exact setTx_tx _ _ _ _
  have hnow : s'.now = s.now := by rw [hs']; rfl
  have hmade : s'.made = s.made := by rw [hs']; rfl
  have hll : s'.l = s.l := by rw [hs']; rfl
  have hvs : s'.vs = s.vs := by rw [hs']; rfl
  have hv : ∀ i, s'.ver i = s.ver i := fun i => by rw [hs']; rfl
  have hsl : s'.slots = s.slots := by rw [hs']; rfl
  have hat : ∀ k a, s'.at k a = s.at k a := fun k a => by rw [hs']; rfl
  rw [← hs']
  clear hs'
  -- a cell is the new one, or was there
  have B : ∀ i x u d, Has s' i x u d → (i = j ∧ x = k ∧ u = t' ∧ d = ⟨none, s.at k t.beg, false⟩) ∨ (¬ (i = j ∧ x = k) ∧ ∃ u0, Has s i x u0 d ∧ u0.beg = u.beg ∧ u0.id = u.id) := by
    rintro i x u d ⟨h1, h2⟩
    rw [htx] at h1
    by_cases e : i = j
    · subst e
      rw [if_pos rfl] at h1; injection h1 with h1; subst h1
      rw [hcell] at h2
      by_cases e2 : x = k
      · rw [if_pos e2] at h2; injection h2 with h2
        exact .inl ⟨rfl, e2, rfl, h2.symm⟩
      · rw [if_neg e2] at h2
        exact .inr ⟨fun e => e2 e.2, t, ⟨ht, h2⟩, hb'.symm, hi'.symm⟩
    · rw [if_neg e] at h1
      exact .inr ⟨fun e' => e e'.1, u, ⟨h1, h2⟩, rfl, rfl⟩
  have F : ∀ i x u d, Has s i x u d → ∃ u', Has s' i x u' d := by
    rintro i x u d ⟨h1, h2⟩
    by_cases e : i = j
    · subst e
      rw [ht] at h1; injection h1 with h1; subst h1
      refine ⟨t', by rw [htx, if_pos rfl], ?_⟩
      rw [hcell, if_neg (fun e => by rw [e, hc] at h2; cases h2)]; exact h2
    · exact ⟨u, by rw [htx, if_neg e]; exact h1, h2⟩
  have nob : ∀ i u d, Has s i k u d → False := by
    rintro i u d ⟨h1, h2⟩
    by_cases e : i = j
    · subst e; rw [ht] at h1; injection h1 with h1; subst h1; rw [hc] at h2; cases h2
    · rw [others_none ho (h.beg i u h1).2.2.2.2 e h1] at h2; cases h2
  have bars : ∀ x, x < s.vs.length → (s.ver x).key = (k : Int) → (s.ver x).beg ≤ t.beg ∧ (s.ver x).fin ≤ t.beg := by
    intro x hx hxk
    by_cases hm : x ∈ s.l
    · exact later_none hl hm hxk
    · rcases h.gone x hx hm with hd | ⟨h0, hd⟩
      · have r := h.dead_raw hx hd
        rw [r.1, r.2]; omega
      · have := hd j t ht
        have := (h.fin_le hx).2.2.2.2 h0
        omega
  refine ⟨by rw [hsl]; exact h.slots, by rw [hll]; exact h.nodup, fun i hi => by rw [hvs]; exact h.lin i (by rw [← hll]; exact hi), fun i hi hm => ?_, fun i hi => ?_, fun i x u d y hh ho => ?_, fun i x u d hh => ?_, fun i x u d hh => ?_, fun i x u d hh ht => ?_, fun i i' x u u' d d' h1 h2 => ?_, fun i x i' x' u u' d d' y h1 h2 o1 o2 => ?_, fun i x u d y hh hi hk => ?_, fun i i' hi hi' hne hk hb hb' => ?_, by rw [hnow]; exact h.now, fun i u hu => ?_, fun i i' u u' h1 h2 e => ?_, by rw [hmade]; exact h.made⟩
  · rw [hvs] at hi; rw [hll] at hm; rw [hv]
    rcases h.gone i hi hm with h1 | ⟨h1, h2⟩
    · exact .inl h1
    · refine .inr ⟨h1, fun i' u hu => ?_⟩
      rw [htx] at hu
      by_cases e : i' = j
      · rw [if_pos e] at hu; injection hu with hu; subst hu
        rw [hb']; exact h2 j t ht
      · rw [if_neg e] at hu; exact h2 i' u hu
  · rw [hvs] at hi; rw [hv, hnow]
    rcases h.kind i hi with h1 | h1 | ⟨h1, h2, i', x, u, d, hh, ho⟩
    · exact .inl h1
    · exact .inr (.inl h1)
    · obtain ⟨u', hu'⟩ := F _ _ _ _ hh
      exact .inr (.inr ⟨h1, h2, i', x, u', d, hu', ho⟩)
  · rcases B _ _ _ _ hh with ⟨-, -, -, rfl⟩ | ⟨-, u0, h0, -, e⟩
    · cases ho
    · rw [hll, hv, ← e]; exact h.own i x u0 d y h0 ho
  · rw [hat]
    rcases B _ _ _ _ hh with ⟨-, rfl, rfl, rfl⟩ | ⟨-, u0, h0, e, -⟩
    · rw [hb']
    · rw [← e]; exact h.old i x u0 d h0
  · rcases B _ _ _ _ hh with ⟨-, rfl, -, -⟩ | ⟨-, u0, h0, e, -⟩
    · exact hk64
    · exact h.kin i x u0 d h0
  · rcases B _ _ _ _ hh with ⟨-, -, -, rfl⟩ | ⟨-, u0, h0, e, -⟩
    · cases ht
    · exact h.there i x u0 d h0 ht
  · rcases B _ _ _ _ h1 with ⟨rfl, rfl, -, -⟩ | ⟨-, u0, h0, -⟩
    · rcases B _ _ _ _ h2 with ⟨rfl, -⟩ | ⟨-, u0, h0, -⟩
      · rfl
      · exact (nob _ _ _ h0).elim
    · rcases B _ _ _ _ h2 with ⟨rfl, rfl, -, -⟩ | ⟨-, v0, h0', -⟩
      · exact (nob _ _ _ h0).elim
      · exact h.only i i' x u0 v0 d d' h0 h0'
  · rcases B _ _ _ _ h1 with ⟨-, -, -, rfl⟩ | ⟨-, u0, h0, -⟩
    · cases o1
    · rcases B _ _ _ _ h2 with ⟨-, -, -, rfl⟩ | ⟨-, v0, h0', -⟩
      · cases o2
      · exact h.inj i x i' x' u0 v0 d d' y h0 h0' o1 o2
  · rw [hvs] at hi; rw [hv] at hk ⊢
    rcases B _ _ _ _ hh with ⟨-, rfl, rfl, -⟩ | ⟨-, u0, h0, e, -⟩
    · rw [hb']; exact bars y hi hk
    · rw [← e]; exact h.bar i x u0 d y h0 hi hk
  · rw [hvs] at hi hi'
    rw [hv] at hk hb
    rw [hv] at hk hb'
    rw [hv, hv]
    exact h.apt i i' hi hi' hne hk hb hb'
  · rw [htx] at hu; rw [hnow, hmade]
    by_cases e : i = j
    · rw [if_pos e] at hu; injection hu with hu; subst hu
      rw [hb', hi', e]; exact h.beg j t ht
    · rw [if_neg e] at hu; exact h.beg i u hu
  · have bk : ∀ i u, s'.tx i = some u → ∃ u0, s.tx i = some u0 ∧ u0.id = u.id := by
      intro i u hu
      rw [htx] at hu
      by_cases e : i = j
      · rw [if_pos e] at hu; injection hu with hu; subst hu; rw [e]; exact ⟨t, ht, hi'.symm⟩
      · rw [if_neg e] at hu; exact ⟨u, hu, rfl⟩
    obtain ⟨u0, hu0, e1⟩ := bk i u h1
    obtain ⟨u1, hu1, e2⟩ := bk i' u' h2
    exact h.ids i i' u0 u1 hu0 hu1 (by rw [e1, e2]; exact e)
theorem Wf.grown {s : St} (h : Wf s) {j k : Nat} {t : Tx} {c : Cel} (hh : Has s j k t c) (hco : c.own = none) (x : Int) : Wf ((s.grow ⟨k, x, t.id, 0, 0, false⟩).setTx j (some (t.put k { c with own := some s.vs.length, there := true }))) := by
  have htb := h.beg j t hh.1
  obtain ⟨c', hc'⟩ : ∃ c', c' = ({ c with own := some s.vs.length, there := true } : Cel) := ⟨_, rfl⟩
  have co : c'.own = some s.vs.length := by rw [hc']
  have cd : c'.old = c.old := by rw [hc']
  rw [← hc']
  clear hc'
  have hcell : ∀ k', (t.put k c').cells k' = if k' = k then some c' else t.cells k' := fun k' => put_cells _ _ _ _
  obtain ⟨t', ht'⟩ : ∃ t', t' = t.put k c' := ⟨_, rfl⟩
  have hb' : t'.beg = t.beg := by rw [ht']; rfl
  have hi' : t'.id = t.id := by rw [ht']; rfl
  rw [← ht'] at hcell ⊢
  clear ht'
  obtain ⟨s', hs'⟩ : ∃ s', s' = (s.grow ⟨k, x, t.id, 0, 0, false⟩).setTx j (some t') := ⟨_, rfl⟩
  have htx : ∀ i, s'.tx i = if i = j then some t' else s.tx i := fun i => by rw [hs']; exact setTx_tx _ _ _ _
  have hnow : s'.now = s.now := by rw [hs']; rfl
  have hmade : s'.made = s.made := by rw [hs']; rfl
  have hll : s'.l = s.l ++ [s.vs.length] := by rw [hs']; rfl
  have hvs : s'.vs.length = s.vs.length + 1 := by rw [hs']; show (s.vs ++ [_]).length = _; simp
  have hv : ∀ i, i < s.vs.length → s'.ver i = s.ver i := fun i hi => by rw [hs']; exact ver_grow hi
  have hvn : s'.ver s.vs.length = ⟨k, x, t.id, 0, 0, false⟩ := by rw [hs']; exact ver_grow_new
  have hsl : s'.slots = s.slots := by rw [hs']; rfl
  rw [← hs']
  clear hs'
  have hat : ∀ k a, s'.at k a = s.at k a := fun k a => by
    unfold St.at
    rw [hll, List.find?_append]
    have e1 : List.find? (fun i => visB (s'.ver i) k a) s.l = List.find? (fun i => visB (s.ver i) k a) s.l := by
      apply find_congr
      intro i hi
      rw [hv i (h.lin i hi)]
    have e2 : List.find? (fun i => visB (s'.ver i) k a) [s.vs.length] = none := by
      simp [hvn, visB]
    rw [e1, e2, Option.or_none]
  have B : ∀ i y u d, Has s' i y u d → (i = j ∧ y = k ∧ u = t' ∧ d = c') ∨ (¬ (i = j ∧ y = k) ∧ ∃ u0, Has s i y u0 d ∧ u0.beg = u.beg ∧ u0.id = u.id) := by
    rintro i y u d ⟨h1, h2⟩
    rw [htx] at h1
    by_cases e : i = j
    · subst e
      rw [if_pos rfl] at h1; injection h1 with h1; subst h1
      rw [hcell] at h2
      by_cases e2 : y = k
      · rw [if_pos e2] at h2; injection h2 with h2
        exact .inl ⟨rfl, e2, rfl, h2.symm⟩
      · rw [if_neg e2] at h2
        exact .inr ⟨fun e => e2 e.2, t, ⟨hh.1, h2⟩, hb'.symm, hi'.symm⟩
    · rw [if_neg e] at h1
      exact .inr ⟨fun e' => e e'.1, u, ⟨h1, h2⟩, rfl, rfl⟩
  have F : ∀ i y u d z, Has s i y u d → d.own = some z → ∃ u', Has s' i y u' d := by
    rintro i y u d z ⟨h1, h2⟩ hz
    by_cases e : i = j
    · subst e
      rw [hh.1] at h1; injection h1 with h1; subst h1
      refine ⟨t', by rw [htx, if_pos rfl], ?_⟩
      rw [hcell, if_neg (fun e => by rw [e, hh.2] at h2; injection h2 with h2; rw [← h2, hco] at hz; cases hz)]; exact h2
    · exact ⟨u, by rw [htx, if_neg e]; exact h1, h2⟩
  have hhn : Has s' j k t' c' := ⟨by rw [htx, if_pos rfl], by rw [hcell, if_pos rfl]⟩
  have ownlt : ∀ i y u d z, Has s i y u d → d.own = some z → z < s.vs.length := fun i y u d z h0 hz => h.lin z (h.own i y u d z h0 hz).1
  refine ⟨by rw [hsl]; exact h.slots, ?_, fun i hi => ?_, fun i hi hm => ?_, fun i hi => ?_, fun i y u d z hh ho => ?_, fun i y u d hh => ?_, fun i y u d hh => ?_, fun i y u d hh ht => ?_, fun i i' y u u' d d' h1 h2 => ?_, fun i y i' y' u u' d d' z h1 h2 o1 o2 => ?_, fun i y u d z hh hi hk => ?_, fun i i' hi hi' hne hk hb hb' => ?_, by rw [hnow]; exact h.now, fun i u hu => ?_, fun i i' u u' h1 h2 e => ?_, by rw [hmade]; exact h.made⟩
  · rw [hll, List.nodup_append]
    refine ⟨h.nodup, by simp, fun a ha b hb e => ?_⟩
    have := h.lin a ha
    simp at hb
    omega
  · rw [hll] at hi
    rw [hvs]
    rcases List.mem_append.1 hi with h1 | h1
    · have := h.lin i h1; omega
    · simp at h1; omega
  · rw [hvs] at hi; rw [hll] at hm
    have hm1 : i ∉ s.l := fun e => hm (List.mem_append.2 (.inl e))
    have hm2 : i ≠ s.vs.length := fun e => hm (List.mem_append.2 (.inr (by simp [e])))
    rw [hv i (by omega)]
    rcases h.gone i (by omega) hm1 with h1 | ⟨h1, h2⟩
    · exact .inl h1
    · refine .inr ⟨h1, fun i' u hu => ?_⟩
      rw [htx] at hu
      by_cases e : i' = j
      · rw [if_pos e] at hu; injection hu with hu; subst hu
        rw [hb']; exact h2 j t hh.1
      · rw [if_neg e] at hu; exact h2 i' u hu
  · rw [hvs] at hi
    by_cases e : i = s.vs.length
    · subst e
      rw [hvn]
      exact .inr (.inr ⟨rfl, ⟨rfl, rfl⟩, j, k, t', c', hhn, co⟩)
    · rw [hv i (by omega), hnow]
      rcases h.kind i (by omega) with h1 | h1 | ⟨h1, h2, i', y, u, d, h0, ho⟩
      · exact .inl h1
      · exact .inr (.inl h1)
      · obtain ⟨u', hu'⟩ := F _ _ _ _ _ h0 ho
        exact .inr (.inr ⟨h1, h2, i', y, u', d, hu', ho⟩)
  · rcases B _ _ _ _ hh with ⟨rfl, rfl, rfl, rfl⟩ | ⟨-, u0, h0, -, e⟩
    · rw [co] at ho; injection ho with ho; subst ho
      rw [hvn, hll, hi']
      exact ⟨List.mem_append.2 (.inr (by simp)), rfl, rfl, ⟨rfl, rfl⟩, rfl⟩
    · rw [hll, hv z (ownlt _ _ _ _ _ h0 ho), ← e]
      have := h.own i y u0 d z h0 ho
      exact ⟨List.mem_append.2 (.inl this.1), this.2⟩
  · rw [hat]
    rcases B _ _ _ _ hh with ⟨rfl, rfl, rfl, rfl⟩ | ⟨-, u0, h0, e, -⟩
    · rw [hb', cd]; exact h.old i y t c ‹Has s i y t c›
    · rw [← e]; exact h.old i y u0 d h0
  · rcases B _ _ _ _ hh with ⟨rfl, rfl, -, -⟩ | ⟨-, u0, h0, e, -⟩
    · exact h.kin _ _ _ _ ‹Has s i y t c›
    · exact h.kin i y u0 d h0
  · rcases B _ _ _ _ hh with ⟨-, -, -, rfl⟩ | ⟨-, u0, h0, e, -⟩
    · rw [co]; rfl
    · exact h.there i y u0 d h0 ht
  · have bk : ∀ i y u d, Has s' i y u d → ∃ u0 d0, Has s i y u0 d0 := by
      intro i y u d h1
      rcases B _ _ _ _ h1 with ⟨rfl, rfl, -, -⟩ | ⟨-, u0, h0, -⟩
      · exact ⟨t, c, hh⟩
      · exact ⟨u0, d, h0⟩
    obtain ⟨u0, d0, h0⟩ := bk _ _ _ _ h1
    obtain ⟨u1, d1, h1'⟩ := bk _ _ _ _ h2
    exact h.only i i' y u0 u1 d0 d1 h0 h1'
  · rcases B _ _ _ _ h1 with ⟨rfl, rfl, -, rfl⟩ | ⟨n1, u0, h0, -⟩
    · rcases B _ _ _ _ h2 with ⟨rfl, rfl, -, -⟩ | ⟨-, v0, h0', -⟩
      · exact ⟨rfl, rfl⟩
      · rw [co] at o1; injection o1 with o1; subst o1
        have := ownlt _ _ _ _ _ h0' o2
        omega
    · rcases B _ _ _ _ h2 with ⟨rfl, rfl, -, rfl⟩ | ⟨-, v0, h0', -⟩
      · rw [co] at o2; injection o2 with o2; subst o2
        have := ownlt _ _ _ _ _ h0 o1
        omega
      · exact h.inj i y i' y' u0 v0 d d' z h0 h0' o1 o2
  · rw [hvs] at hi
    by_cases e : z = s.vs.length
    · subst e
      rw [hvn]
      rcases B _ _ _ _ hh with ⟨-, -, rfl, -⟩ | ⟨-, u0, h0, e, -⟩
      · rw [hb']; show (0 : Int) ≤ _ ∧ (0 : Int) ≤ _; omega
      · have := h.beg i u0 h0.1
        rw [← e]; show (0 : Int) ≤ _ ∧ (0 : Int) ≤ _; omega
    · rw [hv z (by omega)] at hk ⊢
      rcases B _ _ _ _ hh with ⟨rfl, rfl, rfl, -⟩ | ⟨-, u0, h0, e, -⟩
      · rw [hb']; exact h.bar i y t c z ‹Has s i y t c› (by omega) hk
      · rw [← e]; exact h.bar i y u0 d z h0 (by omega) hk
  · rw [hvs] at hi hi'
    by_cases e : i = s.vs.length
    · rw [e, hvn] at hb; exact absurd hb (by show ¬ ((0 : Int) < 0); decide)
    · by_cases e' : i' = s.vs.length
      · rw [e', hvn] at hb'; exact absurd hb' (by show ¬ ((0 : Int) < 0); decide)
      · rw [hv i (by omega)] at hk hb
        rw [hv i' (by omega)] at hk hb'
        rw [hv i (by omega), hv i' (by omega)]
        exact h.apt i i' (by omega) (by omega) hne hk hb hb'
  · rw [htx] at hu; rw [hnow, hmade]
    by_cases e : i = j
    · rw [if_pos e] at hu; injection hu with hu; subst hu
      rw [hb', hi', e]; exact h.beg j t hh.1
    · rw [if_neg e] at hu; exact h.beg i u hu
  · have bk : ∀ i u, s'.tx i = some u → ∃ u0, s.tx i = some u0 ∧ u0.id = u.id := by
      intro i u hu
      rw [htx] at hu
      by_cases e : i = j
      · rw [if_pos e] at hu; injection hu with hu; subst hu; rw [e]; exact ⟨t, hh.1, hi'.symm⟩
      · rw [if_neg e] at hu; exact ⟨u, hu, rfl⟩
    obtain ⟨u0, hu0, e1⟩ := bk i u h1
    obtain ⟨u1, hu1, e2⟩ := bk i' u' h2
    exact h.ids i i' u0 u1 hu0 hu1 (by rw [e1, e2]; exact e)
end Go.Proofs.Ytcbhafddehipdaa
namespace Go.Proofs.Ytcbhafddehipdaa
set_option linter.unusedVariables false
set_option linter.unusedSimpArgs false
theorem Has.other {s s' : St} {j : Nat} (htx : ∀ i, s'.tx i = if i = j then none else s.tx i) {i k : Nat} {t : Tx} {c : Cel} : Has s' i k t c ↔ i ≠ j ∧ Has s i k t c := by
  unfold Has
  rw [htx]
  by_cases e : i = j
  · rw [if_pos e]; simp [e]
  · rw [if_neg e]; simp [e]
theorem Wf.killed {s : St} (h : Wf s) {j : Nat} {t : Tx} (ht : s.tx j = some t) : Wf (s.kill j t) := by
  obtain ⟨s', hs'⟩ : ∃ s', s' = s.kill j t := ⟨_, rfl⟩
  have htx : ∀ i, s'.tx i = if i = j then none else s.tx i := fun i => by rw [hs']; rfl
  have hnow : s'.now = s.now := by rw [hs']; rfl
  have hmade : s'.made = s.made := by rw [hs']; rfl
  have hll : s'.l = s.l := by rw [hs']; rfl
  have hvs : s'.vs.length = s.vs.length := by rw [hs']; show (s.vs.mapIdx _).length = _; simp
  have hv : ∀ i, i < s.vs.length → s'.ver i = killV t.cells i (s.ver i) := fun i hi => by rw [hs']; exact ver_kill hi
  have hsl : s'.slots = s.slots := by rw [hs']; rfl
  rw [← hs']
  clear hs'
  have hk : ∀ i, (killV t.cells i (s.ver i)).key = (s.ver i).key ∧ (killV t.cells i (s.ver i)).beg = (s.ver i).beg ∧ (killV t.cells i (s.ver i)).fin = (s.ver i).fin ∧ (killV t.cells i (s.ver i)).by_ = (s.ver i).by_ := fun i => by
    unfold killV; split <;> exact ⟨rfl, rfl, rfl, rfl⟩
  have hat : ∀ k a, s'.at k a = s.at k a := fun k a => by
    unfold St.at
    rw [hll]
    apply find_congr
    intro i hi
    obtain ⟨h1, h2, h3, _⟩ := hk i
    rw [hv i (h.lin i hi)]
    unfold visB
    rw [h1, h2, h3]
  -- whose versions die
  have dies : ∀ i, i < s.vs.length → anyC t.cells (isOwn i) = true → ∃ k c, Has s j k t c ∧ c.own = some i := by
    intro i hi ha
    obtain ⟨k, c, _, hc, hp⟩ := anyC_iff.1 ha
    exact ⟨k, c, ⟨ht, hc⟩, by simpa [isOwn] using hp⟩
  have lives : ∀ i y u d z, i ≠ j → Has s i y u d → d.own = some z → s'.ver z = s.ver z := by
    intro i y u d z hne h0 hz
    rw [hv z (h.lin z (h.own i y u d z h0 hz).1)]
    unfold killV
    rw [if_neg]
    intro ha
    obtain ⟨k, c, hc, ho⟩ := dies z (h.lin z (h.own i y u d z h0 hz).1) ha
    exact hne (h.inj i y j k u t d c z h0 hc hz ho).1
  refine ⟨by rw [hsl]; exact h.slots, by rw [hll]; exact h.nodup, fun i hi => by rw [hvs]; exact h.lin i (by rw [← hll]; exact hi), fun i hi hm => ?_, fun i hi => ?_, fun i y u d z hh ho => ?_, fun i y u d hh => ?_, fun i y u d hh => h.kin i y u d (Has.other htx |>.1 hh).2, fun i y u d hh ht => h.there i y u d (Has.other htx |>.1 hh).2 ht, fun i i' y u u' d d' h1 h2 => h.only i i' y u u' d d' (Has.other htx |>.1 h1).2 (Has.other htx |>.1 h2).2, fun i y i' y' u u' d d' z h1 h2 o1 o2 => h.inj i y i' y' u u' d d' z (Has.other htx |>.1 h1).2 (Has.other htx |>.1 h2).2 o1 o2, fun i y u d z hh hi hkk => ?_, fun i i' hi hi' hne hkk hb hb' => ?_, by rw [hnow]; exact h.now, fun i u hu => ?_, fun i i' u u' h1 h2 e => ?_, by rw [hmade]; exact h.made⟩
  · rw [hvs] at hi; rw [hll] at hm
    rw [hv i hi]
    rcases h.gone i hi hm with h1 | ⟨h1, h2⟩
    · left
      unfold killV
      split
      · rfl
      · exact h1
    · right
      rw [(hk i).2.2.1]
      refine ⟨h1, fun i' u hu => ?_⟩
      rw [htx] at hu
      by_cases e : i' = j
      · rw [if_pos e] at hu; cases hu
      · rw [if_neg e] at hu; exact h2 i' u hu
  · rw [hvs] at hi
    rw [hv i hi, hnow]
    cases ha : anyC t.cells (isOwn i) with
    | true =>
      obtain ⟨k, c, hc, ho⟩ := dies i hi ha
      obtain ⟨_, _, _, r, _⟩ := h.own j k t c i hc ho
      left
      unfold killV
      rw [if_pos ha]
      exact ⟨rfl, r⟩
    | false =>
      have e : killV t.cells i (s.ver i) = s.ver i := by unfold killV; rw [ha]; rfl
      rw [e]
      rcases h.kind i hi with h1 | h1 | ⟨h1, h2, i', y, u, d, h0, ho⟩
      · exact .inl h1
      · exact .inr (.inl h1)
      · refine .inr (.inr ⟨h1, h2, i', y, u, d, (Has.other htx).2 ⟨fun e => ?_, h0⟩, ho⟩)
        subst e
        have := h0.1
        rw [ht] at this; injection this with this; subst this
        have := anyC_iff.2 ⟨y, d, h.kin _ _ _ _ h0, h0.2, (show isOwn i d = true by simp [isOwn, ho])⟩
        rw [ha] at this; cases this
  · obtain ⟨hne, h0⟩ := (Has.other htx).1 hh
    rw [lives i y u d z hne h0 ho, hll]
    exact h.own i y u d z h0 ho
  · rw [hat]; exact h.old i y u d ((Has.other htx).1 hh).2
  · rw [hvs] at hi
    rw [hv z hi] at hkk ⊢
    rw [(hk z).1] at hkk
    rw [(hk z).2.1, (hk z).2.2.1]
    exact h.bar i y u d z ((Has.other htx).1 hh).2 hi hkk
  · rw [hvs] at hi hi'
    rw [hv i hi] at hkk hb
    rw [hv i' hi'] at hkk hb'
    rw [(hk i).1, (hk i').1] at hkk
    rw [(hk i).2.1] at hb
    rw [(hk i').2.1] at hb'
    have := h.apt i i' hi hi' hne hkk hb hb'
    rw [hv i hi, hv i' hi']
    unfold Apt at *
    rw [(hk i).2.1, (hk i').2.1, (hk i).2.2.1, (hk i').2.2.1]; exact this
  · rw [htx] at hu; rw [hnow, hmade]
    by_cases e : i = j
    · rw [if_pos e] at hu; cases hu
    · rw [if_neg e] at hu; exact h.beg i u hu
  · rw [htx] at h1 h2
    by_cases e1 : i = j
    · rw [if_pos e1] at h1; cases h1
    · by_cases e2 : i' = j
      · rw [if_pos e2] at h2; cases h2
      · rw [if_neg e1] at h1; rw [if_neg e2] at h2
        exact h.ids i i' u u' h1 h2 e
theorem Wf.ticked {s : St} (h : Wf s) : Wf s.tick := by
  refine ⟨h.slots, h.nodup, h.lin, h.gone, fun i hi => ?_, h.own, h.old, h.kin, h.there, h.only, h.inj, h.bar, h.apt, by have := h.now; show 0 ≤ s.now + 1; omega, fun j t ht => by have := h.beg j t ht; show 0 < t.beg ∧ t.beg ≤ s.now + 1 ∧ 0 < t.id ∧ t.id ≤ s.made ∧ j < 8; omega, h.ids, h.made⟩
  rcases h.kind i hi with h1 | h1 | h1
  · exact .inl h1
  · obtain ⟨c1, c2, c3, c4⟩ := h1
    refine .inr (.inl ⟨c1, c2, ?_, ?_⟩)
    · show (s.ver i).beg ≤ s.now + 1; omega
    · have hc : (s.ver i).fin = 0 ∨ (s.ver i).beg ≤ (s.ver i).fin ∧ (s.ver i).fin ≤ s.now + 1 := by omega
      exact hc
  · exact .inr (.inr h1)
theorem Wf.did {s : St} (h : Wf s) {j : Nat} {t : Tx} (ht : s.tx j = some t) (hfresh : ∀ i u, s.tx i = some u → u.beg < s.now) (hf2 : ∀ i, i < s.vs.length → (s.ver i).beg < s.now ∧ (s.ver i).fin < s.now) : Wf (s.done j t) := by
  obtain ⟨s', hs'⟩ : ∃ s', s' = s.done j t := ⟨_, rfl⟩
  have htx : ∀ i, s'.tx i = if i = j then none else s.tx i := fun i => by rw [hs']; rfl
  have hnow : s'.now = s.now := by rw [hs']; rfl
  have hmade : s'.made = s.made := by rw [hs']; rfl
  have hll : s'.l = s.l := by rw [hs']; rfl
  have hvs : s'.vs.length = s.vs.length := by rw [hs']; show (s.vs.mapIdx _).length = _; simp
  have hv : ∀ i, i < s.vs.length → s'.ver i = doneV t.cells s.now i (s.ver i) := fun i hi => by rw [hs']; exact ver_done hi
  have hsl : s'.slots = s.slots := by rw [hs']; rfl
  rw [← hs']
  clear hs'
  have oOwn : ∀ i, anyC t.cells (isOwn i) = true ↔ ∃ k c, Has s j k t c ∧ c.own = some i := by
    intro i
    rw [anyC_iff]
    constructor
    · rintro ⟨k, c, _, hc, hp⟩; exact ⟨k, c, ⟨ht, hc⟩, by simpa [isOwn] using hp⟩
    · rintro ⟨k, c, hc, hp⟩; exact ⟨k, c, h.kin _ _ _ _ hc, hc.2, by simp [isOwn, hp]⟩
  have oOld : ∀ i, anyC t.cells (isOld i) = true ↔ ∃ k c, Has s j k t c ∧ c.old = some i := by
    intro i
    rw [anyC_iff]
    constructor
    · rintro ⟨k, c, _, hc, hp⟩; exact ⟨k, c, ⟨ht, hc⟩, by simpa [isOld] using hp⟩
    · rintro ⟨k, c, hc, hp⟩; exact ⟨k, c, h.kin _ _ _ _ hc, hc.2, by simp [isOld, hp]⟩
  have oGone : ∀ i, anyC t.cells (isGone i) = true → anyC t.cells (isOwn i) = true := by
    intro i hg
    obtain ⟨k, c, hk, hc, hp⟩ := anyC_iff.1 hg
    exact anyC_iff.2 ⟨k, c, hk, hc, by simp [isGone] at hp; simp [isOwn, hp.1]⟩
  -- a version that the transaction does not touch
  have same : ∀ i, i < s.vs.length → anyC t.cells (isOwn i) = false → anyC t.cells (isOld i) = false → s'.ver i = s.ver i := by
    intro i hi h1 h2
    have h3 : anyC t.cells (isGone i) = false := by
      cases e : anyC t.cells (isGone i) with
      | false => rfl
      | true => rw [oGone i e] at h1; cases h1
    rw [hv i hi]
    unfold doneV
    rw [h1, h2, h3]
    rfl
  -- the ones that it made
  have made : ∀ i, i < s.vs.length → anyC t.cells (isOwn i) = true → (s'.ver i).key = (s.ver i).key ∧ (s'.ver i).beg = s.now ∧ ((s'.ver i).fin = 0 ∨ (s'.ver i).fin = s.now) ∧ (s'.ver i).dead = (s.ver i).dead ∧ Raw (s.ver i) := by
    intro i hi h1
    obtain ⟨k, c, hc, ho⟩ := (oOwn i).1 h1
    obtain ⟨_, _, _, r, _⟩ := h.own j k t c i hc ho
    rw [hv i hi]
    refine ⟨rfl, ?_, ?_, rfl, r⟩
    · show (if anyC t.cells (isOwn i) then s.now else _) = s.now
      rw [h1]; rfl
    · show (if anyC t.cells (isOld i) || anyC t.cells (isGone i) then s.now else (s.ver i).fin) = 0 ∨ (if anyC t.cells (isOld i) || anyC t.cells (isGone i) then s.now else (s.ver i).fin) = s.now
      split
      · exact .inr rfl
      · exact .inl r.2
  -- the ones that it ended
  have ended : ∀ i, i < s.vs.length → anyC t.cells (isOwn i) = false → anyC t.cells (isOld i) = true → (s'.ver i).key = (s.ver i).key ∧ (s'.ver i).beg = (s.ver i).beg ∧ (s'.ver i).fin = s.now ∧ (s'.ver i).dead = (s.ver i).dead := by
    intro i hi h1 h2
    rw [hv i hi]
    refine ⟨rfl, ?_, ?_, rfl⟩
    · show (if anyC t.cells (isOwn i) then s.now else _) = _
      rw [h1]; rfl
    · show (if anyC t.cells (isOld i) || anyC t.cells (isGone i) then s.now else _) = _
      rw [h2]; rfl
  have oldfact : ∀ i k c, Has s j k t c → c.old = some i → i ∈ s.l ∧ Vis (s.ver i) k t.beg := by
    intro i k c hc ho
    rw [h.old j k t c hc] at ho
    exact h.at_some.1 ho
  have key : ∀ i, i < s.vs.length → (s'.ver i).key = (s.ver i).key := by
    intro i hi
    rw [hv i hi]; rfl
  have dead : ∀ i, i < s.vs.length → (s'.ver i).dead = (s.ver i).dead := by
    intro i hi
    rw [hv i hi]; rfl
  -- what others have a cell of is not touched
  have far : ∀ i y u d z, i ≠ j → Has s i y u d → z < s.vs.length → (s.ver z).key = (y : Int) → s'.ver z = s.ver z := by
    intro i y u d z hne h0 hz hk
    apply same z hz
    · cases e : anyC t.cells (isOwn z) with
      | false => rfl
      | true =>
        obtain ⟨k, c, hc, ho⟩ := (oOwn z).1 e
        have hkz := (h.own j k t c z hc ho).2.1
        have : k = y := by omega
        subst this
        exact absurd (h.only j i k t u c d hc h0) hne
    · cases e : anyC t.cells (isOld z) with
      | false => rfl
      | true =>
        obtain ⟨k, c, hc, ho⟩ := (oOld z).1 e
        have hkz := (oldfact z k c hc ho).2.1
        have : k = y := by omega
        subst this
        exact absurd (h.only j i k t u c d hc h0) hne
  have hat : ∀ i y u d, i ≠ j → Has s i y u d → s'.at y u.beg = s.at y u.beg := by
    intro i y u d hne h0
    unfold St.at
    rw [hll]
    apply find_congr
    intro z hz
    by_cases hk : (s.ver z).key = (y : Int)
    · rw [far i y u d z hne h0 (h.lin z hz) hk]
    · have hk' : ¬ (s'.ver z).key = (y : Int) := by rw [key z (h.lin z hz)]; exact hk
      unfold visB
      simp [hk, hk']
  have ownfar : ∀ i y u d z, i ≠ j → Has s i y u d → d.own = some z → s'.ver z = s.ver z := fun i y u d z hne h0 hz => by
    obtain ⟨a1, a2, _⟩ := h.own i y u d z h0 hz
    exact far i y u d z hne h0 (h.lin z a1) a2
  refine ⟨by rw [hsl]; exact h.slots, by rw [hll]; exact h.nodup, fun i hi => by rw [hvs]; exact h.lin i (by rw [← hll]; exact hi), fun i hi hm => ?_, fun i hi => ?_, fun i y u d z hh ho => ?_, fun i y u d hh => ?_, fun i y u d hh => h.kin i y u d (Has.other htx |>.1 hh).2, fun i y u d hh ht => h.there i y u d (Has.other htx |>.1 hh).2 ht, fun i i' y u u' d d' h1 h2 => h.only i i' y u u' d d' (Has.other htx |>.1 h1).2 (Has.other htx |>.1 h2).2, fun i y i' y' u u' d d' z h1 h2 o1 o2 => h.inj i y i' y' u u' d d' z (Has.other htx |>.1 h1).2 (Has.other htx |>.1 h2).2 o1 o2, fun i y u d z hh hi hkk => ?_, fun i i' hi hi' hne hkk hb hb' => ?_, by rw [hnow]; exact h.now, fun i u hu => ?_, fun i i' u u' h1 h2 e => ?_, by rw [hmade]; exact h.made⟩
  · rw [hvs] at hi; rw [hll] at hm
    have e1 : anyC t.cells (isOwn i) = false := by
      cases e : anyC t.cells (isOwn i) with
      | false => rfl
      | true =>
        obtain ⟨k, c, hc, ho⟩ := (oOwn i).1 e
        exact absurd (h.own j k t c i hc ho).1 hm
    have e2 : anyC t.cells (isOld i) = false := by
      cases e : anyC t.cells (isOld i) with
      | false => rfl
      | true =>
        obtain ⟨k, c, hc, ho⟩ := (oOld i).1 e
        exact absurd (oldfact i k c hc ho).1 hm
    rw [same i hi e1 e2]
    rcases h.gone i hi hm with h1 | ⟨h1, h2⟩
    · exact .inl h1
    · refine .inr ⟨h1, fun i' u hu => ?_⟩
      rw [htx] at hu
      by_cases e : i' = j
      · rw [if_pos e] at hu; cases hu
      · rw [if_neg e] at hu; exact h2 i' u hu
  · rw [hvs] at hi
    have hn0 : 0 < s.now := by have := hfresh j t ht; have := h.beg j t ht; omega
    rw [hnow]
    cases e1 : anyC t.cells (isOwn i) with
    | true =>
      obtain ⟨m1, m2, m3, m4, r⟩ := made i hi e1
      obtain ⟨k, c, hc, ho⟩ := (oOwn i).1 e1
      have hd := (h.own j k t c i hc ho).2.2.1
      refine .inr (.inl ⟨by rw [m4]; exact hd, by rw [m2]; exact hn0, by rw [m2]; exact Int.le_refl _, ?_⟩)
      rw [m2]
      rcases m3 with m3 | m3 <;> rw [m3]
      · exact .inl rfl
      · exact .inr ⟨Int.le_refl _, Int.le_refl _⟩
    | false =>
      cases e2 : anyC t.cells (isOld i) with
      | true =>
        obtain ⟨m1, m2, m3, m4⟩ := ended i hi e1 e2
        obtain ⟨k, c, hc, ho⟩ := (oOld i).1 e2
        have hv := (oldfact i k c hc ho).2
        have hb := (h.fin_le hi).2.1
        refine .inr (.inl ⟨?_, by rw [m2]; exact hv.2.1, by rw [m2]; exact hb, .inr ⟨by rw [m2, m3]; exact hb, by rw [m3]; exact Int.le_refl _⟩⟩)
        rw [m4]
        cases hd : (s.ver i).dead with
        | false => rfl
        | true => have := (h.dead_raw hi hd).1; have := hv.2.1; omega
      | false =>
        rw [same i hi e1 e2]
        rcases h.kind i hi with h1 | h1 | ⟨h1, h2, i', y, u, d, h0, ho⟩
        · exact .inl h1
        · exact .inr (.inl h1)
        · refine .inr (.inr ⟨h1, h2, i', y, u, d, (Has.other htx).2 ⟨fun e => ?_, h0⟩, ho⟩)
          subst e
          have := h0.1
          rw [ht] at this; injection this with this; subst this
          rw [(oOwn i).2 ⟨y, d, h0, ho⟩] at e1; cases e1
  · obtain ⟨hne, h0⟩ := (Has.other htx).1 hh
    rw [ownfar i y u d z hne h0 ho, hll]
    exact h.own i y u d z h0 ho
  · obtain ⟨hne, h0⟩ := (Has.other htx).1 hh
    rw [hat i y u d hne h0]; exact h.old i y u d h0
  · obtain ⟨hne, h0⟩ := (Has.other htx).1 hh
    rw [hvs] at hi
    rw [key z hi] at hkk
    rw [far i y u d z hne h0 hi hkk]
    exact h.bar i y u d z h0 hi hkk
  · rw [hvs] at hi hi'
    rw [key i hi, key i' hi'] at hkk
    -- a version of that key that the transaction did not make, beside one that it made
    have P : ∀ i i', i < s.vs.length → i' < s.vs.length → i ≠ i' → (s.ver i).key = (s.ver i').key → 0 < (s'.ver i').beg → anyC t.cells (isOwn i) = true → anyC t.cells (isOwn i') = false → (s'.ver i').fin ≠ 0 ∧ (s'.ver i').fin ≤ (s'.ver i).beg := by
      intro i i' hi hi' hne hkk hb' e1 e1'
      obtain ⟨m1, m2, m3, m4, r⟩ := made i hi e1
      obtain ⟨k, c, hc, ho⟩ := (oOwn i).1 e1
      have hki := (h.own j k t c i hc ho).2.1
      have hbar := h.bar j k t c i' hc hi' (by rw [← hkk]; exact hki)
      have hfr := hfresh j t ht
      rw [m2]
      cases e2' : anyC t.cells (isOld i') with
      | true =>
        obtain ⟨n1, n2, n3, n4⟩ := ended i' hi' e1' e2'
        rw [n3]
        have := h.beg j t ht
        exact ⟨by omega, Int.le_refl _⟩
      | false =>
        rw [same i' hi' e1' e2'] at hb' ⊢
        refine ⟨fun hz => ?_, by omega⟩
        -- it would be the one that is there at the begin
        have hvis : Vis (s.ver i') k t.beg := ⟨by rw [← hkk]; exact hki, hb', hbar.1, .inl hz⟩
        have hin := h.in_l hi' hvis (.inr ⟨j, t, ht, Int.le_refl _⟩)
        have hat := h.at_some.2 ⟨hin, hvis⟩
        rw [← h.old j k t c hc] at hat
        rw [(oOld i').2 ⟨k, c, hc, hat⟩] at e2'
        cases e2'
    unfold Apt
    cases e1 : anyC t.cells (isOwn i) with
    | true =>
      cases e1' : anyC t.cells (isOwn i') with
      | true =>
        obtain ⟨k, c, hc, ho⟩ := (oOwn i).1 e1
        obtain ⟨k', c', hc', ho'⟩ := (oOwn i').1 e1'
        have a1 := (h.own j k t c i hc ho).2.1
        have a2 := (h.own j k' t c' i' hc' ho').2.1
        have : k = k' := by omega
        subst this
        have e := hc.2
        rw [hc'.2] at e
        injection e with e
        subst e
        rw [ho] at ho'
        injection ho' with ho'
        exact absurd ho' hne
      | false => exact .inr (P i i' hi hi' hne hkk hb' e1 e1')
    | false =>
      cases e1' : anyC t.cells (isOwn i') with
      | true => exact .inl (P i' i hi' hi (Ne.symm hne) hkk.symm hb e1' e1)
      | false =>
        have fb : ∀ i, i < s.vs.length → anyC t.cells (isOwn i) = false → (s'.ver i).beg = (s.ver i).beg ∧ ((s'.ver i).fin = (s.ver i).fin ∨ ((s'.ver i).fin = s.now ∧ ((s.ver i).fin = 0 ∨ t.beg < (s.ver i).fin) ∧ (s.ver i).beg ≤ t.beg ∧ ∃ k c, Has s j k t c ∧ (s.ver i).key = (k : Int))) := by
          intro i hi e1
          cases e2 : anyC t.cells (isOld i) with
          | true =>
            obtain ⟨n1, n2, n3, n4⟩ := ended i hi e1 e2
            obtain ⟨k, c, hc, ho⟩ := (oOld i).1 e2
            have hv := (oldfact i k c hc ho).2
            exact ⟨n2, .inr ⟨n3, hv.2.2.2, hv.2.2.1, k, c, hc, hv.1⟩⟩
          | false => rw [same i hi e1 e2]; exact ⟨rfl, .inl rfl⟩
        obtain ⟨b1, f1⟩ := fb i hi e1
        obtain ⟨b2, f2⟩ := fb i' hi' e1'
        rw [b1] at hb
        rw [b2] at hb'
        have A := h.apt i i' hi hi' hne hkk hb hb'
        unfold Apt at A
        rw [b1, b2]
        have q1 := hf2 i hi
        have q2 := hf2 i' hi'
        have hn0 : 0 < s.now := by have := hfresh j t ht; have := h.beg j t ht; omega
        have bars : ∀ i, i < s.vs.length → (∃ k c, Has s j k t c ∧ (s.ver i).key = (k : Int)) → (s.ver i).fin ≤ t.beg := by
          rintro i hi ⟨k, c, hc, hk⟩
          exact (h.bar j k t c i hc hi hk).2
        rcases f1 with f1 | ⟨f1, g1, g1', g1''⟩
        · rcases f2 with f2 | ⟨f2, g2, g2', g2''⟩
          · rw [f1, f2]; exact A
          · have := bars i' hi' g2''
            rw [f1, f2]
            have h0 : (s.ver i').fin = 0 := by omega
            rcases A with ⟨x, y⟩ | ⟨x, y⟩
            · exact .inl ⟨x, y⟩
            · exact absurd h0 x
        · have := bars i hi g1''
          have h0 : (s.ver i).fin = 0 := by omega
          rcases f2 with f2 | ⟨f2, g2, g2', g2''⟩
          · rw [f1, f2]
            rcases A with ⟨x, y⟩ | ⟨x, y⟩
            · exact absurd h0 x
            · exact .inr ⟨x, y⟩
          · have := bars i' hi' g2''
            have h0' : (s.ver i').fin = 0 := by omega
            rcases A with ⟨x, y⟩ | ⟨x, y⟩
            · exact absurd h0 x
            · exact absurd h0' x
  · rw [htx] at hu; rw [hnow, hmade]
    by_cases e : i = j
    · rw [if_pos e] at hu; cases hu
    · rw [if_neg e] at hu; exact h.beg i u hu
  · rw [htx] at h1 h2
    by_cases e1 : i = j
    · rw [if_pos e1] at h1; cases h1
    · by_cases e2 : i' = j
      · rw [if_pos e2] at h2; cases h2
      · rw [if_neg e1] at h1; rw [if_neg e2] at h2
        exact h.ids i i' u u' h1 h2 e
theorem Wf.committed {s : St} (h : Wf s) {j : Nat} {t : Tx} (ht : s.tx j = some t) : Wf (s.tick.done j t) := by
  refine h.ticked.did ht (fun i u hu => ?_) (fun i hi => ?_)
  · have := h.beg i u hu
    show u.beg < s.now + 1
    omega
  · have := h.fin_le hi
    show (s.ver i).beg < s.now + 1 ∧ (s.ver i).fin < s.now + 1
    omega
end Go.Proofs.Ytcbhafddehipdaa
namespace Go.Proofs.Ytcbhafddehipdaa
set_option linter.unusedVariables false
set_option linter.unusedSimpArgs false
theorem upd_again {α : Type} (f : Nat → α) (j : Nat) (x y : α) : upd (upd f j x) j y = upd f j y := by
  funext i; unfold upd; split <;> rfl
theorem put_again (t : Tx) (k : Nat) (a b : Cel) : (t.put k a).put k b = t.put k b := by
  unfold Tx.put; rw [upd_again]
theorem setTx_again (s : St) (j : Nat) (a b : Option Tx) : (s.setTx j a).setTx j b = s.setTx j b := by
  unfold St.setTx; simp only; rw [upd_again]
theorem setTx_grow (s : St) (j : Nat) (a b : Option Tx) (v : Ver) : ((s.setTx j a).grow v).setTx j b = (s.grow v).setTx j b := by
  unfold St.setTx St.grow; simp only; rw [upd_again]
theorem kill_congr (s : St) (j : Nat) (a : Option Tx) (t t' : Tx) (h : ∀ i, anyC t'.cells (isOwn i) = anyC t.cells (isOwn i)) : (s.setTx j a).kill j t' = s.kill j t := by
  unfold St.kill St.setTx
  simp only
  rw [upd_again, show killV t'.cells = killV t.cells from funext fun i => funext fun v => by unfold killV; rw [h]]
theorem anyC_put {f : Nat → Option Cel} {k : Nat} {c : Cel} {p : Cel → Bool} (h : f k = none) (hp : p c = false) : anyC (upd f k (some c)) p = anyC f p := by
  rw [Bool.eq_iff_iff, anyC_iff, anyC_iff]
  constructor
  · rintro ⟨i, d, hi, hd, hpd⟩
    by_cases e : i = k
    · subst e
      rw [upd_same] at hd; injection hd with hd; subst hd
      rw [hp] at hpd; cases hpd
    · rw [upd_other _ _ _ e] at hd; exact ⟨i, d, hi, hd, hpd⟩
  · rintro ⟨i, d, hi, hd, hpd⟩
    refine ⟨i, d, hi, ?_, hpd⟩
    rw [upd_other _ _ _ (fun e => by rw [e, h] at hd; cases hd)]; exact hd
theorem look_id (t : Tx) (k : Nat) : (t.look k).id = t.id := by unfold Tx.look; split <;> rfl
theorem mark_id (t : Tx) (k : Nat) : (t.mark k).id = t.id := by unfold Tx.mark; split <;> rfl
theorem Wf.begin {s : St} (h : Wf s) (j level : Int) : Wf (s.begin j level).2.2 := by
  unfold St.begin
  split
  · rename_i hs
    split
    · exact h
    · rename_i hn
      split
      · exact h
      · split
        · exact h
        · refine h.begun ?_ (by simpa using hn) level _ rfl
          simp [sessB] at hs; omega
  · exact h
end Go.Proofs.Ytcbhafddehipdaa
namespace Go.Proofs.Ytcbhafddehipdaa
set_option linter.unusedVariables false
set_option linter.unusedSimpArgs false
def KeyIn (s : St) : Prop := ∀ i, i < s.vs.length → ∃ k : Nat, k < 64 ∧ (s.ver i).key = (k : Int)
/-- n more versions at most; the keys stay; the slots stay. -/
def Few (s s' : St) (n : Nat) : Prop := s'.slots = s.slots ∧ s'.limit = s.limit ∧ s'.vs.length ≤ s.vs.length + n ∧ (KeyIn s → KeyIn s')
theorem Few.refl (s : St) (n : Nat) : Few s s n := ⟨rfl, rfl, by omega, fun h => h⟩
theorem Few.kill (s : St) (j : Nat) (t : Tx) : Few s (s.kill j t) 0 := by
  refine ⟨rfl, rfl, by show (s.vs.mapIdx _).length ≤ _; simp, fun h i hi => ?_⟩
  have hi' : i < s.vs.length := by have : (s.kill j t).vs.length = s.vs.length := by show (s.vs.mapIdx _).length = _; simp
                                   omega
  rw [ver_kill hi']
  have : (killV t.cells i (s.ver i)).key = (s.ver i).key := by unfold killV; split <;> rfl
  rw [this]; exact h i hi'
theorem Few.done (s : St) (j : Nat) (t : Tx) : Few s (s.done j t) 0 := by
  refine ⟨rfl, rfl, by show (s.vs.mapIdx _).length ≤ _; simp, fun h i hi => ?_⟩
  have hi' : i < s.vs.length := by have : (s.done j t).vs.length = s.vs.length := by show (s.vs.mapIdx _).length = _; simp
                                   omega
  rw [ver_done hi']
  exact h i hi'
theorem Few.setVal (s : St) (i : Nat) (x : Int) : Few s (s.setVal i x) 0 := by
  refine ⟨rfl, rfl, by show (s.vs.set i _).length ≤ _; simp, fun h y hy => ?_⟩
  have hy' : y < s.vs.length := by have : (s.setVal i x).vs.length = s.vs.length := by show (s.vs.set i _).length = _; simp
                                   omega
  rw [ver_setVal]
  split
  · rename_i e; rw [← e.1]; exact h y hy'
  · exact h y hy'
theorem few_begin (s : St) (j level : Int) : Few s (s.begin j level).2.2 0 := by
  unfold St.begin
  split
  · split
    · exact Few.refl _ _
    · split
      · exact Few.refl _ _
      · split
        · exact Few.refl _ _
        · exact ⟨rfl, rfl, Nat.le_refl _, fun h => h⟩
  · exact Few.refl _ _
end Go.Proofs.Ytcbhafddehipdaa
namespace Go.Proofs.Ytcbhafddehipdaa
set_option linter.unusedVariables false
set_option linter.unusedSimpArgs false
/-- A live cell ends version i. -/
def Ends_ (s : St) (i j k : Nat) (t : Tx) (c : Cel) : Prop := Has s j k t c ∧ (c.old = some i ∨ (c.own = some i ∧ c.there = false))
structure SimV (s : St) (i : Nat) (v : RVer) : Prop where
  key : v.key = (s.ver i).key
  value : v.value = (s.ver i).value
  dead : v.dead = (s.ver i).dead
  beg : v.beg = (s.ver i).beg
  fin : v.fin = (s.ver i).fin
  by_ : v.by_ = if (s.ver i).beg = 0 then (s.ver i).by_ else 0
  ends : ∀ j k t c, Ends_ s i j k t c → v.ended = t.id
  free : (∀ j k t c, ¬ Ends_ s i j k t c) → v.ended = 0
structure SimT (t : Tx) (r : RTx) : Prop where
  id : r.id = t.id
  level : r.level = t.level
  ops : r.ops = t.ops
  beg : r.beg = t.beg
  wrote : ∀ k : Nat, k < 64 → hasB r.wrote (k : Int) = (t.cells k).isSome
  looked : ∀ k : Nat, k < 64 → (t.looked k = true ↔ ∃ x ∈ r.reads, x.lo ≤ (k : Int) ∧ (k : Int) ≤ x.hi)
  got : ∀ k : Nat, k < 64 → (t.got k = true ↔ ∃ x ∈ r.reads, x.found = true ∧ x.lo ≤ (k : Int) ∧ (k : Int) ≤ x.hi)
structure Sim (s : St) (r : RSt) : Prop where
  wf : Wf s
  keys : KeyIn s
  slots : r.slots = s.slots
  limit : r.limit = s.limit
  time : r.time = s.now
  made : r.made = s.made
  len : r.v.length = s.l.length
  ver : ∀ p, p < s.l.length → SimV s (s.l.getD p 0) (r.v.getD p default)
  none_ : ∀ j, j < 8 → s.tx j = none → r.s j = RTx.zero
  some_ : ∀ j t, s.tx j = some t → SimT t (r.s j)
  maker : ∀ i, i < s.vs.length → 0 < (s.ver i).by_ ∧ (s.ver i).by_ ≤ s.made
  lost : ∀ i j t, i < s.vs.length → (s.ver i).dead = true → s.tx j = some t → (s.ver i).by_ ≠ t.id
/-- Where the number i stands in a row. -/
def Pos (l : List Nat) : Option Nat → Option Nat → Prop
  | none, none => True
  | some i, some p => p < l.length ∧ l.getD p 0 = i
  | _, _ => False
theorem find_pos {α : Type} [Inhabited α] {l : List Nat} {v : List α} {f : Nat → Bool} {g : α → Bool} (hl : v.length = l.length) (h : ∀ p, p < l.length → g (v.getD p default) = f (l.getD p 0)) : Pos l (l.find? f) (v.findIdx? g) := by
  induction l generalizing v with
  | nil =>
    have : v = [] := List.eq_nil_of_length_eq_zero (by simpa using hl)
    subst this
    trivial
  | cons a l ih =>
    cases v with
    | nil => simp at hl
    | cons b v =>
      rw [List.find?_cons, List.findIdx?_cons]
      have h0 := h 0 (by simp)
      simp only [List.getD_cons_zero] at h0
      rw [h0]
      cases f a with
      | true => exact ⟨by simp, rfl⟩
      | false =>
        have := ih (v := v) (by simpa using hl) (fun p hp => by simpa using h (p + 1) (by simpa using hp))
        simp only
        cases hf : l.find? f with
        | none =>
          rw [hf] at this
          cases hg : v.findIdx? g with
          | none => trivial
          | some q => rw [hg] at this; exact this.elim
        | some i =>
          rw [hf] at this
          cases hg : v.findIdx? g with
          | none => rw [hg] at this; exact this.elim
          | some q => rw [hg] at this; exact ⟨by simpa using this.1, by simpa using this.2⟩
theorem fidx_at {α : Type} [Inhabited α] {v : List α} {g : α → Bool} {p : Nat} (hp : p < v.length) (h : g (v.getD p default) = true) (hu : ∀ q, q < v.length → q ≠ p → g (v.getD q default) = false) : v.findIdx? g = some p :=
  fidx_some hp (fun i hi => hu i (by omega) (by omega)) h
theorem getD_mem {l : List Nat} {p : Nat} (hp : p < l.length) : l.getD p 0 ∈ l := by
  rw [List.getD_eq_getElem?_getD, List.getElem?_eq_getElem hp]; exact List.getElem_mem hp
theorem mem_getD {l : List Nat} {i : Nat} (h : i ∈ l) : ∃ p, p < l.length ∧ l.getD p 0 = i := by
  obtain ⟨p, hp, e⟩ := List.getElem_of_mem h
  exact ⟨p, hp, by rw [List.getD_eq_getElem?_getD, List.getElem?_eq_getElem hp]; exact e⟩
theorem nodup_pos {l : List Nat} (h : l.Nodup) {p q : Nat} (hp : p < l.length) (hq : q < l.length) (e : l.getD p 0 = l.getD q 0) : p = q := by
  rw [List.getD_eq_getElem?_getD, List.getD_eq_getElem?_getD, List.getElem?_eq_getElem hp, List.getElem?_eq_getElem hq] at e
  have h' := List.pairwise_iff_getElem.1 h
  have e' : l[p] = l[q] := e
  rcases Nat.lt_trichotomy p q with h1 | h1 | h1
  · exact absurd e' (h' p q hp hq h1)
  · exact h1
  · exact absurd e'.symm (h' q p hq hp h1)
theorem pos_eq {l : List Nat} (h : l.Nodup) {o o' p p' : Option Nat} (a : Pos l o p) (b : Pos l o' p') : p = p' ↔ o = o' := by
  cases o with
  | none =>
    cases p with
    | some _ => exact a.elim
    | none =>
      cases o' with
      | none => cases p' with
        | none => simp
        | some _ => exact b.elim
      | some _ => cases p' with
        | none => exact b.elim
        | some _ => simp
  | some i =>
    cases p with
    | none => exact a.elim
    | some x =>
      cases o' with
      | none => cases p' with
        | none => simp
        | some _ => exact b.elim
      | some i' => cases p' with
        | none => exact b.elim
        | some x' =>
          obtain ⟨a1, a2⟩ := a
          obtain ⟨b1, b2⟩ := b
          constructor
          · intro e; injection e with e; subst e; rw [← a2, ← b2]
          · intro e; injection e with e; subst e; rw [nodup_pos h a1 b1 (a2.trans b2.symm)]
theorem pos_some {l : List Nat} {o p : Option Nat} (a : Pos l o p) : p.isSome = o.isSome := by
  cases o <;> cases p <;> first | rfl | exact a.elim
variable {s : St} {r : RSt}
/-- Facts of a version that is listed. -/
theorem Sim.at_ (S : Sim s r) {p : Nat} (hp : p < s.l.length) : SimV s (s.l.getD p 0) (r.v.getD p default) ∧ s.l.getD p 0 ∈ s.l ∧ s.l.getD p 0 < s.vs.length := ⟨S.ver p hp, getD_mem hp, S.wf.lin _ (getD_mem hp)⟩
/-- Committed, or not. -/
theorem Sim.by_zero (S : Sim s r) {p : Nat} (hp : p < s.l.length) : (r.v.getD p default).by_ = 0 ↔ (s.ver (s.l.getD p 0)).beg ≠ 0 := by
  obtain ⟨V, hm, hi⟩ := S.at_ hp
  have := S.maker _ hi
  rw [V.by_]
  split
  · rename_i e; constructor
    · intro h; omega
    · intro h; exact absurd e h
  · rename_i e; exact ⟨fun _ => e, fun _ => rfl⟩
theorem Sim.thereB (S : Sim s r) {p : Nat} (hp : p < s.l.length) (k a : Int) : rThereB k a (r.v.getD p default) = visB (s.ver (s.l.getD p 0)) k a := by
  obtain ⟨V, hm, hi⟩ := S.at_ hp
  have hz := S.by_zero hp
  have hf := S.wf.fin_le hi
  rw [Bool.eq_iff_iff, visB_iff]
  unfold rThereB Vis
  simp only [Bool.and_eq_true, Bool.or_eq_true, decide_eq_true_eq, Bool.not_eq_true']
  rw [V.key, V.dead, V.beg, V.fin, hz]
  constructor
  · rintro ⟨⟨⟨⟨h1, h2⟩, h3⟩, h4⟩, h5⟩; exact ⟨h1, by omega, h4, h5⟩
  · rintro ⟨h1, h2, h3, h4⟩
    refine ⟨⟨⟨⟨h1, ?_⟩, by omega⟩, h3⟩, h4⟩
    cases hd : (s.ver (s.l.getD p 0)).dead with
    | false => rfl
    | true => have := (S.wf.dead_raw hi hd).1; omega
theorem Sim.there (S : Sim s r) (k a : Int) : Pos s.l (s.at k a) (r.there k a) := find_pos S.len (fun p hp => S.thereB hp k a)
theorem Sim.later (S : Sim s r) (k a : Int) (ha : 0 ≤ a) : r.later k a = s.later k a := by
  unfold RSt.later St.later
  have e : ∀ p, p < s.l.length → rLaterB k a (r.v.getD p default) = laterB (s.ver (s.l.getD p 0)) k a := by
    intro p hp
    obtain ⟨V, hm, hi⟩ := S.at_ hp
    have hz := S.by_zero hp
    have hf := S.wf.fin_le hi
    rw [Bool.eq_iff_iff]
    unfold rLaterB laterB
    simp only [Bool.and_eq_true, Bool.or_eq_true, decide_eq_true_eq, Bool.not_eq_true']
    rw [V.key, V.dead, V.beg, V.fin, hz]
    constructor
    · rintro ⟨⟨h1, h2⟩, h3⟩; exact ⟨h1, by omega⟩
    · rintro ⟨h1, h3⟩
      refine ⟨⟨h1, ?_⟩, by omega⟩
      cases hd : (s.ver (s.l.getD p 0)).dead with
      | false => rfl
      | true =>
        have h4 := (S.wf.dead_raw hi hd).1
        have h5 := (S.wf.dead_raw hi hd).2
        omega
  rw [Bool.eq_iff_iff, List.any_eq_true, List.any_eq_true]
  constructor
  · rintro ⟨x, hx, h⟩
    obtain ⟨p, hp, rfl⟩ := List.getElem_of_mem hx
    have hp' : p < s.l.length := by rw [← S.len]; exact hp
    have := e p hp'
    rw [List.getD_eq_getElem?_getD, List.getElem?_eq_getElem hp] at this
    exact ⟨_, getD_mem hp', by rw [← this]; exact h⟩
  · rintro ⟨i, hi, h⟩
    obtain ⟨p, hp, rfl⟩ := mem_getD hi
    have hp' : p < r.v.length := by rw [S.len]; exact hp
    refine ⟨r.v.getD p default, ?_, by rw [e p hp]; exact h⟩
    rw [List.getD_eq_getElem?_getD, List.getElem?_eq_getElem hp']
    exact List.getElem_mem hp'
/-- Whose raw version it is. -/
theorem Sim.mine (S : Sim s r) {p j : Nat} {t : Tx} (hp : p < s.l.length) (ht : s.tx j = some t) (hd : (s.ver (s.l.getD p 0)).dead = false) (hb : (r.v.getD p default).by_ = t.id) : ∃ k c, Has s j k t c ∧ c.own = some (s.l.getD p 0) ∧ (s.ver (s.l.getD p 0)).key = (k : Int) := by
  obtain ⟨V, hm, hi⟩ := S.at_ hp
  have hid := (S.wf.beg j t ht).2.2.1
  rw [V.by_] at hb
  split at hb
  · rename_i e
    rcases S.wf.kind _ hi with ⟨h1, _⟩ | ⟨_, h1, _⟩ | ⟨_, _, j', k, u, c, hh, ho⟩
    · rw [hd] at h1; cases h1
    · omega
    · have a := S.wf.own j' k u c _ hh ho
      have : j' = j := S.wf.ids j' j u t hh.1 ht (by rw [← a.2.2.2.2]; exact hb)
      subst this
      have e2 := hh.1
      rw [ht] at e2; injection e2 with e2; subst e2
      exact ⟨k, c, hh, ho, a.2.1⟩
  · omega
/-- A version that is not ended by j's cells: whom it is ended by. -/
theorem Sim.ended (S : Sim s r) {p j : Nat} {t : Tx} (hp : p < s.l.length) (ht : s.tx j = some t) : (r.v.getD p default).ended = t.id ↔ ∃ k c, Ends_ s (s.l.getD p 0) j k t c := by
  obtain ⟨V, hm, hi⟩ := S.at_ hp
  have hid := (S.wf.beg j t ht).2.2.1
  constructor
  · intro e
    apply Classical.byContradiction
    intro hn
    by_cases hx : ∃ j' k u c, Ends_ s (s.l.getD p 0) j' k u c
    · obtain ⟨j', k, u, c, hE⟩ := hx
      have h1 := V.ends j' k u c hE
      have : j' = j := S.wf.ids j' j u t hE.1.1 ht (by rw [← h1]; exact e)
      subst this
      have e2 := hE.1.1
      rw [ht] at e2; injection e2 with e2; subst e2
      exact hn ⟨k, c, hE⟩
    · have := V.free (fun j' k u c hE => hx ⟨j', k, u, c, hE⟩)
      omega
  · rintro ⟨k, c, hE⟩; exact V.ends j k t c hE
/-- The key of a version that a cell ends. -/
theorem Sim.ends_key (S : Sim s r) {i j k : Nat} {t : Tx} {c : Cel} (h : Ends_ s i j k t c) : (s.ver i).key = (k : Int) := by
  obtain ⟨hh, h1 | ⟨h1, _⟩⟩ := h
  · rw [S.wf.old j k t c hh] at h1
    exact (S.wf.at_some.1 h1).2.1
  · exact (S.wf.own j k t c i hh h1).2.1
theorem Sim.ends_fin (S : Sim s r) {i j k : Nat} {t : Tx} {c : Cel} (h : Ends_ s i j k t c) : (s.ver i).fin = 0 := by
  obtain ⟨hh, h1 | ⟨h1, _⟩⟩ := h
  · rw [S.wf.old j k t c hh] at h1
    obtain ⟨hm, v1, v2, v3, v4⟩ := S.wf.at_some.1 h1
    have := (S.wf.bar j k t c i hh (S.wf.lin i hm) v1).2
    have := (S.wf.fin_le (S.wf.lin i hm)).2.2.2.1
    omega
  · exact (S.wf.own j k t c i hh h1).2.2.2.1.2
theorem Sim.visR (S : Sim s r) {p j : Nat} {t : Tx} (hp : p < s.l.length) (ht : s.tx j = some t) (k : Int) (hne : ¬ (r.v.getD p default).ended = t.id) : rVisB t.id t.beg k (r.v.getD p default) = visB (s.ver (s.l.getD p 0)) k t.beg := by
  obtain ⟨V, hm, hi⟩ := S.at_ hp
  have e := S.thereB hp k t.beg
  rw [← e]
  rw [Bool.eq_iff_iff]
  unfold rVisB rThereB
  simp only [Bool.and_eq_true, Bool.or_eq_true, decide_eq_true_eq, Bool.not_eq_true', decide_eq_false_iff_not]
  constructor
  · rintro ⟨⟨⟨⟨⟨h1, h2⟩, h3⟩, h4⟩, h5⟩, h6⟩
    refine ⟨⟨⟨⟨h1, h2⟩, h4⟩, h5⟩, ?_⟩
    rcases h6 with (h6 | h6) | h6
    · left
      by_cases hx : ∃ j' k u c, Ends_ s (s.l.getD p 0) j' k u c
      · obtain ⟨j', k', u, c, hE⟩ := hx
        rw [V.fin]; exact S.ends_fin hE
      · exact absurd (V.free (fun j' k u c hE => hx ⟨j', k, u, c, hE⟩)) h6
    · exact .inl h6
    · exact .inr h6
  · rintro ⟨⟨⟨⟨h1, h2⟩, h3⟩, h4⟩, h5⟩
    exact ⟨⟨⟨⟨⟨h1, h2⟩, hne⟩, h3⟩, h4⟩, h5.imp (fun h => .inr h) id⟩
/-- What a transaction sees stands at the same place. -/
theorem Sim.sees (S : Sim s r) {j : Nat} {t : Tx} (ht : s.tx j = some t) {k : Nat} (hk : k < 64) : Pos s.l (s.sees t k) (r.sees t.id t.beg k) := by
  have own1 : ∀ p, p < s.l.length → (rOwnB t.id k (r.v.getD p default) = true ↔ ∃ c, Has s j k t c ∧ c.own = some (s.l.getD p 0) ∧ c.there = true) := by
    intro p hp
    obtain ⟨V, hm, hi⟩ := S.at_ hp
    unfold rOwnB
    simp only [Bool.and_eq_true, decide_eq_true_eq, Bool.not_eq_true', decide_eq_false_iff_not]
    constructor
    · rintro ⟨⟨⟨h1, h2⟩, h3⟩, h4⟩
      obtain ⟨k', c, hh, ho, hkey⟩ := S.mine hp ht (by rw [← V.dead]; exact h2) h4
      have : k' = k := by rw [V.key, hkey] at h1; omega
      subst this
      refine ⟨c, hh, ho, ?_⟩
      cases hc : c.there with
      | true => rfl
      | false => exact absurd ((S.ended hp ht).2 ⟨k', c, hh, .inr ⟨ho, hc⟩⟩) h3
    · rintro ⟨c, hh, ho, hc⟩
      obtain ⟨a1, a2, a3, a4, a5⟩ := S.wf.own j k t c _ hh ho
      refine ⟨⟨⟨by rw [V.key]; exact a2, by rw [V.dead]; exact a3⟩, fun e => ?_⟩, by rw [V.by_, if_pos a4.1]; exact a5⟩
      obtain ⟨k', c', hE⟩ := (S.ended hp ht).1 e
      have hkk := S.ends_key hE
      have : k' = k := by rw [a2] at hkk; omega
      subst this
      have e2 := hE.1.2
      rw [hh.2] at e2; injection e2 with e2; subst e2
      rcases hE.2 with h1 | ⟨_, h1⟩
      · rw [S.wf.old j k' t c hh] at h1
        have := (S.wf.at_some.1 h1).2.2.1
        rw [a4.1] at this; omega
      · rw [hc] at h1; cases h1
  have vis1 : ∀ p, p < s.l.length → (rVisB t.id t.beg k (r.v.getD p default) = true → (r.v.getD p default).ended ≠ t.id) := by
    intro p hp h
    unfold rVisB at h
    simp only [Bool.and_eq_true, Bool.not_eq_true', decide_eq_false_iff_not] at h
    exact h.1.1.1.2
  unfold RSt.sees St.sees
  cases hc : t.cells k with
  | none =>
    have n1 : r.v.findIdx? (rOwnB t.id k) = none := fidx_none (fun p hp => by
      rw [S.len] at hp
      cases ho : rOwnB t.id (k : Int) (r.v.getD p default) with
      | false => rfl
      | true => obtain ⟨c, hh, _⟩ := (own1 p hp).1 ho; have := hh.2; rw [hc] at this; cases this)
    rw [n1]
    show Pos s.l (s.at k t.beg) (r.v.findIdx? (rVisB t.id t.beg k))
    refine find_pos S.len (fun p hp => ?_)
    by_cases he : (r.v.getD p default).ended = t.id
    · obtain ⟨k', c, hE⟩ := (S.ended hp ht).1 he
      have hkey := S.ends_key hE
      have hne : k' ≠ k := fun e => by subst e; have := hE.1.2; rw [hc] at this; cases this
      have e1 : rVisB t.id t.beg (k : Int) (r.v.getD p default) = false := by
        cases hv : rVisB t.id t.beg (k : Int) (r.v.getD p default) with
        | false => rfl
        | true => exact absurd he (vis1 p hp hv)
      have e2 : visB (s.ver (s.l.getD p 0)) (k : Int) t.beg = false := by
        cases hv : visB (s.ver (s.l.getD p 0)) (k : Int) t.beg with
        | false => rfl
        | true => have := (visB_iff.1 hv).1; rw [hkey] at this; omega
      rw [e1, e2]
    · exact S.visR hp ht k he
  | some c =>
    have hh : Has s j k t c := ⟨ht, hc⟩
    cases hct : c.there with
    | true =>
      obtain ⟨i, hi⟩ := Option.isSome_iff_exists.1 (S.wf.there j k t c hh hct)
      obtain ⟨a1, _⟩ := S.wf.own j k t c i hh hi
      obtain ⟨p, hp, hpi⟩ := mem_getD a1
      have f1 : r.v.findIdx? (rOwnB t.id k) = some p := by
        refine fidx_at (by rw [S.len]; exact hp) ((own1 p hp).2 ⟨c, hh, by rw [hpi]; exact hi, hct⟩) (fun q hq hne => ?_)
        rw [S.len] at hq
        cases ho : rOwnB t.id (k : Int) (r.v.getD q default) with
        | false => rfl
        | true =>
          obtain ⟨c', hh', ho', _⟩ := (own1 q hq).1 ho
          have e2 := hh'.2
          rw [hc] at e2; injection e2 with e2; subst e2
          rw [hi] at ho'; injection ho' with ho'
          exact absurd (nodup_pos S.wf.nodup hq hp (by rw [← ho', hpi])) hne
      rw [f1]
      simp only [hct, if_true]
      rw [hi]
      exact ⟨hp, hpi⟩
    | false =>
      have n1 : r.v.findIdx? (rOwnB t.id k) = none := fidx_none (fun p hp => by
        rw [S.len] at hp
        cases ho : rOwnB t.id (k : Int) (r.v.getD p default) with
        | false => rfl
        | true =>
          obtain ⟨c', hh', _, hc'⟩ := (own1 p hp).1 ho
          have e2 := hh'.2
          rw [hc] at e2; injection e2 with e2; subst e2
          rw [hct] at hc'; cases hc')
      have n2 : r.v.findIdx? (rVisB t.id t.beg k) = none := fidx_none (fun p hp => by
        rw [S.len] at hp
        cases hv : rVisB t.id t.beg (k : Int) (r.v.getD p default) with
        | false => rfl
        | true =>
          have hne := vis1 p hp hv
          have := S.visR hp ht k hne
          rw [hv] at this
          have hat := S.wf.at_some.2 ⟨getD_mem hp, visB_iff.1 this.symm⟩
          rw [← S.wf.old j k t c hh] at hat
          exact absurd ((S.ended hp ht).2 ⟨k, c, hh, .inl hat⟩) hne)
      rw [n1, n2]
      simp only [hct]
      trivial
/-- The own version stands at the same place. -/
theorem Sim.own (S : Sim s r) {j : Nat} {t : Tx} (ht : s.tx j = some t) {k : Nat} (hk : k < 64) : Pos s.l (match t.cells k with | some c => c.own | none => none) (r.own t.id k) := by
  have own2 : ∀ p, p < s.l.length → (rOwn2B t.id k (r.v.getD p default) = true ↔ ∃ c, Has s j k t c ∧ c.own = some (s.l.getD p 0)) := by
    intro p hp
    obtain ⟨V, hm, hi⟩ := S.at_ hp
    unfold rOwn2B
    simp only [Bool.and_eq_true, decide_eq_true_eq, Bool.not_eq_true']
    constructor
    · rintro ⟨⟨h1, h2⟩, h3⟩
      obtain ⟨k', c, hh, ho, hkey⟩ := S.mine hp ht (by rw [← V.dead]; exact h3) h2
      have : k' = k := by rw [V.key, hkey] at h1; omega
      subst this
      exact ⟨c, hh, ho⟩
    · rintro ⟨c, hh, ho⟩
      obtain ⟨a1, a2, a3, a4, a5⟩ := S.wf.own j k t c _ hh ho
      exact ⟨⟨by rw [V.key]; exact a2, by rw [V.by_, if_pos a4.1]; exact a5⟩, by rw [V.dead]; exact a3⟩
  have none2 : (∀ c, Has s j k t c → c.own = none) → r.own t.id k = none := fun hn => fidx_none (fun p hp => by
    rw [S.len] at hp
    cases ho : rOwn2B t.id (k : Int) (r.v.getD p default) with
    | false => rfl
    | true => obtain ⟨c, hh, h1⟩ := (own2 p hp).1 ho; rw [hn c hh] at h1; cases h1)
  cases hc : t.cells k with
  | none =>
    rw [none2 (fun c hh => by have := hh.2; rw [hc] at this; cases this)]
    trivial
  | some c =>
    have hh : Has s j k t c := ⟨ht, hc⟩
    cases ho : c.own with
    | none =>
      rw [none2 (fun c' hh' => by have e2 := hh'.2; rw [hc] at e2; injection e2 with e2; subst e2; exact ho)]
      simp only [ho]
      trivial
    | some i =>
      obtain ⟨a1, _⟩ := S.wf.own j k t c i hh ho
      obtain ⟨p, hp, hpi⟩ := mem_getD a1
      have f1 : r.own t.id k = some p := by
        refine fidx_at (by rw [S.len]; exact hp) ((own2 p hp).2 ⟨c, hh, by rw [hpi]; exact ho⟩) (fun q hq hne => ?_)
        rw [S.len] at hq
        cases hq2 : rOwn2B t.id (k : Int) (r.v.getD q default) with
        | false => rfl
        | true =>
          obtain ⟨c', hh', ho'⟩ := (own2 q hq).1 hq2
          have e2 := hh'.2
          rw [hc] at e2; injection e2 with e2; subst e2
          rw [ho] at ho'; injection ho' with ho'
          exact absurd (nodup_pos S.wf.nodup hq hp (by rw [← ho', hpi])) hne
      rw [f1]
      simp only [ho]
      exact ⟨hp, hpi⟩
end Go.Proofs.Ytcbhafddehipdaa
namespace Go.Proofs.Ytcbhafddehipdaa
set_option linter.unusedVariables false
set_option linter.unusedSimpArgs false
variable {s : St} {r : RSt}
theorem getD_map {α : Type} [Inhabited α] {v : List α} {f : α → α} {p : Nat} (hp : p < v.length) : (v.map f).getD p default = f (v.getD p default) := by
  rw [List.getD_eq_getElem?_getD, List.getD_eq_getElem?_getD, List.getElem?_map, List.getElem?_eq_getElem hp]; rfl
theorem Sim.new (slots limit : Int) (h : 0 < slots) : Sim (newSt slots limit) (newRSt slots limit) :=
  ⟨Wf.new _ _ h, fun i hi => (by cases hi), rfl, rfl, rfl, rfl, rfl, fun p hp => (by cases hp), fun j _ _ => rfl, fun j t ht => (by cases ht), fun i hi => (by cases hi), fun i j t hi => (by cases hi)⟩
theorem Sim.id0 (S : Sim s r) {j : Nat} (hj : j < 8) : (r.s j).id = 0 ↔ s.tx j = none := by
  constructor
  · intro h
    cases ht : s.tx j with
    | none => rfl
    | some t =>
      have := (S.some_ j t ht).id
      have := (S.wf.beg j t ht).2.2.1
      omega
  · intro h; rw [S.none_ j hj h]; rfl
/-- The same version, and the same that end it. -/
theorem SimV.keep {s s' : St} {i : Nat} {v v' : RVer} (h : SimV s i v) (hv : (s'.ver i).key = (s.ver i).key ∧ (s'.ver i).value = (s.ver i).value ∧ (s'.ver i).dead = (s.ver i).dead ∧ (s'.ver i).beg = (s.ver i).beg ∧ (s'.ver i).fin = (s.ver i).fin ∧ (s'.ver i).by_ = (s.ver i).by_) (e : v' = v)
    (hE : ∀ j k t c, Ends_ s' i j k t c → ∃ j' k' t' c', Ends_ s i j' k' t' c' ∧ t'.id = t.id) (hF : ∀ j k t c, Ends_ s i j k t c → ∃ j' k' t' c', Ends_ s' i j' k' t' c') : SimV s' i v' := by
  subst e
  obtain ⟨h1, h2, h3, h4, h5, h6⟩ := hv
  refine ⟨h.key.trans h1.symm, h.value.trans h2.symm, h.dead.trans h3.symm, h.beg.trans h4.symm, h.fin.trans h5.symm, by rw [h4, h6]; exact h.by_, fun j k t c hh => ?_, fun hn => h.free (fun j k t c hh => ?_)⟩
  · obtain ⟨j', k', t', c', hE', hid⟩ := hE j k t c hh
    rw [← hid]; exact h.ends j' k' t' c' hE'
  · obtain ⟨j', k', t', c', hE'⟩ := hF j k t c hh
    exact hn j' k' t' c' hE'
theorem Sim.begin (S : Sim s r) (j level : Int) : (r.begin j level).1 = (s.begin j level).1 ∧ (r.begin j level).2.1 = (s.begin j level).2.1 ∧ Sim (s.begin j level).2.2 (r.begin j level).2.2 := by
  have W := S.wf.begin j level
  have K := (few_begin s j level).2.2.2 S.keys
  unfold RSt.begin St.begin at *
  by_cases hb : (sessB j && levelB level) = true
  · have hj : j.toNat < 8 := by simp [sessB] at hb; omega
    rw [if_pos hb] at W K
    rw [if_pos hb, if_pos hb]
    cases ht : s.tx j.toNat with
    | some t =>
      have hid : ¬ (r.s j.toNat).id = 0 := fun e => by rw [(S.id0 hj).1 e] at ht; cases ht
      simp only [hid, decide_false, Bool.not_false, if_true, Option.isSome_some]
      exact ⟨trivial, trivial, S⟩
    | none =>
      have hid : (r.s j.toNat).id = 0 := (S.id0 hj).2 ht
      simp only [hid, decide_true, Bool.not_true, Bool.false_eq_true, if_false, Option.isSome_none, S.made, S.time, S.limit]
      by_cases hm : 2000 ≤ s.made
      · rw [if_pos hm, if_pos hm]; exact ⟨rfl, rfl, S⟩
      · rw [if_neg hm, if_neg hm]
        by_cases hl : s.limit ≤ s.now
        · rw [if_pos hl, if_pos hl]; exact ⟨rfl, rfl, S⟩
        · simp only [ht, Option.isSome_none, Bool.false_eq_true, if_false] at W K
          rw [if_neg hm, if_neg hl] at W K
          rw [if_neg hl, if_neg hl]
          refine ⟨rfl, rfl, ?_⟩
          simp only at W K ⊢
          obtain ⟨s', hs'⟩ : ∃ s' : St, s' = { s with made := s.made + 1, now := s.now + 1, tx := upd s.tx j.toNat (some (newTx (s.made + 1) level (s.now + 1))) } := ⟨_, rfl⟩
          rw [← hs'] at W K ⊢
          have htx : ∀ i, s'.tx i = if i = j.toNat then some (newTx (s.made + 1) level (s.now + 1)) else s.tx i := fun i => by rw [hs']; rfl
          have hv : ∀ i, s'.ver i = s.ver i := fun i => by rw [hs']; rfl
          have hE : ∀ i j' k t c, Ends_ s' i j' k t c ↔ Ends_ s i j' k t c := by
            intro i j' k t c
            unfold Ends_ Has
            rw [htx]
            by_cases e : j' = j.toNat
            · rw [if_pos e]
              constructor
              · rintro ⟨⟨h1, h2⟩, h3⟩; injection h1 with h1; subst h1; cases h2
              · rintro ⟨⟨h1, h2⟩, h3⟩; rw [e, ht] at h1; cases h1
            · rw [if_neg e]
          refine ⟨W, K, by subst hs'; exact S.slots, by subst hs'; rfl, by subst hs'; rfl, by subst hs'; rfl, by subst hs'; exact S.len, fun p hp => ?_, fun i hi hn => ?_, fun i t ht' => ?_, fun i hi => ?_, fun i i' t hi hd ht' => ?_⟩
          · have hp' : p < s.l.length := by rw [hs'] at hp; exact hp
            have e1 : s'.l = s.l := by rw [hs']
            rw [e1]
            refine (S.ver p hp').keep (by rw [hv]; exact ⟨rfl, rfl, rfl, rfl, rfl, rfl⟩) rfl (fun i k t c h => ⟨i, k, t, c, (hE _ _ _ _ _).1 h, rfl⟩) (fun i k t c h => ⟨i, k, t, c, (hE _ _ _ _ _).2 h⟩)
          · rw [htx] at hn
            by_cases e : i = j.toNat
            · rw [if_pos e] at hn; cases hn
            · rw [if_neg e] at hn
              show upd r.s j.toNat _ i = _
              rw [upd_other _ _ _ e]; exact S.none_ i hi hn
          · rw [htx] at ht'
            by_cases e : i = j.toNat
            · rw [if_pos e] at ht'; injection ht' with ht'; subst ht' e
              show SimT _ (upd r.s j.toNat _ j.toNat)
              rw [upd_same]
              exact ⟨rfl, rfl, rfl, rfl, fun k _ => rfl, fun k _ => by simp [newTx], fun k _ => by simp [newTx]⟩
            · rw [if_neg e] at ht'
              show SimT _ (upd r.s j.toNat _ i)
              rw [upd_other _ _ _ e]; exact S.some_ i t ht'
          · have hi' : i < s.vs.length := by rw [hs'] at hi; exact hi
            have := S.maker i hi'
            rw [hv]
            have : s'.made = s.made + 1 := by rw [hs']
            omega
          · have hi' : i < s.vs.length := by rw [hs'] at hi; exact hi
            rw [hv] at hd ⊢
            rw [htx] at ht'
            by_cases e : i' = j.toNat
            · rw [if_pos e] at ht'; injection ht' with ht'; subst ht'
              have := S.maker i hi'
              show _ ≠ s.made + 1
              omega
            · rw [if_neg e] at ht'; exact S.lost i i' t hi' hd ht'
  · rw [if_neg hb, if_neg hb]
    exact ⟨rfl, rfl, S⟩
theorem Sim.retx (S : Sim s r) {j : Nat} (hj : j < 8) {t t' : Tx} (ht : s.tx j = some t) (hc : t'.cells = t.cells) (hb : t'.beg = t.beg) (hi : t'.id = t.id) {r' : RTx} (T : SimT t' r') : Sim (s.setTx j (some t')) (r.setS j r') := by
  have hE : ∀ i j' k u c, Ends_ (s.setTx j (some t')) i j' k u c → ∃ u', Ends_ s i j' k u' c ∧ u'.id = u.id := by
    intro i j' k u c h
    unfold Ends_ Has at h
    rw [setTx_tx] at h
    by_cases e : j' = j
    · rw [if_pos e] at h
      obtain ⟨⟨h1, h2⟩, h3⟩ := h
      injection h1 with h1; subst h1
      exact ⟨t, ⟨⟨by rw [e]; exact ht, by rw [← hc]; exact h2⟩, h3⟩, hi.symm⟩
    · rw [if_neg e] at h; exact ⟨u, h, rfl⟩
  have hF : ∀ i j' k u c, Ends_ s i j' k u c → ∃ u', Ends_ (s.setTx j (some t')) i j' k u' c := by
    intro i j' k u c h
    obtain ⟨⟨h1, h2⟩, h3⟩ := h
    by_cases e : j' = j
    · rw [e, ht] at h1; injection h1 with h1; subst h1
      exact ⟨t', ⟨by rw [setTx_tx, if_pos e], by rw [hc]; exact h2⟩, h3⟩
    · exact ⟨u, ⟨by rw [setTx_tx, if_neg e]; exact h1, h2⟩, h3⟩
  refine ⟨S.wf.retx ht hc hb hi, S.keys, S.slots, S.limit, S.time, S.made, S.len, fun p hp => ?_, fun i hi' hn => ?_, fun i u hu => ?_, S.maker, fun i i' u hi' hd hu => ?_⟩
  · refine (S.ver p hp).keep ⟨rfl, rfl, rfl, rfl, rfl, rfl⟩ rfl (fun i k u c h => ?_) (fun i k u c h => ?_)
    · obtain ⟨u', h1, h2⟩ := hE _ _ _ _ _ h; exact ⟨i, k, u', c, h1, h2⟩
    · obtain ⟨u', h1⟩ := hF _ _ _ _ _ h; exact ⟨i, k, u', c, h1⟩
  · rw [setTx_tx] at hn
    by_cases e : i = j
    · rw [if_pos e] at hn; cases hn
    · rw [if_neg e] at hn
      show upd r.s j _ i = _
      rw [upd_other _ _ _ e]; exact S.none_ i hi' hn
  · rw [setTx_tx] at hu
    by_cases e : i = j
    · rw [if_pos e] at hu; injection hu with hu; subst hu e
      show SimT _ (upd r.s i _ i)
      rw [upd_same]; exact T
    · rw [if_neg e] at hu
      show SimT _ (upd r.s j _ i)
      rw [upd_other _ _ _ e]; exact S.some_ i u hu
  · rw [setTx_tx] at hu
    by_cases e : i' = j
    · rw [if_pos e] at hu; injection hu with hu; subst hu
      rw [hi]; exact S.lost i j t hi' hd ht
    · rw [if_neg e] at hu; exact S.lost i i' u hi' hd hu
theorem SimT.op {t : Tx} {x : RTx} (T : SimT t x) : SimT t.op x.op := ⟨T.id, T.level, by show x.ops + 1 = t.ops + 1; rw [T.ops], T.beg, T.wrote, T.looked, T.got⟩
/-- One key is looked at. -/
theorem SimT.look {t : Tx} {x : RTx} (T : SimT t x) {k : Nat} (hk : k < 64) (b : Bool) : SimT (if b then (t.look k).mark k else t.look k) (if hasB x.wrote (k : Int) then x else x.read ⟨k, k, b, false⟩) := by
  have hw := T.wrote k hk
  cases hc : t.cells k with
  | some c =>
    rw [hc] at hw
    have hw : hasB x.wrote (k : Int) = true := hw
    have e1 : t.look k = t := by unfold Tx.look; rw [hc]; rfl
    have e2 : t.mark k = t := by unfold Tx.mark; rw [hc]; rfl
    rw [if_pos (c := hasB x.wrote (k : Int) = true) hw, e1, e2]
    cases b <;> exact T
  | none =>
    rw [hc] at hw
    have hw : hasB x.wrote (k : Int) = false := hw
    rw [if_neg (c := hasB x.wrote (k : Int) = true) (by rw [hw]; decide)]
    have e1 : t.look k = { t with looked := upd t.looked k true } := by unfold Tx.look; rw [hc]; rfl
    have e2 : ({ t with looked := upd t.looked k true } : Tx).mark k = { t with looked := upd t.looked k true, got := upd t.got k true } := by unfold Tx.mark; simp only; rw [hc]; rfl
    have L : ∀ q : Nat, q < 64 → (upd t.looked k true q = true ↔ ∃ y ∈ x.reads ++ [⟨k, k, b, false⟩], y.lo ≤ (q : Int) ∧ (q : Int) ≤ y.hi) := by
      intro q hq
      rw [upd_tx]
      by_cases e : q = k
      · rw [if_pos e]
        subst e
        exact ⟨fun _ => ⟨⟨q, q, b, false⟩, by simp, Int.le_refl _, Int.le_refl _⟩, fun _ => rfl⟩
      · rw [if_neg e, T.looked q hq]
        constructor
        · rintro ⟨y, hy, h1, h2⟩; exact ⟨y, by simp [hy], h1, h2⟩
        · rintro ⟨y, hy, h1, h2⟩
          rcases List.mem_append.1 hy with hy | hy
          · exact ⟨y, hy, h1, h2⟩
          · simp at hy; subst hy; simp only at h1 h2; omega
    cases b with
    | false =>
      rw [e1]
      simp only [Bool.false_eq_true, if_false]
      refine ⟨T.id, T.level, T.ops, T.beg, T.wrote, L, fun q hq => ?_⟩
      rw [show ({ t with looked := upd t.looked k true } : Tx).got = t.got from rfl, T.got q hq]
      constructor
      · rintro ⟨y, hy, h0, h1, h2⟩; exact ⟨y, List.mem_append_left _ hy, h0, h1, h2⟩
      · rintro ⟨y, hy, h0, h1, h2⟩
        rcases List.mem_append.1 hy with hy | hy
        · exact ⟨y, hy, h0, h1, h2⟩
        · simp at hy; subst hy; cases h0
    | true =>
      rw [e1, e2]
      simp only [if_true]
      refine ⟨T.id, T.level, T.ops, T.beg, T.wrote, L, fun q hq => ?_⟩
      show upd t.got k true q = true ↔ _
      rw [upd_tx]
      by_cases e : q = k
      · rw [if_pos e]
        subst e
        exact ⟨fun _ => ⟨⟨q, q, true, false⟩, List.mem_append_right _ (by simp), rfl, Int.le_refl _, Int.le_refl _⟩, fun _ => rfl⟩
      · rw [if_neg e, T.got q hq]
        constructor
        · rintro ⟨y, hy, h0, h1, h2⟩; exact ⟨y, List.mem_append_left _ hy, h0, h1, h2⟩
        · rintro ⟨y, hy, h0, h1, h2⟩
          rcases List.mem_append.1 hy with hy | hy
          · exact ⟨y, hy, h0, h1, h2⟩
          · simp at hy; subst hy; simp only at h1 h2; omega
/-- A range is looked at. -/
theorem SimT.lookAll {t : Tx} {x : RTx} (T : SimT t x) {lo hi : Nat} (hlo : lo ≤ hi) : SimT (t.lookAll lo (hi + 1 - lo)) (x.read ⟨lo, hi, false, true⟩) := by
  refine ⟨T.id, T.level, T.ops, T.beg, T.wrote, fun q hq => ?_, fun q hq => ?_⟩
  · show (t.looked q || (decide (lo ≤ q) && decide (q < lo + (hi + 1 - lo)))) = true ↔ ∃ y ∈ x.reads ++ [⟨lo, hi, false, true⟩], _
    rw [Bool.or_eq_true, T.looked q hq]
    simp only [Bool.and_eq_true, decide_eq_true_eq]
    constructor
    · rintro (⟨y, hy, h1, h2⟩ | ⟨h1, h2⟩)
      · exact ⟨y, List.mem_append_left _ hy, h1, h2⟩
      · exact ⟨⟨lo, hi, false, true⟩, List.mem_append_right _ (by simp), by simp only; omega, by simp only; omega⟩
    · rintro ⟨y, hy, h1, h2⟩
      rcases List.mem_append.1 hy with hy | hy
      · exact .inl ⟨y, hy, h1, h2⟩
      · simp at hy; subst hy; simp only at h1 h2; right; omega
  · rw [show (t.lookAll lo (hi + 1 - lo)).got = t.got from rfl, T.got q hq]
    show _ ↔ ∃ y ∈ x.reads ++ [⟨lo, hi, false, true⟩], _
    constructor
    · rintro ⟨y, hy, h0, h1, h2⟩; exact ⟨y, List.mem_append_left _ hy, h0, h1, h2⟩
    · rintro ⟨y, hy, h0, h1, h2⟩
      rcases List.mem_append.1 hy with hy | hy
      · exact ⟨y, hy, h0, h1, h2⟩
      · simp at hy; subst hy; cases h0
theorem Sim.by_mine (S : Sim s r) {p j : Nat} {t : Tx} (hp : p < s.l.length) (ht : s.tx j = some t) : (r.v.getD p default).by_ = t.id ↔ anyC t.cells (isOwn (s.l.getD p 0)) = true := by
  obtain ⟨V, hm, hi⟩ := S.at_ hp
  have hid := (S.wf.beg j t ht).2.2.1
  constructor
  · intro hb
    have hd : (s.ver (s.l.getD p 0)).dead = false := by
      cases hd : (s.ver (s.l.getD p 0)).dead with
      | false => rfl
      | true =>
        have := S.lost _ j t hi hd ht
        rw [V.by_] at hb
        split at hb
        · exact absurd hb this
        · omega
    obtain ⟨k, c, hh, ho, _⟩ := S.mine hp ht hd hb
    exact anyC_iff.2 ⟨k, c, S.wf.kin _ _ _ _ hh, hh.2, by simp [isOwn, ho]⟩
  · intro ha
    obtain ⟨k, c, hk, hc, hp'⟩ := anyC_iff.1 ha
    obtain ⟨a1, a2, a3, a4, a5⟩ := S.wf.own j k t c (s.l.getD p 0) ⟨ht, hc⟩ (of_decide_eq_true hp')
    rw [V.by_, if_pos a4.1]; exact a5
theorem Sim.ender (S : Sim s r) {i j k j' k' : Nat} {t t' : Tx} {c c' : Cel} (h : Ends_ s i j k t c) (h' : Ends_ s i j' k' t' c') : j = j' := by
  have e1 := S.ends_key h
  have e2 := S.ends_key h'
  have : k = k' := by rw [e1] at e2; omega
  subst this
  exact (S.wf.only j j' k t t' c c' h.1 h'.1).symm
theorem ends_gone {s' : St} {j : Nat} (htx : ∀ i, s'.tx i = if i = j then none else s.tx i) {i j' k : Nat} {t : Tx} {c : Cel} : Ends_ s' i j' k t c ↔ j' ≠ j ∧ Ends_ s i j' k t c := by
  unfold Ends_
  rw [Has.other htx, and_assoc]
theorem Sim.kill (S : Sim s r) {j : Nat} (hj : j < 8) {t : Tx} (ht : s.tx j = some t) : Sim (s.kill j t) (r.over j) := by
  have hid := (S.wf.beg j t ht).2.2.1
  have hrid : (r.s j).id = t.id := (S.some_ j t ht).id
  obtain ⟨s', hs'⟩ : ∃ s', s' = s.kill j t := ⟨_, rfl⟩
  have W : Wf s' := by rw [hs']; exact S.wf.killed ht
  have K : KeyIn s' := by rw [hs']; exact (Few.kill s j t).2.2.2 S.keys
  have htx : ∀ i, s'.tx i = if i = j then none else s.tx i := fun i => by rw [hs']; rfl
  have hll : s'.l = s.l := by rw [hs']; rfl
  have hvs : s'.vs.length = s.vs.length := by rw [hs']; show (s.vs.mapIdx _).length = _; simp
  have hv : ∀ i, i < s.vs.length → s'.ver i = killV t.cells i (s.ver i) := fun i hi => by rw [hs']; exact ver_kill hi
  have hm : s'.made = s.made := by rw [hs']; rfl
  have hn : s'.now = s.now ∧ s'.slots = s.slots ∧ s'.limit = s.limit := by rw [hs']; exact ⟨rfl, rfl, rfl⟩
  have hk : ∀ i, (killV t.cells i (s.ver i)).key = (s.ver i).key ∧ (killV t.cells i (s.ver i)).value = (s.ver i).value ∧ (killV t.cells i (s.ver i)).beg = (s.ver i).beg ∧ (killV t.cells i (s.ver i)).fin = (s.ver i).fin ∧ (killV t.cells i (s.ver i)).by_ = (s.ver i).by_ := fun i => by
    unfold killV; split <;> exact ⟨rfl, rfl, rfl, rfl, rfl⟩
  rw [← hs']
  clear hs'
  refine ⟨W, K, by rw [hn.2.1]; exact S.slots, by rw [hn.2.2]; exact S.limit, by rw [hn.1]; exact S.time, by rw [hm]; exact S.made, ?_, fun p hp => ?_, fun i hi hx => ?_, fun i u hu => ?_, fun i hi => ?_, fun i i' u hi hd hu => ?_⟩
  · show (r.v.map _).length = _
    rw [List.length_map, hll]; exact S.len
  · rw [hll] at hp ⊢
    obtain ⟨V, hm', hi⟩ := S.at_ hp
    have hpr : p < r.v.length := by rw [S.len]; exact hp
    have hme := S.by_mine hp ht
    have hen := S.ended hp ht
    show SimV s' _ ((r.v.map (rOverV (r.s j).id)).getD p default)
    rw [getD_map hpr, hrid]
    obtain ⟨v, hvv⟩ : ∃ v, v = r.v.getD p default := ⟨_, rfl⟩
    rw [← hvv] at V hme hen ⊢
    obtain ⟨i, hii⟩ : ∃ i, i = s.l.getD p 0 := ⟨_, rfl⟩
    rw [← hii] at V hme hen hi ⊢
    obtain ⟨k1, k2, k3, k4, k5⟩ := hk i
    refine ⟨?_, ?_, ?_, ?_, ?_, ?_, fun j' k u c hE => ?_, fun hN => ?_⟩
    · rw [hv i hi, k1]; exact V.key
    · rw [hv i hi, k2]; exact V.value
    · rw [hv i hi]
      show (if v.by_ = t.id then true else v.dead) = (if anyC t.cells (isOwn i) then { s.ver i with dead := true } else s.ver i).dead
      by_cases e : v.by_ = t.id
      · rw [if_pos e, if_pos (hme.1 e)]
      · rw [if_neg e, if_neg (fun h => e (hme.2 h))]; exact V.dead
    · rw [hv i hi, k3]; exact V.beg
    · rw [hv i hi, k4]; exact V.fin
    · rw [hv i hi, k3, k5]; exact V.by_
    · obtain ⟨hne, hE⟩ := (ends_gone htx).1 hE
      have h1 := V.ends _ _ _ _ hE
      show (if v.ended = t.id then 0 else v.ended) = u.id
      rw [if_neg (fun e => ?_)]
      · exact h1
      · obtain ⟨k', c', hE'⟩ := hen.1 e
        exact hne (S.ender hE hE')
    · show (if v.ended = t.id then 0 else v.ended) = 0
      by_cases e : v.ended = t.id
      · rw [if_pos e]
      · rw [if_neg e]
        refine V.free (fun j' k u c hE => ?_)
        by_cases ej : j' = j
        · subst ej
          have := hE.1.1
          rw [ht] at this; injection this with this; subst this
          exact e (hen.2 ⟨k, c, hE⟩)
        · exact hN j' k u c ((ends_gone htx).2 ⟨ej, hE⟩)
  · show upd r.s j RTx.zero i = _
    by_cases e : i = j
    · rw [e, upd_same]
    · rw [upd_other _ _ _ e]
      rw [htx, if_neg e] at hx
      exact S.none_ i hi hx
  · rw [htx] at hu
    by_cases e : i = j
    · rw [if_pos e] at hu; cases hu
    · rw [if_neg e] at hu
      show SimT u (upd r.s j RTx.zero i)
      rw [upd_other _ _ _ e]; exact S.some_ i u hu
  · rw [hvs] at hi
    rw [hv i hi, (hk i).2.2.2.2, hm]; exact S.maker i hi
  · rw [hvs] at hi
    rw [hv i hi] at hd ⊢
    rw [(hk i).2.2.2.2]
    rw [htx] at hu
    by_cases e : i' = j
    · rw [if_pos e] at hu; cases hu
    · rw [if_neg e] at hu
      unfold killV at hd
      split at hd
      · rename_i ha
        obtain ⟨k, c, hk', hc, hp'⟩ := anyC_iff.1 ha
        have a5 := (S.wf.own j k t c i ⟨ht, hc⟩ (by simpa [isOwn] using hp')).2.2.2.2
        rw [a5]
        intro e2
        exact e (S.wf.ids i' j u t hu ht e2.symm)
      · exact S.lost i i' u hi hd hu
theorem Sim.tick (S : Sim s r) : Sim s.tick r.tick :=
  ⟨S.wf.ticked, S.keys, S.slots, S.limit, by show r.time + 1 = s.now + 1; rw [S.time], S.made, S.len, fun p hp => (S.ver p hp).keep ⟨rfl, rfl, rfl, rfl, rfl, rfl⟩ rfl (fun j k t c h => ⟨j, k, t, c, h, rfl⟩) (fun j k t c h => ⟨j, k, t, c, h⟩), S.none_, S.some_, S.maker, S.lost⟩
theorem Sim.done (S : Sim s r) {j : Nat} (hj : j < 8) {t : Tx} (ht : s.tx j = some t) : Sim (s.tick.done j t) (r.tick.done j) := by
  have hid := (S.wf.beg j t ht).2.2.1
  have hrid : (r.s j).id = t.id := (S.some_ j t ht).id
  have hnow := S.wf.now
  obtain ⟨s', hs'⟩ : ∃ s', s' = s.tick.done j t := ⟨_, rfl⟩
  have W : Wf s' := by rw [hs']; exact S.wf.committed ht
  have K : KeyIn s' := by rw [hs']; exact (Few.done s.tick j t).2.2.2 S.keys
  have htx : ∀ i, s'.tx i = if i = j then none else s.tx i := fun i => by rw [hs']; rfl
  have hll : s'.l = s.l := by rw [hs']; rfl
  have hvs : s'.vs.length = s.vs.length := by rw [hs']; show (s.vs.mapIdx _).length = _; simp
  have hv : ∀ i, i < s.vs.length → s'.ver i = doneV t.cells (s.now + 1) i (s.ver i) := fun i hi => by rw [hs']; exact ver_done (s := s.tick) hi
  have hm : s'.made = s.made := by rw [hs']; rfl
  have hn : s'.now = s.now + 1 ∧ s'.slots = s.slots ∧ s'.limit = s.limit := by rw [hs']; exact ⟨rfl, rfl, rfl⟩
  rw [← hs']
  clear hs'
  have hrt : r.tick.time = s.now + 1 := by show r.time + 1 = _; rw [S.time]
  refine ⟨W, K, by rw [hn.2.1]; exact S.slots, by rw [hn.2.2]; exact S.limit, by rw [hn.1]; exact hrt, by rw [hm]; exact S.made, ?_, fun p hp => ?_, fun i hi hx => ?_, fun i u hu => ?_, fun i hi => ?_, fun i i' u hi hd hu => ?_⟩
  · show (r.v.map _).length = _
    rw [List.length_map, hll]; exact S.len
  · rw [hll] at hp ⊢
    obtain ⟨V, hm', hi⟩ := S.at_ hp
    have hpr : p < r.v.length := by rw [S.len]; exact hp
    have hme := S.by_mine hp ht
    have hen := S.ended hp ht
    show SimV s' _ ((r.v.map (rDoneV (r.s j).id r.tick.time)).getD p default)
    rw [getD_map hpr, hrid, hrt]
    obtain ⟨v, hvv⟩ : ∃ v, v = r.v.getD p default := ⟨_, rfl⟩
    rw [← hvv] at V hme hen ⊢
    obtain ⟨i, hii⟩ : ∃ i, i = s.l.getD p 0 := ⟨_, rfl⟩
    rw [← hii] at V hme hen hi ⊢
    have hfin : v.ended = t.id ↔ (anyC t.cells (isOld i) || anyC t.cells (isGone i)) = true := by
      rw [hen, Bool.or_eq_true, anyC_iff, anyC_iff]
      constructor
      · rintro ⟨k, c, hh, h1 | ⟨h1, h2⟩⟩
        · exact .inl ⟨k, c, S.wf.kin _ _ _ _ hh, hh.2, by simp [isOld, h1]⟩
        · exact .inr ⟨k, c, S.wf.kin _ _ _ _ hh, hh.2, by simp [isGone, h1, h2]⟩
      · rintro (⟨k, c, _, hc, h1⟩ | ⟨k, c, _, hc, h1⟩)
        · exact ⟨k, c, ⟨ht, hc⟩, .inl (by simpa [isOld] using h1)⟩
        · simp [isGone] at h1
          exact ⟨k, c, ⟨ht, hc⟩, .inr h1⟩
    have vb : (doneV t.cells (s.now + 1) i (s.ver i)).beg = if v.by_ = t.id then s.now + 1 else (s.ver i).beg := by
      show (if anyC t.cells (isOwn i) then s.now + 1 else (s.ver i).beg) = _
      by_cases e : v.by_ = t.id
      · rw [if_pos e, if_pos (hme.1 e)]
      · rw [if_neg e, if_neg (fun h => e (hme.2 h))]
    have vf : (doneV t.cells (s.now + 1) i (s.ver i)).fin = if v.ended = t.id then s.now + 1 else (s.ver i).fin := by
      show (if (anyC t.cells (isOld i) || anyC t.cells (isGone i)) = true then s.now + 1 else (s.ver i).fin) = _
      by_cases e : v.ended = t.id
      · rw [if_pos e, if_pos (hfin.1 e)]
      · rw [if_neg e, if_neg (fun h => e (hfin.2 h))]
    refine ⟨?_, ?_, ?_, ?_, ?_, ?_, fun j' k u c hE => ?_, fun hN => ?_⟩
    · rw [hv i hi]; exact V.key
    · rw [hv i hi]; exact V.value
    · rw [hv i hi]; exact V.dead
    · rw [hv i hi, vb, ← V.beg]; rfl
    · rw [hv i hi, vf, ← V.fin]; rfl
    · rw [hv i hi, vb]
      show (if v.by_ = t.id then 0 else v.by_) = _
      by_cases e : v.by_ = t.id
      · rw [if_pos e, if_pos e, if_neg (by omega)]
      · rw [if_neg e, if_neg e]; exact V.by_
    · obtain ⟨hne, hE⟩ := (ends_gone htx).1 hE
      have h1 := V.ends _ _ _ _ hE
      show (if v.ended = t.id then 0 else v.ended) = u.id
      rw [if_neg (fun e => ?_)]
      · exact h1
      · obtain ⟨k', c', hE'⟩ := hen.1 e
        exact hne (S.ender hE hE')
    · show (if v.ended = t.id then 0 else v.ended) = 0
      by_cases e : v.ended = t.id
      · rw [if_pos e]
      · rw [if_neg e]
        refine V.free (fun j' k u c hE => ?_)
        by_cases ej : j' = j
        · subst ej
          have := hE.1.1
          rw [ht] at this; injection this with this; subst this
          exact e (hen.2 ⟨k, c, hE⟩)
        · exact hN j' k u c ((ends_gone htx).2 ⟨ej, hE⟩)
  · show upd r.s j RTx.zero i = _
    by_cases e : i = j
    · rw [e, upd_same]
    · rw [upd_other _ _ _ e]
      rw [htx, if_neg e] at hx
      exact S.none_ i hi hx
  · rw [htx] at hu
    by_cases e : i = j
    · rw [if_pos e] at hu; cases hu
    · rw [if_neg e] at hu
      show SimT u (upd r.s j RTx.zero i)
      rw [upd_other _ _ _ e]; exact S.some_ i u hu
  · rw [hvs] at hi
    rw [hv i hi, hm]; exact S.maker i hi
  · rw [hvs] at hi
    rw [hv i hi] at hd ⊢
    rw [htx] at hu
    by_cases e : i' = j
    · rw [if_pos e] at hu; cases hu
    · rw [if_neg e] at hu; exact S.lost i i' u hi hd hu
/-- What was read holds for the one just if for the other. -/
theorem Sim.holds (S : Sim s r) (hsp : ∀ j x, x ∈ (r.s j).reads → 0 ≤ x.lo ∧ x.lo ≤ 63 ∧ 0 ≤ x.hi ∧ x.hi ≤ 63) {j : Nat} {t : Tx} (ht : s.tx j = some t) :
    (decide ((r.s j).level = 1) || r.tick.holds (r.s j)) = s.tick.holds t (s.now + 1) := by
  have T := S.some_ j t ht
  have hth : ∀ k : Nat, decide (r.tick.there k (r.s j).beg = r.tick.there k r.tick.time) = decide (s.tick.at k (s.now + 1) = s.tick.at k t.beg) := by
    intro k
    have h1 := S.tick.there k t.beg
    have h2 := S.tick.there k (s.now + 1)
    rw [T.beg, show r.tick.time = s.now + 1 by show r.time + 1 = _; rw [S.time]]
    rw [Bool.eq_iff_iff, decide_eq_true_eq, decide_eq_true_eq, pos_eq S.wf.nodup h1 h2]
    exact eq_comm
  unfold St.holds
  rw [T.level]
  by_cases h1 : t.level = 1
  · simp [h1]
  · simp only [h1, decide_false, Bool.false_or]
    have hall : r.tick.holds (r.s j) = true ↔ ∀ k : Nat, k < 64 → t.keysOf k = true → decide (s.tick.at k (s.now + 1) = s.tick.at k t.beg) = true := by
      unfold RSt.holds
      rw [List.all_eq_true]
      constructor
      · intro h k hk hkey
        rw [← hth k]
        have : ∃ x ∈ (r.s j).reads, (t.level = 2 → x.found = true) ∧ x.lo ≤ (k : Int) ∧ (k : Int) ≤ x.hi := by
          unfold Tx.keysOf at hkey
          split at hkey
          · obtain ⟨x, hx, h0, h1, h2⟩ := (T.got k hk).1 hkey; exact ⟨x, hx, fun _ => h0, h1, h2⟩
          · rename_i hne
            obtain ⟨x, hx, h1, h2⟩ := (T.looked k hk).1 hkey; exact ⟨x, hx, fun e => absurd e hne, h1, h2⟩
        obtain ⟨x, hx, h0, h1', h2⟩ := this
        have hs := h x hx
        have hsx := hsp j x hx
        rw [Bool.or_eq_true] at hs
        rcases hs with hs | hs
        · rw [T.level] at hs
          simp at hs
          have := h0 hs.1
          rw [hs.2] at this; cases this
        · unfold RSt.holdsR at hs
          rw [List.all_eq_true] at hs
          refine hs k ?_
          unfold rKeys keysFrom
          rw [List.mem_map]
          exact ⟨k - x.lo.toNat, by rw [List.mem_range]; omega, by omega⟩
      · intro h x hx
        have hsx := hsp j x hx
        rw [Bool.or_eq_true]
        by_cases hsk : t.level = 2 ∧ x.found = false
        · left; rw [T.level]; simp [hsk.1, hsk.2]
        · right
          unfold RSt.holdsR
          rw [List.all_eq_true]
          intro k hk
          unfold rKeys keysFrom at hk
          rw [List.mem_map] at hk
          obtain ⟨q, hq, rfl⟩ := hk
          rw [List.mem_range] at hq
          rw [hth]
          refine h _ (by omega) ?_
          unfold Tx.keysOf
          split
          · rename_i h2
            refine (T.got _ (by omega)).2 ⟨x, hx, ?_, by omega, by omega⟩
            cases hf : x.found with
            | true => rfl
            | false => exact absurd ⟨h2, hf⟩ hsk
          · exact (T.looked _ (by omega)).2 ⟨x, hx, by omega, by omega⟩
    rw [Bool.eq_iff_iff, hall, List.all_eq_true]
    constructor
    · intro h k hk
      rw [List.mem_range] at hk
      rw [Bool.or_eq_true]
      cases hkey : t.keysOf k with
      | false => left; rfl
      | true => right; exact h k hk hkey
    · intro h k hk hkey
      have := h k (by rw [List.mem_range]; exact hk)
      rw [hkey] at this
      simpa using this
/-- A commit: the same answer. -/
theorem Sim.commit (S : Sim s r) (hsp : ∀ j x, x ∈ (r.s j).reads → 0 ≤ x.lo ∧ x.lo ≤ 63 ∧ 0 ≤ x.hi ∧ x.hi ≤ 63) {j : Nat} (hj : j < 8) {t : Tx} (ht : s.tx j = some t) :
    (r.commit j).1 = (s.commit j t).1 ∧ Sim (s.commit j t).2 (r.commit j).2 := by
  have hh := S.holds hsp ht
  unfold RSt.commit St.commit
  rw [S.limit, S.time]
  by_cases h1 : s.limit ≤ s.now
  · rw [if_pos h1, if_pos h1]; exact ⟨rfl, S.kill hj ht⟩
  · rw [if_neg h1, if_neg h1]
    cases hb : s.tick.holds t (s.now + 1) with
    | true =>
      rw [hb] at hh
      have : (!decide ((r.s j).level = 1) && !r.tick.holds (r.s j)) = false := by
        rw [Bool.or_eq_true] at hh
        rcases hh with h | h <;> simp [h]
      rw [if_neg (by rw [this]; decide)]
      exact ⟨rfl, S.done hj ht⟩
    | false =>
      rw [hb] at hh
      have : (!decide ((r.s j).level = 1) && !r.tick.holds (r.s j)) = true := by
        rw [Bool.or_eq_false_iff] at hh
        simp [hh.1, hh.2]
      rw [if_pos this]
      exact ⟨rfl, S.tick.kill hj (show s.tick.tx j = some t from ht)⟩
end Go.Proofs.Ytcbhafddehipdaa
namespace Go.Proofs.Ytcbhafddehipdaa
set_option linter.unusedVariables false
set_option linter.unusedSimpArgs false
variable {s : St} {r : RSt}
theorem getD_setQ {α : Type} [Inhabited α] {v : List α} {p q : Nat} (x : α) (hp : p < v.length) : (v.set q x).getD p default = if p = q then x else v.getD p default := by
  rw [List.getD_eq_getElem?_getD, List.getElem?_set]
  by_cases e : q = p
  · rw [if_pos e, if_pos (by omega), if_pos e.symm]; rfl
  · rw [if_neg e, if_neg (fun h => e h.symm), List.getD_eq_getElem?_getD]
/-- A cell of session j turns; the versions are as they were. -/
theorem Sim.cell (S : Sim s r) {j k : Nat} (hj : j < 8) (hk : k < 64) {t : Tx} (ht : s.tx j = some t) {c : Cel} {r' : RTx} {v' : List RVer}
    (W : Wf (s.setTx j (some (t.put k c)))) (T : SimT (t.put k c) r') (hl : v'.length = r.v.length)
    (hv : ∀ p, p < s.l.length → SimV (s.setTx j (some (t.put k c))) (s.l.getD p 0) (v'.getD p default)) : Sim (s.setTx j (some (t.put k c))) { r.setS j r' with v := v' } := by
  refine ⟨W, S.keys, S.slots, S.limit, S.time, S.made, hl.trans S.len, hv, fun i hi' hn => ?_, fun i u hu => ?_, S.maker, fun i i' u hi' hd hu => ?_⟩
  · rw [setTx_tx] at hn
    by_cases e : i = j
    · rw [if_pos e] at hn; cases hn
    · rw [if_neg e] at hn
      show upd r.s j _ i = _
      rw [upd_other _ _ _ e]; exact S.none_ i hi' hn
  · rw [setTx_tx] at hu
    by_cases e : i = j
    · rw [if_pos e] at hu; injection hu with hu; subst hu e
      show SimT _ (upd r.s i _ i)
      rw [upd_same]; exact T
    · rw [if_neg e] at hu
      show SimT _ (upd r.s j _ i)
      rw [upd_other _ _ _ e]; exact S.some_ i u hu
  · rw [setTx_tx] at hu
    by_cases e : i' = j
    · rw [if_pos e] at hu; injection hu with hu; subst hu
      exact S.lost i j t hi' hd ht
    · rw [if_neg e] at hu; exact S.lost i i' u hi' hd hu
theorem hasB_snoc (l : List Int) (x y : Int) : hasB (l ++ [x]) y = (hasB l y || decide (x = y)) := by unfold hasB; simp
theorem SimT.put_new {t : Tx} {x : RTx} (T : SimT t x) {k : Nat} (c : Cel) : SimT (t.put k c) (x.write k) := by
  refine ⟨T.id, T.level, T.ops, T.beg, fun q hq => ?_, T.looked, T.got⟩
  show hasB (x.wrote ++ [(k : Int)]) q = _
  rw [hasB_snoc, T.wrote q hq, put_cells]
  by_cases e : q = k
  · subst e; simp
  · rw [if_neg e]
    have : ¬ (k : Int) = (q : Int) := by omega
    simp [this]
theorem SimT.put_old {t : Tx} {x : RTx} (T : SimT t x) {k : Nat} {c c' : Cel} (hc : t.cells k = some c) : SimT (t.put k c') x := by
  refine ⟨T.id, T.level, T.ops, T.beg, fun q hq => ?_, T.looked, T.got⟩
  rw [T.wrote q hq, put_cells]
  by_cases e : q = k
  · subst e; rw [if_pos rfl, hc]; rfl
  · rw [if_neg e]
/-- Whom the cells of s with one put end. -/
theorem ends_put {j k : Nat} {t : Tx} (ht : s.tx j = some t) {c : Cel} {i j' k' : Nat} {u : Tx} {d : Cel} :
    Ends_ (s.setTx j (some (t.put k c))) i j' k' u d ↔ (¬ (j' = j ∧ k' = k) ∧ ∃ u', Ends_ s i j' k' u' d ∧ u'.id = u.id ∧ ((j' = j ∧ u = t.put k c) ∨ (j' ≠ j ∧ u = u'))) ∨ (j' = j ∧ k' = k ∧ u = t.put k c ∧ d = c ∧ (c.old = some i ∨ (c.own = some i ∧ c.there = false))) := by
  unfold Ends_ Has
  rw [setTx_tx]
  by_cases e : j' = j
  · rw [if_pos e]
    constructor
    · rintro ⟨⟨h1, h2⟩, h3⟩
      injection h1 with h1; subst h1
      rw [put_cells] at h2
      by_cases e2 : k' = k
      · rw [if_pos e2] at h2; injection h2 with h2; subst h2
        exact .inr ⟨e, e2, rfl, rfl, h3⟩
      · rw [if_neg e2] at h2
        exact .inl ⟨fun h => e2 h.2, t, ⟨⟨by rw [e]; exact ht, h2⟩, h3⟩, rfl, .inl ⟨e, rfl⟩⟩
    · rintro (⟨hn, u', ⟨⟨h1, h2⟩, h3⟩, h4, h5⟩ | ⟨h1, h2, h3, h4, h5⟩)
      · rcases h5 with ⟨_, rfl⟩ | ⟨hne, _⟩
        · rw [e, ht] at h1; injection h1 with h1; subst h1
          exact ⟨⟨rfl, by rw [put_cells, if_neg (fun e2 => hn ⟨e, e2⟩)]; exact h2⟩, h3⟩
        · exact absurd e hne
      · subst h3 h4
        exact ⟨⟨rfl, by rw [put_cells, if_pos h2]⟩, h5⟩
  · rw [if_neg e]
    constructor
    · rintro ⟨⟨h1, h2⟩, h3⟩
      exact .inl ⟨fun h => e h.1, u, ⟨⟨h1, h2⟩, h3⟩, rfl, .inr ⟨e, rfl⟩⟩
    · rintro (⟨hn, u', ⟨⟨h1, h2⟩, h3⟩, h4, h5⟩ | ⟨h1, _⟩)
      · rcases h5 with ⟨h5, _⟩ | ⟨_, rfl⟩
        · exact absurd h5 e
        · exact ⟨⟨h1, h2⟩, h3⟩
      · exact absurd h1 e
/-- A version that the cell of key k in session j does not end, neither before nor behind. -/
theorem SimV.far {j k : Nat} {t : Tx} (ht : s.tx j = some t) {c : Cel} {i : Nat} {v : RVer} (V : SimV s i v) (h0 : ∀ u d, ¬ Ends_ s i j k u d) (h1 : ¬ (c.old = some i ∨ (c.own = some i ∧ c.there = false))) : SimV (s.setTx j (some (t.put k c))) i v := by
  refine V.keep ⟨rfl, rfl, rfl, rfl, rfl, rfl⟩ rfl (fun j' k' u d h => ?_) (fun j' k' u d h => ?_)
  · rcases (ends_put ht).1 h with ⟨_, u', hE, hid, _⟩ | ⟨_, _, _, _, h5⟩
    · exact ⟨j', k', u', d, hE, hid⟩
    · exact absurd h5 h1
  · by_cases e : j' = j
    · have hk : k' ≠ k := fun e2 => by subst e e2; exact h0 u d h
      subst e
      have hu := h.1.1
      rw [ht] at hu; injection hu with hu; subst hu
      exact ⟨j', k', t.put k c, d, (ends_put ht).2 (.inl ⟨fun h => hk h.2, t, h, rfl, .inl ⟨rfl, rfl⟩⟩)⟩
    · exact ⟨j', k', u, d, (ends_put ht).2 (.inl ⟨fun h => e h.1, u, h, rfl, .inr ⟨e, rfl⟩⟩)⟩
/-- A version that the new cell ends. -/
theorem SimV.ended {j k : Nat} {t : Tx} (ht : s.tx j = some t) {c : Cel} {i : Nat} {v : RVer} (V : SimV s i v) (h0 : ∀ j' k' u d, Ends_ s i j' k' u d → j' = j ∧ k' = k) (h1 : c.old = some i ∨ (c.own = some i ∧ c.there = false)) : SimV (s.setTx j (some (t.put k c))) i { v with ended := t.id } := by
  refine ⟨V.key, V.value, V.dead, V.beg, V.fin, V.by_, fun j' k' u d h => ?_, fun hN => ?_⟩
  · rcases (ends_put ht).1 h with ⟨hn, u', hE, hid, _⟩ | ⟨_, _, hu, _, _⟩
    · exact absurd (h0 _ _ _ _ hE) hn
    · rw [hu]; rfl
  · exact absurd ((ends_put ht).2 (.inr ⟨rfl, rfl, rfl, rfl, h1⟩)) (hN j k (t.put k c) c)
/-- A version that the new cell does not end any more. -/
theorem SimV.freed {j k : Nat} {t : Tx} (ht : s.tx j = some t) {c : Cel} {i : Nat} {v : RVer} (V : SimV s i v) (h0 : ∀ j' k' u d, Ends_ s i j' k' u d → j' = j ∧ k' = k) (h1 : ¬ (c.old = some i ∨ (c.own = some i ∧ c.there = false))) : SimV (s.setTx j (some (t.put k c))) i { v with ended := 0 } := by
  refine ⟨V.key, V.value, V.dead, V.beg, V.fin, V.by_, fun j' k' u d h => ?_, fun _ => rfl⟩
  rcases (ends_put ht).1 h with ⟨hn, u', hE, hid, _⟩ | ⟨_, _, _, _, h5⟩
  · exact absurd (h0 _ _ _ _ hE) hn
  · exact absurd h5 h1
/-- Nobody but j's cell of key k ends a version of key k. -/
theorem Sim.ends_only (S : Sim s r) {j k i : Nat} {t : Tx} {c : Cel} (hh : Has s j k t c) (hk : (s.ver i).key = (k : Int)) {j' k' : Nat} {u : Tx} {d : Cel} (h : Ends_ s i j' k' u d) : j' = j ∧ k' = k := by
  have e1 := S.ends_key h
  have : k' = k := by rw [hk] at e1; omega
  subst this
  exact ⟨S.wf.only j j' k' t u c d hh h.1 , rfl⟩
theorem Sim.newcell (S : Sim s r) {j k : Nat} (hj : j < 8) (hk : k < 64) {t : Tx} (ht : s.tx j = some t) (hc : t.cells k = none) (ho : s.others j k = false) (hl : s.later k t.beg = false) :
    Sim (s.setTx j (some (t.put k ⟨none, s.at k t.beg, false⟩))) ((r.setS j ((r.s j).write k)).put2 (r.sees t.id t.beg k) none t.id) := by
  have T := (S.some_ j t ht).put_new (k := k) ⟨none, s.at k t.beg, false⟩
  have W := S.wf.newcell ht hc hk ho hl
  have hs := S.sees ht hk
  rw [show s.sees t k = s.at k t.beg by unfold St.sees; rw [hc]] at hs
  have nE : ∀ i u d, ¬ Ends_ s i j k u d := fun i u d h => by
    have h1 := h.1.1
    have h2 := h.1.2
    rw [ht] at h1; injection h1 with h1; subst h1
    rw [hc] at h2; cases h2
  have nO : ∀ i, (s.ver i).key = (k : Int) → ∀ j' k' u d, ¬ Ends_ s i j' k' u d := fun i hki j' k' u d h => by
    have e1 := S.ends_key h
    have : k' = k := by rw [hki] at e1; omega
    subst this
    by_cases e : j' = j
    · subst e; exact nE i u d h
    · have := others_none ho (S.wf.beg j' u h.1.1).2.2.2.2 e h.1.1
      have h2 := h.1.2
      rw [this] at h2; cases h2
  cases hp : r.sees t.id t.beg k with
  | none =>
    rw [hp] at hs
    have ha : s.at k t.beg = none := by
      cases ha : s.at k t.beg with
      | none => rfl
      | some i => rw [ha] at hs; exact hs.elim
    rw [ha] at W T ⊢
    exact S.cell hj hk ht W T rfl (fun p hp => (S.ver p hp).far ht (nE _) (by simp))
  | some p =>
    rw [hp] at hs
    obtain ⟨i, ha⟩ : ∃ i, s.at k t.beg = some i := by
      cases ha : s.at k t.beg with
      | none => rw [ha] at hs; exact hs.elim
      | some i => exact ⟨i, rfl⟩
    rw [ha] at hs W T ⊢
    obtain ⟨hpl, hpi⟩ := hs
    have hki : (s.ver i).key = (k : Int) := (S.wf.at_some.1 ha).2.1
    have hX : (r.setS j ((r.s j).write k)).put2 (some p) none t.id = { r.setS j ((r.s j).write k) with v := r.v.set p { r.v.getD p default with ended := t.id } } := by
      unfold RSt.put2; simp only; rw [if_neg (by simp)]; rfl
    rw [hX]
    refine S.cell hj hk ht W T (by simp) (fun q hq => ?_)
    rw [getD_setQ _ (by rw [S.len]; exact hq)]
    by_cases e : q = p
    · rw [if_pos e]
      subst e
      rw [hpi]
      have V := S.ver q hq
      rw [hpi] at V
      exact V.ended ht (fun j' k' u d h => absurd h (nO i hki j' k' u d)) (.inl rfl)
    · rw [if_neg e]
      refine (S.ver q hq).far ht (nE _) ?_
      rintro (h | h)
      · injection h with h
        exact e (nodup_pos S.wf.nodup hq hpl (by rw [← h, hpi]))
      · cases h.1
def RSt.flagged (r : RSt) (p : Option Nat) (e : Int) : RSt := match p with
  | some q => r.setV q fun v => { v with ended := e }
  | none => r
theorem Sim.flag (S : Sim s r) {j k : Nat} (hj : j < 8) (hk : k < 64) {t : Tx} {c : Cel} (hh : Has s j k t c) (b : Bool) (hb : b = true → c.own.isSome = true) {p : Option Nat} (hp : Pos s.l c.own p) :
    Sim (s.setTx j (some (t.put k { c with there := b }))) (r.flagged p (if b then 0 else t.id)) := by
  have ht := hh.1
  have W := S.wf.flag hh b hb
  have T : SimT (t.put k { c with there := b }) (r.s j) := (S.some_ j t ht).put_old hh.2
  have hrr : ∀ v', ({ r.setS j (r.s j) with v := v' } : RSt) = { r with v := v' } := fun v' => by
    unfold RSt.setS
    have : upd r.s j (r.s j) = r.s := by funext i; unfold upd; split <;> simp_all
    rw [this]
  have oldE : ∀ i, c.old = some i → (s.ver i).key = (k : Int) := fun i h => by
    rw [S.wf.old j k t c hh] at h; exact (S.wf.at_some.1 h).2.1
  -- a version that is not the cell's own
  have farV : ∀ q, q < s.l.length → c.own ≠ some (s.l.getD q 0) → SimV (s.setTx j (some (t.put k { c with there := b }))) (s.l.getD q 0) (r.v.getD q default) := by
    intro q hq hne
    have V := S.ver q hq
    by_cases ho : c.old = some (s.l.getD q 0)
    · have hE : Ends_ s (s.l.getD q 0) j k t c := ⟨hh, .inl ho⟩
      have := V.ended (k := k) ht (c := { c with there := b }) (fun j' k' u d h => S.ends_only hh (oldE _ ho) h) (.inl ho)
      rw [← V.ends _ _ _ _ hE] at this
      exact this
    · refine V.far ht (fun u d h => ?_) ?_
      · have h1 := h.1.1
        have h2 := h.1.2
        rw [ht] at h1; injection h1 with h1; subst h1
        rw [hh.2] at h2; injection h2 with h2; subst h2
        rcases h.2 with h | ⟨h, _⟩
        · exact ho h
        · exact hne h
      · rintro (h | ⟨h, _⟩)
        · exact ho h
        · exact hne h
  have hcases : c.own = none ∨ ∃ i, c.own = some i := by cases c.own <;> simp
  rcases hcases with hco | ⟨i, hco⟩
  · rw [hco] at hp
    cases p with
    | some q => exact hp.elim
    | none =>
      have := S.cell hj hk ht W T rfl (fun q hq => farV q hq (by rw [hco]; simp))
      rw [hrr] at this
      exact this
  · rw [hco] at hp
    cases p with
    | none => exact hp.elim
    | some q0 =>
      obtain ⟨hq0, hqi⟩ := hp
      obtain ⟨a1, a2, a3, a4, a5⟩ := S.wf.own j k t c i hh hco
      have hno : c.old ≠ some i := fun h => by
        rw [S.wf.old j k t c hh] at h
        have := (S.wf.at_some.1 h).2.2.1
        have := a4.1
        omega
      have := S.cell hj hk ht W T (v' := r.v.set q0 { r.v.getD q0 default with ended := if b then 0 else t.id }) (by simp) (fun q hq => by
        rw [getD_setQ _ (by rw [S.len]; exact hq)]
        by_cases e : q = q0
        · rw [if_pos e]
          subst e
          have V := S.ver q hq
          rw [hqi] at V ⊢
          cases b with
          | true =>
            exact V.freed ht (fun j' k' u d h => S.ends_only hh a2 h) (by rintro (h | h); exact hno h; cases h.2)
          | false =>
            exact V.ended ht (fun j' k' u d h => S.ends_only hh a2 h) (.inr ⟨hco, rfl⟩)
        · rw [if_neg e]
          exact farV q hq (fun h => by
            rw [hco] at h; injection h with h
            exact e (nodup_pos S.wf.nodup hq hq0 (by rw [← h, hqi]))))
      rw [hrr] at this
      exact this
theorem Sim.setVal (S : Sim s r) {i p : Nat} (hp : p < s.l.length) (hpi : s.l.getD p 0 = i) (x : Int) : Sim (s.setVal i x) (r.setV p fun v => { v with value := x }) := by
  have hi : i < s.vs.length := by rw [← hpi]; exact S.wf.lin _ (getD_mem hp)
  have hv : ∀ y, ((s.setVal i x).ver y).key = (s.ver y).key ∧ ((s.setVal i x).ver y).dead = (s.ver y).dead ∧ ((s.setVal i x).ver y).beg = (s.ver y).beg ∧ ((s.setVal i x).ver y).fin = (s.ver y).fin ∧ ((s.setVal i x).ver y).by_ = (s.ver y).by_ ∧ ((s.setVal i x).ver y).value = if y = i then x else (s.ver y).value := by
    intro y
    rw [ver_setVal]
    by_cases e : y = i
    · rw [if_pos ⟨e, hi⟩, if_pos e]; subst e; exact ⟨rfl, rfl, rfl, rfl, rfl, rfl⟩
    · rw [if_neg (fun h => e h.1), if_neg e]; exact ⟨rfl, rfl, rfl, rfl, rfl, rfl⟩
  have hlen : (s.setVal i x).vs.length = s.vs.length := by show (s.vs.set _ _).length = _; simp
  refine ⟨S.wf.setVal i x, (Few.setVal s i x).2.2.2 S.keys, S.slots, S.limit, S.time, S.made, ?_, fun q hq => ?_, S.none_, S.some_, fun y hy => ?_, fun y j t hy hd ht => ?_⟩
  · show (r.v.set _ _).length = _
    rw [List.length_set]; exact S.len
  · have hq' : q < s.l.length := hq
    show SimV (s.setVal i x) (s.l.getD q 0) ((r.v.set p _).getD q default)
    rw [getD_setQ _ (by rw [S.len]; exact hq')]
    have V := S.ver q hq'
    obtain ⟨h1, h2, h3, h4, h5, h6⟩ := hv (s.l.getD q 0)
    have hval : (if q = p then ({ r.v.getD p default with value := x } : RVer) else r.v.getD q default) = { r.v.getD q default with value := if s.l.getD q 0 = i then x else (s.ver (s.l.getD q 0)).value } := by
      by_cases e : q = p
      · subst e; rw [if_pos rfl, if_pos hpi]
      · rw [if_neg e, if_neg (fun h => e (nodup_pos S.wf.nodup hq' hp (by rw [h, hpi]))), ← V.value]
    rw [hval]
    exact ⟨by rw [h1]; exact V.key, by rw [h6], by rw [h2]; exact V.dead, by rw [h3]; exact V.beg, by rw [h4]; exact V.fin, by rw [h3, h5]; exact V.by_, V.ends, V.free⟩
  · rw [(hv y).2.2.2.2.1]; exact S.maker y (by rw [← hlen]; exact hy)
  · rw [(hv y).2.1] at hd
    rw [(hv y).2.2.2.2.1]; exact S.lost y j t (by rw [← hlen]; exact hy) hd ht
theorem Sim.grown (S : Sim s r) {j k : Nat} (hj : j < 8) (hk : k < 64) {t : Tx} {c : Cel} (hh : Has s j k t c) (hco : c.own = none) (x : Int) :
    Sim ((s.grow ⟨k, x, t.id, 0, 0, false⟩).setTx j (some (t.put k { c with own := some s.vs.length, there := true }))) { r with v := r.v ++ [⟨k, x, t.id, 0, 0, 0, false⟩] } := by
  have ht := hh.1
  have hid := S.wf.beg j t ht
  have W := S.wf.grown hh hco x
  have T : SimT (t.put k { c with own := some s.vs.length, there := true }) (r.s j) := (S.some_ j t ht).put_old hh.2
  obtain ⟨s', hs'⟩ : ∃ s', s' = (s.grow ⟨k, x, t.id, 0, 0, false⟩).setTx j (some (t.put k { c with own := some s.vs.length, there := true })) := ⟨_, rfl⟩
  have hll : s'.l = s.l ++ [s.vs.length] := by rw [hs']; rfl
  have hvs : s'.vs.length = s.vs.length + 1 := by rw [hs']; show (s.vs ++ [_]).length = _; simp
  have hv : ∀ i, i < s.vs.length → s'.ver i = s.ver i := fun i hi => by rw [hs']; exact ver_grow hi
  have hvn : s'.ver s.vs.length = ⟨k, x, t.id, 0, 0, false⟩ := by rw [hs']; exact ver_grow_new
  have htx : ∀ i, s'.tx i = if i = j then some (t.put k { c with own := some s.vs.length, there := true }) else s.tx i := fun i => by rw [hs']; exact setTx_tx _ _ _ _
  have hE : ∀ i j' k' u d, Ends_ s' i j' k' u d → ∃ u' d', Ends_ s i j' k' u' d' ∧ u'.id = u.id := by
    intro i j' k' u d h
    rw [hs'] at h
    have h' : Ends_ (s.setTx j (some (t.put k { c with own := some s.vs.length, there := true }))) i j' k' u d := h
    rcases (ends_put ht).1 h' with ⟨_, u', hE, hid, _⟩ | ⟨rfl, rfl, rfl, rfl, h5⟩
    · exact ⟨u', d, hE, hid⟩
    · rcases h5 with h5 | ⟨_, h5⟩
      · exact ⟨t, c, ⟨hh, .inl h5⟩, rfl⟩
      · cases h5
  have hF : ∀ i j' k' u d, Ends_ s i j' k' u d → ∃ u' d', Ends_ s' i j' k' u' d' := by
    intro i j' k' u d h
    rw [hs']
    show ∃ u' d', Ends_ (s.setTx j (some (t.put k { c with own := some s.vs.length, there := true }))) i j' k' u' d'
    by_cases e : j' = j ∧ k' = k
    · obtain ⟨rfl, rfl⟩ := e
      have h1 := h.1.1
      have h2 := h.1.2
      rw [ht] at h1; injection h1 with h1; subst h1
      rw [hh.2] at h2; injection h2 with h2; subst h2
      rcases h.2 with h3 | ⟨h3, _⟩
      · exact ⟨_, _, (ends_put ht).2 (.inr ⟨rfl, rfl, rfl, rfl, .inl h3⟩)⟩
      · rw [hco] at h3; cases h3
    · by_cases e2 : j' = j
      · subst e2
        have h1 := h.1.1
        rw [ht] at h1; injection h1 with h1; subst h1
        exact ⟨t.put k { c with own := some s.vs.length, there := true }, d, (ends_put ht).2 (.inl ⟨e, t, h, rfl, .inl ⟨rfl, rfl⟩⟩)⟩
      · exact ⟨_, _, (ends_put ht).2 (.inl ⟨e, u, h, rfl, .inr ⟨e2, rfl⟩⟩)⟩
  have hm : s'.made = s.made ∧ s'.now = s.now ∧ s'.slots = s.slots ∧ s'.limit = s.limit := by rw [hs']; exact ⟨rfl, rfl, rfl, rfl⟩
  have K : KeyIn s' := by
    intro i hi
    rw [hvs] at hi
    by_cases e : i = s.vs.length
    · subst e; rw [hvn]; exact ⟨k, hk, rfl⟩
    · rw [hv i (by omega)]; exact S.keys i (by omega)
  rw [← hs'] at W ⊢
  clear hs'
  refine ⟨W, K, by rw [hm.2.2.1]; exact S.slots, by rw [hm.2.2.2]; exact S.limit, by rw [hm.2.1]; exact S.time, by rw [hm.1]; exact S.made, by rw [hll]; simp [S.len], fun q hq => ?_, fun i hi hx => ?_, fun i u hu => ?_, fun i hi => ?_, fun i i' u hi hd hu => ?_⟩
  · rw [hll] at hq ⊢
    by_cases e : q < s.l.length
    · have e1 : (s.l ++ [s.vs.length]).getD q 0 = s.l.getD q 0 := by simp [List.getD_eq_getElem?_getD, List.getElem?_append_left e]
      have e2 : (r.v ++ [(⟨k, x, t.id, 0, 0, 0, false⟩ : RVer)]).getD q default = r.v.getD q default := by simp [List.getD_eq_getElem?_getD, List.getElem?_append_left (show q < r.v.length by rw [S.len]; exact e)]
      rw [e1, e2]
      have hi := S.wf.lin _ (getD_mem e)
      refine (S.ver q e).keep (by rw [hv _ hi]; exact ⟨rfl, rfl, rfl, rfl, rfl, rfl⟩) rfl (fun j' k' u d h => ?_) (fun j' k' u d h => ?_)
      · obtain ⟨u', d', h1, h2⟩ := hE _ _ _ _ _ h; exact ⟨j', k', u', d', h1, h2⟩
      · obtain ⟨u', d', h1⟩ := hF _ _ _ _ _ h; exact ⟨j', k', u', d', h1⟩
    · have eq : q = s.l.length := by simp at hq; omega
      subst eq
      have e1 : (s.l ++ [s.vs.length]).getD s.l.length 0 = s.vs.length := by simp [List.getD_eq_getElem?_getD]
      have e2 : (r.v ++ [(⟨k, x, t.id, 0, 0, 0, false⟩ : RVer)]).getD s.l.length default = ⟨k, x, t.id, 0, 0, 0, false⟩ := by rw [← S.len]; simp [List.getD_eq_getElem?_getD]
      rw [e1, e2]
      refine ⟨by rw [hvn], by rw [hvn], by rw [hvn], by rw [hvn], by rw [hvn], by rw [hvn]; rfl, fun j' k' u d h => ?_, fun _ => rfl⟩
      obtain ⟨u', d', h1, _⟩ := hE _ _ _ _ _ h
      have hlt : s.vs.length < s.vs.length := by
        rcases h1.2 with h2 | ⟨h2, _⟩
        · rw [S.wf.old j' k' u' d' h1.1] at h2
          exact S.wf.lin _ (S.wf.at_some.1 h2).1
        · exact S.wf.lin _ (S.wf.own j' k' u' d' _ h1.1 h2).1
      omega
  · rw [htx] at hx
    by_cases e : i = j
    · rw [if_pos e] at hx; cases hx
    · rw [if_neg e] at hx; exact S.none_ i hi hx
  · rw [htx] at hu
    by_cases e : i = j
    · rw [if_pos e] at hu; injection hu with hu; subst hu e; exact T
    · rw [if_neg e] at hu; exact S.some_ i u hu
  · rw [hvs] at hi
    rw [hm.1]
    by_cases e : i = s.vs.length
    · subst e; rw [hvn]; exact ⟨hid.2.2.1, hid.2.2.2.1⟩
    · rw [hv i (by omega)]; exact S.maker i (by omega)
  · rw [hvs] at hi
    by_cases e : i = s.vs.length
    · subst e; rw [hvn] at hd; cases hd
    · rw [hv i (by omega)] at hd ⊢
      rw [htx] at hu
      by_cases e2 : i' = j
      · rw [if_pos e2] at hu; injection hu with hu; subst hu
        exact S.lost i j t (by omega) hd ht
      · rw [if_neg e2] at hu; exact S.lost i i' u (by omega) hd hu
end Go.Proofs.Ytcbhafddehipdaa
namespace Go.Proofs.Ytcbhafddehipdaa
set_option linter.unusedVariables false
set_option linter.unusedSimpArgs false
variable {s : St} {r : RSt}
theorem setS_self (x : RSt) (j : Nat) : x.setS j (x.s j) = x := by
  unfold RSt.setS
  have : upd x.s j (x.s j) = x.s := by funext i; unfold upd; split <;> simp_all
  rw [this]
theorem Sim.taken (S : Sim s r) {j k : Nat} (hk : k < 64) {t : Tx} (ht : s.tx j = some t) : r.taken t.id t.beg k = (s.others j k || s.later k t.beg) := by
  have hb := S.wf.beg j t ht
  unfold RSt.taken
  rw [S.later k t.beg (by omega)]
  congr 1
  unfold St.others
  rw [Bool.eq_iff_iff, List.any_eq_true, List.any_eq_true]
  have e : ∀ i, i < 8 → ((!decide ((r.s i).id = 0) && !decide ((r.s i).id = t.id) && hasB (r.s i).wrote (k : Int)) = true ↔ holderB s j k i = true) := by
    intro i hi
    unfold holderB
    cases hu : s.tx i with
    | none =>
      have := (S.id0 hi).2 hu
      simp [this]
    | some u =>
      have U := S.some_ i u hu
      have hub := S.wf.beg i u hu
      have h0 : ¬ u.id = 0 := by omega
      rw [U.id, U.wrote k hk]
      have hid : u.id = t.id ↔ i = j := ⟨fun h => S.wf.ids i j u t hu ht h, fun h => by subst h; rw [ht] at hu; injection hu with hu; rw [hu]⟩
      simp [h0, hid]
  constructor
  · rintro ⟨i, hi, h⟩; exact ⟨i, hi, (e i (by simpa using hi)).1 h⟩
  · rintro ⟨i, hi, h⟩; exact ⟨i, hi, (e i (by simpa using hi)).2 h⟩
theorem Sim.look (S : Sim s r) {j : Nat} (hj : j < 8) {t : Tx} (ht : s.tx j = some t) {k : Nat} (hk : k < 64) (b : Bool) :
    Sim (s.setTx j (some (if b then (t.look k).mark k else t.look k))) (if hasB (r.s j).wrote (k : Int) then r else r.setS j ((r.s j).read ⟨k, k, b, false⟩)) := by
  have T := (S.some_ j t ht).look hk b
  have e : (if hasB (r.s j).wrote (k : Int) then r else r.setS j ((r.s j).read ⟨k, k, b, false⟩)) = r.setS j (if hasB (r.s j).wrote (k : Int) then r.s j else (r.s j).read ⟨k, k, b, false⟩) := by
    split
    · rw [setS_self]
    · rfl
  rw [e]
  cases b with
  | false => exact S.retx hj ht (look_beg t k).2.2 (look_beg t k).1 (look_id t k) T
  | true => exact S.retx hj ht ((mark_beg _ k).2.2.trans (look_beg t k).2.2) ((mark_beg _ k).1.trans (look_beg t k).1) ((mark_id _ k).trans (look_id t k)) T
theorem Sim.change (S : Sim s r) {j : Nat} (hj : j < 8) {t : Tx} (ht : s.tx j = some t) {k : Nat} (hk : k < 64) (kind x : Int) (hkind : kind = 2 ∨ kind = 3 ∨ kind = 4) :
    (r.write j kind k x).1 = (s.change j t kind k x).1 ∧ Sim (s.change j t kind k x).2 (r.write j kind k x).2 := by
  have T := S.some_ j t ht
  have hs := S.sees ht hk
  have ho := S.own ht hk
  have hsome := pos_some hs
  have hw := T.wrote k hk
  unfold RSt.write St.change
  rw [T.id, T.beg, hsome]
  by_cases h1 : (s.sees t k).isSome = decide (kind = 2)
  · rw [if_pos h1, if_pos h1]
    have := S.look hj ht hk false
    exact ⟨rfl, this⟩
  · rw [if_neg h1, if_neg h1]
    have hkill : ∀ w2 : Int, (abortRes 14 w2, r.over j).1 = (abortRes 14 w2, s.kill j t).1 ∧ Sim (abortRes 14 w2, s.kill j t).2 (abortRes 14 w2, r.over j).2 := fun w2 => ⟨rfl, S.kill hj ht⟩
    cases hc : t.cells k with
    | none =>
      rw [hc] at hw
      have hw : hasB (r.s j).wrote (k : Int) = false := hw
      have hwn : (!hasB (r.s j).wrote (k : Int)) = true := by rw [hw]; rfl
      rw [hc] at ho
      have hon : r.own t.id k = none := by
        cases h : r.own t.id k with
        | none => rfl
        | some _ => rw [h] at ho; exact ho.elim
      rw [hwn, S.taken hk ht]
      unfold St.write St.take
      rw [hc]
      simp only [Bool.true_and]
      cases htk : (s.others j k || s.later k t.beg) with
      | true =>
        simp only [if_true]
        rw [if_neg (by decide : ¬ (2 : Int) = 0)]
        simp only [ht]
        exact ⟨by first | rfl | trivial, (hkill 2).2⟩
      | false =>
        have hoo : s.others j k = false := by cases h : s.others j k <;> simp_all
        have hll : s.later k t.beg = false := by cases h : s.later k t.beg <;> simp_all
        simp only [Bool.false_eq_true, if_false]
        have hput1 : r.put1 j k = r.setS j ((r.s j).write k) := by unfold RSt.put1; rw [hw]; rfl
        have SN := S.newcell hj hk ht hc hoo hll
        rw [hon, hput1]
        have hnew : s.newCel t k = ⟨none, s.at k t.beg, (s.at k t.beg).isSome⟩ := rfl
        rw [hnew]
        have hh' : Has (s.setTx j (some (t.put k ⟨none, s.at k t.beg, false⟩))) j k (t.put k ⟨none, s.at k t.beg, false⟩) ⟨none, s.at k t.beg, false⟩ := ⟨setTx_same _ _ _, by rw [put_cells, if_pos rfl]⟩
        by_cases h4 : kind = 4
        · subst h4
          simp only [decide_true, Bool.not_true, Bool.false_and, Bool.false_eq_true, if_false, if_true]
          rw [put_again]
          exact ⟨by first | rfl | trivial, SN⟩
        · simp only [h4, decide_false, Bool.not_false, Bool.true_and, Option.isNone_none, if_false]
          rw [S.slots, S.len]
          by_cases hf : s.slots ≤ (s.l.length : Int)
          · simp only [hf, decide_true, if_true]
            rw [if_neg (by decide : ¬ (5 : Int) = 0)]
            simp only [setTx_same]
            rw [kill_congr s j _ t _ (fun i => anyC_put hc (by simp [isOwn]))]
            exact ⟨by first | rfl | trivial, (hkill 5).2⟩
          · simp only [hf, decide_false, Bool.false_eq_true, if_false, if_true]
            have SG := SN.grown hj hk hh' rfl x
            rw [setTx_grow, put_again] at SG
            rw [put_again]
            refine ⟨by first | rfl | trivial, ?_⟩
            have e3 : ((r.setS j ((r.s j).write k)).put2 (r.sees t.id t.beg k) none t.id).put3 none t.id kind k x = { (r.setS j ((r.s j).write k)).put2 (r.sees t.id t.beg k) none t.id with v := ((r.setS j ((r.s j).write k)).put2 (r.sees t.id t.beg k) none t.id).v ++ [⟨k, x, t.id, 0, 0, 0, false⟩] } := by
              unfold RSt.put3; simp only; rw [if_neg h4]
            rw [e3]
            exact SG
    | some c =>
      have hh : Has s j k t c := ⟨ht, hc⟩
      rw [hc] at hw
      have hw : hasB (r.s j).wrote (k : Int) = true := hw
      have hwn : (!hasB (r.s j).wrote (k : Int)) = false := by rw [hw]; rfl
      rw [hc] at ho
      have ho : Pos s.l c.own (r.own t.id k) := ho
      rw [hwn]
      have hput1 : r.put1 j k = r := by unfold RSt.put1; rw [hw]; rfl
      rw [hput1]
      unfold St.write St.take
      rw [hc]
      simp only [Bool.false_and, Bool.false_eq_true, if_false]
      have hsee : s.sees t k = if c.there then c.own else none := by unfold St.sees; rw [hc]
      -- nothing is replaced
      have hput2 : r.put2 (r.sees t.id t.beg k) (r.own t.id k) t.id = r := by
        unfold RSt.put2
        cases hp : r.sees t.id t.beg k with
        | none => rfl
        | some p =>
          rw [hp, hsee] at hs
          simp only
          rw [if_pos]
          cases hth : c.there with
          | false => rw [hth] at hs; exact hs.elim
          | true =>
            rw [hth] at hs
            exact ((pos_eq S.wf.nodup ho hs).2 rfl)
      rw [hput2]
      have hns : (r.own t.id k).isNone = c.own.isNone := by
        have := pos_some ho
        cases h1 : r.own t.id k <;> cases h2 : c.own <;> simp_all
      by_cases h4 : kind = 4
      · subst h4
        simp only [decide_true, Bool.not_true, Bool.false_and, Bool.false_eq_true, if_false, if_true]
        have SF := S.flag hj hk hh false (fun h => by cases h) ho
        refine ⟨by first | rfl | trivial, ?_⟩
        have e3 : r.put3 (r.own t.id k) t.id 4 k x = r.flagged (r.own t.id k) (if false = true then 0 else t.id) := by
          unfold RSt.put3 RSt.flagged
          cases r.own t.id k <;> simp
        rw [e3]
        exact SF
      · simp only [h4, decide_false, Bool.not_false, Bool.true_and, if_false]
        rw [hns, S.slots, S.len]
        cases hco : c.own with
        | none =>
          rw [hco] at ho
          have hon : r.own t.id k = none := by
            cases h : r.own t.id k with
            | none => rfl
            | some _ => rw [h] at ho; exact ho.elim
          simp only [Option.isNone_none, Bool.true_and]
          by_cases hf : s.slots ≤ (s.l.length : Int)
          · simp only [hf, decide_true, if_true]
            rw [if_neg (by decide : ¬ (5 : Int) = 0)]
            simp only [setTx_same]
            rw [kill_congr s j _ t _ (fun i => rfl)]
            exact ⟨by first | rfl | trivial, (hkill 5).2⟩
          · simp only [hf, decide_false, Bool.false_eq_true, if_false, if_true]
            have SG := S.grown hj hk hh hco x
            refine ⟨by first | rfl | trivial, ?_⟩
            have e3 : r.put3 (r.own t.id k) t.id kind k x = { r with v := r.v ++ [⟨k, x, t.id, 0, 0, 0, false⟩] } := by
              rw [hon]; unfold RSt.put3; simp only; rw [if_neg h4]
            rw [e3]
            exact SG
        | some i =>
          simp only [Option.isNone_some, Bool.false_and, Bool.false_eq_true, if_false, if_true]
          obtain ⟨p, hp, hpl, hpi⟩ : ∃ p, r.own t.id k = some p ∧ p < s.l.length ∧ s.l.getD p 0 = i := by
            rw [hco] at ho
            cases h : r.own t.id k with
            | none => rw [h] at ho; exact ho.elim
            | some p => rw [h] at ho; exact ⟨p, rfl, ho.1, ho.2⟩
          have SF := S.flag hj hk hh true (fun _ => by rw [hco]; rfl) ho
          have SV := SF.setVal (p := p) (i := i) hpl hpi x
          refine ⟨by first | rfl | trivial, ?_⟩
          have e3 : r.put3 (r.own t.id k) t.id kind k x = (r.flagged (r.own t.id k) (if true = true then 0 else t.id)).setV p fun v => { v with value := x } := by
            rw [hp]
            unfold RSt.put3 RSt.flagged
            simp only [if_true]
            rw [if_neg h4]
            unfold RSt.setV
            simp only
            rw [getD_setQ _ (by rw [S.len]; exact hpl), if_pos rfl, List.set_set]
          rw [e3]
          have e4 : (s.setVal i x).setTx j (some (t.put k { c with there := true })) = (s.setTx j (some (t.put k { c with there := true }))).setVal i x := rfl
          rw [hco] at SV e4
          rw [e4]
          exact SV
theorem Sim.value (S : Sim s r) {i p : Nat} (hp : p < s.l.length) (hpi : s.l.getD p 0 = i) : (r.v.getD p default).value = (s.ver i).value := by
  have := (S.ver p hp).value
  rw [hpi] at this; exact this
theorem Sim.pairOf (S : Sim s r) {j : Nat} {t : Tx} (ht : s.tx j = some t) {k : Nat} (hk : k < 64) : r.pairOf t.id t.beg k = s.pairOf t k := by
  have hs := S.sees ht hk
  unfold RSt.pairOf St.pairOf
  cases h1 : s.sees t k with
  | none =>
    rw [h1] at hs
    cases h2 : r.sees t.id t.beg k with
    | none => rfl
    | some _ => rw [h2] at hs; exact hs.elim
  | some i =>
    rw [h1] at hs
    cases h2 : r.sees t.id t.beg k with
    | none => rw [h2] at hs; exact hs.elim
    | some p =>
      rw [h2] at hs
      simp only [Option.map_some]
      rw [S.value hs.1 hs.2]
theorem Sim.get (S : Sim s r) {j : Nat} (hj : j < 8) {t : Tx} (ht : s.tx j = some t) {k : Nat} (hk : k < 64) :
    (r.get j k).1 = (s.get j t k).1 ∧ Sim (s.get j t k).2 (r.get j k).2 := by
  have T := S.some_ j t ht
  have hs := S.sees ht hk
  unfold RSt.get St.get
  rw [T.id, T.beg]
  cases h1 : s.sees t k with
  | none =>
    rw [h1] at hs
    cases h2 : r.sees t.id t.beg k with
    | none => exact ⟨rfl, S.look hj ht hk false⟩
    | some _ => rw [h2] at hs; exact hs.elim
  | some i =>
    rw [h1] at hs
    cases h2 : r.sees t.id t.beg k with
    | none => rw [h2] at hs; exact hs.elim
    | some p =>
      rw [h2] at hs
      refine ⟨?_, S.look hj ht hk true⟩
      show (⟨0, (r.v.getD p default).value, [], 0, 0⟩ : Res) = ⟨0, (s.ver i).value, [], 0, 0⟩
      rw [S.value hs.1 hs.2]
theorem filterMap_congr' {α β : Type} {f g : α → Option β} : ∀ {l : List α}, (∀ x, x ∈ l → f x = g x) → l.filterMap f = l.filterMap g := by
  intro l
  induction l with
  | nil => intro _; rfl
  | cons a l ih =>
    intro h
    rw [List.filterMap_cons, List.filterMap_cons, h a (by simp), ih (fun x hx => h x (by simp [hx]))]
theorem Sim.scan (S : Sim s r) {j : Nat} (hj : j < 8) {t : Tx} (ht : s.tx j = some t) {lo hi : Nat} (hlo : lo ≤ hi) (hhi : hi < 64) :
    (r.scan j lo hi).1 = (s.scan j t lo (hi + 1 - lo)).1 ∧ Sim (s.scan j t lo (hi + 1 - lo)).2 (r.scan j lo hi).2 := by
  have T := S.some_ j t ht
  unfold RSt.scan St.scan
  rw [T.id, T.beg]
  constructor
  · have e : rKeys (lo : Int) (hi : Int) = keysFrom lo (hi + 1 - lo) := by unfold rKeys; congr 1 <;> omega
    simp only
    rw [e]
    congr 1
    refine filterMap_congr' (fun k hk => S.pairOf ht ?_)
    unfold keysFrom at hk
    rw [List.mem_map] at hk
    obtain ⟨q, hq, rfl⟩ := hk
    rw [List.mem_range] at hq
    omega
  · exact S.retx (t' := t.lookAll lo (hi + 1 - lo)) hj ht rfl rfl rfl (T.lookAll hlo)
theorem Sim.do_ (S : Sim s r) (hsp : ∀ j x, x ∈ (r.s j).reads → 0 ≤ x.lo ∧ x.lo ≤ 63 ∧ 0 ≤ x.hi ∧ x.hi ≤ 63) (j : Int) (o : MOp) :
    (r.do_ j o).1 = (s.do_ j o).1 ∧ (r.do_ j o).2.1 = (s.do_ j o).2.1 ∧ Sim (s.do_ j o).2.2 (r.do_ j o).2.2 := by
  unfold RSt.do_ St.do_
  by_cases hj : sessB j = true
  · rw [if_pos hj, if_pos hj]
    have hjn : j.toNat < 8 := by simp [sessB] at hj; omega
    cases ht : s.tx j.toNat with
    | none =>
      rw [if_pos ((S.id0 hjn).2 ht)]
      exact ⟨rfl, rfl, S⟩
    | some t =>
      have T := S.some_ _ t ht
      rw [if_neg (fun e => by rw [(S.id0 hjn).1 e] at ht; cases ht)]
      simp only
      by_cases hok : opOkB o = true
      · rw [if_pos hok, if_pos hok]
        have hkey : o.key.toNat < 64 ∧ ((o.key.toNat : Nat) : Int) = o.key ∧ 1 ≤ o.kind ∧ o.kind ≤ 7 := by
          unfold opOkB at hok
          split at hok
          · simp [keyOkB] at hok; omega
          · split at hok
            · simp [keyOkB] at hok; omega
            · split at hok
              · simp [keyOkB] at hok; omega
              · split at hok
                · simp at hok; omega
                · cases hok
        have hscan : o.kind = 5 → o.key ≤ o.hi ∧ o.hi ≤ 63 := by
          intro hk
          unfold opOkB at hok
          simp [hk, keyOkB] at hok; omega
        by_cases k7 : o.kind = 7
        · rw [if_pos k7]
          have e : (decide (12 ≤ t.ops) && !endsB o) = false := by simp [endsB, k7]
          rw [e]
          simp only [Bool.false_eq_true, if_false]
          unfold St.call
          rw [if_neg (by omega), if_pos k7]
          exact ⟨by first | rfl | trivial, by first | rfl | trivial, S.kill hjn ht⟩
        · rw [if_neg k7]
          by_cases k6 : o.kind = 6
          · rw [if_pos k6]
            have e : (decide (12 ≤ t.ops) && !endsB o) = false := by simp [endsB, k6]
            rw [e]
            simp only [Bool.false_eq_true, if_false]
            unfold St.call
            rw [if_pos k6]
            have := S.commit hsp hjn ht
            exact ⟨this.1, by first | rfl | trivial, this.2⟩
          · rw [if_neg k6, T.ops]
            have e : (decide (12 ≤ t.ops) && !endsB o) = decide (12 ≤ t.ops) := by simp [endsB, k6, k7]
            rw [e]
            by_cases h12 : 12 ≤ t.ops
            · rw [if_pos h12, if_pos (c := decide (12 ≤ t.ops) = true) (by simpa using h12)]
              exact ⟨rfl, rfl, S⟩
            · rw [if_neg h12, if_neg (c := decide (12 ≤ t.ops) = true) (by simpa using h12)]
              have S1 : Sim (s.setTx j.toNat (some t.op)) (r.setS j.toNat (r.s j.toNat).op) := S.retx (t' := t.op) hjn ht rfl rfl rfl T.op
              have ht1 : (s.setTx j.toNat (some t.op)).tx j.toNat = some t.op := setTx_same _ _ _
              unfold St.call
              rw [if_neg k6, if_neg k7]
              by_cases k1 : o.kind = 1
              · rw [if_pos k1, if_pos k1]
                have G := S1.get hjn ht1 hkey.1
                rw [hkey.2.1] at G
                have e2 : (s.setTx j.toNat (some t.op)).get j.toNat t.op o.key.toNat = s.get j.toNat t.op o.key.toNat := by
                  unfold St.get
                  show (match s.sees t.op o.key.toNat with | none => _ | some i => _) = _
                  cases s.sees t.op o.key.toNat <;> simp only [setTx_again] <;> rfl
                rw [e2] at G
                exact ⟨G.1, rfl, G.2⟩
              · rw [if_neg k1, if_neg k1]
                by_cases k5 : o.kind = 5
                · rw [if_pos k5, if_pos k5]
                  obtain ⟨hs1, hs2⟩ := hscan k5
                  have G := S1.scan hjn ht1 (lo := o.key.toNat) (hi := o.hi.toNat) (by omega) (by omega)
                  rw [hkey.2.1, show ((o.hi.toNat : Nat) : Int) = o.hi by omega] at G
                  have e2 : (s.setTx j.toNat (some t.op)).scan j.toNat t.op o.key.toNat (o.hi.toNat + 1 - o.key.toNat) = s.scan j.toNat t.op o.key.toNat (o.hi + 1 - o.key).toNat := by
                    rw [show o.hi.toNat + 1 - o.key.toNat = (o.hi + 1 - o.key).toNat by omega]
                    unfold St.scan
                    simp only [setTx_again]; rfl
                  rw [e2] at G
                  exact ⟨G.1, rfl, G.2⟩
                · rw [if_neg k5, if_neg k5]
                  have G := S1.change hjn ht1 hkey.1 o.kind o.value (by omega)
                  rw [hkey.2.1] at G
                  exact ⟨G.1, rfl, G.2⟩
      · rw [if_neg hok, if_neg hok]
        exact ⟨rfl, rfl, S⟩
  · rw [if_neg hj, if_neg hj]
    exact ⟨rfl, rfl, S⟩
end Go.Proofs.Ytcbhafddehipdaa
namespace Go.Proofs.Ytcbhafddehipdaa
open Go.RowKit Go.ChangeShapes Go.WideShapes Go.Deep
def zipInts (ks : List IntKind) (ns : List Int) : List Value := List.zipWith Value.int ks ns
def wfs : List IntKind → List Int → Prop
  | k :: ks, n :: ns => (Lit.int k n).wf = true ∧ wfs ks ns
  | _, _ => True
theorem wfs_append {ks ks' : List IntKind} {ns ns' : List Int} (hl : ns.length = ks.length) (h : wfs ks ns) (h' : wfs ks' ns') : wfs (ks ++ ks') (ns ++ ns') := by
  induction ks generalizing ns with
  | nil => cases ns with
    | nil => exact h'
    | cons n ns => simp at hl
  | cons k ks ih => cases ns with
    | nil => simp at hl
    | cons n ns => exact ⟨h.1, ih (by simpa using hl) h.2⟩
section
variable {H : Type} {enc : TypeId × Value → H} {P : Program} {W : World} {base : Nat} {spare : Nat → Bool} {held : Bool}
/-- Whatever is read as type t is integers of the kinds ks. -/
def Plain (enc : TypeId × Value → H) (P : Program) (W : World) (base : Nat) (spare : Nat → Bool) (held : Bool) (t : TypeId) (ks : List IntKind) : Prop :=
  P.cellsOf t = ks.length ∧ ∀ n cs x, DataW.trod enc P W base spare held n t cs = some x → ∃ ns : List Int, ns.length = ks.length ∧ cs = zipInts ks ns ∧ wfs ks ns
theorem Plain.int {t : TypeId} {k : IntKind} (ht : P.underlying t = some (.int k)) (hc : P.cellsOf t = 1) : Plain enc P W base spare held t [k] := by
  refine ⟨hc, fun n cs x h => ?_⟩
  obtain ⟨m, hm, _, hw⟩ := DataW.trod_int ht h
  exact ⟨[m], rfl, by simpa [zipInts] using hm, hw, trivial⟩
/-- The fields l, from cell o on, are integers of the kinds ks. -/
def FP (enc : TypeId × Value → H) (P : Program) (W : World) (base : Nat) (spare : Nat → Bool) (held : Bool) (o : Nat) (l : List Field) (ks : List IntKind) : Prop :=
  ∀ n (cs : List Value), o + ks.length ≤ cs.length → (∀ f ∈ l, ∃ x, DataW.trod enc P W base spare held n f.type ((cs.drop f.offset).take (P.cellsOf f.type)) = some x) →
    ∃ ns : List Int, ns.length = ks.length ∧ (cs.drop o).take ks.length = zipInts ks ns ∧ wfs ks ns
theorem FP.nil (o : Nat) : FP enc P W base spare held o [] [] := fun n cs _ _ => ⟨[], rfl, by simp [zipInts], trivial⟩
theorem FP.cons {o : Nat} {f : Field} {l : List Field} {K ks : List IntKind} (hp : Plain enc P W base spare held f.type K) (ho : f.offset = o) (h : FP enc P W base spare held (o + K.length) l ks) : FP enc P W base spare held o (f :: l) (K ++ ks) := by
  intro n cs hl hf
  obtain ⟨x, hx⟩ := hf f (by simp)
  rw [ho, hp.1] at hx
  obtain ⟨n1, e1, e2, e3⟩ := hp.2 _ _ _ hx
  obtain ⟨n2, d1, d2, d3⟩ := h n cs (by simp at hl; omega) (fun g hg => hf g (by simp [hg]))
  refine ⟨n1 ++ n2, by simp [e1, d1], ?_, wfs_append e1 e3 d3⟩
  rw [List.length_append, List.take_add, e2, List.drop_drop, d2]
  unfold zipInts
  rw [List.zipWith_append (by rw [e1])]
theorem Plain.struct {t : TypeId} {fs : Array Field} {ks : List IntKind} (ht : P.underlying t = some (.struct fs)) (hc : P.cellsOf t = ks.length) (h : FP enc P W base spare held 0 fs.toList ks) : Plain enc P W base spare held t ks := by
  refine ⟨hc, fun n cs x hx => ?_⟩
  obtain ⟨xs, m, _, _, hlen, hxl, hf⟩ := DataW.trod_struct ht hx
  obtain ⟨ns, h1, h2, h3⟩ := h m cs (by omega) (fun f hfm => by
    obtain ⟨i, hi, he⟩ := List.getElem_of_mem hfm
    have := hf i f (by rw [← he]; simp at hi; simp [hi])
    simp at hi
    rw [List.getElem?_eq_getElem (by omega)] at this
    exact ⟨_, this⟩)
  refine ⟨ns, h1, ?_, h3⟩
  rw [← h2, List.drop_zero, List.take_of_length_le (by omega)]
end
end Go.Proofs.Ytcbhafddehipdaa
namespace Go.Proofs.Ytcbhafddehipdaa
open Go.RowKit Go.ChangeShapes Go.WideShapes Go.Deep
set_option linter.unusedVariables false
def opKinds : List IntKind := [.i64, .i64, .i64, .i64]
theorem plain_op {H : Type} {enc : TypeId × Value → H} {W : World} : Plain enc Try.prog W 0 (fun _ => true) true 31 opKinds := by
  have i1 : Plain enc Try.prog W 0 (fun _ => true) true 3 [.i64] := Plain.int Try.underlying3 (by kernel_rfl)
  refine Plain.struct Try.underlying31 (by kernel_rfl) ?_
  change FP enc Try.prog W 0 _ true 0 [_, _, _, _] ([.i64] ++ ([.i64] ++ ([.i64] ++ ([.i64] ++ []))))
  exact FP.cons i1 rfl (FP.cons i1 rfl (FP.cons i1 rfl (FP.cons i1 rfl (FP.nil _))))
end Go.Proofs.Ytcbhafddehipdaa
namespace Go.Proofs.Ytcbhafddehipdaa
open Go.RowKit
set_option linter.unusedVariables false
set_option linter.unusedSimpArgs false
set_option maxRecDepth 100000 in
set_option maxHeartbeats 4000000 in
theorem sameRes_same (re rv ro rr : Int) (a a' : Option Addr) (c c' : Nat) (ps : List (Int × Int)) (w : World) (hx : PairsIn w a ps) (hy : PairsIn w a' ps) (lx : ps.length ≤ 1000000) :
    Calls Try.prog 25 #[.agg #[.int .i64 re, .int .i64 rv, .slice a ps.length c, .int .i64 ro, .int .i64 rr], .agg #[.int .i64 re, .int .i64 rv, .slice a' ps.length c', .int .i64 ro, .int .i64 rr]] w fun e w' => e = .returned (.bool true) ∧ Only0 w w' := by
  obtain ⟨W, hW⟩ : ∃ W, W = (w.alloc (.cells #[.int .i64 re, .int .i64 rv, .slice a ps.length c, .int .i64 ro, .int .i64 rr] 27)).alloc (.cells #[.int .i64 re, .int .i64 rv, .slice a' ps.length c', .int .i64 ro, .int .i64 rr] 27) := ⟨_, rfl⟩
  have oW : Only0 w W := by rw [hW]; exact ((Only0.refl w).alloc _).alloc _
  have C := samePairs_any a a' c c' ps ps W (hx.only oW (fun _ _ h => h)) (hy.only oW (fun _ _ h => h)) lx lx
  rw [show decide (ps = ps) = true from decide_eq_true rfl] at C
  have HO := Lib.hid oW
  clear hx hy oW
  go_enter Try.func25, Try.ntmps25
  go_wp2_with fail
  rw [← hW]
  clear hW
  refine C.mono ?_
  rintro e w1 ⟨rfl, n1, rfl⟩
  go_wp2_with fail
  go_ret
  exact ⟨rfl, HO.out.drewN n1⟩
end Go.Proofs.Ytcbhafddehipdaa
namespace Go.Proofs.Ytcbhafddehipdaa
open Go.RowKit
set_option linter.unusedVariables false
set_option linter.unusedSimpArgs false
def stA (l : Bool) (id lv st bg op : Int) : Array Value := #[.bool l, .bool false, .bool false, .int .i64 id, .int .i64 lv, .int .i64 st, .int .u64 bg, .int .u64 0, .int .i64 op]
theorem statV_shape (r : RSt) (j : Int) : ∃ l id lv st bg op, r.statV j = stA l id lv st bg op := by
  unfold RSt.statV
  split
  · split
    · exact ⟨false, 0, 0, 0, 0, 0, rfl⟩
    · exact ⟨true, _, _, 1, _, _, rfl⟩
  · exact ⟨false, 0, 0, 0, 0, 0, rfl⟩
set_option maxRecDepth 100000 in
theorem stood_stat : Try.prog.stoodInHeld 53 = false := by kernel_rfl
set_option maxRecDepth 100000 in
theorem fields_stat : Try.prog.underlying 53 = some (.struct (Try.prog.fieldsOf 53)) := by kernel_rfl
set_option maxRecDepth 100000 in
theorem guardt_stat : Try.prog.eqGuardType Try.prog.depth 53 = false := by kernel_rfl
set_option maxRecDepth 100000 in
theorem partS0 (l : Bool) (id lv st bg op : Int) (w : World) : (part 4 (stA l id lv st bg op) 0).run Try.prog w = .ok (.bool l) w := by kernel_rfl
set_option maxRecDepth 100000 in
theorem partS1 (l : Bool) (id lv st bg op : Int) (w : World) : (part 4 (stA l id lv st bg op) 1).run Try.prog w = .ok (.bool false) w := by kernel_rfl
set_option maxRecDepth 100000 in
theorem partS2 (l : Bool) (id lv st bg op : Int) (w : World) : (part 4 (stA l id lv st bg op) 2).run Try.prog w = .ok (.bool false) w := by kernel_rfl
set_option maxRecDepth 100000 in
theorem partS3 (l : Bool) (id lv st bg op : Int) (w : World) : (part 3 (stA l id lv st bg op) 3).run Try.prog w = .ok (.int .i64 id) w := by kernel_rfl
set_option maxRecDepth 100000 in
theorem partS4 (l : Bool) (id lv st bg op : Int) (w : World) : (part 3 (stA l id lv st bg op) 4).run Try.prog w = .ok (.int .i64 lv) w := by kernel_rfl
set_option maxRecDepth 100000 in
theorem partS5 (l : Bool) (id lv st bg op : Int) (w : World) : (part 3 (stA l id lv st bg op) 5).run Try.prog w = .ok (.int .i64 st) w := by kernel_rfl
set_option maxRecDepth 100000 in
theorem partS6 (l : Bool) (id lv st bg op : Int) (w : World) : (part 39 (stA l id lv st bg op) 6).run Try.prog w = .ok (.int .u64 bg) w := by kernel_rfl
set_option maxRecDepth 100000 in
theorem partS7 (l : Bool) (id lv st bg op : Int) (w : World) : (part 39 (stA l id lv st bg op) 7).run Try.prog w = .ok (.int .u64 0) w := by kernel_rfl
set_option maxRecDepth 100000 in
theorem partS8 (l : Bool) (id lv st bg op : Int) (w : World) : (part 3 (stA l id lv st bg op) 8).run Try.prog w = .ok (.int .i64 op) w := by kernel_rfl
set_option maxRecDepth 100000 in
set_option maxHeartbeats 1000000 in
theorem stat_equalIn (l : Bool) (id lv st bg op : Int) (w : World) : (Op.equalIn 10000 53 (.agg (stA l id lv st bg op)) (.agg (stA l id lv st bg op))).run Try.prog w = .ok true w := by
  rw [run_equalIn_agg w 9999 _ _ _ fields_stat stood_stat]
  have e : ∀ (x : Int), (Op.equalIn 9999 3 (.int .i64 x) (.int .i64 x)).run Try.prog w = .ok true w := fun x => by rw [run_equalIn_int w 9998 _ _ _ x x Try.underlying3]; simp
  have u : ∀ (x : Int), (Op.equalIn 9999 39 (.int .u64 x) (.int .u64 x)).run Try.prog w = .ok true w := fun x => by rw [run_equalIn_int w 9998 _ _ _ x x Try.underlying39]; simp
  have b : ∀ (x : Bool), (Op.equalIn 9999 4 (.bool x) (.bool x)).run Try.prog w = .ok true w := fun x => by rw [run_equalIn_bool' w 9998 _ x x Try.underlying4]; simp
  unfold Program.fieldsOf
  rw [Try.underlying53]
  simp [Op.eqFields, partS0, partS1, partS2, partS3, partS4, partS5, partS6, partS7, partS8, e, u, b, Result.andThen]
theorem stat_eql (l : Bool) (id lv st bg op : Int) (w : World) : (binOp .eql 53 (.agg (stA l id lv st bg op)) (.agg (stA l id lv st bg op))).run Try.prog w = .ok (.bool true) w := by
  rw [run_eql_struct, stat_equalIn]; rfl
theorem Sim.stat {s : St} {r : RSt} (S : Sim s r) (j : Nat) (hj : j < 8) : statV (s.tx j) = r.statV j := by
  unfold RSt.statV
  rw [if_pos (by simp [sessB]; omega)]
  rw [show ((j : Int)).toNat = j by omega]
  cases ht : s.tx j with
  | none => rw [if_pos ((S.id0 hj).2 ht)]; rfl
  | some t =>
    have T := S.some_ j t ht
    rw [if_neg (fun e => by rw [(S.id0 hj).1 e] at ht; cases ht), T.id, T.level, T.beg, T.ops]; rfl
set_option maxRecDepth 100000 in
set_option maxHeartbeats 8000000 in
theorem md_statusR {B m : Nat} {w : World} {P : Nat → Prop} {s : St} {r : RSt} (h : MAt B w P m s) (S : Sim s r) (j : Int) :
    Calls Try.prog 26 #[.pointer (some ⟨m, 0, none⟩), .int .i64 j] w fun e w' => e = .returned (.agg (r.statV j)) ∧ Only0 w w' := by
  cases hs : sessB j with
  | true =>
    obtain ⟨jn, rfl⟩ : ∃ n : Nat, j = n := ⟨j.toNat, by simp [sessB] at hs; omega⟩
    have hj : jn < 8 := by simp [sessB] at hs; omega
    rw [← S.stat jn hj]
    exact md_status h jn hj
  | false =>
    have HS : Hid (r.statV j = zStat) := Lib.hid (by unfold RSt.statV; rw [hs]; rfl)
    obtain ⟨W, hW⟩ : ∃ W, W = w.alloc (.cells #[.bool false, .bool false, .bool false, .int .i64 0, .int .i64 0, .int .i64 0, .int .u64 0, .int .u64 0, .int .i64 0] 53) := ⟨_, rfl⟩
    obtain ⟨n0, hn0⟩ : ∃ n0, n0 = w.heap.size := ⟨_, rfl⟩
    have oW : Only0 w W := by rw [hW]; exact (Only0.refl w).alloc _
    have BX : Blk W n0 53 #[.bool false, .bool false, .bool false, .int .i64 0, .int .i64 0, .int .i64 0, .int .u64 0, .int .u64 0, .int .i64 0] := by rw [hW, hn0]; exact Blk.new _ _ _
    have HN := Lib.hid hn0
    have HO := Lib.hid oW
    have CS := md_sess j W
    rw [hs] at CS
    have b0 : W.cell? ⟨n0, 0, none⟩ = some (.bool false) := BX.cell 0
    have b1 : W.cell? ⟨n0, 1, none⟩ = some (.bool false) := BX.cell 1
    have b2 : W.cell? ⟨n0, 2, none⟩ = some (.bool false) := BX.cell 2
    have b3 : W.cell? ⟨n0, 3, none⟩ = some (.int .i64 0) := BX.cell 3
    have b4 : W.cell? ⟨n0, 4, none⟩ = some (.int .i64 0) := BX.cell 4
    have b5 : W.cell? ⟨n0, 5, none⟩ = some (.int .i64 0) := BX.cell 5
    have b6 : W.cell? ⟨n0, 6, none⟩ = some (.int .u64 0) := BX.cell 6
    have b7 : W.cell? ⟨n0, 7, none⟩ = some (.int .u64 0) := BX.cell 7
    have b8 : W.cell? ⟨n0, 8, none⟩ = some (.int .i64 0) := BX.cell 8
    have bf := fun i => BX.free i
    have HBX := Lib.hid BX
    clear BX hn0 h oW hs
    go_enter Try.func26, Try.ntmps26
    go_upto_region 1 with (fail)
    rw [← hW, ← HN.out]
    clear hW
    go_wp2_with fail
    refine CS.mono ?_
    rintro e w1 ⟨rfl, rfl⟩
    go_wp2_with fail
    obtain ⟨B9, o9⟩ := set9 HBX.out (.bool false) (.bool false) (.bool false) (.int .i64 0) (.int .i64 0) (.int .i64 0) (.int .u64 0) (.int .u64 0) (.int .i64 0)
    exact bodyPost_ret (v := .agg zStat) (results_cell_row Try.results26 _ _ n0 _ _ _ _ rfl B9 Try.underlying53 rfl info_stat) rfl ⟨by rw [HS.out], HO.out.box (by rw [HN.out]; exact Nat.le_refl _) o9⟩
structure LR2 (w0 w : World) (P : Nat → Prop) (m : Nat) (s : St) (Q : Nat → Prop) (n : Nat) (r : RSt) : Prop where
  a : LW w0 w P m s
  b : RAt w0.heap.size w Q n r
  ap : Apart P Q
theorem LR2.stepA {w0 w w' : World} {P P' Q : Nat → Prop} {m n : Nat} {s s' : St} {r : RSt} (h : LR2 w0 w P m s Q n r) (L : MAt w0.heap.size w' P' m s') (o : Only P w w') (g : Grew w.heap.size P P') : LR2 w0 w' P' m s' Q n r :=
  ⟨h.a.step L o, h.b.only o h.ap.symm, h.ap.grew g h.b.under⟩
theorem LR2.stepB {w0 w w' : World} {P Q Q' : Nat → Prop} {m n : Nat} {s : St} {r r' : RSt} (h : LR2 w0 w P m s Q n r) (L : RAt w0.heap.size w' Q' n r') (o : Only Q w w') (g : Grew w.heap.size Q Q') : LR2 w0 w' P m s Q' n r' := by
  refine ⟨⟨h.a.mat.only o h.ap, ⟨o.os.trans h.a.o.os, o.tape.trans h.a.o.tape, o.output.trans h.a.o.output, Nat.le_trans h.a.o.size o.size, fun k hk hn => ?_⟩⟩, L, h.ap.grew' g h.a.mat.under⟩
  rw [o.block k (Nat.lt_of_lt_of_le hk h.a.o.size) (fun hp => by have := h.b.above k hp; omega)]
  exact h.a.o.block k hk hn
theorem RAt.only0' {B m : Nat} {w w' : World} {P : Nat → Prop} {s : RSt} (h : RAt B w P m s) (o : Only0 w w') : RAt B w' P m s := by obtain ⟨A, h⟩ := h; exact ⟨A, h.only0 o⟩
theorem LR2.only0 {w0 w w' : World} {P Q : Nat → Prop} {m n : Nat} {s : St} {r : RSt} (h : LR2 w0 w P m s Q n r) (o : Only0 w w') : LR2 w0 w' P m s Q n r := ⟨h.a.only0 o, h.b.only0' o, h.ap⟩
theorem LR2.alloc {w0 w : World} {P Q : Nat → Prop} {m n : Nat} {s : St} {r : RSt} (h : LR2 w0 w P m s Q n r) (o : Obj) : LR2 w0 (w.alloc o) P m s Q n r := h.only0 ((Only0.refl _).alloc _)
theorem LR2.spans {w0 w : World} {P Q : Nat → Prop} {m n : Nat} {s : St} {r : RSt} (h : LR2 w0 w P m s Q n r) : ∀ j x, x ∈ (r.s j).reads → 0 ≤ x.lo ∧ x.lo ≤ 63 ∧ 0 ≤ x.hi ∧ x.hi ≤ 63 := h.b.ok.span
/-- The cells of the document's Model that a law looks at. -/
theorem LR2.cells {w0 w : World} {P Q : Nat → Prop} {m n : Nat} {s : St} {r : RSt} (h : LR2 w0 w P m s Q n r) (S : Sim s r) : ∃ (va : Option Addr) (vc : Nat), w.cell? ⟨n, 2, none⟩ = some (.slice va s.l.length vc) ∧ w.cell? ⟨n, 51, none⟩ = some (.int .u64 s.now) := by
  obtain ⟨A, hb⟩ := h.b
  have hc := hb.head
  refine ⟨A.va, A.vc, ?_, ?_⟩
  · rw [← S.len]; exact hc.2.2.1
  · rw [← S.time]; exact hc.2.2.2.1
theorem do_few (s : St) (j : Int) (o : MOp) : (s.do_ j o).1.pairs.length ≤ 64 := by
  have hz : Res.zero.pairs.length ≤ 64 := by decide
  have ha : ∀ e r, (abortRes e r).pairs.length ≤ 64 := fun e r => (show ([] : List (Int × Int)).length ≤ 64 by decide)
  have he : ∀ e, (Res.err e).pairs.length ≤ 64 := fun e => (show ([] : List (Int × Int)).length ≤ 64 by decide)
  unfold St.do_
  split
  · split
    · exact hz
    · split
      · rename_i ho
        split
        · exact hz
        · unfold St.call
          split
          · unfold St.commit
            split
            · exact ha _ _
            · split
              · show ([] : List (Int × Int)).length ≤ 64; decide
              · exact ha _ _
          · split
            · exact ha _ _
            · split
              · unfold St.get
                split
                · exact he _
                · show ([] : List (Int × Int)).length ≤ 64; decide
              · split
                · rename_i n6 n7 n1 h5
                  refine Nat.le_trans (List.length_filterMap_le _ _) ?_
                  simp only [keysFrom, List.length_map, List.length_range]
                  simp [opOkB, h5, keyOkB] at ho
                  omega
                · unfold St.change
                  split
                  · exact he _
                  · simp only
                    split
                    · exact hz
                    · exact ha _ _
      · exact hz
  · exact hz
theorem lr_doA {B m : Nat} {w : World} {P : Nat → Prop} {s : St} (h : MAt B w P m s) (j kind key hi value : Int) {re rv ro rr er : Int} {ps : List (Int × Int)} {s' : St} (hs : s.do_ j ⟨kind, key, hi, value⟩ = (⟨re, rv, ps, ro, rr⟩, er, s')) :
    Calls Try.prog 19 #[.pointer (some ⟨m, 0, none⟩), .int .i64 j, .agg #[.int .i64 kind, .int .i64 key, .int .i64 hi, .int .i64 value]] w fun e w' => ∃ (P' : Nat → Prop) (a : Option Addr) (c : Nat), e = .returned (.tuple #[.agg #[.int .i64 re, .int .i64 rv, .slice a ps.length c, .int .i64 ro, .int .i64 rr], .int .i64 er]) ∧ MAt B w' P' m s' ∧ Only P w w' ∧ Grew w.heap.size P P' ∧ PairsIn w' a ps ∧ ∀ y, a = some y → w.heap.size ≤ y.block := by
  refine (md_do h j kind key hi value).mono ?_
  rintro e w' ⟨P', a, c, he, h', o, g, p, q⟩
  rw [hs] at he h' p
  exact ⟨P', a, c, he, h', o, g, p, fun y hy => (q y hy).1⟩
theorem lr_doB {B m : Nat} {w : World} {P : Nat → Prop} {s : RSt} (h : RAt B w P m s) (j kind key hi value : Int) {re rv ro rr er : Int} {ps : List (Int × Int)} {s' : RSt} (hs : s.do_ j ⟨kind, key, hi, value⟩ = (⟨re, rv, ps, ro, rr⟩, er, s')) :
    Calls Try.prog 30 #[.pointer (some ⟨m, 0, none⟩), .int .i64 j, .agg #[.int .i64 kind, .int .i64 key, .int .i64 hi, .int .i64 value]] w fun e w' => ∃ (P' : Nat → Prop) (a : Option Addr) (c : Nat), e = .returned (.tuple #[.agg #[.int .i64 re, .int .i64 rv, .slice a ps.length c, .int .i64 ro, .int .i64 rr], .int .i64 er]) ∧ RAt B w' P' m s' ∧ Only P w w' ∧ Grew w.heap.size P P' ∧ PairsIn w' a ps ∧ ∀ y, a = some y → w.heap.size ≤ y.block := by
  refine (ref_do h j kind key hi value).mono ?_
  rintro e w' ⟨P', a, c, he, h', o, g, p, q⟩
  rw [hs] at he h' p
  exact ⟨P', a, c, he, h', o, g, p, fun y hy => (q y hy).1⟩
/-- A new pair of Models. -/
theorem LR2.made {w0 w w1 w2 : World} {m n : Nat} {slots limit : Int} (hc : confB slots limit = true) (o : Only0 w0 w) (h1 : MAt w.heap.size w1 (fun b => b = m) m (newSt slots limit)) (o1 : Only0 w w1)
    (h2 : RAt w1.heap.size w2 (fun b => b = n) n (newRSt slots limit)) (o2 : Only0 w1 w2) (hn : w1.heap.size ≤ n) : LR2 w0 w2 (fun b => b = m) m (newSt slots limit) (fun b => b = n) n (newRSt slots limit) ∧ Sim (newSt slots limit) (newRSt slots limit) := by
  have L1 := LW.made o h1 o1
  have hm := L1.mat.under m rfl
  obtain ⟨A, h2⟩ := h2
  have hb : w0.heap.size ≤ w1.heap.size := L1.o.size
  refine ⟨⟨L1.only0 o2, ⟨A, ⟨h2.mod, rows_base h2.row hb, fun j hj => rows_base (h2.ws j hj) hb, fun j hj => rows_base (h2.rs j hj) hb, h2.winj, h2.rinj, h2.ok, h2.pm, h2.pr, h2.pw, h2.pd, h2.under, fun b hbb => Nat.le_trans hb (h2.above b hbb)⟩⟩, fun b hb hb' => ?_⟩, Sim.new _ _ ?_⟩
  · have e1 : b = m := hb
    have e2 : b = n := hb'
    omega
  · simp [confB] at hc; omega
end Go.Proofs.Ytcbhafddehipdaa

/-
  ModelReplays: what its proof rests on, part 3.
-/
import Derived.Deep.AppendLies
import Derived.Laws.AppendOwnNone
import Derived.Deep.QuietTactic
import Derived.BigQuiet
import Derived.Test.YtdjehgnkpbkdbaaZModelReplays2
namespace Go.Proofs.Ytdjehgnkpbkdbaa
set_option linter.unusedVariables false
set_option linter.unusedSimpArgs false
/-- A version that was committed by a time. -/
def Com (now : Int) (v : Ver) : Prop := v.dead = false ∧ 0 < v.beg ∧ v.beg ≤ now ∧ (v.fin = 0 ∨ v.beg ≤ v.fin ∧ v.fin ≤ now)
/-- A version that lies as its maker left it. -/
def Raw (v : Ver) : Prop := v.beg = 0 ∧ v.fin = 0
/-- Two versions of a key are not there at one time. -/
def Apt (v u : Ver) : Prop := (v.fin ≠ 0 ∧ v.fin ≤ u.beg) ∨ (u.fin ≠ 0 ∧ u.fin ≤ v.beg)
/-- The transaction in j has the cell c of key k. -/
def Has (s : St) (j k : Nat) (t : Tx) (c : Cel) : Prop := s.tx j = some t ∧ t.cells k = some c
structure Wf (s : St) : Prop where
  slots : 0 < s.slots
  nodup : s.l.Nodup
  lin : ∀ i, i ∈ s.l → i < s.vs.length
  /-- what is no slot any more is dead, or ended ahead of all that live. -/
  gone : ∀ i, i < s.vs.length → i ∉ s.l → (s.ver i).dead = true ∨ ((s.ver i).fin ≠ 0 ∧ ∀ j t, s.tx j = some t → (s.ver i).fin ≤ t.beg)
  kind : ∀ i, i < s.vs.length → ((s.ver i).dead = true ∧ Raw (s.ver i)) ∨ Com s.now (s.ver i) ∨ ((s.ver i).dead = false ∧ Raw (s.ver i) ∧ ∃ j k t c, Has s j k t c ∧ c.own = some i)
  /-- the own version of a cell. -/
  own : ∀ j k t c i, Has s j k t c → c.own = some i → i ∈ s.l ∧ (s.ver i).key = (k : Int) ∧ (s.ver i).dead = false ∧ Raw (s.ver i) ∧ (s.ver i).by_ = t.id
  /-- the version that a cell replaces. -/
  old : ∀ j k t c, Has s j k t c → c.old = s.at k t.beg
  kin : ∀ j k t c, Has s j k t c → k < 64
  there : ∀ j k t c, Has s j k t c → c.there = true → c.own.isSome = true
  only : ∀ j i k t u c d, Has s j k t c → Has s i k u d → i = j
  inj : ∀ j k j' k' t t' c c' i, Has s j k t c → Has s j' k' t' c' → c.own = some i → c'.own = some i → j = j' ∧ k = k'
  /-- whoever has a cell bars others: all versions of its key were there at its begin. -/
  bar : ∀ j k t c i, Has s j k t c → i < s.vs.length → (s.ver i).key = (k : Int) → (s.ver i).beg ≤ t.beg ∧ (s.ver i).fin ≤ t.beg
  apt : ∀ i i', i < s.vs.length → i' < s.vs.length → i ≠ i' → (s.ver i).key = (s.ver i').key → 0 < (s.ver i).beg → 0 < (s.ver i').beg → Apt (s.ver i) (s.ver i')
  now : 0 ≤ s.now
  beg : ∀ j t, s.tx j = some t → 0 < t.beg ∧ t.beg ≤ s.now ∧ 0 < t.id ∧ t.id ≤ s.made ∧ j < 8
  ids : ∀ i j t u, s.tx i = some t → s.tx j = some u → t.id = u.id → i = j
  made : 0 ≤ s.made
theorem Wf.new (slots limit : Int) (h : 0 < slots) : Wf (newSt slots limit) := by
  have nx : ∀ j k t c, ¬ Has (newSt slots limit) j k t c := fun j k t c h => by cases h.1
  refine ⟨h, List.nodup_nil, fun i h => (by cases h), fun i h => (by cases h), fun i h => (by cases h), fun j k t c i h => absurd h (nx _ _ _ _), fun j k t c h => absurd h (nx _ _ _ _), fun j k t c h => absurd h (nx _ _ _ _), fun j k t c h => absurd h (nx _ _ _ _), fun j i k t u c d h => absurd h (nx _ _ _ _), fun j k j' k' t t' c c' i h => absurd h (nx _ _ _ _), fun j k t c i h => absurd h (nx _ _ _ _), fun i i' h => (by cases h), Int.le_refl _, fun j t h => (by cases h), fun i j t u h => (by cases h), Int.le_refl _⟩
/-- A version of a key is there at a time. -/
def Vis (v : Ver) (k a : Int) : Prop := v.key = k ∧ 0 < v.beg ∧ v.beg ≤ a ∧ (v.fin = 0 ∨ a < v.fin)
theorem visB_iff {v : Ver} {k a : Int} : visB v k a = true ↔ Vis v k a := by
  unfold visB Vis
  simp only [Bool.and_eq_true, Bool.or_eq_true, decide_eq_true_eq]
  constructor
  · rintro ⟨⟨⟨h1, h2⟩, h3⟩, h4⟩; exact ⟨h1, h2, h3, h4⟩
  · rintro ⟨h1, h2, h3, h4⟩; exact ⟨⟨⟨h1, h2⟩, h3⟩, h4⟩
theorem Wf.one {s : St} (h : Wf s) {i i' : Nat} {k a : Int} (hi : i < s.vs.length) (hi' : i' < s.vs.length) (v : Vis (s.ver i) k a) (v' : Vis (s.ver i') k a) : i = i' := by
  apply Classical.byContradiction
  intro hne
  have := h.apt i i' hi hi' hne (v.1.trans v'.1.symm) v.2.1 v'.2.1
  have a1 := v.2.2.1
  have a2 := v.2.2.2
  have b1 := v'.2.2.1
  have b2 := v'.2.2.2
  rcases this with ⟨x, y⟩ | ⟨x, y⟩ <;> omega
theorem Wf.at_some {s : St} (h : Wf s) {k a : Int} {i : Nat} : s.at k a = some i ↔ i ∈ s.l ∧ Vis (s.ver i) k a := by
  unfold St.at
  constructor
  · intro hf
    exact ⟨List.mem_of_find?_eq_some hf, visB_iff.1 (List.find?_some (p := fun i => visB (s.ver i) k a) hf)⟩
  · rintro ⟨hi, hv⟩
    cases hf : s.l.find? (fun i => visB (s.ver i) k a) with
    | none => exact absurd (visB_iff.2 hv) (by simpa using List.find?_eq_none.1 hf i hi)
    | some x =>
      rw [h.one (h.lin x (List.mem_of_find?_eq_some hf)) (h.lin i hi) (visB_iff.1 (List.find?_some (p := fun i => visB (s.ver i) k a) hf)) hv]
/-- At a begin of one that lives, or later, nothing is lacking that was collected. -/
theorem Wf.vis_in {s : St} (h : Wf s) {k a : Int} {i : Nat} (hi : i < s.vs.length) (hv : Vis (s.ver i) k a) (ha : a = s.now ∨ ∃ j t, s.tx j = some t ∧ t.beg ≤ a) (hn : a = s.now → ∀ i, i < s.vs.length → (s.ver i).fin ≤ s.now) : i ∈ s.l := by
  apply Classical.byContradiction
  intro hm
  have a1 := hv.2.1
  have a2 := hv.2.2.2
  rcases h.gone i hi hm with hd | ⟨h0, hl⟩
  · rcases h.kind i hi with ⟨_, r⟩ | c | ⟨e, _⟩
    · have := r.1; omega
    · rw [c.1] at hd; cases hd
    · rw [e] at hd; cases hd
  · rcases ha with rfl | ⟨j, t, ht, hb⟩
    · have := hn rfl i hi; omega
    · have := hl j t ht; omega
theorem Wf.fin_le {s : St} (h : Wf s) {i : Nat} (hi : i < s.vs.length) : (s.ver i).fin ≤ s.now ∧ (s.ver i).beg ≤ s.now ∧ 0 ≤ (s.ver i).beg ∧ 0 ≤ (s.ver i).fin ∧ ((s.ver i).fin ≠ 0 → (s.ver i).beg ≤ (s.ver i).fin) := by
  have hn := h.now
  rcases h.kind i hi with ⟨_, r⟩ | c | ⟨_, r, _⟩
  · have := r.1; have := r.2; omega
  · obtain ⟨_, c2, c3, c4⟩ := c; omega
  · have := r.1; have := r.2; omega
theorem Wf.dead_raw {s : St} (h : Wf s) {i : Nat} (hi : i < s.vs.length) (hd : (s.ver i).dead = true) : Raw (s.ver i) := by
  rcases h.kind i hi with ⟨_, r⟩ | c | ⟨e, _⟩
  · exact r
  · rw [c.1] at hd; cases hd
  · rw [e] at hd; cases hd
/-- Nothing is lacking that is seen now, or at the begin of one that lives. -/
theorem Wf.in_l {s : St} (h : Wf s) {k a : Int} {i : Nat} (hi : i < s.vs.length) (hv : Vis (s.ver i) k a) (ha : a = s.now ∨ ∃ j t, s.tx j = some t ∧ t.beg ≤ a) : i ∈ s.l :=
  h.vis_in hi hv ha (fun _ i hi => (h.fin_le hi).1)
def VEq (v u : Ver) : Prop := v.key = u.key ∧ v.by_ = u.by_ ∧ v.beg = u.beg ∧ v.fin = u.fin ∧ v.dead = u.dead
theorem VEq.refl (v : Ver) : VEq v v := ⟨rfl, rfl, rfl, rfl, rfl⟩
theorem VEq.vis {v u : Ver} (h : VEq v u) (k a : Int) : visB v k a = visB u k a := by
  obtain ⟨h1, _, h3, h4, _⟩ := h
  unfold visB; rw [h1, h3, h4]
theorem at_congr {s s' : St} (hl : s'.l = s.l) (hv : ∀ i, VEq (s'.ver i) (s.ver i)) (k a : Int) : s'.at k a = s.at k a := by
  unfold St.at
  rw [hl]
  congr 1
  funext i
  exact (hv i).vis k a
theorem Wf.back {s s' : St} (h : Wf s) (hl : s'.l = s.l) (hn : s'.vs.length = s.vs.length) (hv : ∀ i, VEq (s'.ver i) (s.ver i)) (hnow : s'.now = s.now) (hsl : s'.slots = s.slots) (hm : s'.made = s.made)
    (hT : ∀ j t', s'.tx j = some t' → ∃ t, s.tx j = some t ∧ t.beg = t'.beg ∧ t.id = t'.id ∧ ∀ k c', t'.cells k = some c' → ∃ c, t.cells k = some c ∧ c.own = c'.own ∧ c.old = c'.old ∧ (c'.there = true → c'.own.isSome = true))
    (hF : ∀ j t, s.tx j = some t → ∃ t', s'.tx j = some t' ∧ ∀ k c, t.cells k = some c → ∃ c', t'.cells k = some c' ∧ c'.own = c.own) : Wf s' := by
  have B : ∀ j k t' c', Has s' j k t' c' → ∃ t c, Has s j k t c ∧ t.beg = t'.beg ∧ t.id = t'.id ∧ c.own = c'.own ∧ c.old = c'.old ∧ (c'.there = true → c'.own.isSome = true) := by
    rintro j k t' c' ⟨h1, h2⟩
    obtain ⟨t, ht, hb, hi, hc⟩ := hT j t' h1
    obtain ⟨c, hc1, hc2, hc3, hc4⟩ := hc k c' h2
    exact ⟨t, c, ⟨ht, hc1⟩, hb, hi, hc2, hc3, hc4⟩
  have kk : ∀ i, (s'.ver i).key = (s.ver i).key := fun i => (hv i).1
  have kb : ∀ i, (s'.ver i).beg = (s.ver i).beg := fun i => (hv i).2.2.1
  have kf : ∀ i, (s'.ver i).fin = (s.ver i).fin := fun i => (hv i).2.2.2.1
  have kd : ∀ i, (s'.ver i).dead = (s.ver i).dead := fun i => (hv i).2.2.2.2
  have ky : ∀ i, (s'.ver i).by_ = (s.ver i).by_ := fun i => (hv i).2.1
  have kR : ∀ i, Raw (s.ver i) → Raw (s'.ver i) := fun i r => ⟨(kb i).trans r.1, (kf i).trans r.2⟩
  have kC : ∀ i, Com s.now (s.ver i) → Com s'.now (s'.ver i) := fun i r => by
    unfold Com at *
    rw [kb, kf, kd, hnow]; exact r
  refine ⟨by rw [hsl]; exact h.slots, by rw [hl]; exact h.nodup, fun i hi => by rw [hn]; exact h.lin i (by rw [← hl]; exact hi), fun i hi hm => ?_, fun i hi => ?_, fun j k t c i hh ho => ?_, fun j k t c hh => ?_, fun j k t c hh => ?_, fun j k t c hh ht => ?_, fun j i k t u c d h1 h2 => ?_, fun j k j' k' t t' c c' i h1 h2 o1 o2 => ?_, fun j k t c i hh hi hk => ?_, fun i i' hi hi' hne hk hb hb' => ?_, by rw [hnow]; exact h.now, fun j t ht => ?_, fun i j t u h1 h2 e => ?_, by rw [hm]; exact h.made⟩
  · rw [kd, kf]
    rcases h.gone i (by omega) (by rw [← hl]; exact hm) with h1 | ⟨h1, h2⟩
    · exact .inl h1
    · refine .inr ⟨h1, fun j t ht => ?_⟩
      obtain ⟨t0, ht0, hb, _⟩ := hT j t ht
      rw [← hb]; exact h2 j t0 ht0
  · rcases h.kind i (by omega) with ⟨h1, h2⟩ | h1 | ⟨h1, h2, j, k, t, c, hh, ho⟩
    · exact .inl ⟨by rw [kd]; exact h1, kR i h2⟩
    · exact .inr (.inl (kC i h1))
    · obtain ⟨t', ht', hc⟩ := hF j t hh.1
      obtain ⟨c', hc', ho'⟩ := hc k c hh.2
      exact .inr (.inr ⟨by rw [kd]; exact h1, kR i h2, j, k, t', c', ⟨ht', hc'⟩, by rw [ho']; exact ho⟩)
  · obtain ⟨t0, c0, h0, hb, hi, e1, e2, e3⟩ := B j k t c hh
    obtain ⟨a1, a2, a3, a4, a5⟩ := h.own j k t0 c0 i h0 (by rw [e1]; exact ho)
    exact ⟨by rw [hl]; exact a1, by rw [kk]; exact a2, by rw [kd]; exact a3, kR i a4, by rw [ky, ← hi]; exact a5⟩
  · obtain ⟨t0, c0, h0, hb, hi, e1, e2, e3⟩ := B j k t c hh
    rw [← e2, h.old j k t0 c0 h0, hb]
    exact (at_congr hl hv _ _).symm
  · obtain ⟨t0, c0, h0, _⟩ := B j k t c hh
    exact h.kin j k t0 c0 h0
  · obtain ⟨t0, c0, h0, hb, hi, e1, e2, e3⟩ := B j k t c hh
    exact e3 ht
  · obtain ⟨t0, c0, h0, _⟩ := B j k t c h1
    obtain ⟨u0, d0, h0', _⟩ := B i k u d h2
    exact h.only j i k t0 u0 c0 d0 h0 h0'
  · obtain ⟨t0, c0, h0, hb, hi, e1, e2, e3⟩ := B j k t c h1
    obtain ⟨u0, d0, h0', hb', hi', e1', e2', e3'⟩ := B j' k' t' c' h2
    exact h.inj j k j' k' t0 u0 c0 d0 i h0 h0' (by rw [e1]; exact o1) (by rw [e1']; exact o2)
  · obtain ⟨t0, c0, h0, hb, _⟩ := B j k t c hh
    rw [kb, kf, ← hb]
    exact h.bar j k t0 c0 i h0 (by omega) (by rw [← kk]; exact hk)
  · have := h.apt i i' (by omega) (by omega) hne (by rw [← kk, ← kk]; exact hk) (by rw [← kb]; exact hb) (by rw [← kb]; exact hb')
    unfold Apt at *
    rw [kf, kb, kf, kb]; exact this
  · obtain ⟨t0, ht0, hb, hi, _⟩ := hT j t ht
    have := h.beg j t0 ht0
    rw [← hb, ← hi, hnow, hm]; exact this
  · obtain ⟨t0, ht0, _, hi, _⟩ := hT i t h1
    obtain ⟨u0, hu0, _, hi', _⟩ := hT j u h2
    exact h.ids i j t0 u0 ht0 hu0 (by rw [hi, hi']; exact e)
theorem setTx_tx (s : St) (j i : Nat) (t : Option Tx) : (s.setTx j t).tx i = if i = j then t else s.tx i := by
  by_cases h : i = j
  · subst h; rw [setTx_same, if_pos rfl]
  · rw [if_neg h]; exact upd_other _ _ _ h
/-- A transaction's numbers turn, but not its cells. -/
theorem Wf.retx {s : St} (h : Wf s) {j : Nat} {t t' : Tx} (ht : s.tx j = some t) (hc : t'.cells = t.cells) (hb : t'.beg = t.beg) (hi : t'.id = t.id) : Wf (s.setTx j (some t')) := by
  refine h.back rfl rfl (fun i => VEq.refl _) rfl rfl rfl (fun i u hu => ?_) (fun i u hu => ?_)
  · rw [setTx_tx] at hu
    by_cases e : i = j
    · subst e
      rw [if_pos rfl] at hu; injection hu with hu; subst hu
      exact ⟨t, ht, hb.symm, hi.symm, fun k c hk => ⟨c, by rw [← hc]; exact hk, rfl, rfl, h.there i k t c ⟨ht, by rw [← hc]; exact hk⟩⟩⟩
    · rw [if_neg e] at hu
      exact ⟨u, hu, rfl, rfl, fun k c hk => ⟨c, hk, rfl, rfl, h.there i k u c ⟨hu, hk⟩⟩⟩
  · by_cases e : i = j
    · subst e
      rw [ht] at hu; injection hu with hu; subst hu
      exact ⟨t', setTx_same _ _ _, fun k c hk => ⟨c, by rw [hc]; exact hk, rfl⟩⟩
    · exact ⟨u, by rw [setTx_tx, if_neg e]; exact hu, fun k c hk => ⟨c, hk, rfl⟩⟩
/-- A cell's flag turns. -/
theorem Wf.flag {s : St} (h : Wf s) {j k : Nat} {t : Tx} {c : Cel} (hh : Has s j k t c) (b : Bool) (hb : b = true → c.own.isSome = true) : Wf (s.setTx j (some (t.put k { c with there := b }))) := by
  refine h.back rfl rfl (fun i => VEq.refl _) rfl rfl rfl (fun i u hu => ?_) (fun i u hu => ?_)
  · rw [setTx_tx] at hu
    by_cases e : i = j
    · subst e
      rw [if_pos rfl] at hu; injection hu with hu; subst hu
      refine ⟨t, hh.1, rfl, rfl, fun k' c' hk => ?_⟩
      rw [put_cells] at hk
      by_cases e : k' = k
      · subst e
        rw [if_pos rfl] at hk; injection hk with hk; subst hk
        exact ⟨c, hh.2, rfl, rfl, hb⟩
      · rw [if_neg e] at hk
        exact ⟨c', hk, rfl, rfl, h.there i k' t c' ⟨hh.1, hk⟩⟩
    · rw [if_neg e] at hu
      exact ⟨u, hu, rfl, rfl, fun k c hk => ⟨c, hk, rfl, rfl, h.there i k u c ⟨hu, hk⟩⟩⟩
  · by_cases e : i = j
    · subst e
      rw [hh.1] at hu; injection hu with hu; subst hu
      refine ⟨_, setTx_same _ _ _, fun k' c' hk => ?_⟩
      rw [put_cells]
      by_cases e : k' = k
      · subst e
        rw [hh.2] at hk; injection hk with hk; subst hk
        exact ⟨{ c with there := b }, if_pos rfl, rfl⟩
      · exact ⟨c', by rw [if_neg e]; exact hk, rfl⟩
    · exact ⟨u, by rw [setTx_tx, if_neg e]; exact hu, fun k c hk => ⟨c, hk, rfl⟩⟩
theorem Wf.setVal {s : St} (h : Wf s) (i : Nat) (x : Int) : Wf (s.setVal i x) := by
  refine h.back rfl (by show (s.vs.set i _).length = _; simp) (fun k => ?_) rfl rfl rfl (fun j t ht => ⟨t, ht, rfl, rfl, fun k c hk => ⟨c, hk, rfl, rfl, h.there j k t c ⟨ht, hk⟩⟩⟩) (fun j t ht => ⟨t, ht, fun k c hk => ⟨c, hk, rfl⟩⟩)
  rw [ver_setVal]
  split
  · rename_i hx
    obtain ⟨rfl, _⟩ := hx
    exact VEq.refl _
  · exact VEq.refl _
end Go.Proofs.Ytdjehgnkpbkdbaa
namespace Go.Proofs.Ytdjehgnkpbkdbaa
set_option linter.unusedVariables false
set_option linter.unusedSimpArgs false
theorem find_congr {α : Type} {p q : α → Bool} : ∀ {l : List α}, (∀ x, x ∈ l → p x = q x) → l.find? p = l.find? q := by
  intro l
  induction l with
  | nil => intro _; rfl
  | cons a l ih =>
    intro h
    rw [List.find?_cons, List.find?_cons, h a (by simp), ih (fun x hx => h x (by simp [hx]))]
theorem Wf.begun {s : St} (h : Wf s) {j : Nat} (hj : j < 8) (hn : s.tx j = none) (level : Int) (s' : St) (hs : s' = { s with made := s.made + 1, now := s.now + 1, tx := upd s.tx j (some (newTx (s.made + 1) level (s.now + 1))) }) : Wf s' := by
  have htx : ∀ i, s'.tx i = if i = j then some (newTx (s.made + 1) level (s.now + 1)) else s.tx i := fun i => by rw [hs]; rfl
  have hnow : s'.now = s.now + 1 := by rw [hs]
  have hmade : s'.made = s.made + 1 := by rw [hs]
  have hl : s'.l = s.l := by rw [hs]
  have hvs : s'.vs = s.vs := by rw [hs]
  have hv : ∀ i, s'.ver i = s.ver i := fun i => by rw [hs]; rfl
  have hsl : s'.slots = s.slots := by rw [hs]
  have hat : ∀ k a, s'.at k a = s.at k a := fun k a => by rw [hs]; rfl
  have B : ∀ i k t c, Has s' i k t c → Has s i k t c := by
    rintro i k t c ⟨h1, h2⟩
    rw [htx] at h1
    by_cases e : i = j
    · rw [if_pos e] at h1; injection h1 with h1; subst h1; cases h2
    · rw [if_neg e] at h1; exact ⟨h1, h2⟩
  have F : ∀ i k t c, Has s i k t c → Has s' i k t c := by
    rintro i k t c ⟨h1, h2⟩
    refine ⟨?_, h2⟩
    rw [htx, if_neg (fun e => by rw [e, hn] at h1; cases h1)]; exact h1
  clear hs
  refine ⟨by rw [hsl]; exact h.slots, by rw [hl]; exact h.nodup, fun i hi => by rw [hvs]; exact h.lin i (by rw [← hl]; exact hi), fun i hi hm => ?_, fun i hi => ?_, fun i k t c x hh ho => ?_, fun i k t c hh => ?_, fun i k t c hh => h.kin i k t c (B _ _ _ _ hh), fun i k t c hh ht => h.there i k t c (B _ _ _ _ hh) ht, fun i i' k t u c d h1 h2 => h.only i i' k t u c d (B _ _ _ _ h1) (B _ _ _ _ h2), fun i k i' k' t t' c c' x h1 h2 o1 o2 => h.inj i k i' k' t t' c c' x (B _ _ _ _ h1) (B _ _ _ _ h2) o1 o2, fun i k t c x hh hi hk => ?_, fun i i' hi hi' hne hk hb hb' => ?_, by rw [hnow]; have := h.now; omega, fun i t ht => ?_, fun i i' t u h1 h2 e => ?_, by rw [hmade]; have := h.made; omega⟩
  · rw [hvs] at hi
    rw [hl] at hm
    rw [hv]
    rcases h.gone i hi hm with h1 | ⟨h1, h2⟩
    · exact .inl h1
    · refine .inr ⟨h1, fun i' t ht => ?_⟩
      rw [htx] at ht
      by_cases e : i' = j
      · rw [if_pos e] at ht; injection ht with ht; subst ht
        have := (h.fin_le hi).1
        show _ ≤ s.now + 1
        omega
      · rw [if_neg e] at ht; exact h2 i' t ht
  · rw [hvs] at hi
    rw [hv, hnow]
    rcases h.kind i hi with h1 | h1 | ⟨h1, h2, i', k, t, c, hh, ho⟩
    · exact .inl h1
    · obtain ⟨c1, c2, c3, c4⟩ := h1
      exact .inr (.inl ⟨c1, c2, by omega, by omega⟩)
    · exact .inr (.inr ⟨h1, h2, i', k, t, c, F _ _ _ _ hh, ho⟩)
  · rw [hl, hv]; exact h.own i k t c x (B _ _ _ _ hh) ho
  · rw [hat]; exact h.old i k t c (B _ _ _ _ hh)
  · rw [hv] at hk ⊢
    rw [hvs] at hi
    exact h.bar i k t c x (B _ _ _ _ hh) hi hk
  · rw [hvs] at hi hi'
    rw [hv] at hk hb
    rw [hv] at hk hb'
    rw [hv, hv]
    exact h.apt i i' hi hi' hne hk hb hb'
  · rw [htx] at ht
    rw [hnow, hmade]
    by_cases e : i = j
    · rw [if_pos e] at ht; injection ht with ht; subst ht
      have := h.now
      have := h.made
      subst e
      show 0 < s.now + 1 ∧ s.now + 1 ≤ s.now + 1 ∧ 0 < s.made + 1 ∧ s.made + 1 ≤ s.made + 1 ∧ _
      omega
    · rw [if_neg e] at ht
      have := h.beg i t ht
      omega
  · rw [htx] at h1 h2
    by_cases e1 : i = j
    · by_cases e2 : i' = j
      · rw [e1, e2]
      · rw [if_pos e1] at h1; rw [if_neg e2] at h2
        injection h1 with h1; subst h1
        have := h.beg i' u h2
        have e' : s.made + 1 = u.id := e
        omega
    · by_cases e2 : i' = j
      · rw [if_neg e1] at h1; rw [if_pos e2] at h2
        injection h2 with h2; subst h2
        have := h.beg i t h1
        have e' : t.id = s.made + 1 := e
        omega
      · rw [if_neg e1] at h1; rw [if_neg e2] at h2
        exact h.ids i i' t u h1 h2 e
theorem others_none {s : St} {j k : Nat} (h : s.others j k = false) {i : Nat} (hi : i < 8) (hij : i ≠ j) {u : Tx} (hu : s.tx i = some u) : u.cells k = none := by
  unfold St.others at h
  rw [List.any_eq_false] at h
  have := h i (by simpa using hi)
  unfold holderB at this
  rw [hu] at this
  simp [hij] at this
  exact this
theorem later_none {s : St} {k a : Int} (h : s.later k a = false) {i : Nat} (hi : i ∈ s.l) (hk : (s.ver i).key = k) : (s.ver i).beg ≤ a ∧ (s.ver i).fin ≤ a := by
  unfold St.later at h
  rw [List.any_eq_false] at h
  have := h i hi
  unfold laterB at this
  simp [hk] at this
  exact this
theorem Wf.newcell {s : St} (h : Wf s) {j k : Nat} {t : Tx} (ht : s.tx j = some t) (hc : t.cells k = none) (hk64 : k < 64) (ho : s.others j k = false) (hl : s.later k t.beg = false) : Wf (s.setTx j (some (t.put k ⟨none, s.at k t.beg, false⟩))) := by
  have htb := h.beg j t ht
  have hcell : ∀ k', (t.put k ⟨none, s.at k t.beg, false⟩).cells k' = if k' = k then some ⟨none, s.at k t.beg, false⟩ else t.cells k' := fun k' => put_cells _ _ _ _
  obtain ⟨t', ht'⟩ : ∃ t', t' = t.put k ⟨none, s.at k t.beg, false⟩ := ⟨_, rfl⟩
  have hb' : t'.beg = t.beg := by rw [ht']; rfl
  have hi' : t'.id = t.id := by rw [ht']; rfl
  rw [← ht'] at hcell ⊢
  clear ht'
  obtain ⟨s', hs'⟩ : ∃ s', s' = s.setTx j (some t') := ⟨_, rfl⟩
  have htx : ∀ i, s'.tx i = if i = j then some t' else s.tx i := fun i => by rw [hs']; exact setTx_tx _ _ _ _
  have hnow : s'.now = s.now := by rw [hs']; rfl
  have hmade : s'.made = s.made := by rw [hs']; rfl
  have hll : s'.l = s.l := by rw [hs']; rfl
  have hvs : s'.vs = s.vs := by rw [hs']; rfl
  have hv : ∀ i, s'.ver i = s.ver i := fun i => by rw [hs']; rfl
  have hsl : s'.slots = s.slots := by rw [hs']; rfl
  have hat : ∀ k a, s'.at k a = s.at k a := fun k a => by rw [hs']; rfl
  rw [← hs']
  clear hs'
  -- a cell is the new one, or was there
  have B : ∀ i x u d, Has s' i x u d → (i = j ∧ x = k ∧ u = t' ∧ d = ⟨none, s.at k t.beg, false⟩) ∨ (¬ (i = j ∧ x = k) ∧ ∃ u0, Has s i x u0 d ∧ u0.beg = u.beg ∧ u0.id = u.id) := by
    rintro i x u d ⟨h1, h2⟩
    rw [htx] at h1
    by_cases e : i = j
    · subst e
      rw [if_pos rfl] at h1; injection h1 with h1; subst h1
      rw [hcell] at h2
      by_cases e2 : x = k
      · rw [if_pos e2] at h2; injection h2 with h2
        exact .inl ⟨rfl, e2, rfl, h2.symm⟩
      · rw [if_neg e2] at h2
        exact .inr ⟨fun e => e2 e.2, t, ⟨ht, h2⟩, hb'.symm, hi'.symm⟩
    · rw [if_neg e] at h1
      exact .inr ⟨fun e' => e e'.1, u, ⟨h1, h2⟩, rfl, rfl⟩
  have F : ∀ i x u d, Has s i x u d → ∃ u', Has s' i x u' d := by
    rintro i x u d ⟨h1, h2⟩
    by_cases e : i = j
    · subst e
      rw [ht] at h1; injection h1 with h1; subst h1
      refine ⟨t', by rw [htx, if_pos rfl], ?_⟩
      rw [hcell, if_neg (fun e => by rw [e, hc] at h2; cases h2)]; exact h2
    · exact ⟨u, by rw [htx, if_neg e]; exact h1, h2⟩
  have nob : ∀ i u d, Has s i k u d → False := by
    rintro i u d ⟨h1, h2⟩
    by_cases e : i = j
    · subst e; rw [ht] at h1; injection h1 with h1; subst h1; rw [hc] at h2; cases h2
    · rw [others_none ho (h.beg i u h1).2.2.2.2 e h1] at h2; cases h2
  have bars : ∀ x, x < s.vs.length → (s.ver x).key = (k : Int) → (s.ver x).beg ≤ t.beg ∧ (s.ver x).fin ≤ t.beg := by
    intro x hx hxk
    by_cases hm : x ∈ s.l
    · exact later_none hl hm hxk
    · rcases h.gone x hx hm with hd | ⟨h0, hd⟩
      · have r := h.dead_raw hx hd
        rw [r.1, r.2]; omega
      · have := hd j t ht
        have := (h.fin_le hx).2.2.2.2 h0
        omega
  refine ⟨by rw [hsl]; exact h.slots, by rw [hll]; exact h.nodup, fun i hi => by rw [hvs]; exact h.lin i (by rw [← hll]; exact hi), fun i hi hm => ?_, fun i hi => ?_, fun i x u d y hh ho => ?_, fun i x u d hh => ?_, fun i x u d hh => ?_, fun i x u d hh ht => ?_, fun i i' x u u' d d' h1 h2 => ?_, fun i x i' x' u u' d d' y h1 h2 o1 o2 => ?_, fun i x u d y hh hi hk => ?_, fun i i' hi hi' hne hk hb hb' => ?_, by rw [hnow]; exact h.now, fun i u hu => ?_, fun i i' u u' h1 h2 e => ?_, by rw [hmade]; exact h.made⟩
  · rw [hvs] at hi; rw [hll] at hm; rw [hv]
    rcases h.gone i hi hm with h1 | ⟨h1, h2⟩
    · exact .inl h1
    · refine .inr ⟨h1, fun i' u hu => ?_⟩
      rw [htx] at hu
      by_cases e : i' = j
      · rw [if_pos e] at hu; injection hu with hu; subst hu
        rw [hb']; exact h2 j t ht
      · rw [if_neg e] at hu; exact h2 i' u hu
  · rw [hvs] at hi; rw [hv, hnow]
    rcases h.kind i hi with h1 | h1 | ⟨h1, h2, i', x, u, d, hh, ho⟩
    · exact .inl h1
    · exact .inr (.inl h1)
    · obtain ⟨u', hu'⟩ := F _ _ _ _ hh
      exact .inr (.inr ⟨h1, h2, i', x, u', d, hu', ho⟩)
  · rcases B _ _ _ _ hh with ⟨-, -, -, rfl⟩ | ⟨-, u0, h0, -, e⟩
    · cases ho
    · rw [hll, hv, ← e]; exact h.own i x u0 d y h0 ho
  · rw [hat]
    rcases B _ _ _ _ hh with ⟨-, rfl, rfl, rfl⟩ | ⟨-, u0, h0, e, -⟩
    · rw [hb']
    · rw [← e]; exact h.old i x u0 d h0
  · rcases B _ _ _ _ hh with ⟨-, rfl, -, -⟩ | ⟨-, u0, h0, e, -⟩
    · exact hk64
    · exact h.kin i x u0 d h0
  · rcases B _ _ _ _ hh with ⟨-, -, -, rfl⟩ | ⟨-, u0, h0, e, -⟩
    · cases ht
    · exact h.there i x u0 d h0 ht
  · rcases B _ _ _ _ h1 with ⟨rfl, rfl, -, -⟩ | ⟨-, u0, h0, -⟩
    · rcases B _ _ _ _ h2 with ⟨rfl, -⟩ | ⟨-, u0, h0, -⟩
      · rfl
      · exact (nob _ _ _ h0).elim
    · rcases B _ _ _ _ h2 with ⟨rfl, rfl, -, -⟩ | ⟨-, v0, h0', -⟩
      · exact (nob _ _ _ h0).elim
      · exact h.only i i' x u0 v0 d d' h0 h0'
  · rcases B _ _ _ _ h1 with ⟨-, -, -, rfl⟩ | ⟨-, u0, h0, -⟩
    · cases o1
    · rcases B _ _ _ _ h2 with ⟨-, -, -, rfl⟩ | ⟨-, v0, h0', -⟩
      · cases o2
      · exact h.inj i x i' x' u0 v0 d d' y h0 h0' o1 o2
  · rw [hvs] at hi; rw [hv] at hk ⊢
    rcases B _ _ _ _ hh with ⟨-, rfl, rfl, -⟩ | ⟨-, u0, h0, e, -⟩
    · rw [hb']; exact bars y hi hk
    · rw [← e]; exact h.bar i x u0 d y h0 hi hk
  · rw [hvs] at hi hi'
    rw [hv] at hk hb
    rw [hv] at hk hb'
    rw [hv, hv]
    exact h.apt i i' hi hi' hne hk hb hb'
  · rw [htx] at hu; rw [hnow, hmade]
    by_cases e : i = j
    · rw [if_pos e] at hu; injection hu with hu; subst hu
      rw [hb', hi', e]; exact h.beg j t ht
    · rw [if_neg e] at hu; exact h.beg i u hu
  · have bk : ∀ i u, s'.tx i = some u → ∃ u0, s.tx i = some u0 ∧ u0.id = u.id := by
      intro i u hu
      rw [htx] at hu
      by_cases e : i = j
      · rw [if_pos e] at hu; injection hu with hu; subst hu; rw [e]; exact ⟨t, ht, hi'.symm⟩
      · rw [if_neg e] at hu; exact ⟨u, hu, rfl⟩
    obtain ⟨u0, hu0, e1⟩ := bk i u h1
    obtain ⟨u1, hu1, e2⟩ := bk i' u' h2
    exact h.ids i i' u0 u1 hu0 hu1 (by rw [e1, e2]; exact e)
theorem Wf.grown {s : St} (h : Wf s) {j k : Nat} {t : Tx} {c : Cel} (hh : Has s j k t c) (hco : c.own = none) (x : Int) : Wf ((s.grow ⟨k, x, t.id, 0, 0, false⟩).setTx j (some (t.put k { c with own := some s.vs.length, there := true }))) := by
  have htb := h.beg j t hh.1
  obtain ⟨c', hc'⟩ : ∃ c', c' = ({ c with own := some s.vs.length, there := true } : Cel) := ⟨_, rfl⟩
  have co : c'.own = some s.vs.length := by rw [hc']
  have cd : c'.old = c.old := by rw [hc']
  rw [← hc']
  clear hc'
  have hcell : ∀ k', (t.put k c').cells k' = if k' = k then some c' else t.cells k' := fun k' => put_cells _ _ _ _
  obtain ⟨t', ht'⟩ : ∃ t', t' = t.put k c' := ⟨_, rfl⟩
  have hb' : t'.beg = t.beg := by rw [ht']; rfl
  have hi' : t'.id = t.id := by rw [ht']; rfl
  rw [← ht'] at hcell ⊢
  clear ht'
  obtain ⟨s', hs'⟩ : ∃ s', s' = (s.grow ⟨k, x, t.id, 0, 0, false⟩).setTx j (some t') := ⟨_, rfl⟩
  have htx : ∀ i, s'.tx i = if i = j then some t' else s.tx i := fun i => by rw [hs']; exact setTx_tx _ _ _ _
  have hnow : s'.now = s.now := by rw [hs']; rfl
  have hmade : s'.made = s.made := by rw [hs']; rfl
  have hll : s'.l = s.l ++ [s.vs.length] := by rw [hs']; rfl
  have hvs : s'.vs.length = s.vs.length + 1 := by rw [hs']; show (s.vs ++ [_]).length = _; simp
  have hv : ∀ i, i < s.vs.length → s'.ver i = s.ver i := fun i hi => by rw [hs']; exact ver_grow hi
  have hvn : s'.ver s.vs.length = ⟨k, x, t.id, 0, 0, false⟩ := by rw [hs']; exact ver_grow_new
  have hsl : s'.slots = s.slots := by rw [hs']; rfl
  rw [← hs']
  clear hs'
  have hat : ∀ k a, s'.at k a = s.at k a := fun k a => by
    unfold St.at
    rw [hll, List.find?_append]
    have e1 : List.find? (fun i => visB (s'.ver i) k a) s.l = List.find? (fun i => visB (s.ver i) k a) s.l := by
      apply find_congr
      intro i hi
      rw [hv i (h.lin i hi)]
    have e2 : List.find? (fun i => visB (s'.ver i) k a) [s.vs.length] = none := by
      simp [hvn, visB]
    rw [e1, e2, Option.or_none]
  have B : ∀ i y u d, Has s' i y u d → (i = j ∧ y = k ∧ u = t' ∧ d = c') ∨ (¬ (i = j ∧ y = k) ∧ ∃ u0, Has s i y u0 d ∧ u0.beg = u.beg ∧ u0.id = u.id) := by
    rintro i y u d ⟨h1, h2⟩
    rw [htx] at h1
    by_cases e : i = j
    · subst e
      rw [if_pos rfl] at h1; injection h1 with h1; subst h1
      rw [hcell] at h2
      by_cases e2 : y = k
      · rw [if_pos e2] at h2; injection h2 with h2
        exact .inl ⟨rfl, e2, rfl, h2.symm⟩
      · rw [if_neg e2] at h2
        exact .inr ⟨fun e => e2 e.2, t, ⟨hh.1, h2⟩, hb'.symm, hi'.symm⟩
    · rw [if_neg e] at h1
      exact .inr ⟨fun e' => e e'.1, u, ⟨h1, h2⟩, rfl, rfl⟩
  have F : ∀ i y u d z, Has s i y u d → d.own = some z → ∃ u', Has s' i y u' d := by
    rintro i y u d z ⟨h1, h2⟩ hz
    by_cases e : i = j
    · subst e
      rw [hh.1] at h1; injection h1 with h1; subst h1
      refine ⟨t', by rw [htx, if_pos rfl], ?_⟩
      rw [hcell, if_neg (fun e => by rw [e, hh.2] at h2; injection h2 with h2; rw [← h2, hco] at hz; cases hz)]; exact h2
    · exact ⟨u, by rw [htx, if_neg e]; exact h1, h2⟩
  have hhn : Has s' j k t' c' := ⟨by rw [htx, if_pos rfl], by rw [hcell, if_pos rfl]⟩
  have ownlt : ∀ i y u d z, Has s i y u d → d.own = some z → z < s.vs.length := fun i y u d z h0 hz => h.lin z (h.own i y u d z h0 hz).1
  refine ⟨by rw [hsl]; exact h.slots, ?_, fun i hi => ?_, fun i hi hm => ?_, fun i hi => ?_, fun i y u d z hh ho => ?_, fun i y u d hh => ?_, fun i y u d hh => ?_, fun i y u d hh ht => ?_, fun i i' y u u' d d' h1 h2 => ?_, fun i y i' y' u u' d d' z h1 h2 o1 o2 => ?_, fun i y u d z hh hi hk => ?_, fun i i' hi hi' hne hk hb hb' => ?_, by rw [hnow]; exact h.now, fun i u hu => ?_, fun i i' u u' h1 h2 e => ?_, by rw [hmade]; exact h.made⟩
  · rw [hll, List.nodup_append]
    refine ⟨h.nodup, by simp, fun a ha b hb e => ?_⟩
    have := h.lin a ha
    simp at hb
    omega
  · rw [hll] at hi
    rw [hvs]
    rcases List.mem_append.1 hi with h1 | h1
    · have := h.lin i h1; omega
    · simp at h1; omega
  · rw [hvs] at hi; rw [hll] at hm
    have hm1 : i ∉ s.l := fun e => hm (List.mem_append.2 (.inl e))
    have hm2 : i ≠ s.vs.length := fun e => hm (List.mem_append.2 (.inr (by simp [e])))
    rw [hv i (by omega)]
    rcases h.gone i (by omega) hm1 with h1 | ⟨h1, h2⟩
    · exact .inl h1
    · refine .inr ⟨h1, fun i' u hu => ?_⟩
      rw [htx] at hu
      by_cases e : i' = j
      · rw [if_pos e] at hu; injection hu with hu; subst hu
        rw [hb']; exact h2 j t hh.1
      · rw [if_neg e] at hu; exact h2 i' u hu
  · rw [hvs] at hi
    by_cases e : i = s.vs.length
    · subst e
      rw [hvn]
      exact .inr (.inr ⟨rfl, ⟨rfl, rfl⟩, j, k, t', c', hhn, co⟩)
    · rw [hv i (by omega), hnow]
      rcases h.kind i (by omega) with h1 | h1 | ⟨h1, h2, i', y, u, d, h0, ho⟩
      · exact .inl h1
      · exact .inr (.inl h1)
      · obtain ⟨u', hu'⟩ := F _ _ _ _ _ h0 ho
        exact .inr (.inr ⟨h1, h2, i', y, u', d, hu', ho⟩)
  · rcases B _ _ _ _ hh with ⟨rfl, rfl, rfl, rfl⟩ | ⟨-, u0, h0, -, e⟩
    · rw [co] at ho; injection ho with ho; subst ho
      rw [hvn, hll, hi']
      exact ⟨List.mem_append.2 (.inr (by simp)), rfl, rfl, ⟨rfl, rfl⟩, rfl⟩
    · rw [hll, hv z (ownlt _ _ _ _ _ h0 ho), ← e]
      have := h.own i y u0 d z h0 ho
      exact ⟨List.mem_append.2 (.inl this.1), this.2⟩
  · rw [hat]
    rcases B _ _ _ _ hh with ⟨rfl, rfl, rfl, rfl⟩ | ⟨-, u0, h0, e, -⟩
    · rw [hb', cd]; exact h.old i y t c ‹Has s i y t c›
    · rw [← e]; exact h.old i y u0 d h0
  · rcases B _ _ _ _ hh with ⟨rfl, rfl, -, -⟩ | ⟨-, u0, h0, e, -⟩
    · exact h.kin _ _ _ _ ‹Has s i y t c›
    · exact h.kin i y u0 d h0
  · rcases B _ _ _ _ hh with ⟨-, -, -, rfl⟩ | ⟨-, u0, h0, e, -⟩
    · rw [co]; rfl
    · exact h.there i y u0 d h0 ht
  · have bk : ∀ i y u d, Has s' i y u d → ∃ u0 d0, Has s i y u0 d0 := by
      intro i y u d h1
      rcases B _ _ _ _ h1 with ⟨rfl, rfl, -, -⟩ | ⟨-, u0, h0, -⟩
      · exact ⟨t, c, hh⟩
      · exact ⟨u0, d, h0⟩
    obtain ⟨u0, d0, h0⟩ := bk _ _ _ _ h1
    obtain ⟨u1, d1, h1'⟩ := bk _ _ _ _ h2
    exact h.only i i' y u0 u1 d0 d1 h0 h1'
  · rcases B _ _ _ _ h1 with ⟨rfl, rfl, -, rfl⟩ | ⟨n1, u0, h0, -⟩
    · rcases B _ _ _ _ h2 with ⟨rfl, rfl, -, -⟩ | ⟨-, v0, h0', -⟩
      · exact ⟨rfl, rfl⟩
      · rw [co] at o1; injection o1 with o1; subst o1
        have := ownlt _ _ _ _ _ h0' o2
        omega
    · rcases B _ _ _ _ h2 with ⟨rfl, rfl, -, rfl⟩ | ⟨-, v0, h0', -⟩
      · rw [co] at o2; injection o2 with o2; subst o2
        have := ownlt _ _ _ _ _ h0 o1
        omega
      · exact h.inj i y i' y' u0 v0 d d' z h0 h0' o1 o2
  · rw [hvs] at hi
    by_cases e : z = s.vs.length
    · subst e
      rw [hvn]
      rcases B _ _ _ _ hh with ⟨-, -, rfl, -⟩ | ⟨-, u0, h0, e, -⟩
      · rw [hb']; show (0 : Int) ≤ _ ∧ (0 : Int) ≤ _; omega
      · have := h.beg i u0 h0.1
        rw [← e]; show (0 : Int) ≤ _ ∧ (0 : Int) ≤ _; omega
    · rw [hv z (by omega)] at hk ⊢
      rcases B _ _ _ _ hh with ⟨rfl, rfl, rfl, -⟩ | ⟨-, u0, h0, e, -⟩
      · rw [hb']; exact h.bar i y t c z ‹Has s i y t c› (by omega) hk
      · rw [← e]; exact h.bar i y u0 d z h0 (by omega) hk
  · rw [hvs] at hi hi'
    by_cases e : i = s.vs.length
    · rw [e, hvn] at hb; exact absurd hb (by show ¬ ((0 : Int) < 0); decide)
    · by_cases e' : i' = s.vs.length
      · rw [e', hvn] at hb'; exact absurd hb' (by show ¬ ((0 : Int) < 0); decide)
      · rw [hv i (by omega)] at hk hb
        rw [hv i' (by omega)] at hk hb'
        rw [hv i (by omega), hv i' (by omega)]
        exact h.apt i i' (by omega) (by omega) hne hk hb hb'
  · rw [htx] at hu; rw [hnow, hmade]
    by_cases e : i = j
    · rw [if_pos e] at hu; injection hu with hu; subst hu
      rw [hb', hi', e]; exact h.beg j t hh.1
    · rw [if_neg e] at hu; exact h.beg i u hu
  · have bk : ∀ i u, s'.tx i = some u → ∃ u0, s.tx i = some u0 ∧ u0.id = u.id := by
      intro i u hu
      rw [htx] at hu
      by_cases e : i = j
      · rw [if_pos e] at hu; injection hu with hu; subst hu; rw [e]; exact ⟨t, hh.1, hi'.symm⟩
      · rw [if_neg e] at hu; exact ⟨u, hu, rfl⟩
    obtain ⟨u0, hu0, e1⟩ := bk i u h1
    obtain ⟨u1, hu1, e2⟩ := bk i' u' h2
    exact h.ids i i' u0 u1 hu0 hu1 (by rw [e1, e2]; exact e)
end Go.Proofs.Ytdjehgnkpbkdbaa
namespace Go.Proofs.Ytdjehgnkpbkdbaa
set_option linter.unusedVariables false
set_option linter.unusedSimpArgs false
theorem Has.other {s s' : St} {j : Nat} (htx : ∀ i, s'.tx i = if i = j then none else s.tx i) {i k : Nat} {t : Tx} {c : Cel} : Has s' i k t c ↔ i ≠ j ∧ Has s i k t c := by
  unfold Has
  rw [htx]
  by_cases e : i = j
  · rw [if_pos e]; simp [e]
  · rw [if_neg e]; simp [e]
theorem Wf.killed {s : St} (h : Wf s) {j : Nat} {t : Tx} (ht : s.tx j = some t) : Wf (s.kill j t) := by
  obtain ⟨s', hs'⟩ : ∃ s', s' = s.kill j t := ⟨_, rfl⟩
  have htx : ∀ i, s'.tx i = if i = j then none else s.tx i := fun i => by rw [hs']; rfl
  have hnow : s'.now = s.now := by rw [hs']; rfl
  have hmade : s'.made = s.made := by rw [hs']; rfl
  have hll : s'.l = s.l := by rw [hs']; rfl
  have hvs : s'.vs.length = s.vs.length := by rw [hs']; show (s.vs.mapIdx _).length = _; simp
  have hv : ∀ i, i < s.vs.length → s'.ver i = killV t.cells i (s.ver i) := fun i hi => by rw [hs']; exact ver_kill hi
  have hsl : s'.slots = s.slots := by rw [hs']; rfl
  rw [← hs']
  clear hs'
  have hk : ∀ i, (killV t.cells i (s.ver i)).key = (s.ver i).key ∧ (killV t.cells i (s.ver i)).beg = (s.ver i).beg ∧ (killV t.cells i (s.ver i)).fin = (s.ver i).fin ∧ (killV t.cells i (s.ver i)).by_ = (s.ver i).by_ := fun i => by
    unfold killV; split <;> exact ⟨rfl, rfl, rfl, rfl⟩
  have hat : ∀ k a, s'.at k a = s.at k a := fun k a => by
    unfold St.at
    rw [hll]
    apply find_congr
    intro i hi
    obtain ⟨h1, h2, h3, _⟩ := hk i
    rw [hv i (h.lin i hi)]
    unfold visB
    rw [h1, h2, h3]
  -- whose versions die
  have dies : ∀ i, i < s.vs.length → anyC t.cells (isOwn i) = true → ∃ k c, Has s j k t c ∧ c.own = some i := by
    intro i hi ha
    obtain ⟨k, c, _, hc, hp⟩ := anyC_iff.1 ha
    exact ⟨k, c, ⟨ht, hc⟩, by simpa [isOwn] using hp⟩
  have lives : ∀ i y u d z, i ≠ j → Has s i y u d → d.own = some z → s'.ver z = s.ver z := by
    intro i y u d z hne h0 hz
    rw [hv z (h.lin z (h.own i y u d z h0 hz).1)]
    unfold killV
    rw [if_neg]
    intro ha
    obtain ⟨k, c, hc, ho⟩ := dies z (h.lin z (h.own i y u d z h0 hz).1) ha
    exact hne (h.inj i y j k u t d c z h0 hc hz ho).1
  refine ⟨by rw [hsl]; exact h.slots, by rw [hll]; exact h.nodup, fun i hi => by rw [hvs]; exact h.lin i (by rw [← hll]; exact hi), fun i hi hm => ?_, fun i hi => ?_, fun i y u d z hh ho => ?_, fun i y u d hh => ?_, fun i y u d hh => h.kin i y u d (Has.other htx |>.1 hh).2, fun i y u d hh ht => h.there i y u d (Has.other htx |>.1 hh).2 ht, fun i i' y u u' d d' h1 h2 => h.only i i' y u u' d d' (Has.other htx |>.1 h1).2 (Has.other htx |>.1 h2).2, fun i y i' y' u u' d d' z h1 h2 o1 o2 => h.inj i y i' y' u u' d d' z (Has.other htx |>.1 h1).2 (Has.other htx |>.1 h2).2 o1 o2, fun i y u d z hh hi hkk => ?_, fun i i' hi hi' hne hkk hb hb' => ?_, by rw [hnow]; exact h.now, fun i u hu => ?_, fun i i' u u' h1 h2 e => ?_, by rw [hmade]; exact h.made⟩
  · rw [hvs] at hi; rw [hll] at hm
    rw [hv i hi]
    rcases h.gone i hi hm with h1 | ⟨h1, h2⟩
    · left
      unfold killV
      split
      · rfl
      · exact h1
    · right
      rw [(hk i).2.2.1]
      refine ⟨h1, fun i' u hu => ?_⟩
      rw [htx] at hu
      by_cases e : i' = j
      · rw [if_pos e] at hu; cases hu
      · rw [if_neg e] at hu; exact h2 i' u hu
  · rw [hvs] at hi
    rw [hv i hi, hnow]
    cases ha : anyC t.cells (isOwn i) with
    | true =>
      obtain ⟨k, c, hc, ho⟩ := dies i hi ha
      obtain ⟨_, _, _, r, _⟩ := h.own j k t c i hc ho
      left
      unfold killV
      rw [if_pos ha]
      exact ⟨rfl, r⟩
    | false =>
      have e : killV t.cells i (s.ver i) = s.ver i := by unfold killV; rw [ha]; rfl
      rw [e]
      rcases h.kind i hi with h1 | h1 | ⟨h1, h2, i', y, u, d, h0, ho⟩
      · exact .inl h1
      · exact .inr (.inl h1)
      · refine .inr (.inr ⟨h1, h2, i', y, u, d, (Has.other htx).2 ⟨fun e => ?_, h0⟩, ho⟩)
        subst e
        have := h0.1
        rw [ht] at this; injection this with this; subst this
        have := anyC_iff.2 ⟨y, d, h.kin _ _ _ _ h0, h0.2, (show isOwn i d = true by simp [isOwn, ho])⟩
        rw [ha] at this; cases this
  · obtain ⟨hne, h0⟩ := (Has.other htx).1 hh
    rw [lives i y u d z hne h0 ho, hll]
    exact h.own i y u d z h0 ho
  · rw [hat]; exact h.old i y u d ((Has.other htx).1 hh).2
  · rw [hvs] at hi
    rw [hv z hi] at hkk ⊢
    rw [(hk z).1] at hkk
    rw [(hk z).2.1, (hk z).2.2.1]
    exact h.bar i y u d z ((Has.other htx).1 hh).2 hi hkk
  · rw [hvs] at hi hi'
    rw [hv i hi] at hkk hb
    rw [hv i' hi'] at hkk hb'
    rw [(hk i).1, (hk i').1] at hkk
    rw [(hk i).2.1] at hb
    rw [(hk i').2.1] at hb'
    have := h.apt i i' hi hi' hne hkk hb hb'
    rw [hv i hi, hv i' hi']
    unfold Apt at *
    rw [(hk i).2.1, (hk i').2.1, (hk i).2.2.1, (hk i').2.2.1]; exact this
  · rw [htx] at hu; rw [hnow, hmade]
    by_cases e : i = j
    · rw [if_pos e] at hu; cases hu
    · rw [if_neg e] at hu; exact h.beg i u hu
  · rw [htx] at h1 h2
    by_cases e1 : i = j
    · rw [if_pos e1] at h1; cases h1
    · by_cases e2 : i' = j
      · rw [if_pos e2] at h2; cases h2
      · rw [if_neg e1] at h1; rw [if_neg e2] at h2
        exact h.ids i i' u u' h1 h2 e
theorem Wf.ticked {s : St} (h : Wf s) : Wf s.tick := by
  refine ⟨h.slots, h.nodup, h.lin, h.gone, fun i hi => ?_, h.own, h.old, h.kin, h.there, h.only, h.inj, h.bar, h.apt, by have := h.now; show 0 ≤ s.now + 1; omega, fun j t ht => by have := h.beg j t ht; show 0 < t.beg ∧ t.beg ≤ s.now + 1 ∧ 0 < t.id ∧ t.id ≤ s.made ∧ j < 8; omega, h.ids, h.made⟩
  rcases h.kind i hi with h1 | h1 | h1
  · exact .inl h1
  · obtain ⟨c1, c2, c3, c4⟩ := h1
    refine .inr (.inl ⟨c1, c2, ?_, ?_⟩)
    · show (s.ver i).beg ≤ s.now + 1; omega
    · have hc : (s.ver i).fin = 0 ∨ (s.ver i).beg ≤ (s.ver i).fin ∧ (s.ver i).fin ≤ s.now + 1 := by omega
      exact hc
  · exact .inr (.inr h1)
theorem Wf.did {s : St} (h : Wf s) {j : Nat} {t : Tx} (ht : s.tx j = some t) (hfresh : ∀ i u, s.tx i = some u → u.beg < s.now) (hf2 : ∀ i, i < s.vs.length → (s.ver i).beg < s.now ∧ (s.ver i).fin < s.now) : Wf (s.done j t) := by
  obtain ⟨s', hs'⟩ : ∃ s', s' = s.done j t := ⟨_, rfl⟩
  have htx : ∀ i, s'.tx i = if i = j then none else s.tx i := fun i => by rw [hs']; rfl
  have hnow : s'.now = s.now := by rw [hs']; rfl
  have hmade : s'.made = s.made := by rw [hs']; rfl
  have hll : s'.l = s.l := by rw [hs']; rfl
  have hvs : s'.vs.length = s.vs.length := by rw [hs']; show (s.vs.mapIdx _).length = _; simp
  have hv : ∀ i, i < s.vs.length → s'.ver i = doneV t.cells s.now i (s.ver i) := fun i hi => by rw [hs']; exact ver_done hi
  have hsl : s'.slots = s.slots := by rw [hs']; rfl
  rw [← hs']
  clear hs'
  have oOwn : ∀ i, anyC t.cells (isOwn i) = true ↔ ∃ k c, Has s j k t c ∧ c.own = some i := by
    intro i
    rw [anyC_iff]
    constructor
    · rintro ⟨k, c, _, hc, hp⟩; exact ⟨k, c, ⟨ht, hc⟩, by simpa [isOwn] using hp⟩
    · rintro ⟨k, c, hc, hp⟩; exact ⟨k, c, h.kin _ _ _ _ hc, hc.2, by simp [isOwn, hp]⟩
  have oOld : ∀ i, anyC t.cells (isOld i) = true ↔ ∃ k c, Has s j k t c ∧ c.old = some i := by
    intro i
    rw [anyC_iff]
    constructor
    · rintro ⟨k, c, _, hc, hp⟩; exact ⟨k, c, ⟨ht, hc⟩, by simpa [isOld] using hp⟩
    · rintro ⟨k, c, hc, hp⟩; exact ⟨k, c, h.kin _ _ _ _ hc, hc.2, by simp [isOld, hp]⟩
  have oGone : ∀ i, anyC t.cells (isGone i) = true → anyC t.cells (isOwn i) = true := by
    intro i hg
    obtain ⟨k, c, hk, hc, hp⟩ := anyC_iff.1 hg
    exact anyC_iff.2 ⟨k, c, hk, hc, by simp [isGone] at hp; simp [isOwn, hp.1]⟩
  -- a version that the transaction does not touch
  have same : ∀ i, i < s.vs.length → anyC t.cells (isOwn i) = false → anyC t.cells (isOld i) = false → s'.ver i = s.ver i := by
    intro i hi h1 h2
    have h3 : anyC t.cells (isGone i) = false := by
      cases e : anyC t.cells (isGone i) with
      | false => rfl
      | true => rw [oGone i e] at h1; cases h1
    rw [hv i hi]
    unfold doneV
    rw [h1, h2, h3]
    rfl
  -- the ones that it made
  have made : ∀ i, i < s.vs.length → anyC t.cells (isOwn i) = true → (s'.ver i).key = (s.ver i).key ∧ (s'.ver i).beg = s.now ∧ ((s'.ver i).fin = 0 ∨ (s'.ver i).fin = s.now) ∧ (s'.ver i).dead = (s.ver i).dead ∧ Raw (s.ver i) := by
    intro i hi h1
    obtain ⟨k, c, hc, ho⟩ := (oOwn i).1 h1
    obtain ⟨_, _, _, r, _⟩ := h.own j k t c i hc ho
    rw [hv i hi]
    refine ⟨rfl, ?_, ?_, rfl, r⟩
    · show (if anyC t.cells (isOwn i) then s.now else _) = s.now
      rw [h1]; rfl
    · show (if anyC t.cells (isOld i) || anyC t.cells (isGone i) then s.now else (s.ver i).fin) = 0 ∨ (if anyC t.cells (isOld i) || anyC t.cells (isGone i) then s.now else (s.ver i).fin) = s.now
      split
      · exact .inr rfl
      · exact .inl r.2
  -- the ones that it ended
  have ended : ∀ i, i < s.vs.length → anyC t.cells (isOwn i) = false → anyC t.cells (isOld i) = true → (s'.ver i).key = (s.ver i).key ∧ (s'.ver i).beg = (s.ver i).beg ∧ (s'.ver i).fin = s.now ∧ (s'.ver i).dead = (s.ver i).dead := by
    intro i hi h1 h2
    rw [hv i hi]
    refine ⟨rfl, ?_, ?_, rfl⟩
    · show (if anyC t.cells (isOwn i) then s.now else _) = _
      rw [h1]; rfl
    · show (if anyC t.cells (isOld i) || anyC t.cells (isGone i) then s.now else _) = _
      rw [h2]; rfl
  have oldfact : ∀ i k c, Has s j k t c → c.old = some i → i ∈ s.l ∧ Vis (s.ver i) k t.beg := by
    intro i k c hc ho
    rw [h.old j k t c hc] at ho
    exact h.at_some.1 ho
  have key : ∀ i, i < s.vs.length → (s'.ver i).key = (s.ver i).key := by
    intro i hi
    rw [hv i hi]; rfl
  have dead : ∀ i, i < s.vs.length → (s'.ver i).dead = (s.ver i).dead := by
    intro i hi
    rw [hv i hi]; rfl
  -- what others have a cell of is not touched
  have far : ∀ i y u d z, i ≠ j → Has s i y u d → z < s.vs.length → (s.ver z).key = (y : Int) → s'.ver z = s.ver z := by
    intro i y u d z hne h0 hz hk
    apply same z hz
    · cases e : anyC t.cells (isOwn z) with
      | false => rfl
      | true =>
        obtain ⟨k, c, hc, ho⟩ := (oOwn z).1 e
        have hkz := (h.own j k t c z hc ho).2.1
        have : k = y := by omega
        subst this
        exact absurd (h.only j i k t u c d hc h0) hne
    · cases e : anyC t.cells (isOld z) with
      | false => rfl
      | true =>
        obtain ⟨k, c, hc, ho⟩ := (oOld z).1 e
        have hkz := (oldfact z k c hc ho).2.1
        have : k = y := by omega
        subst this
        exact absurd (h.only j i k t u c d hc h0) hne
  have hat : ∀ i y u d, i ≠ j → Has s i y u d → s'.at y u.beg = s.at y u.beg := by
    intro i y u d hne h0
    unfold St.at
    rw [hll]
    apply find_congr
    intro z hz
    by_cases hk : (s.ver z).key = (y : Int)
    · rw [far i y u d z hne h0 (h.lin z hz) hk]
    · have hk' : ¬ (s'.ver z).key = (y : Int) := by rw [key z (h.lin z hz)]; exact hk
      unfold visB
      simp [hk, hk']
  have ownfar : ∀ i y u d z, i ≠ j → Has s i y u d → d.own = some z → s'.ver z = s.ver z := fun i y u d z hne h0 hz => by
    obtain ⟨a1, a2, _⟩ := h.own i y u d z h0 hz
    exact far i y u d z hne h0 (h.lin z a1) a2
  refine ⟨by rw [hsl]; exact h.slots, by rw [hll]; exact h.nodup, fun i hi => by rw [hvs]; exact h.lin i (by rw [← hll]; exact hi), fun i hi hm => ?_, fun i hi => ?_, fun i y u d z hh ho => ?_, fun i y u d hh => ?_, fun i y u d hh => h.kin i y u d (Has.other htx |>.1 hh).2, fun i y u d hh ht => h.there i y u d (Has.other htx |>.1 hh).2 ht, fun i i' y u u' d d' h1 h2 => h.only i i' y u u' d d' (Has.other htx |>.1 h1).2 (Has.other htx |>.1 h2).2, fun i y i' y' u u' d d' z h1 h2 o1 o2 => h.inj i y i' y' u u' d d' z (Has.other htx |>.1 h1).2 (Has.other htx |>.1 h2).2 o1 o2, fun i y u d z hh hi hkk => ?_, fun i i' hi hi' hne hkk hb hb' => ?_, by rw [hnow]; exact h.now, fun i u hu => ?_, fun i i' u u' h1 h2 e => ?_, by rw [hmade]; exact h.made⟩
  · rw [hvs] at hi; rw [hll] at hm
    have e1 : anyC t.cells (isOwn i) = false := by
      cases e : anyC t.cells (isOwn i) with
      | false => rfl
      | true =>
        obtain ⟨k, c, hc, ho⟩ := (oOwn i).1 e
        exact absurd (h.own j k t c i hc ho).1 hm
    have e2 : anyC t.cells (isOld i) = false := by
      cases e : anyC t.cells (isOld i) with
      | false => rfl
      | true =>
        obtain ⟨k, c, hc, ho⟩ := (oOld i).1 e
        exact absurd (oldfact i k c hc ho).1 hm
    rw [same i hi e1 e2]
    rcases h.gone i hi hm with h1 | ⟨h1, h2⟩
    · exact .inl h1
    · refine .inr ⟨h1, fun i' u hu => ?_⟩
      rw [htx] at hu
      by_cases e : i' = j
      · rw [if_pos e] at hu; cases hu
      · rw [if_neg e] at hu; exact h2 i' u hu
  · rw [hvs] at hi
    have hn0 : 0 < s.now := by have := hfresh j t ht; have := h.beg j t ht; omega
    rw [hnow]
    cases e1 : anyC t.cells (isOwn i) with
    | true =>
      obtain ⟨m1, m2, m3, m4, r⟩ := made i hi e1
      obtain ⟨k, c, hc, ho⟩ := (oOwn i).1 e1
      have hd := (h.own j k t c i hc ho).2.2.1
      refine .inr (.inl ⟨by rw [m4]; exact hd, by rw [m2]; exact hn0, by rw [m2]; exact Int.le_refl _, ?_⟩)
      rw [m2]
      rcases m3 with m3 | m3 <;> rw [m3]
      · exact .inl rfl
      · exact .inr ⟨Int.le_refl _, Int.le_refl _⟩
    | false =>
      cases e2 : anyC t.cells (isOld i) with
      | true =>
        obtain ⟨m1, m2, m3, m4⟩ := ended i hi e1 e2
        obtain ⟨k, c, hc, ho⟩ := (oOld i).1 e2
        have hv := (oldfact i k c hc ho).2
        have hb := (h.fin_le hi).2.1
        refine .inr (.inl ⟨?_, by rw [m2]; exact hv.2.1, by rw [m2]; exact hb, .inr ⟨by rw [m2, m3]; exact hb, by rw [m3]; exact Int.le_refl _⟩⟩)
        rw [m4]
        cases hd : (s.ver i).dead with
        | false => rfl
        | true => have := (h.dead_raw hi hd).1; have := hv.2.1; omega
      | false =>
        rw [same i hi e1 e2]
        rcases h.kind i hi with h1 | h1 | ⟨h1, h2, i', y, u, d, h0, ho⟩
        · exact .inl h1
        · exact .inr (.inl h1)
        · refine .inr (.inr ⟨h1, h2, i', y, u, d, (Has.other htx).2 ⟨fun e => ?_, h0⟩, ho⟩)
          subst e
          have := h0.1
          rw [ht] at this; injection this with this; subst this
          rw [(oOwn i).2 ⟨y, d, h0, ho⟩] at e1; cases e1
  · obtain ⟨hne, h0⟩ := (Has.other htx).1 hh
    rw [ownfar i y u d z hne h0 ho, hll]
    exact h.own i y u d z h0 ho
  · obtain ⟨hne, h0⟩ := (Has.other htx).1 hh
    rw [hat i y u d hne h0]; exact h.old i y u d h0
  · obtain ⟨hne, h0⟩ := (Has.other htx).1 hh
    rw [hvs] at hi
    rw [key z hi] at hkk
    rw [far i y u d z hne h0 hi hkk]
    exact h.bar i y u d z h0 hi hkk
  · rw [hvs] at hi hi'
    rw [key i hi, key i' hi'] at hkk
    -- a version of that key that the transaction did not make, beside one that it made
    have P : ∀ i i', i < s.vs.length → i' < s.vs.length → i ≠ i' → (s.ver i).key = (s.ver i').key → 0 < (s'.ver i').beg → anyC t.cells (isOwn i) = true → anyC t.cells (isOwn i') = false → (s'.ver i').fin ≠ 0 ∧ (s'.ver i').fin ≤ (s'.ver i).beg := by
      intro i i' hi hi' hne hkk hb' e1 e1'
      obtain ⟨m1, m2, m3, m4, r⟩ := made i hi e1
      obtain ⟨k, c, hc, ho⟩ := (oOwn i).1 e1
      have hki := (h.own j k t c i hc ho).2.1
      have hbar := h.bar j k t c i' hc hi' (by rw [← hkk]; exact hki)
      have hfr := hfresh j t ht
      rw [m2]
      cases e2' : anyC t.cells (isOld i') with
      | true =>
        obtain ⟨n1, n2, n3, n4⟩ := ended i' hi' e1' e2'
        rw [n3]
        have := h.beg j t ht
        exact ⟨by omega, Int.le_refl _⟩
      | false =>
        rw [same i' hi' e1' e2'] at hb' ⊢
        refine ⟨fun hz => ?_, by omega⟩
        -- it would be the one that is there at the begin
        have hvis : Vis (s.ver i') k t.beg := ⟨by rw [← hkk]; exact hki, hb', hbar.1, .inl hz⟩
        have hin := h.in_l hi' hvis (.inr ⟨j, t, ht, Int.le_refl _⟩)
        have hat := h.at_some.2 ⟨hin, hvis⟩
        rw [← h.old j k t c hc] at hat
        rw [(oOld i').2 ⟨k, c, hc, hat⟩] at e2'
        cases e2'
    unfold Apt
    cases e1 : anyC t.cells (isOwn i) with
    | true =>
      cases e1' : anyC t.cells (isOwn i') with
      | true =>
        obtain ⟨k, c, hc, ho⟩ := (oOwn i).1 e1
        obtain ⟨k', c', hc', ho'⟩ := (oOwn i').1 e1'
        have a1 := (h.own j k t c i hc ho).2.1
        have a2 := (h.own j k' t c' i' hc' ho').2.1
        have : k = k' := by omega
        subst this
        have e := hc.2
        rw [hc'.2] at e
        injection e with e
        subst e
        rw [ho] at ho'
        injection ho' with ho'
        exact absurd ho' hne
      | false => exact .inr (P i i' hi hi' hne hkk hb' e1 e1')
    | false =>
      cases e1' : anyC t.cells (isOwn i') with
      | true => exact .inl (P i' i hi' hi (Ne.symm hne) hkk.symm hb e1' e1)
      | false =>
        have fb : ∀ i, i < s.vs.length → anyC t.cells (isOwn i) = false → (s'.ver i).beg = (s.ver i).beg ∧ ((s'.ver i).fin = (s.ver i).fin ∨ ((s'.ver i).fin = s.now ∧ ((s.ver i).fin = 0 ∨ t.beg < (s.ver i).fin) ∧ (s.ver i).beg ≤ t.beg ∧ ∃ k c, Has s j k t c ∧ (s.ver i).key = (k : Int))) := by
          intro i hi e1
          cases e2 : anyC t.cells (isOld i) with
          | true =>
            obtain ⟨n1, n2, n3, n4⟩ := ended i hi e1 e2
            obtain ⟨k, c, hc, ho⟩ := (oOld i).1 e2
            have hv := (oldfact i k c hc ho).2
            exact ⟨n2, .inr ⟨n3, hv.2.2.2, hv.2.2.1, k, c, hc, hv.1⟩⟩
          | false => rw [same i hi e1 e2]; exact ⟨rfl, .inl rfl⟩
        obtain ⟨b1, f1⟩ := fb i hi e1
        obtain ⟨b2, f2⟩ := fb i' hi' e1'
        rw [b1] at hb
        rw [b2] at hb'
        have A := h.apt i i' hi hi' hne hkk hb hb'
        unfold Apt at A
        rw [b1, b2]
        have q1 := hf2 i hi
        have q2 := hf2 i' hi'
        have hn0 : 0 < s.now := by have := hfresh j t ht; have := h.beg j t ht; omega
        have bars : ∀ i, i < s.vs.length → (∃ k c, Has s j k t c ∧ (s.ver i).key = (k : Int)) → (s.ver i).fin ≤ t.beg := by
          rintro i hi ⟨k, c, hc, hk⟩
          exact (h.bar j k t c i hc hi hk).2
        rcases f1 with f1 | ⟨f1, g1, g1', g1''⟩
        · rcases f2 with f2 | ⟨f2, g2, g2', g2''⟩
          · rw [f1, f2]; exact A
          · have := bars i' hi' g2''
            rw [f1, f2]
            have h0 : (s.ver i').fin = 0 := by omega
            rcases A with ⟨x, y⟩ | ⟨x, y⟩
            · exact .inl ⟨x, y⟩
            · exact absurd h0 x
        · have := bars i hi g1''
          have h0 : (s.ver i).fin = 0 := by omega
          rcases f2 with f2 | ⟨f2, g2, g2', g2''⟩
          · rw [f1, f2]
            rcases A with ⟨x, y⟩ | ⟨x, y⟩
            · exact absurd h0 x
            · exact .inr ⟨x, y⟩
          · have := bars i' hi' g2''
            have h0' : (s.ver i').fin = 0 := by omega
            rcases A with ⟨x, y⟩ | ⟨x, y⟩
            · exact absurd h0 x
            · exact absurd h0' x
  · rw [htx] at hu; rw [hnow, hmade]
    by_cases e : i = j
    · rw [if_pos e] at hu; cases hu
    · rw [if_neg e] at hu; exact h.beg i u hu
  · rw [htx] at h1 h2
    by_cases e1 : i = j
    · rw [if_pos e1] at h1; cases h1
    · by_cases e2 : i' = j
      · rw [if_pos e2] at h2; cases h2
      · rw [if_neg e1] at h1; rw [if_neg e2] at h2
        exact h.ids i i' u u' h1 h2 e
theorem Wf.committed {s : St} (h : Wf s) {j : Nat} {t : Tx} (ht : s.tx j = some t) : Wf (s.tick.done j t) := by
  refine h.ticked.did ht (fun i u hu => ?_) (fun i hi => ?_)
  · have := h.beg i u hu
    show u.beg < s.now + 1
    omega
  · have := h.fin_le hi
    show (s.ver i).beg < s.now + 1 ∧ (s.ver i).fin < s.now + 1
    omega
theorem foldl_le (f : Nat → Option Tx) : ∀ (l : List Nat) (a : Int), l.foldl (fun a j => match f j with | some t => if t.beg < a then t.beg else a | none => a) a ≤ a ∧ ∀ j t, j ∈ l → f j = some t → l.foldl (fun a j => match f j with | some t => if t.beg < a then t.beg else a | none => a) a ≤ t.beg := by
  intro l
  induction l with
  | nil => intro a; exact ⟨Int.le_refl _, fun j t h => by cases h⟩
  | cons x l ih =>
    intro a
    simp only [List.foldl_cons]
    obtain ⟨i1, i2⟩ := ih (match f x with | some t => if t.beg < a then t.beg else a | none => a)
    have hx : (match f x with | some t => if t.beg < a then t.beg else a | none => a) ≤ a ∧ ∀ t, f x = some t → (match f x with | some t => if t.beg < a then t.beg else a | none => a) ≤ t.beg := by
      cases hf : f x with
      | none => exact ⟨Int.le_refl _, fun t h => by cases h⟩
      | some t =>
        refine ⟨?_, fun u hu => ?_⟩
        · show (if t.beg < a then t.beg else a) ≤ a
          split <;> omega
        · injection hu with hu; subst hu
          show (if t.beg < a then t.beg else a) ≤ t.beg
          split <;> omega
    refine ⟨Int.le_trans i1 hx.1, fun j t hj ht => ?_⟩
    rcases List.mem_cons.1 hj with rfl | hj
    · exact Int.le_trans i1 (hx.2 t ht)
    · exact i2 j t hj ht
theorem low_le (s : St) {j : Nat} {t : Tx} (hj : j < 8) (ht : s.tx j = some t) : s.low ≤ t.beg := (foldl_le s.tx (List.range 8) _).2 j t (by simpa using hj) ht
theorem goneB_iff {v : Ver} {low : Int} : goneB v low = true ↔ v.dead = true ∨ (0 < v.fin ∧ v.fin ≤ low) := by
  unfold goneB
  simp only [Bool.or_eq_true, Bool.and_eq_true, decide_eq_true_eq]
theorem mem_kept {s : St} {i : Nat} : i ∈ s.kept ↔ i ∈ s.l ∧ goneB (s.ver i) s.low = false := by
  unfold St.kept
  rw [List.mem_filter]
  simp
theorem Wf.at_collect {s : St} (h : Wf s) {k a : Int} (ha : s.low ≤ a ∨ ∀ i, i < s.vs.length → (s.ver i).fin ≤ a) : s.collect.at k a = s.at k a := by
  show s.kept.find? (fun i => visB (s.ver i) k a) = s.l.find? (fun i => visB (s.ver i) k a)
  unfold St.kept
  rw [List.find?_filter]
  apply find_congr
  intro i hi
  cases hv : visB (s.ver i) k a with
  | false => simp
  | true =>
    have hv' := visB_iff.1 hv
    have : goneB (s.ver i) s.low = false := by
      cases hg : goneB (s.ver i) s.low with
      | false => rfl
      | true =>
        rcases goneB_iff.1 hg with hd | ⟨h1, h2⟩
        · have := (h.dead_raw (h.lin i hi) hd).1
          have := hv'.2.1
          omega
        · have := hv'.2.2.2
          rcases ha with ha | ha
          · omega
          · have := ha i (h.lin i hi); omega
    simp [this]
theorem Wf.collected {s : St} (h : Wf s) : Wf s.collect := by
  have hl : ∀ i, i ∈ s.collect.l ↔ i ∈ s.l ∧ goneB (s.ver i) s.low = false := fun i => mem_kept
  refine ⟨h.slots, ?_, fun i hi => h.lin i ((hl i).1 hi).1, fun i hi hm => ?_, h.kind, fun j k t c i hh ho => ?_, fun j k t c hh => ?_, h.kin, h.there, h.only, h.inj, h.bar, h.apt, h.now, h.beg, h.ids, h.made⟩
  · show s.kept.Nodup
    unfold St.kept
    exact h.nodup.filter _
  · by_cases hm' : i ∈ s.l
    · have hg : goneB (s.ver i) s.low = true := by
        cases hg : goneB (s.ver i) s.low with
        | true => rfl
        | false => exact absurd ((hl i).2 ⟨hm', hg⟩) hm
      rcases goneB_iff.1 hg with h1 | ⟨h1, h2⟩
      · exact .inl h1
      · refine .inr ⟨?_, fun j t ht => ?_⟩
        · show (s.ver i).fin ≠ 0; omega
        · have := low_le s (h.beg j t ht).2.2.2.2 ht
          show (s.ver i).fin ≤ t.beg; omega
    · exact h.gone i hi hm'
  · have a := h.own j k t c i hh ho
    refine ⟨(hl i).2 ⟨a.1, ?_⟩, a.2⟩
    unfold goneB
    rw [a.2.2.1, a.2.2.2.1.2]
    rfl
  · rw [h.at_collect (.inl (low_le s (h.beg j t hh.1).2.2.2.2 hh.1))]
    exact h.old j k t c hh
end Go.Proofs.Ytdjehgnkpbkdbaa
namespace Go.Proofs.Ytdjehgnkpbkdbaa
set_option linter.unusedVariables false
set_option linter.unusedSimpArgs false
theorem upd_again {α : Type} (f : Nat → α) (j : Nat) (x y : α) : upd (upd f j x) j y = upd f j y := by
  funext i; unfold upd; split <;> rfl
theorem put_again (t : Tx) (k : Nat) (a b : Cel) : (t.put k a).put k b = t.put k b := by
  unfold Tx.put; rw [upd_again]
theorem setTx_again (s : St) (j : Nat) (a b : Option Tx) : (s.setTx j a).setTx j b = s.setTx j b := by
  unfold St.setTx; simp only; rw [upd_again]
theorem setTx_grow (s : St) (j : Nat) (a b : Option Tx) (v : Ver) : ((s.setTx j a).grow v).setTx j b = (s.grow v).setTx j b := by
  unfold St.setTx St.grow; simp only; rw [upd_again]
theorem kill_congr (s : St) (j : Nat) (a : Option Tx) (t t' : Tx) (h : ∀ i, anyC t'.cells (isOwn i) = anyC t.cells (isOwn i)) : (s.setTx j a).kill j t' = s.kill j t := by
  unfold St.kill St.setTx
  simp only
  rw [upd_again, show killV t'.cells = killV t.cells from funext fun i => funext fun v => by unfold killV; rw [h]]
theorem anyC_put {f : Nat → Option Cel} {k : Nat} {c : Cel} {p : Cel → Bool} (h : f k = none) (hp : p c = false) : anyC (upd f k (some c)) p = anyC f p := by
  rw [Bool.eq_iff_iff, anyC_iff, anyC_iff]
  constructor
  · rintro ⟨i, d, hi, hd, hpd⟩
    by_cases e : i = k
    · subst e
      rw [upd_same] at hd; injection hd with hd; subst hd
      rw [hp] at hpd; cases hpd
    · rw [upd_other _ _ _ e] at hd; exact ⟨i, d, hi, hd, hpd⟩
  · rintro ⟨i, d, hi, hd, hpd⟩
    refine ⟨i, d, hi, ?_, hpd⟩
    rw [upd_other _ _ _ (fun e => by rw [e, h] at hd; cases hd)]; exact hd
/-- What is left of a state in which a transaction is ended badly. -/
def St.fell (s : St) (j : Nat) : St := match s.tx j with
  | some t => s.kill j t
  | none => s
theorem look_id (t : Tx) (k : Nat) : (t.look k).id = t.id := by unfold Tx.look; split <;> rfl
theorem mark_id (t : Tx) (k : Nat) : (t.mark k).id = t.id := by unfold Tx.mark; split <;> rfl
theorem Wf.write {s : St} (h : Wf s) {j : Nat} {t : Tx} (ht : s.tx j = some t) {k : Nat} (hk : k < 64) (kind x : Int) :
    ((s.write j t kind k x).1 = 0 → Wf (s.write j t kind k x).2) ∧ ((s.write j t kind k x).1 ≠ 0 → (s.write j t kind k x).2.fell j = s.kill j t) := by
  have hfs : s.fell j = s.kill j t := by unfold St.fell; rw [ht]
  unfold St.write St.take
  cases hc : t.cells k with
  | some c =>
    have hh : Has s j k t c := ⟨ht, hc⟩
    simp only
    by_cases h4 : kind = 4
    · rw [if_pos h4]
      exact ⟨fun _ => h.flag hh false (fun e => by cases e), fun e => absurd rfl e⟩
    · rw [if_neg h4]
      cases ho : c.own with
      | none =>
        simp only
        by_cases hs : s.slots ≤ (s.l.length : Int)
        · rw [if_pos hs]
          refine ⟨fun e => absurd (show (5 : Int) = 0 from e) (by decide), fun _ => ?_⟩
          unfold St.fell
          simp only
          rw [setTx_same]
          exact kill_congr s j _ t t (fun _ => rfl)
        · rw [if_neg hs]
          exact ⟨fun _ => h.grown hh ho x, fun e => absurd rfl e⟩
      | some i =>
        simp only
        refine ⟨fun _ => ?_, fun e => absurd rfl e⟩
        have := (h.setVal i x).flag (j := j) (k := k) (t := t) (c := c) ⟨ht, hc⟩ true (fun _ => by rw [ho]; rfl)
        rw [ho] at this
        exact this
  | none =>
    simp only
    cases hot : s.others j k with
    | true => simp only [Bool.true_or, if_true]; exact ⟨fun e => absurd (show (2 : Int) = 0 from e) (by decide), fun _ => hfs⟩
    | false =>
      cases hlt : s.later k t.beg with
      | true => simp only [Bool.or_true, if_true]; exact ⟨fun e => absurd (show (2 : Int) = 0 from e) (by decide), fun _ => hfs⟩
      | false =>
        have h1 := h.newcell ht hc hk hot hlt
        have hh1 : Has (s.setTx j (some (t.put k ⟨none, s.at k t.beg, false⟩))) j k (t.put k ⟨none, s.at k t.beg, false⟩) ⟨none, s.at k t.beg, false⟩ := ⟨setTx_same _ _ _, by rw [put_cells, if_pos rfl]⟩
        simp only [Bool.or_false, Bool.false_eq_true, if_false]
        by_cases h4 : kind = 4
        · rw [if_pos h4]
          refine ⟨fun _ => ?_, fun e => absurd rfl e⟩
          rw [put_again]
          exact h1
        · rw [if_neg h4]
          rw [show (s.newCel t k).own = none from rfl]
          simp only
          by_cases hs : s.slots ≤ (s.l.length : Int)
          · rw [if_pos hs]
            refine ⟨fun e => absurd (show (5 : Int) = 0 from e) (by decide), fun _ => ?_⟩
            unfold St.fell
            simp only
            rw [setTx_same]
            exact kill_congr s j _ t _ (fun i => anyC_put hc (by simp [isOwn, St.newCel]))
          · rw [if_neg hs]
            refine ⟨fun _ => ?_, fun e => absurd rfl e⟩
            have h2 := h1.grown hh1 rfl x
            rw [put_again]
            rw [put_again, setTx_grow] at h2
            exact h2
theorem Wf.begin {s : St} (h : Wf s) (j level : Int) : Wf (s.begin j level).2.2 := by
  unfold St.begin
  split
  · rename_i hs
    split
    · exact h
    · rename_i hn
      split
      · exact h
      · split
        · exact h
        · refine h.begun ?_ (by simpa using hn) level _ rfl
          simp [sessB] at hs; omega
  · exact h
end Go.Proofs.Ytdjehgnkpbkdbaa
namespace Go.Proofs.Ytdjehgnkpbkdbaa
set_option linter.unusedVariables false
set_option linter.unusedSimpArgs false
/-- The same Model, of which nothing was ever taken away. -/
def full (s : St) : St := { s with l := List.range s.vs.length }
theorem full_some {s : St} (h : Wf s) {k a : Int} {i : Nat} : (full s).at k a = some i ↔ i < s.vs.length ∧ Vis (s.ver i) k a := by
  show (List.range s.vs.length).find? (fun i => visB (s.ver i) k a) = some i ↔ _
  constructor
  · intro hf
    exact ⟨by simpa using List.mem_of_find?_eq_some hf, visB_iff.1 (List.find?_some (p := fun i => visB (s.ver i) k a) hf)⟩
  · rintro ⟨hi, hv⟩
    cases hf : (List.range s.vs.length).find? (fun i => visB (s.ver i) k a) with
    | none => exact absurd (visB_iff.2 hv) (by simpa using List.find?_eq_none.1 hf i (by simpa using hi))
    | some x =>
      rw [h.one (by simpa using List.mem_of_find?_eq_some hf) hi (visB_iff.1 (List.find?_some (p := fun i => visB (s.ver i) k a) hf)) hv]
theorem opt_ext {a b : Option Nat} (h : ∀ i, a = some i ↔ b = some i) : a = b := by
  cases a with
  | some i => exact ((h i).1 rfl).symm
  | none =>
    cases b with
    | none => rfl
    | some i => exact (h i).2 rfl
theorem full_at {s : St} (h : Wf s) {k a : Int} (ha : a = s.now ∨ ∃ j t, s.tx j = some t ∧ t.beg ≤ a) : (full s).at k a = s.at k a := by
  apply opt_ext
  intro i
  rw [full_some h, h.at_some]
  exact ⟨fun ⟨h1, h2⟩ => ⟨h.in_l h1 h2 ha, h2⟩, fun ⟨h1, h2⟩ => ⟨h.lin i h1, h2⟩⟩
end Go.Proofs.Ytdjehgnkpbkdbaa
namespace Go.Proofs.Ytdjehgnkpbkdbaa
set_option linter.unusedVariables false
set_option linter.unusedSimpArgs false
/-- A call with its answer. -/
structure Cl where
  op : MOp
  res : Res
instance : Inhabited Cl := ⟨⟨⟨0, 0, 0, 0⟩, .zero⟩⟩
/-- A transaction as it was. -/
structure Dl where
  id : Int
  level : Int
  state : Int
  beg : Int
  fin : Int
  ops : List Cl
instance : Inhabited Dl := ⟨⟨0, 0, 0, 0, 0, []⟩⟩
def cutPos (l : List (Int × Int)) (key : Int) : Nat := (l.takeWhile fun p => decide (p.1 < key)).length
def isAtB (l : List (Int × Int)) (key : Int) : Bool := match l[cutPos l key]? with
  | some p => decide (p.1 = key)
  | none => false
def setP (l : List (Int × Int)) (key value : Int) (gone : Bool) : List (Int × Int) :=
  l.take (cutPos l key) ++ (if gone then [] else [(key, value)]) ++ l.drop (if isAtB l key then cutPos l key + 1 else cutPos l key)
def laidP (l : List (Int × Int)) (c : Cl) : List (Int × Int) :=
  if c.res.e = 0 then if c.op.kind = 2 ∨ c.op.kind = 3 then setP l c.op.key c.op.value false else if c.op.kind = 4 then setP l c.op.key 0 true else l else l
def findP (l : List (Int × Int)) (key : Int) : Option Int := (l.find? fun p => decide (p.1 = key)).map (·.2)
def inP (l : List (Int × Int)) (lo hi : Int) : List (Int × Int) := l.filter fun p => decide (lo ≤ p.1) && decide (p.1 ≤ hi)
/-- The state's next Deal: committed, not the one, not taken, not behind the time, of the least end. -/
def pickB (l : List Dl) (at_ but : Int) (taken : Nat → Bool) (i : Nat) (k : Option Nat) : Bool :=
  decide ((l.getD i default).state = 3) && !decide ((i : Int) = but) && !taken i && decide ((l.getD i default).fin ≤ at_) && (match k with | none => true | some k => decide ((l.getD i default).fin < (l.getD k default).fin))
def pickTo (l : List Dl) (at_ but : Int) (taken : Nat → Bool) : Nat → Option Nat
  | 0 => none
  | i + 1 => if pickB l at_ but taken i (pickTo l at_ but taken i) then some i else pickTo l at_ but taken i
def stateN (l : List Dl) (at_ but : Int) : Nat → (Nat → Bool) → List (Int × Int) → List (Int × Int)
  | 0, _, out => out
  | n + 1, taken, out => match pickTo l at_ but taken l.length with
    | none => out
    | some k => stateN l at_ but n (upd taken k true) ((l.getD k default).ops.foldl laidP out)
def stateP (l : List Dl) (at_ but : Int) : List (Int × Int) := stateN l at_ but (l.length + 1) (fun _ => false) []
/-- What is answered is as a view says. -/
def rightB (c : Cl) (view : List (Int × Int)) : Bool :=
  if c.op.kind = 1 then (decide (c.res.e ≠ 0) && decide (c.res.e ≠ 11)) || (decide (c.res.e = 0) && decide (findP view c.op.key = some c.res.value)) || (decide (c.res.e = 11) && (findP view c.op.key).isNone)
  else if c.op.kind = 2 then (decide (c.res.e ≠ 0) && decide (c.res.e ≠ 12)) || (decide (c.res.e = 12) == (findP view c.op.key).isSome)
  else if c.op.kind = 3 ∨ c.op.kind = 4 then (decide (c.res.e ≠ 0) && decide (c.res.e ≠ 11)) || (decide (c.res.e = 11) != (findP view c.op.key).isSome)
  else if c.op.kind = 5 then decide (c.res.e ≠ 0) || decide (c.res.pairs = inP view c.op.key c.op.hi)
  else true
def goodB : List Cl → List (Int × Int) → Bool
  | [], _ => true
  | c :: r, view => rightB c view && goodB r (laidP view c)
def holdsB (l : List Dl) (k : Nat) (at_ : Int) : Bool := goodB (l.getD k default).ops (stateP l at_ k)
def writesB (c : Cl) : Bool := decide (c.res.e = 0) && (decide (c.op.kind = 2) || decide (c.op.kind = 3) || decide (c.op.kind = 4))
def before1 (t : Int) : Int := if t = 0 then 0 else t - 1
def repOps (view : List (Int × Int)) : List Cl → List Int → Bool
  | [], _ => true
  | c :: r, wrote => (!(decide (c.op.kind = 1) && decide (c.res.e = 0) && !wrote.contains c.op.key) || decide (findP view c.op.key = some c.res.value)) && repOps view r (if writesB c then wrote ++ [c.op.key] else wrote)
/-- Each Deal is told by its place. -/
def IdsOk (l : List Dl) : Prop := ∀ i, i < l.length → (l.getD i default).id = (i : Int) + 1
abbrev Fn := Nat → Option Int
def listFrom (f : Fn) (lo n : Nat) : List (Int × Int) := (keysFrom lo n).filterMap fun k => (f k).map fun x => ((k : Int), x)
def listOf (f : Fn) : List (Int × Int) := (List.range 64).filterMap fun k => (f k).map fun x => ((k : Int), x)
theorem keysFrom_add (lo n m : Nat) : keysFrom lo (n + m) = keysFrom lo n ++ keysFrom (lo + n) m := by
  induction m with
  | zero => simp [keysFrom]
  | succ m ih => rw [← Nat.add_assoc, keysFrom_succ, ih, keysFrom_succ, List.append_assoc, Nat.add_assoc]
theorem listFrom_add (f : Fn) (lo n m : Nat) : listFrom f lo (n + m) = listFrom f lo n ++ listFrom f (lo + n) m := by
  unfold listFrom; rw [keysFrom_add, List.filterMap_append]
theorem listOf_from (f : Fn) : listOf f = listFrom f 0 64 := by
  unfold listOf listFrom keysFrom; simp
theorem listFrom_one (f : Fn) (k : Nat) : listFrom f k 1 = match f k with | some x => [((k : Int), x)] | none => [] := by
  have : keysFrom k 1 = [k] := by simp [keysFrom]
  unfold listFrom
  rw [this]
  cases h : f k with
  | none => simp [h]
  | some x => simp [h]
theorem listOf_cut (f : Fn) {k : Nat} (hk : k < 64) : listOf f = listFrom f 0 k ++ (listFrom f k 1 ++ listFrom f (k + 1) (63 - k)) := by
  rw [listOf_from, show 64 = k + (1 + (63 - k)) by omega, listFrom_add, listFrom_add, Nat.zero_add]
theorem mem_listFrom {f : Fn} {lo n : Nat} {p : Int × Int} : p ∈ listFrom f lo n ↔ ∃ k, lo ≤ k ∧ k < lo + n ∧ f k = some p.2 ∧ p.1 = (k : Int) := by
  unfold listFrom keysFrom
  rw [List.mem_filterMap]
  constructor
  · rintro ⟨k, hk, he⟩
    obtain ⟨j, hj, rfl⟩ := List.mem_map.1 hk
    cases hf : f (lo + j) with
    | none => rw [hf] at he; cases he
    | some x =>
      rw [hf] at he
      simp only [Option.map_some, Option.some.injEq] at he
      subst he
      exact ⟨lo + j, by omega, by have := List.mem_range.1 hj; omega, hf, rfl⟩
  · rintro ⟨k, h1, h2, h3, h4⟩
    refine ⟨k, List.mem_map.2 ⟨k - lo, by simp; omega, by omega⟩, ?_⟩
    rw [h3]
    simp only [Option.map_some, Option.some.injEq]
    rw [← h4]
theorem listFrom_congr {f g : Fn} {lo n : Nat} (h : ∀ k, lo ≤ k → k < lo + n → f k = g k) : listFrom f lo n = listFrom g lo n := by
  induction n with
  | zero => simp [listFrom, keysFrom]
  | succ n ih =>
    rw [listFrom_add, listFrom_add, ih (fun k h1 h2 => h k h1 (by omega)), listFrom_one, listFrom_one, h (lo + n) (by omega) (by omega)]
theorem takeWhile_app_all {α : Type} {p : α → Bool} : ∀ {a b : List α}, (∀ x, x ∈ a → p x = true) → (a ++ b).takeWhile p = a ++ b.takeWhile p
  | [], _, _ => rfl
  | x :: a, b, h => by
    rw [List.cons_append, List.takeWhile_cons_of_pos (h x List.mem_cons_self), takeWhile_app_all (fun y hy => h y (List.mem_cons_of_mem _ hy)), List.cons_append]
theorem takeWhile_none {α : Type} {p : α → Bool} {b : List α} (h : ∀ x, x ∈ b → p x = false) : b.takeWhile p = [] := by
  cases b with
  | nil => rfl
  | cons x b => rw [List.takeWhile_cons_of_neg]; rw [h x List.mem_cons_self]; simp
theorem cutPos_listOf (f : Fn) {k : Nat} (hk : k < 64) : cutPos (listOf f) k = (listFrom f 0 k).length := by
  unfold cutPos
  rw [listOf_cut f hk, takeWhile_app_all, takeWhile_none]
  · simp
  · intro p hp
    rw [List.mem_append] at hp
    rcases hp with hp | hp <;> (obtain ⟨j, h1, h2, h3, h4⟩ := mem_listFrom.1 hp; simp; omega)
  · intro p hp
    obtain ⟨j, h1, h2, h3, h4⟩ := mem_listFrom.1 hp
    simp; omega
theorem isAtB_listOf (f : Fn) {k : Nat} (hk : k < 64) : isAtB (listOf f) k = (f k).isSome := by
  unfold isAtB
  rw [cutPos_listOf f hk, listOf_cut f hk, List.getElem?_append_right (Nat.le_refl _), Nat.sub_self, listFrom_one]
  cases h : f k with
  | some x => simp
  | none =>
    simp only [List.nil_append, Option.isSome_none]
    cases hl : listFrom f (k + 1) (63 - k) with
    | nil => rfl
    | cons p r =>
      have : p ∈ listFrom f (k + 1) (63 - k) := by rw [hl]; exact List.mem_cons_self
      obtain ⟨j, h1, h2, h3, h4⟩ := mem_listFrom.1 this
      simp; omega
theorem setP_listOf (f : Fn) {k : Nat} (hk : k < 64) (x : Int) (gone : Bool) : setP (listOf f) k x gone = listOf (upd f k (if gone then none else some x)) := by
  unfold setP
  rw [isAtB_listOf f hk, cutPos_listOf f hk]
  have hA : listFrom (upd f k (if gone then none else some x)) 0 k = listFrom f 0 k := listFrom_congr (fun j _ hj => upd_other _ _ _ (by omega))
  have hC : listFrom (upd f k (if gone then none else some x)) (k + 1) (63 - k) = listFrom f (k + 1) (63 - k) := listFrom_congr (fun j hj _ => upd_other _ _ _ (by omega))
  rw [listOf_cut (upd f k _) hk, hA, hC, listFrom_one, upd_same]
  have hT : (listOf f).take (listFrom f 0 k).length = listFrom f 0 k := by rw [listOf_cut f hk, List.take_left]
  have hD : (listOf f).drop (if (f k).isSome = true then (listFrom f 0 k).length + 1 else (listFrom f 0 k).length) = listFrom f (k + 1) (63 - k) := by
    rw [listOf_cut f hk, listFrom_one]
    cases h : f k with
    | none => simp
    | some y =>
      simp only [Option.isSome_some, if_true]
      rw [List.drop_append]; simp
  rw [hT, hD, List.append_assoc]
  cases gone <;> simp
theorem findP_append (a b : List (Int × Int)) (k : Int) (h : ∀ p, p ∈ a → p.1 ≠ k) : findP (a ++ b) k = findP b k := by
  unfold findP
  rw [List.find?_append]
  have : a.find? (fun p => decide (p.1 = k)) = none := List.find?_eq_none.2 (fun p hp => by simpa using h p hp)
  rw [this]; rfl
theorem findP_listOf (f : Fn) {k : Nat} (hk : k < 64) : findP (listOf f) k = f k := by
  rw [listOf_cut f hk, findP_append _ _ _ (fun p hp => by obtain ⟨j, h1, h2, h3, h4⟩ := mem_listFrom.1 hp; omega), listFrom_one]
  cases h : f k with
  | some x => simp [findP]
  | none =>
    rw [List.nil_append]
    unfold findP
    rw [List.find?_eq_none.2 (fun p hp => by obtain ⟨j, h1, h2, h3, h4⟩ := mem_listFrom.1 hp; simp; omega)]
    rfl
theorem flt_all {α : Type} {p : α → Bool} {l : List α} (h : ∀ x, x ∈ l → p x = true) : l.filter p = l := List.filter_eq_self.2 h
theorem flt_none {α : Type} {p : α → Bool} {l : List α} (h : ∀ x, x ∈ l → p x = false) : l.filter p = [] := List.filter_eq_nil_iff.2 (fun x hx => by rw [h x hx]; simp)
theorem inP_listOf (f : Fn) {lo hi : Nat} (h1 : lo ≤ hi) (h2 : hi < 64) : inP (listOf f) lo hi = listFrom f lo (hi + 1 - lo) := by
  unfold inP
  rw [listOf_from, show 64 = lo + ((hi + 1 - lo) + (63 - hi)) by omega, listFrom_add, listFrom_add, Nat.zero_add, List.filter_append, List.filter_append, flt_none, flt_all, flt_none]
  · simp
  · intro p hp; obtain ⟨j, a1, a2, a3, a4⟩ := mem_listFrom.1 hp; simp; omega
  · intro p hp; obtain ⟨j, a1, a2, a3, a4⟩ := mem_listFrom.1 hp; simp; omega
  · intro p hp; obtain ⟨j, a1, a2, a3, a4⟩ := mem_listFrom.1 hp; simp; omega
/-- What a call lays over a function. -/
def laidF (f : Fn) (c : Cl) : Fn :=
  if c.res.e = 0 then if c.op.kind = 2 ∨ c.op.kind = 3 then upd f c.op.key.toNat (some c.op.value) else if c.op.kind = 4 then upd f c.op.key.toNat none else f else f
def ClOk (c : Cl) : Prop := opOkB c.op = true
theorem laidP_listOf (f : Fn) {c : Cl} (h : ClOk c) : laidP (listOf f) c = listOf (laidF f c) := by
  have hk := opOk_key h
  have e : c.op.key = (c.op.key.toNat : Int) := by omega
  unfold laidP laidF
  split
  · split
    · rw [e, setP_listOf f (by omega)]; rw [← e]; rfl
    · split
      · rw [e, setP_listOf f (by omega)]; rw [← e]; rfl
      · rfl
  · rfl
theorem laidAll_listOf : ∀ (l : List Cl) (f : Fn), (∀ c, c ∈ l → ClOk c) → l.foldl laidP (listOf f) = listOf (l.foldl laidF f)
  | [], _, _ => rfl
  | c :: l, f, h => by
    rw [List.foldl_cons, List.foldl_cons, laidP_listOf f (h c List.mem_cons_self)]
    exact laidAll_listOf l _ (fun d hd => h d (List.mem_cons_of_mem _ hd))
/-- What is answered is as a function says. -/
def rightF (c : Cl) (f : Fn) : Bool :=
  if c.op.kind = 1 then (decide (c.res.e ≠ 0) && decide (c.res.e ≠ 11)) || (decide (c.res.e = 0) && decide (f c.op.key.toNat = some c.res.value)) || (decide (c.res.e = 11) && (f c.op.key.toNat).isNone)
  else if c.op.kind = 2 then (decide (c.res.e ≠ 0) && decide (c.res.e ≠ 12)) || (decide (c.res.e = 12) == (f c.op.key.toNat).isSome)
  else if c.op.kind = 3 ∨ c.op.kind = 4 then (decide (c.res.e ≠ 0) && decide (c.res.e ≠ 11)) || (decide (c.res.e = 11) != (f c.op.key.toNat).isSome)
  else if c.op.kind = 5 then decide (c.res.e ≠ 0) || decide (c.res.pairs = listFrom f c.op.key.toNat (c.op.hi + 1 - c.op.key).toNat)
  else true
theorem rightB_listOf {c : Cl} (h : ClOk c) (f : Fn) : rightB c (listOf f) = rightF c f := by
  have hk := opOk_key h
  have e : c.op.key = (c.op.key.toNat : Int) := by omega
  have hf : findP (listOf f) c.op.key = f c.op.key.toNat := by
    have := findP_listOf f (k := c.op.key.toNat) (by omega)
    rw [← e] at this; exact this
  have h5 : c.op.kind = 5 → inP (listOf f) c.op.key c.op.hi = listFrom f c.op.key.toNat (c.op.hi + 1 - c.op.key).toNat := by
    intro k5
    have hh : c.op.key ≤ c.op.hi ∧ c.op.hi ≤ 63 := by
      have := h
      unfold ClOk opOkB at this
      simp [k5] at this
      exact ⟨this.1.1.2, this.1.2⟩
    have e2 : c.op.hi = (c.op.hi.toNat : Int) := by omega
    have := inP_listOf f (lo := c.op.key.toNat) (hi := c.op.hi.toNat) (by omega) (by omega)
    rw [← e, ← e2] at this
    rw [this]; congr 1; omega
  unfold rightB rightF
  rw [hf]
  by_cases k5 : c.op.kind = 5
  · rw [h5 k5]
  · simp only [if_neg k5]
def goodF : List Cl → Fn → Bool
  | [], _ => true
  | c :: r, f => rightF c f && goodF r (laidF f c)
theorem goodB_listOf : ∀ (l : List Cl) (f : Fn), (∀ c, c ∈ l → ClOk c) → goodB l (listOf f) = goodF l f
  | [], _, _ => rfl
  | c :: l, f, h => by
    unfold goodB goodF
    rw [rightB_listOf (h c List.mem_cons_self), laidP_listOf f (h c List.mem_cons_self), goodB_listOf l _ (fun d hd => h d (List.mem_cons_of_mem _ hd))]
def repF (f : Fn) : List Cl → List Int → Bool
  | [], _ => true
  | c :: r, wrote => (!(decide (c.op.kind = 1) && decide (c.res.e = 0) && !wrote.contains c.op.key) || decide (f c.op.key.toNat = some c.res.value)) && repF f r (if writesB c then wrote ++ [c.op.key] else wrote)
theorem repOps_listOf : ∀ (l : List Cl) (f : Fn) (wr : List Int), (∀ c, c ∈ l → ClOk c) → repOps (listOf f) l wr = repF f l wr
  | [], _, _, _ => rfl
  | c :: l, f, wr, h => by
    have hk := opOk_key (h c List.mem_cons_self)
    have e : c.op.key = (c.op.key.toNat : Int) := by omega
    have hf : findP (listOf f) c.op.key = f c.op.key.toNat := by
      have := findP_listOf f (k := c.op.key.toNat) (by omega)
      rw [← e] at this; exact this
    unfold repOps repF
    rw [hf, repOps_listOf l f _ (fun d hd => h d (List.mem_cons_of_mem _ hd))]
end Go.Proofs.Ytdjehgnkpbkdbaa
namespace Go.Proofs.Ytdjehgnkpbkdbaa
set_option linter.unusedVariables false
set_option linter.unusedSimpArgs false
abbrev dAt (l : List Dl) (i : Nat) : Dl := l.getD i default
def candB (l : List Dl) (at_ but : Int) (taken : Nat → Bool) (i : Nat) : Bool := decide ((dAt l i).state = 3) && !decide ((i : Int) = but) && !taken i && decide ((dAt l i).fin ≤ at_)
theorem pickB_none (l : List Dl) (a but : Int) (tk : Nat → Bool) (i : Nat) : pickB l a but tk i none = candB l a but tk i := by unfold pickB candB; simp [dAt]
theorem pickB_some (l : List Dl) (a but : Int) (tk : Nat → Bool) (i k : Nat) : pickB l a but tk i (some k) = (candB l a but tk i && decide ((dAt l i).fin < (dAt l k).fin)) := by unfold pickB candB; rfl
theorem pickTo_cand {l : List Dl} {a but : Int} {tk : Nat → Bool} : ∀ {n i : Nat}, pickTo l a but tk n = some i → i < n ∧ candB l a but tk i = true
  | 0, i, h => by cases h
  | n + 1, i, h => by
    unfold pickTo at h
    cases hp : pickTo l a but tk n with
    | none =>
      rw [hp, pickB_none] at h
      split at h
      · rename_i hc
        injection h with h; subst h
        exact ⟨Nat.lt_succ_self _, hc⟩
      · cases h
    | some k =>
      rw [hp, pickB_some] at h
      split at h
      · rename_i hc
        injection h with h; subst h
        simp only [Bool.and_eq_true] at hc
        exact ⟨Nat.lt_succ_self _, hc.1⟩
      · injection h with h; subst h
        have := pickTo_cand hp
        exact ⟨by omega, this.2⟩
theorem pickTo_none {l : List Dl} {a but : Int} {tk : Nat → Bool} {n : Nat} (h : ∀ i, i < n → candB l a but tk i = false) : pickTo l a but tk n = none := by
  cases hp : pickTo l a but tk n with
  | none => rfl
  | some i =>
    have := pickTo_cand hp
    rw [h i this.1] at this
    cases this.2
theorem pickTo_min {l : List Dl} {a but : Int} {tk : Nat → Bool} {k : Nat} (hk : candB l a but tk k = true) (hm : ∀ i, candB l a but tk i = true → i ≠ k → (dAt l k).fin < (dAt l i).fin) : ∀ n, k < n → pickTo l a but tk n = some k
  | 0, h => by omega
  | n + 1, h => by
    unfold pickTo
    by_cases e : k = n
    · subst e
      cases hp : pickTo l a but tk k with
      | none => rw [pickB_none, hk]; rfl
      | some i =>
        have := pickTo_cand hp
        have hf := hm i this.2 (by omega)
        rw [pickB_some, hk, decide_eq_true hf]; rfl
    · rw [pickTo_min hk hm n (by omega), pickB_some]
      have : ¬ ((candB l a but tk n && decide ((dAt l n).fin < (dAt l k).fin)) = true) := by
        intro hc
        simp only [Bool.and_eq_true, decide_eq_true_eq] at hc
        have := hm n hc.1 (by omega)
        omega
      rw [if_neg this]
/-- What the Deals of a row lay over a function. -/
def stF (l : List Dl) (r : List Nat) (f : Fn) : Fn := r.foldl (fun f i => (dAt l i).ops.foldl laidF f) f
theorem stateN_eq {l : List Dl} {a but : Int} (hok : ∀ i, i < l.length → ∀ c, c ∈ (dAt l i).ops → ClOk c) : ∀ (r : List Nat) (n : Nat) (tk : Nat → Bool) (f : Fn), r.length < n →
    (∀ i, i < l.length → (candB l a but tk i = true ↔ i ∈ r)) → (∀ i, i ∈ r → i < l.length) → r.Pairwise (fun i j => (dAt l i).fin < (dAt l j).fin) → stateN l a but n tk (listOf f) = listOf (stF l r f)
  | [], n + 1, tk, f, hn, hc, hl, hp => by
    unfold stateN
    rw [pickTo_none (fun i hi => by
      cases h : candB l a but tk i with
      | false => rfl
      | true => exact absurd ((hc i hi).1 h) (by simp))]
    rfl
  | k :: r, n + 1, tk, f, hn, hc, hl, hp => by
    have hkl := hl k List.mem_cons_self
    have hcand : ∀ i, candB l a but tk i = true → i < l.length := by
      intro i h
      apply Classical.byContradiction
      intro hx
      have e : dAt l i = default := by unfold dAt; rw [List.getD_eq_getElem?_getD, List.getElem?_eq_none (by omega)]; rfl
      unfold candB at h
      rw [e] at h
      simp only [Bool.and_eq_true, decide_eq_true_eq] at h
      exact absurd h.1.1.1 (by decide)
    rw [List.pairwise_cons] at hp
    unfold stateN
    rw [pickTo_min ((hc k hkl).2 List.mem_cons_self) (fun i hi hne => by
      have hm := (hc i (hcand i hi)).1 hi
      rcases List.mem_cons.1 hm with e | hm
      · exact absurd e hne
      · exact hp.1 i hm) _ hkl]
    simp only
    rw [laidAll_listOf _ _ (hok k hkl)]
    refine stateN_eq hok r n _ _ (by simp at hn; omega) (fun i hi => ?_) (fun i hi => hl i (List.mem_cons_of_mem _ hi)) hp.2
    have hkr : k ∉ r := fun hm => by have := hp.1 k hm; omega
    by_cases e : i = k
    · subst e
      constructor
      · intro h
        unfold candB at h
        rw [upd_same] at h
        simp at h
      · intro h; exact absurd h hkr
    · have : candB l a but (upd tk k true) i = candB l a but tk i := by unfold candB; rw [upd_other _ _ _ e]
      rw [this, hc i hi, List.mem_cons]
      exact ⟨fun h => h.resolve_left e, .inr⟩
/-- The committed Deals, in the order of their ends. -/
structure Ord (l : List Dl) (cs : List Nat) : Prop where
  mem : ∀ i, i ∈ cs ↔ i < l.length ∧ (dAt l i).state = 3
  pw : cs.Pairwise (fun i j => (dAt l i).fin < (dAt l j).fin)
  ok : ∀ i, i < l.length → ∀ c, c ∈ (dAt l i).ops → ClOk c
def uptoR (l : List Dl) (cs : List Nat) (a but : Int) : List Nat := cs.filter fun i => decide ((dAt l i).fin ≤ a) && !decide ((i : Int) = but)
theorem nodup_bound (l : List Nat) (n : Nat) (h : l.Nodup) (hb : ∀ x, x ∈ l → x < n) : l.length ≤ n := nodup_bound64 n l h hb
theorem Ord.stateP {l : List Dl} {cs : List Nat} (h : Ord l cs) (a but : Int) : stateP l a but = listOf (stF l (uptoR l cs a but) (fun _ => none)) := by
  have h0 : ([] : List (Int × Int)) = listOf (fun _ => none) := by simp [listOf]
  unfold Go.Proofs.Ytdjehgnkpbkdbaa.stateP
  rw [h0]
  have hnd : cs.Nodup := h.pw.imp (fun {x y} hxy e => by subst e; omega)
  have hlen : cs.length ≤ l.length := nodup_bound cs l.length hnd (fun i hi => ((h.mem i).1 hi).1)
  refine stateN_eq h.ok _ _ _ _ ?_ (fun i hi => ?_) (fun i hi => ?_) (h.pw.filter _)
  · have := List.length_filter_le (fun i => decide ((dAt l i).fin ≤ a) && !decide ((i : Int) = but)) cs
    unfold uptoR; omega
  · unfold uptoR candB
    rw [List.mem_filter, h.mem]
    simp only [Bool.and_eq_true, decide_eq_true_eq, Bool.not_eq_true', decide_eq_false_iff_not]
    constructor
    · rintro ⟨⟨⟨h1, h2⟩, _⟩, h4⟩; exact ⟨⟨hi, h1⟩, h4, h2⟩
    · rintro ⟨⟨_, h1⟩, h4, h2⟩; exact ⟨⟨⟨h1, h2⟩, trivial⟩, h4⟩
  · unfold uptoR at hi
    rw [List.mem_filter, h.mem] at hi
    exact hi.1.1
def wroteF (ops : List Cl) (k : Nat) : Bool := ops.any fun c => decide (c.op.key = (k : Int)) && writesB c
theorem laidF_other {f : Fn} {c : Cl} {k : Nat} (h : (decide (c.op.key = (k : Int)) && writesB c) = false) (hc : ClOk c) : laidF f c k = f k := by
  have hk := opOk_key hc
  unfold laidF
  unfold writesB at h
  by_cases h0 : c.res.e = 0
  · rw [if_pos h0]
    by_cases h23 : c.op.kind = 2 ∨ c.op.kind = 3
    · rw [if_pos h23]
      apply upd_other
      intro e
      have : c.op.key = (k : Int) := by omega
      rcases h23 with x | x <;> simp [h0, this, x] at h
    · rw [if_neg h23]
      by_cases h4 : c.op.kind = 4
      · rw [if_pos h4]
        apply upd_other
        intro e
        have : c.op.key = (k : Int) := by omega
        simp [h0, this, h4] at h
      · rw [if_neg h4]
  · rw [if_neg h0]
theorem laidF_same {f g : Fn} {c : Cl} {k : Nat} (h : (decide (c.op.key = (k : Int)) && writesB c) = true) : laidF f c k = laidF g c k := by
  unfold laidF
  unfold writesB at h
  simp only [Bool.and_eq_true, decide_eq_true_eq, Bool.or_eq_true] at h
  obtain ⟨hk, h0, h234⟩ := h
  rw [if_pos h0, if_pos h0]
  have ek : c.op.key.toNat = k := by omega
  by_cases h23 : c.op.kind = 2 ∨ c.op.kind = 3
  · rw [if_pos h23, if_pos h23, ek, upd_same, upd_same]
  · have h4 : c.op.kind = 4 := by rcases h234 with (x | x) | x <;> omega
    rw [if_neg h23, if_neg h23, if_pos h4, if_pos h4, ek, upd_same, upd_same]
theorem laidF_congr {f g : Fn} {c : Cl} {k : Nat} (hc : ClOk c) (h : f k = g k) : laidF f c k = laidF g c k := by
  cases hw : (decide (c.op.key = (k : Int)) && writesB c) with
  | true => exact laidF_same hw
  | false => rw [laidF_other hw hc, laidF_other hw hc, h]
theorem laidAll_congr : ∀ (ops : List Cl) (f g : Fn) (k : Nat), (∀ c, c ∈ ops → ClOk c) → f k = g k → ops.foldl laidF f k = ops.foldl laidF g k
  | [], f, g, k, _, h => h
  | c :: r, f, g, k, hok, h => laidAll_congr r _ _ k (fun d hd => hok d (List.mem_cons_of_mem _ hd)) (laidF_congr (hok c List.mem_cons_self) h)
theorem laidAll_wrote : ∀ (ops : List Cl) (f g : Fn) (k : Nat), (∀ c, c ∈ ops → ClOk c) → wroteF ops k = true → ops.foldl laidF f k = ops.foldl laidF g k
  | [], f, g, k, _, h => by cases h
  | c :: r, f, g, k, hok, h => by
    have hr := fun d hd => hok d (List.mem_cons_of_mem c hd)
    cases hw : (decide (c.op.key = (k : Int)) && writesB c) with
    | true => exact laidAll_congr r _ _ k hr (laidF_same hw)
    | false =>
      refine laidAll_wrote r _ _ k hr ?_
      unfold wroteF at h ⊢
      rw [List.any_cons, hw, Bool.false_or] at h
      exact h
theorem laidAll_not : ∀ (ops : List Cl) (f : Fn) (k : Nat), (∀ c, c ∈ ops → ClOk c) → wroteF ops k = false → ops.foldl laidF f k = f k
  | [], f, k, _, _ => rfl
  | c :: r, f, k, hok, h => by
    have hr := fun d hd => hok d (List.mem_cons_of_mem c hd)
    unfold wroteF at h
    rw [List.any_cons, Bool.or_eq_false_iff] at h
    rw [List.foldl_cons, laidAll_not r _ k hr h.2, laidF_other h.1 (hok c List.mem_cons_self)]
theorem goodF_append : ∀ (a b : List Cl) (f : Fn), goodF (a ++ b) f = (goodF a f && goodF b (a.foldl laidF f))
  | [], b, f => by simp [goodF]
  | c :: a, b, f => by
    show (rightF c f && goodF (a ++ b) (laidF f c)) = ((rightF c f && goodF a (laidF f c)) && goodF b (a.foldl laidF (laidF f c)))
    rw [goodF_append a b, Bool.and_assoc]
def wroteL : List Cl → List Int → List Int
  | [], wr => wr
  | c :: r, wr => wroteL r (if writesB c then wr ++ [c.op.key] else wr)
theorem repF_append : ∀ (a b : List Cl) (f : Fn) (wr : List Int), repF f (a ++ b) wr = (repF f a wr && repF f b (wroteL a wr))
  | [], b, f, wr => by simp [repF, wroteL]
  | c :: a, b, f, wr => by
    have e1 : ∀ l, repF f (c :: l) wr = ((!(decide (c.op.kind = 1) && decide (c.res.e = 0) && !wr.contains c.op.key) || decide (f c.op.key.toNat = some c.res.value)) && repF f l (if writesB c then wr ++ [c.op.key] else wr)) := fun _ => rfl
    rw [List.cons_append, e1, e1, repF_append a b, ← Bool.and_assoc]; rfl
theorem wroteL_mem : ∀ (a : List Cl) (wr : List Int) (k : Nat), (wroteL a wr).contains (k : Int) = (wr.contains (k : Int) || wroteF a k)
  | [], wr, k => by simp [wroteL, wroteF]
  | c :: a, wr, k => by
    unfold wroteL
    rw [wroteL_mem a]
    unfold wroteF
    rw [List.any_cons]
    by_cases hw : writesB c = true
    · rw [if_pos hw, hw, Bool.and_true, List.contains_append, Bool.or_assoc]
      congr 2
      simp only [List.contains_cons, List.contains_nil, Bool.or_false]
      by_cases e : c.op.key = (k : Int)
      · simp [e]
      · have e' : ¬ ((k : Int) = c.op.key) := fun x => e x.symm
        simp [e, e']
    · rw [if_neg hw]
      have : writesB c = false := by simpa using hw
      rw [this, Bool.and_false, Bool.false_or]
theorem wroteF_append (a : List Cl) (c : Cl) (k : Nat) : wroteF (a ++ [c]) k = (wroteF a k || (decide (c.op.key = (k : Int)) && writesB c)) := by
  unfold wroteF; rw [List.any_append]; simp
end Go.Proofs.Ytdjehgnkpbkdbaa
namespace Go.Proofs.Ytdjehgnkpbkdbaa
open Go.RowKit
set_option linter.unusedVariables false
set_option linter.unusedSimpArgs false
/-- A slice of pairs. -/
structure PV (w : World) (a : Option Addr) (c : Nat) (ps : List (Int × Int)) : Prop where
  form : (a = none ∧ ps = [] ∧ c = 0) ∨ ∃ b off, a = some ⟨b, off, none⟩ ∧ ∀ i, i < ps.length → w.cell? ⟨b, off + i * 2, none⟩ = some (.int .i64 (ps.getD i (0, 0)).1) ∧ w.cell? ⟨b, off + (i * 2 + 1), none⟩ = some (.int .i64 (ps.getD i (0, 0)).2)
  len : ps.length ≤ c
  cap : c ≤ 9223372036854775807
theorem PV.at_ {w : World} {a : Option Addr} {c : Nat} {ps : List (Int × Int)} (h : PV w a c ps) : PairsIn w a ps := by
  rcases h.form with ⟨_, h, _⟩ | h
  · exact .inl h
  · exact .inr h
theorem PV.nil (w : World) : PV w none 0 [] := ⟨.inl ⟨rfl, rfl, rfl⟩, Nat.le_refl _, by decide⟩
theorem PV.only0 {w w' : World} {a : Option Addr} {c : Nat} {ps : List (Int × Int)} (h : PV w a c ps) (o : Only0 w w') : PV w' a c ps := by
  refine ⟨?_, h.len, h.cap⟩
  rcases h.form with h | ⟨b, off, h1, h2⟩
  · exact .inl h
  · exact .inr ⟨b, off, h1, fun i hi => ⟨(World.cell?_of_block (o.block _ (block_lt_of_cell (h2 i hi).1) (fun hf => hf))).trans (h2 i hi).1, (World.cell?_of_block (o.block _ (block_lt_of_cell (h2 i hi).2) (fun hf => hf))).trans (h2 i hi).2⟩⟩
theorem PV.of_own {B n c : Nat} {w : World} {a : Option Addr} {ps : List (Int × Int)} (h : w.ownsRow B 73 2 (.slice a n c) ps.length (pairCells ps)) : PV w a c ps := by
  rcases h.2 with ⟨e, h0⟩ | ⟨g, cap, cur, hv, _, _, h1, h2, _⟩
  · injection e with e1 e2 e3
    have h0' : ps = [] := List.eq_nil_of_length_eq_zero h0
    subst h0'
    exact ⟨.inl ⟨e1, rfl, e3⟩, by simp, by omega⟩
  · injection hv with e1 e2 e3
    subst e1 e2 e3
    have : maxLen = 9223372036854775807 := rfl
    refine ⟨.inr ⟨g, 0, rfl, fun i hi => ?_⟩, h1, by omega⟩
    have G := pairCells_get ps i hi
    have e0 := h.cellAt (i * 2) (by omega)
    have e1 := h.cellAt (i * 2 + 1) (by omega)
    rw [Nat.zero_add, Nat.zero_add]
    exact ⟨e0.trans G.1, e1.trans G.2⟩
theorem cell_only0 {w w' : World} (o : Only0 w w') {p : Addr} {v : Value} (h : w.cell? p = some v) : w'.cell? p = some v :=
  (World.cell?_of_block (o.block _ (block_lt_of_cell h) (fun hf => hf))).trans h
theorem cell_only {w w' : World} {S : Nat → Prop} (o : Only S w w') {p : Addr} {v : Value} (h : w.cell? p = some v) (hs : ¬ S p.block) : w'.cell? p = some v :=
  (World.cell?_of_block (o.block _ (block_lt_of_cell h) hs)).trans h
/-- The cells that an append takes out of pairs, from a place on. -/
theorem PV.news {w : World} {b off : Nat} {ps : List (Int × Int)} (h : ∀ i, i < ps.length → w.cell? ⟨b, off + i * 2, none⟩ = some (.int .i64 (ps.getD i (0, 0)).1) ∧ w.cell? ⟨b, off + (i * 2 + 1), none⟩ = some (.int .i64 (ps.getD i (0, 0)).2)) (k m : Nat) (hkm : k + m ≤ ps.length) (off' : Nat) (ho : off' = off + k * 2) :
    ∀ j u, (pairCells ((ps.drop k).take m))[j]? = some u → w.cell? ((⟨b, off', none⟩ : Addr).add j) = some u := by
  intro j u hu
  have hl : (pairCells ((ps.drop k).take m)).length = m * 2 := by rw [pairCells_len]; simp; omega
  have hj : j < m * 2 := by
    have := (List.getElem?_eq_some_iff.1 hu).1
    omega
  have hi : j / 2 < m := by omega
  have hq : ((ps.drop k).take m).getD (j / 2) (0, 0) = ps.getD (k + j / 2) (0, 0) := by
    rw [List.getD_eq_getElem?_getD, List.getD_eq_getElem?_getD, List.getElem?_take, if_pos hi, List.getElem?_drop]
  have G := pairCells_get ((ps.drop k).take m) (j / 2) (by simp; omega)
  rw [hq] at G
  have C := h (k + j / 2) (by omega)
  rw [Addr.add_lit, ho]
  rcases Nat.mod_two_eq_zero_or_one j with e | e
  · have ej : j = j / 2 * 2 := by omega
    have e1 : off + k * 2 + j = off + (k + j / 2) * 2 := by omega
    rw [e1, C.1]
    rw [ej, G.1] at hu
    exact hu
  · have ej : j = j / 2 * 2 + 1 := by omega
    have e1 : off + k * 2 + j = off + ((k + j / 2) * 2 + 1) := by omega
    rw [e1, C.2]
    rw [ej, G.2] at hu
    exact hu
theorem pairCells_one (l : List (Int × Int)) : ∀ u ∈ pairCells l, u.oneCell' = true := by
  induction l with
  | nil => intro u hu; cases hu
  | cons a l ih =>
    intro u hu
    simp only [pairCells, List.mem_cons] at hu
    rcases hu with rfl | rfl | hu
    · rfl
    · rfl
    · exact ih u hu
theorem pairCells_app (a b : List (Int × Int)) : pairCells (a ++ b) = pairCells a ++ pairCells b := by
  induction a with
  | nil => rfl
  | cons x a ih => simp only [List.cons_append, pairCells, ih]
/-- An append of whatever slice: the address is any term. -/
theorem wpList_append_all {P : Program} (w : World) {ops : Array Oper} {rest : List Oper} {o : Oper} {a : Act} {Q : Exit → Act → World → Prop} (hgd : o.guard = none) (s x : Operand) (t : TypeId)
    (ho : o.op = .call { callee := .builtin .append, args := #[s, x], argTypes := #[t, t] })
    (base : Nat) (e : TypeId) (i : TypeInfo) (z : Value) (size bytes : Nat) (ht : P.underlying t = some (.slice e)) (hi : P.info? e = some i) (hz : i.zero = some z)
    (hsize : i.size = size) (hby : i.bytes = bytes) (hzs : z.cells.size = size) (hsz : 0 < size)
    (v : Value) (n : Nat) (xs : List Value) (hs : a.eval s = v) (hown : w.ownsRow base e size v n xs)
    (ao : Option Addr) (m c : Nat) (news : List Value) (hx : a.eval x = .slice ao m c) (hl : news.length = m * size) (hnone : ao = none → m = 0 ∧ c = 0) (hnews : ∀ ad, ao = some ad → ∀ j u, news[j]? = some u → w.cell? (ad.add j) = some u) (h1 : ∀ u ∈ news, u.oneCell' = true)
    (h63 : n + m ≤ maxLen) (hbytes : (n + m) * bytes ≤ 140737488355328) (hbase : base ≤ w.heap.size) (N : Nat) (hN : n + m = N)
    (h : ∀ a' c' w', w'.ownsRow base e size (.slice a' N c') N (xs ++ news) → w.grownBy w' v.ownBlock → wpList P ops Q rest (a.put o.dst (.slice a' N c')) w') : wpList P ops Q (o :: rest) a w := by
  subst hN
  have form : ∀ (v' : Value) (w' : World) (k : Nat) (ys : List Value), w'.ownsRow base e size v' k ys → ∃ a' c', v' = .slice a' k c' := by
    intro v' w' k ys hk
    rcases hk.2 with ⟨rfl, rfl⟩ | ⟨g, cap, cur, rfl, _⟩
    · exact ⟨_, _, rfl⟩
    · exact ⟨_, _, rfl⟩
  cases ao with
  | some ad =>
    refine wpList_append_own w hgd s x t ho base e i z size bytes ht hi hz hsize hby hzs hsz v n xs hs hown ad m c news hx hl (hnews ad rfl) h1 h63 hbytes hbase ?_
    intro v' w' h2 h3 _
    obtain ⟨a', c', rfl⟩ := form _ _ _ _ h2
    exact h a' c' w' h2 h3
  | none =>
    obtain ⟨rfl, rfl⟩ := hnone rfl
    have hnews : news = [] := List.eq_nil_of_length_eq_zero (by simpa using hl)
    subst hnews
    refine wpList_append_own_none hgd s x t ho base e i size ht hi v n xs hs hown hx ?_
    obtain ⟨a', c', rfl⟩ := form _ _ _ _ hown
    exact h a' c' w (by simpa using hown) (World.grownBy.refl _ _)
/-- The nine cells of a call with its answer. -/
def clCells (c : Cl) (pa : Option Addr) (pc : Nat) : List Value := [.int .i64 c.op.kind, .int .i64 c.op.key, .int .i64 c.op.hi, .int .i64 c.op.value, .int .i64 c.res.e, .int .i64 c.res.value, .slice pa c.res.pairs.length pc, .int .i64 c.res.over, .int .i64 c.res.reason]
def CallIn (w : World) (g i : Nat) (c : Cl) : Prop := ∃ pa pc, PairsIn w pa c.res.pairs ∧ ∀ f v, (clCells c pa pc)[f]? = some v → w.cell? ⟨g, i * 9 + f, none⟩ = some v
def CallsIn (w : World) (a : Option Addr) (l : List Cl) : Prop := l = [] ∨ ∃ g, a = some ⟨g, 0, none⟩ ∧ ∀ i, i < l.length → CallIn w g i (l.getD i default)
/-- The six cells of a Deal. -/
def dlCells (d : Dl) (oa : Option Addr) (oc : Nat) : List Value := [.int .i64 d.id, .int .i64 d.level, .int .i64 d.state, .int .u64 d.beg, .int .u64 d.fin, .slice oa d.ops.length oc]
def DealIn (w : World) (g i : Nat) (d : Dl) : Prop := ∃ oa oc, CallsIn w oa d.ops ∧ d.ops.length ≤ oc ∧ ∀ f v, (dlCells d oa oc)[f]? = some v → w.cell? ⟨g, i * 6 + f, none⟩ = some v
def DealsIn (w : World) (a : Option Addr) (l : List Dl) : Prop := l = [] ∨ ∃ g, a = some ⟨g, 0, none⟩ ∧ ∀ i, i < l.length → DealIn w g i (dAt l i)
theorem CallIn.only0 {w w' : World} {g i : Nat} {c : Cl} (h : CallIn w g i c) (o : Only0 w w') : CallIn w' g i c := by
  obtain ⟨pa, pc, hp, hc⟩ := h
  exact ⟨pa, pc, hp.only (S := fun _ => False) o (fun _ _ hf => hf), fun f v hv => cell_only0 o (hc f v hv)⟩
theorem CallsIn.only0 {w w' : World} {a : Option Addr} {l : List Cl} (h : CallsIn w a l) (o : Only0 w w') : CallsIn w' a l := by
  rcases h with rfl | ⟨g, rfl, h⟩
  · exact .inl rfl
  · exact .inr ⟨g, rfl, fun i hi => (h i hi).only0 o⟩
theorem DealsIn.only0 {w w' : World} {a : Option Addr} {l : List Dl} (h : DealsIn w a l) (o : Only0 w w') : DealsIn w' a l := by
  rcases h with rfl | ⟨g, rfl, h⟩
  · exact .inl rfl
  · refine .inr ⟨g, rfl, fun i hi => ?_⟩
    obtain ⟨oa, oc, h1, h2, h3⟩ := h i hi
    exact ⟨oa, oc, h1.only0 o, h2, fun f v hv => cell_only0 o (h3 f v hv)⟩
/-- A Deal's cells, written out. -/
theorem DealsIn.at_ {w : World} {a : Option Addr} {l : List Dl} (h : DealsIn w a l) {i : Nat} (hi : i < l.length) : ∃ g oa oc, a = some ⟨g, 0, none⟩ ∧ CallsIn w oa (dAt l i).ops ∧ (dAt l i).ops.length ≤ oc ∧
    w.cell? ⟨g, i * 6, none⟩ = some (.int .i64 (dAt l i).id) ∧ w.cell? ⟨g, i * 6 + 1, none⟩ = some (.int .i64 (dAt l i).level) ∧ w.cell? ⟨g, i * 6 + 2, none⟩ = some (.int .i64 (dAt l i).state) ∧ w.cell? ⟨g, i * 6 + 3, none⟩ = some (.int .u64 (dAt l i).beg) ∧ w.cell? ⟨g, i * 6 + 4, none⟩ = some (.int .u64 (dAt l i).fin) ∧ w.cell? ⟨g, i * 6 + 5, none⟩ = some (.slice oa (dAt l i).ops.length oc) := by
  rcases h with rfl | ⟨g, rfl, h⟩
  · simp at hi
  · obtain ⟨oa, oc, h1, h2, h3⟩ := h i hi
    exact ⟨g, oa, oc, rfl, h1, h2, h3 0 _ rfl, h3 1 _ rfl, h3 2 _ rfl, h3 3 _ rfl, h3 4 _ rfl, h3 5 _ rfl⟩
theorem CallsIn.at_ {w : World} {a : Option Addr} {l : List Cl} (h : CallsIn w a l) {i : Nat} (hi : i < l.length) : ∃ g pa pc, a = some ⟨g, 0, none⟩ ∧ PairsIn w pa (l.getD i default).res.pairs ∧
    w.cell? ⟨g, i * 9, none⟩ = some (.int .i64 (l.getD i default).op.kind) ∧ w.cell? ⟨g, i * 9 + 1, none⟩ = some (.int .i64 (l.getD i default).op.key) ∧ w.cell? ⟨g, i * 9 + 2, none⟩ = some (.int .i64 (l.getD i default).op.hi) ∧ w.cell? ⟨g, i * 9 + 3, none⟩ = some (.int .i64 (l.getD i default).op.value) ∧
    w.cell? ⟨g, i * 9 + 4, none⟩ = some (.int .i64 (l.getD i default).res.e) ∧ w.cell? ⟨g, i * 9 + 5, none⟩ = some (.int .i64 (l.getD i default).res.value) ∧ w.cell? ⟨g, i * 9 + 6, none⟩ = some (.slice pa (l.getD i default).res.pairs.length pc) ∧ w.cell? ⟨g, i * 9 + 7, none⟩ = some (.int .i64 (l.getD i default).res.over) ∧ w.cell? ⟨g, i * 9 + 8, none⟩ = some (.int .i64 (l.getD i default).res.reason) := by
  rcases h with rfl | ⟨g, rfl, h⟩
  · simp at hi
  · obtain ⟨pa, pc, h1, h3⟩ := h i hi
    exact ⟨g, pa, pc, rfl, h1, h3 0 _ rfl, h3 1 _ rfl, h3 2 _ rfl, h3 3 _ rfl, h3 4 _ rfl, h3 5 _ rfl, h3 6 _ rfl, h3 7 _ rfl, h3 8 _ rfl⟩
/-- A call as a value. -/
def clVal (c : Cl) (pa : Option Addr) (pc : Nat) : Value := .agg #[.int .i64 c.op.kind, .int .i64 c.op.key, .int .i64 c.op.hi, .int .i64 c.op.value, .int .i64 c.res.e, .int .i64 c.res.value, .slice pa c.res.pairs.length pc, .int .i64 c.res.over, .int .i64 c.res.reason]
end Go.Proofs.Ytdjehgnkpbkdbaa
namespace Go.Proofs.Ytdjehgnkpbkdbaa
open Go.RowKit
set_option linter.unusedVariables false
set_option linter.unusedSimpArgs false
theorem findP_drop {l : List (Int × Int)} {k : Nat} (hk : k < l.length) (key : Int) : findP (l.drop k) key = if (l.getD k (0, 0)).1 = key then some (l.getD k (0, 0)).2 else findP (l.drop (k + 1)) key := by
  rw [List.drop_eq_getElem_cons hk]
  unfold findP
  have e : l.getD k (0, 0) = l[k] := by rw [List.getD_eq_getElem?_getD, List.getElem?_eq_getElem hk]; rfl
  rw [e, List.find?_cons]
  by_cases h : l[k].1 = key
  · rw [if_pos h]; simp [h]
  · rw [if_neg h]; simp [h]
set_option maxRecDepth 100000 in
set_option maxHeartbeats 4000000 in
theorem ref_find (a : Option Addr) (c : Nat) (l : List (Int × Int)) (w : World) (h : PV w a c l) (hl : l.length ≤ 1000000) (key : Int) :
    Calls Try.prog 42 #[.slice a l.length c, .int .i64 key] w fun e w' => w = w' ∧ e = .returned (.tuple #[.int .i64 ((findP l key).getD 0), .bool (findP l key).isSome]) := by
  have HP := Lib.hid h.at_
  clear h
  go_enter Try.func42, Try.ntmps42
  go_wp2_with fail
  go_loopw [6] (fun i wr => ∃ k : Nat, k ≤ l.length ∧ i = .int .i64 k ∧ wr = w ∧ Hid (findP l key = findP (l.drop k) key)) (fun i _ => l.length - (intOf i).toNat)
  case atStart => exact ⟨0, Nat.zero_le _, rfl, rfl, Lib.hid (by simp)⟩
  case round =>
    obtain ⟨k, hk, rfl, rfl, HU⟩ := hrel
    by_cases hlt : k < l.length
    · obtain ⟨b, off, rfl, hc⟩ := HP.out.at (by omega)
      obtain ⟨h1, h1'⟩ := hc k hlt
      have e := findP_drop hlt key
      have U1 := Lib.hid (show (l.getD k (0, 0)).1 = key → findP l key = some (l.getD k (0, 0)).2 from fun x => by rw [HU.out, e, if_pos x])
      have U2 := Lib.hid (show (l.getD k (0, 0)).1 ≠ key → findP l key = findP (l.drop (k + 1)) key from fun x => by rw [HU.out, e, if_neg x])
      generalize l.getD k (0, 0) = x at h1 h1' U1 U2
      obtain ⟨x1, x2⟩ := x
      dsimp only at h1 h1' U1 U2
      rw [← Nat.add_assoc] at h1'
      clear hc e HU
      by_cases ex : x1 = key
      · have eb : (x1 == key) = true := by simpa using ex
        have HR := Lib.hid (U1.out ex)
        clear U1 U2 ex
        go_wp2_with fail
        go_ret2
        exact ⟨rfl, by rw [HR.out]; rfl⟩
      · have eb : (x1 == key) = false := by simpa using ex
        have HR := Lib.hid (U2.out ex)
        clear U1 U2 ex
        go_wp2_with fail
        go_roundw
        case rel => exact ⟨k + 1, by omega, by go_num, by trivial, HR⟩
        case measure => simp [intOf]; omega
    · obtain rfl : k = l.length := by omega
      have HR : Hid (findP l key = none) := Lib.hid (by rw [HU.out]; simp [findP])
      clear HU
      go_wp2_with fail
      go_ret2
      exact ⟨rfl, by rw [HR.out]; rfl⟩
set_option maxRecDepth 100000 in
theorem ref_before (t : Int) (h0 : 0 ≤ t) (h1 : t ≤ 1099511627776) (w : World) : Calls Try.prog 41 #[.int .u64 t] w fun e w' => w = w' ∧ e = .returned (.int .u64 (before1 t)) := by
  by_cases ht : t = 0
  · subst ht
    go_enter Try.func41, Try.ntmps41
    go_wp2_with fail
    go_ret
    exact ⟨rfl, rfl⟩
  · have hb : Hid (before1 t = t - 1) := Lib.hid (by unfold before1; rw [if_neg ht])
    have eb : (t == 0) = false := by simpa using ht
    have hw : IntKind.u64.wrap (t - 1) = t - 1 := by rw [IntKind.wrap_u64]; omega
    have ht1 : 1 ≤ t := by omega
    clear ht
    go_enter Try.func41, Try.ntmps41
    go_wp2_with fail
    go_ret
    exact ⟨rfl, by rw [hb.out]; rfl⟩
set_option maxRecDepth 100000 in
set_option maxHeartbeats 4000000 in
/-- done, of a committed one whose id is its place. -/
theorem ref_done (a : Option Addr) (c : Nat) (l : List Dl) (w : World) (h : DealsIn w a l) (hl : l.length ≤ 1000) (hlc : l.length ≤ c) (hid : IdsOk l) {n : Nat} (hn : n < l.length) (h3 : (dAt l n).state = 3) :
    Calls Try.prog 39 #[.slice a l.length c, .int .i64 ((n : Int) + 1)] w fun e w' => w = w' ∧ e = .returned (.int .i64 n) := by
  have HP := Lib.hid h
  have HI := Lib.hid hid
  have H3 := Lib.hid h3
  clear h hid h3
  go_enter Try.func39, Try.ntmps39
  go_wp2_with fail
  go_loopw [5] (fun i wr => ∃ k : Nat, k ≤ n ∧ i = .int .i64 k ∧ wr = w) (fun i _ => l.length - (intOf i).toNat)
  case atStart => exact ⟨0, Nat.zero_le _, rfl, rfl⟩
  case round =>
    obtain ⟨k, hk, rfl, rfl⟩ := hrel
    have hlt : k < l.length := by omega
    obtain ⟨g, oa, oc, rfl, hC, hoc, d0, d1, d2, d3, d4, d5⟩ := HP.out.at_ hlt
    clear hC hoc d1 d3 d4 d5
    rw [show (dAt l k).id = (k : Int) + 1 from HI.out k hlt] at d0
    by_cases e : k = n
    · subst e
      rw [H3.out] at d2
      have eb : (((k : Int) + 1) == ((k : Int) + 1)) = true := by simp
      go_wp2_with fail
      go_ret
      exact ⟨rfl, rfl⟩
    · have eb : (((k : Int) + 1) == ((n : Int) + 1)) = false := by simp; omega
      clear d2
      go_wp2_with fail
      go_roundw
      case rel => exact ⟨k + 1, by omega, by go_num, by trivial⟩
      case measure => simp [intOf]; omega
set_option maxRecDepth 100000 in
set_option maxHeartbeats 4000000 in
theorem ref_writes (c : Cl) (pa : Option Addr) (pc : Nat) (w : World) :
    Calls Try.prog 24 #[clVal c pa pc] w fun e w' => Only0 w w' ∧ e = .returned (.bool (writesB c)) := by
  obtain ⟨⟨k, ky, hi, vl⟩, ⟨re, rv, ps, ro, rr⟩⟩ := c
  unfold clVal
  dsimp only
  have HO : Hid (∀ o : Obj, Only0 w (w.alloc o)) := Lib.hid fun o => (Only0.refl w).alloc o
  by_cases e0 : re = 0
  · subst e0
    by_cases k2 : k = 2
    · subst k2
      go_enter Try.func24, Try.ntmps24
      go_wp2_with fail
      go_ret
      exact ⟨HO.out _, rfl⟩
    · have b2 : (k == 2) = false := by simpa using k2
      by_cases k3 : k = 3
      · subst k3
        go_enter Try.func24, Try.ntmps24
        go_wp2_with fail
        go_ret
        exact ⟨HO.out _, rfl⟩
      · have b3 : (k == 3) = false := by simpa using k3
        by_cases k4 : k = 4
        · subst k4
          go_enter Try.func24, Try.ntmps24
          go_wp2_with fail
          go_ret
          exact ⟨HO.out _, rfl⟩
        · have b4 : (k == 4) = false := by simpa using k4
          have HE : Hid (writesB ⟨⟨k, ky, hi, vl⟩, ⟨0, rv, ps, ro, rr⟩⟩ = false) := Lib.hid (by simp [writesB, k2, k3, k4])
          clear k2 k3 k4
          go_enter Try.func24, Try.ntmps24
          go_wp2_with fail
          go_ret
          exact ⟨HO.out _, ret_bool (by rw [HE.out])⟩
  · have b0 : (re == 0) = false := by simpa using e0
    have HE : Hid (writesB ⟨⟨k, ky, hi, vl⟩, ⟨re, rv, ps, ro, rr⟩⟩ = false) := Lib.hid (by simp [writesB, e0])
    clear e0
    go_enter Try.func24, Try.ntmps24
    go_wp2_with fail
    go_ret
    exact ⟨HO.out _, ret_bool (by rw [HE.out])⟩
end Go.Proofs.Ytdjehgnkpbkdbaa
namespace Go.Proofs.Ytdjehgnkpbkdbaa
open Go.RowKit
set_option linter.unusedVariables false
set_option linter.unusedSimpArgs false
theorem cutPos_le (l : List (Int × Int)) (key : Int) : cutPos l key ≤ l.length := by
  unfold cutPos
  exact List.Sublist.length_le (List.takeWhile_sublist _)
theorem cutPos_step {l : List (Int × Int)} {k : Nat} {key : Int} (hk : k < l.length) (hu : k ≤ cutPos l key) : ((l.getD k (0, 0)).1 < key → k + 1 ≤ cutPos l key) ∧ (¬ (l.getD k (0, 0)).1 < key → cutPos l key = k) := by
  have key1 : ∀ (l : List (Int × Int)) (k : Nat), k < l.length → k ≤ cutPos l key → ((l.getD k (0, 0)).1 < key → k + 1 ≤ cutPos l key) ∧ (¬ (l.getD k (0, 0)).1 < key → cutPos l key = k) := by
    intro l
    induction l with
    | nil => intro k hk; simp at hk
    | cons p l ih =>
      intro k hk hu
      have hc : cutPos (p :: l) key = if p.1 < key then cutPos l key + 1 else 0 := by
        unfold cutPos
        rw [List.takeWhile_cons]
        by_cases h : p.1 < key
        · simp [h]
        · simp [h]
      rw [hc] at hu ⊢
      cases k with
      | zero =>
        rw [List.getD_cons_zero]
        exact ⟨fun h => by rw [if_pos h]; omega, fun h => by rw [if_neg h]⟩
      | succ k =>
        rw [List.getD_cons_succ]
        by_cases h : p.1 < key
        · rw [if_pos h] at hu ⊢
          have := ih k (by simpa using hk) (by omega)
          exact ⟨fun x => by have := this.1 x; omega, fun x => by have := this.2 x; omega⟩
        · rw [if_neg h] at hu; omega
  exact key1 l k hk hu
theorem isAtB_eq {l : List (Int × Int)} {key : Int} : isAtB l key = (decide (cutPos l key < l.length) && decide ((l.getD (cutPos l key) (0, 0)).1 = key)) := by
  unfold isAtB
  by_cases h : cutPos l key < l.length
  · rw [List.getElem?_eq_getElem h, List.getD_eq_getElem?_getD, List.getElem?_eq_getElem h]; simp [h]
  · rw [List.getElem?_eq_none (by omega)]; simp [h]
/-- What set leaves. -/
def SetRes (w : World) (ps : List (Int × Int)) (e : Ending) (w' : World) : Prop := ∃ a c, e = .returned (.slice a ps.length c) ∧ PV w' a c ps ∧ Only0 w w'
set_option maxRecDepth 100000 in
set_option maxHeartbeats 64000000 in
theorem ref_set (a : Option Addr) (c : Nat) (l : List (Int × Int)) (w : World) (h : PV w a c l) (hl : l.length ≤ 1000000) (key value : Int) (gone : Bool) :
    Calls Try.prog 50 #[.slice a l.length c, .int .i64 key, .int .i64 value, .bool gone] w (SetRes w (setP l key value gone)) := by
  have HP := Lib.hid h
  have hcc := h.cap
  have hlc := h.len
  obtain ⟨p, hp⟩ : ∃ p, p = cutPos l key := ⟨_, rfl⟩
  obtain ⟨is, his⟩ : ∃ b, b = isAtB l key := ⟨_, rfl⟩
  have hpl : p ≤ l.length := by rw [hp]; exact cutPos_le _ _
  have HR : Hid (setP l key value gone = l.take p ++ (if gone then [] else [(key, value)]) ++ l.drop (if is then p + 1 else p)) := Lib.hid (by rw [hp, his]; rfl)
  have HIS : Hid (is = (decide (p < l.length) && decide ((l.getD p (0, 0)).1 = key))) := Lib.hid (by rw [his, hp]; exact isAtB_eq)
  have HC : Hid (p = cutPos l key) := Lib.hid hp
  clear hp his h
  obtain ⟨i0, hi0, hz0, hz1, hz2⟩ := info_parts info_pair
  go_enter Try.func50, Try.ntmps50
  go_wp2_with fail
  go_loopw [9] (fun i wr => ∃ k : Nat, k ≤ p ∧ i = .int .i64 k ∧ wr = w) (fun i _ => l.length - (intOf i).toNat)
  case atStart => exact ⟨0, Nat.zero_le _, rfl, rfl⟩
  case round =>
    obtain ⟨k, hk, rfl, hw⟩ := hrel
    obtain rfl : w = wr := hw.symm
    have hkl : k ≤ l.length := by omega
    by_cases hlt : k < p
    · have hkl' : k < l.length := by omega
      obtain ⟨b, off, rfl, hc⟩ := HP.out.at_.at (by omega)
      obtain ⟨h1, h1'⟩ := hc k hkl'
      have eb : decide ((l.getD k (0, 0)).1 < key) = true := by
        have := cutPos_step hkl' (by rw [← HC.out]; exact hk)
        have hx : (l.getD k (0, 0)).1 < key := Classical.byContradiction (fun x => by have := this.2 x; rw [← HC.out] at this; omega)
        simpa using hx
      generalize (l.getD k (0, 0)).1 = x at h1 eb
      clear hc h1'
      go_wp2_with fail
      go_roundw
      case rel => exact ⟨k + 1, by omega, by go_num, by trivial⟩
      case measure => simp [intOf]; omega
    · obtain rfl : p = k := by omega
      clear hkl hk hlt
      have hpc : p ≤ c := by omega
      have hppc : p < l.length → p + 1 ≤ c := by omega
      by_cases hpe : p = l.length
      · have HT : Hid (is = false) := Lib.hid (by rw [HIS.out, decide_eq_false (by omega), Bool.false_and])
        have HPE := Lib.hid hpe
        clear HIS
        rcases HP.out.form with ⟨rfl, hl0, rfl⟩ | ⟨b, off, rfl, hc⟩
        · have hl0' : l.length = 0 := by rw [hl0]; rfl
          have HL0 := Lib.hid hl0
          clear hl0
          obtain rfl : p = 0 := by omega
          clear hpe
          rw [hl0']
          cases gone with
          | true =>
            have HR2 : Hid (setP l key value true = ([] : List (Int × Int)) ++ l) := Lib.hid (by rw [HR.out, HT.out]; simp)
            clear HR HT
            have c1_ : Hid ((pairCells ([] : List (Int × Int))).length = 0 * 2) := Lib.hid (by rw [pairCells_len]; simp <;> omega)
            have c3_ : Hid (∀ ad, (none : Option Addr) = some ad → ∀ j u, (pairCells ([] : List (Int × Int)))[j]? = some u → (w.alloc (.cells #[] 73)).cell? (ad.add j) = some u) := Lib.hid (by intro ad had; first | (cases had; done) | (injection had with had; subst had; exact NW.out _ ((Only0.refl w).alloc _)))
            go_wp2_with (at_builtin; refine wpList_append_all _ rfl _ _ 44 rfl w.heap.size 73 i0 _ 2 16 Try.underlying44 hi0 hz0 hz1 hz2 rfl (by decide) (.slice (some ⟨w.heap.size, 0, none⟩) 0 0) 0 [] rfl (World.ownsRow_made w #[] 0 (Nat.le_refl _) (Nat.zero_le _) rfl) (none : Option Addr) 0 0 (pairCells ([] : List (Int × Int))) rfl c1_.out (fun hn => by first | (cases hn; done) | exact ⟨by omega, by omega⟩) c3_.out (pairCells_one _) (by unfold maxLen; omega) (by omega) (by simp) 0 (by omega) ?_)
            intro a1 c1 w1 hown1 hgrow1
            have o1 : Only0 w w1 := ((Only0.refl w).alloc _).grown hgrow1 (fun k hk => by simp [Value.ownBlock] at hk; omega)
            clear hgrow1 c1_ c3_
            have c1_ : Hid ((pairCells l).length = 0 * 2) := Lib.hid (by rw [pairCells_len]; simp <;> omega)
            have c3_ : Hid (∀ ad, ((none : Option Addr) : Option Addr) = some ad → ∀ j u, (pairCells l)[j]? = some u → w1.cell? (ad.add j) = some u) := Lib.hid (by intro ad had; first | (cases had; done) | (injection had with had; subst had; cases had))
            have c7_ := o1.size
            obtain ⟨nn, hnn⟩ : ∃ nn, nn = 0 + 0 := ⟨_, rfl⟩
            have HNN := Lib.hid hnn
            clear hnn
            go_wp2_with (at_builtin; refine wpList_append_all _ rfl _ _ 44 rfl w.heap.size 73 i0 _ 2 16 Try.underlying44 hi0 hz0 hz1 hz2 rfl (by decide) (.slice a1 0 c1) 0 (pairCells ([] : List (Int × Int))) rfl hown1 (none : Option Addr) 0 0 (pairCells l) rfl c1_.out (fun hn => by first | (cases hn; done) | exact ⟨by omega, by omega⟩) c3_.out (pairCells_one _) (by unfold maxLen; omega) (by omega) c7_ nn HNN.out.symm ?_)
            intro a3 c3 w3 hown3 hgrow3
            have o3 : Only0 w w3 := o1.grown hgrow3 (fun k hk => (hown1.lt k hk).1)
            rw [← pairCells_app] at hown3
            have HL : Hid (nn = (setP l key value true).length) := Lib.hid (by rw [HNN.out, HR2.out, HL0.out]; rfl)
            have HV : Hid (PV w3 a3 c3 (setP l key value true)) := Lib.hid (by
              rw [HL.out] at hown3
              rw [← HR2.out] at hown3
              exact PV.of_own hown3)
            clear hown3 hgrow3 hown1 o1 c1_ c3_ c7_
            go_wp2_with fail
            go_ret
            exact ⟨a3, c3, by rw [← HL.out]; rfl, HV.out, o3⟩
          | false =>
            have HR2 : Hid (setP l key value false = [(key, value)] ++ l) := Lib.hid (by rw [HR.out, HT.out]; simp)
            clear HR HT
            have c1_ : Hid ((pairCells ([] : List (Int × Int))).length = 0 * 2) := Lib.hid (by rw [pairCells_len]; simp <;> omega)
            have c3_ : Hid (∀ ad, (none : Option Addr) = some ad → ∀ j u, (pairCells ([] : List (Int × Int)))[j]? = some u → (w.alloc (.cells #[] 73)).cell? (ad.add j) = some u) := Lib.hid (by intro ad had; first | (cases had; done) | (injection had with had; subst had; exact NW.out _ ((Only0.refl w).alloc _)))
            go_wp2_with (at_builtin; refine wpList_append_all _ rfl _ _ 44 rfl w.heap.size 73 i0 _ 2 16 Try.underlying44 hi0 hz0 hz1 hz2 rfl (by decide) (.slice (some ⟨w.heap.size, 0, none⟩) 0 0) 0 [] rfl (World.ownsRow_made w #[] 0 (Nat.le_refl _) (Nat.zero_le _) rfl) (none : Option Addr) 0 0 (pairCells ([] : List (Int × Int))) rfl c1_.out (fun hn => by first | (cases hn; done) | exact ⟨by omega, by omega⟩) c3_.out (pairCells_one _) (by unfold maxLen; omega) (by omega) (by simp) 0 (by omega) ?_)
            intro a1 c1 w1 hown1 hgrow1
            have o1 : Only0 w w1 := ((Only0.refl w).alloc _).grown hgrow1 (fun k hk => by simp [Value.ownBlock] at hk; omega)
            clear hgrow1 c1_ c3_
            have c3_ : Hid (∀ ad, (some ⟨w1.heap.size, 0, none⟩ : Option Addr) = some ad → ∀ j u, ([.int .i64 key, .int .i64 value] : List Value)[j]? = some u → (w1.alloc (.cells #[.int .i64 key, .int .i64 value] 73)).cell? (ad.add j) = some u) := Lib.hid (by intro ad had; injection had with had; subst had; exact World.news_of_block (cs := #[.int .i64 key, .int .i64 value]) (t := 73) (fr := (0, 0)) (heap_alloc_new w1 _))
            have c7_ : w.heap.size ≤ (w1.alloc (.cells #[.int .i64 key, .int .i64 value] 73)).heap.size := by have := o1.size; simp; omega
            go_wp2_with (at_builtin; refine wpList_append_all _ rfl _ _ 44 rfl w.heap.size 73 i0 _ 2 16 Try.underlying44 hi0 hz0 hz1 hz2 rfl (by decide) (.slice a1 0 c1) 0 (pairCells ([] : List (Int × Int))) rfl (hown1.alloc _) (some ⟨w1.heap.size, 0, none⟩) 1 1 [.int .i64 key, .int .i64 value] rfl rfl (fun hn => by cases hn) c3_.out (by intro u hu; simp at hu; rcases hu with rfl | rfl <;> rfl) (by unfold maxLen; omega) (by omega) c7_ 1 (by omega) ?_)
            intro a2 c2 w2 hown2 hgrow2
            have o2 : Only0 w w2 := (o1.alloc _).grown hgrow2 (fun k hk => (hown1.lt k hk).1)
            have e2 : pairCells ([] : List (Int × Int)) ++ [.int .i64 key, .int .i64 value] = pairCells ([(key, value)]) := by rfl
            rw [e2] at hown2
            clear hgrow2 e2 hown1 o1 c3_ c7_
            have c1_ : Hid ((pairCells l).length = 0 * 2) := Lib.hid (by rw [pairCells_len]; simp <;> omega)
            have c3_ : Hid (∀ ad, ((none : Option Addr) : Option Addr) = some ad → ∀ j u, (pairCells l)[j]? = some u → w2.cell? (ad.add j) = some u) := Lib.hid (by intro ad had; first | (cases had; done) | (injection had with had; subst had; cases had))
            have c7_ := o2.size
            obtain ⟨nn, hnn⟩ : ∃ nn, nn = 1 + 0 := ⟨_, rfl⟩
            have HNN := Lib.hid hnn
            clear hnn
            go_wp2_with (at_builtin; refine wpList_append_all _ rfl _ _ 44 rfl w.heap.size 73 i0 _ 2 16 Try.underlying44 hi0 hz0 hz1 hz2 rfl (by decide) (.slice a2 1 c2) 1 (pairCells ([(key, value)])) rfl hown2 (none : Option Addr) 0 0 (pairCells l) rfl c1_.out (fun hn => by first | (cases hn; done) | exact ⟨by omega, by omega⟩) c3_.out (pairCells_one _) (by unfold maxLen; omega) (by omega) c7_ nn HNN.out.symm ?_)
            intro a3 c3 w3 hown3 hgrow3
            have o3 : Only0 w w3 := o2.grown hgrow3 (fun k hk => (hown2.lt k hk).1)
            rw [← pairCells_app] at hown3
            have HL : Hid (nn = (setP l key value false).length) := Lib.hid (by rw [HNN.out, HR2.out, HL0.out]; rfl)
            have HV : Hid (PV w3 a3 c3 (setP l key value false)) := Lib.hid (by
              rw [HL.out] at hown3
              rw [← HR2.out] at hown3
              exact PV.of_own hown3)
            clear hown3 hgrow3 hown2 o2 c1_ c3_ c7_
            go_wp2_with fail
            go_ret
            exact ⟨a3, c3, by rw [← HL.out]; rfl, HV.out, o3⟩
        · have NW : Hid (∀ w', Only0 w w' → ∀ j u, (pairCells (l.take p))[j]? = some u → w'.cell? ((⟨b, off, none⟩ : Addr).add j) = some u) := Lib.hid (fun w' o j u hu => cell_only0 o (PV.news hc 0 p (by omega) off (by omega) j u (by simpa using hu)))
          have ND : Hid (∀ w', Only0 w w' → ∀ j u, (pairCells (l.drop p))[j]? = some u → w'.cell? ((⟨b, off + p * 2, none⟩ : Addr).add j) = some u) := Lib.hid (fun w' o j u hu => by rw [List.drop_eq_nil_of_le (by omega)] at hu; cases hu)
          have en : decide (p < l.length) = false := by simp; omega
          have en2 : l.length ≤ p := by omega
          clear hc hpe
          by_cases hcap : c = p
          · obtain rfl : p = c := hcap.symm
            cases gone with
            | true =>
              have HR2 : Hid (setP l key value true = (l.take p) ++ (l.drop (p))) := Lib.hid (by rw [HR.out, HT.out]; simp)
              clear HR HT
              have c1_ : Hid ((pairCells (l.take p)).length = p * 2) := Lib.hid (by rw [pairCells_len]; simp <;> omega)
              have c3_ : Hid (∀ ad, (some ⟨b, off, none⟩ : Option Addr) = some ad → ∀ j u, (pairCells (l.take p))[j]? = some u → (w.alloc (.cells #[] 73)).cell? (ad.add j) = some u) := Lib.hid (by intro ad had; first | (cases had; done) | (injection had with had; subst had; exact NW.out _ ((Only0.refl w).alloc _)))
              go_wp2_with (at_builtin; refine wpList_append_all _ rfl _ _ 44 rfl w.heap.size 73 i0 _ 2 16 Try.underlying44 hi0 hz0 hz1 hz2 rfl (by decide) (.slice (some ⟨w.heap.size, 0, none⟩) 0 0) 0 [] rfl (World.ownsRow_made w #[] 0 (Nat.le_refl _) (Nat.zero_le _) rfl) (some ⟨b, off, none⟩ : Option Addr) p (p) (pairCells (l.take p)) rfl c1_.out (fun hn => by first | (cases hn; done) | exact ⟨by omega, by omega⟩) c3_.out (pairCells_one _) (by unfold maxLen; omega) (by omega) (by simp) p (by omega) ?_)
              intro a1 c1 w1 hown1 hgrow1
              have o1 : Only0 w w1 := ((Only0.refl w).alloc _).grown hgrow1 (fun k hk => by simp [Value.ownBlock] at hk; omega)
              clear hgrow1 c1_ c3_
              have c1_ : Hid ((pairCells (l.drop (p))).length = 0 * 2) := Lib.hid (by rw [pairCells_len]; simp <;> omega)
              have c3_ : Hid (∀ ad, ((some ⟨b, off, none⟩ : Option Addr) : Option Addr) = some ad → ∀ j u, (pairCells (l.drop (p)))[j]? = some u → w1.cell? (ad.add j) = some u) := Lib.hid (by intro ad had; first | (cases had; done) | (injection had with had; subst had; (intro j u hu; rw [List.drop_eq_nil_of_le (by omega)] at hu; cases hu)))
              have c7_ := o1.size
              obtain ⟨nn, hnn⟩ : ∃ nn, nn = p + 0 := ⟨_, rfl⟩
              have HNN := Lib.hid hnn
              clear hnn
              go_wp2_with (at_builtin; refine wpList_append_all _ rfl _ _ 44 rfl w.heap.size 73 i0 _ 2 16 Try.underlying44 hi0 hz0 hz1 hz2 rfl (by decide) (.slice a1 p c1) p (pairCells (l.take p)) rfl hown1 (some ⟨b, off, none⟩ : Option Addr) 0 _ (pairCells (l.drop (p))) rfl c1_.out (fun hn => by first | (cases hn; done) | exact ⟨by omega, by omega⟩) c3_.out (pairCells_one _) (by unfold maxLen; omega) (by omega) c7_ nn HNN.out.symm ?_)
              intro a3 c3 w3 hown3 hgrow3
              have o3 : Only0 w w3 := o1.grown hgrow3 (fun k hk => (hown1.lt k hk).1)
              rw [← pairCells_app] at hown3
              have HL : Hid (nn = (setP l key value true).length) := Lib.hid (by rw [HNN.out, HR2.out]; simp <;> omega)
              have HV : Hid (PV w3 a3 c3 (setP l key value true)) := Lib.hid (by
                rw [HL.out] at hown3
                rw [← HR2.out] at hown3
                exact PV.of_own hown3)
              clear hown3 hgrow3 hown1 o1 c1_ c3_ c7_
              go_wp2_with fail
              go_ret
              exact ⟨a3, c3, by rw [← HL.out]; rfl, HV.out, o3⟩
            | false =>
              have HR2 : Hid (setP l key value false = (l.take p) ++ [(key, value)] ++ (l.drop (p))) := Lib.hid (by rw [HR.out, HT.out]; simp)
              clear HR HT
              have c1_ : Hid ((pairCells (l.take p)).length = p * 2) := Lib.hid (by rw [pairCells_len]; simp <;> omega)
              have c3_ : Hid (∀ ad, (some ⟨b, off, none⟩ : Option Addr) = some ad → ∀ j u, (pairCells (l.take p))[j]? = some u → (w.alloc (.cells #[] 73)).cell? (ad.add j) = some u) := Lib.hid (by intro ad had; first | (cases had; done) | (injection had with had; subst had; exact NW.out _ ((Only0.refl w).alloc _)))
              go_wp2_with (at_builtin; refine wpList_append_all _ rfl _ _ 44 rfl w.heap.size 73 i0 _ 2 16 Try.underlying44 hi0 hz0 hz1 hz2 rfl (by decide) (.slice (some ⟨w.heap.size, 0, none⟩) 0 0) 0 [] rfl (World.ownsRow_made w #[] 0 (Nat.le_refl _) (Nat.zero_le _) rfl) (some ⟨b, off, none⟩ : Option Addr) p (p) (pairCells (l.take p)) rfl c1_.out (fun hn => by first | (cases hn; done) | exact ⟨by omega, by omega⟩) c3_.out (pairCells_one _) (by unfold maxLen; omega) (by omega) (by simp) p (by omega) ?_)
              intro a1 c1 w1 hown1 hgrow1
              have o1 : Only0 w w1 := ((Only0.refl w).alloc _).grown hgrow1 (fun k hk => by simp [Value.ownBlock] at hk; omega)
              clear hgrow1 c1_ c3_
              have c3_ : Hid (∀ ad, (some ⟨w1.heap.size, 0, none⟩ : Option Addr) = some ad → ∀ j u, ([.int .i64 key, .int .i64 value] : List Value)[j]? = some u → (w1.alloc (.cells #[.int .i64 key, .int .i64 value] 73)).cell? (ad.add j) = some u) := Lib.hid (by intro ad had; injection had with had; subst had; exact World.news_of_block (cs := #[.int .i64 key, .int .i64 value]) (t := 73) (fr := (0, 0)) (heap_alloc_new w1 _))
              have c7_ : w.heap.size ≤ (w1.alloc (.cells #[.int .i64 key, .int .i64 value] 73)).heap.size := by have := o1.size; simp; omega
              go_wp2_with (at_builtin; refine wpList_append_all _ rfl _ _ 44 rfl w.heap.size 73 i0 _ 2 16 Try.underlying44 hi0 hz0 hz1 hz2 rfl (by decide) (.slice a1 p c1) p (pairCells (l.take p)) rfl (hown1.alloc _) (some ⟨w1.heap.size, 0, none⟩) 1 1 [.int .i64 key, .int .i64 value] rfl rfl (fun hn => by cases hn) c3_.out (by intro u hu; simp at hu; rcases hu with rfl | rfl <;> rfl) (by unfold maxLen; omega) (by omega) c7_ (p + 1) (by omega) ?_)
              intro a2 c2 w2 hown2 hgrow2
              have o2 : Only0 w w2 := (o1.alloc _).grown hgrow2 (fun k hk => (hown1.lt k hk).1)
              have e2 : pairCells (l.take p) ++ [.int .i64 key, .int .i64 value] = pairCells ((l.take p) ++ [(key, value)]) := by rw [pairCells_app]; rfl
              rw [e2] at hown2
              clear hgrow2 e2 hown1 o1 c3_ c7_
              have c1_ : Hid ((pairCells (l.drop (p))).length = 0 * 2) := Lib.hid (by rw [pairCells_len]; simp <;> omega)
              have c3_ : Hid (∀ ad, ((some ⟨b, off, none⟩ : Option Addr) : Option Addr) = some ad → ∀ j u, (pairCells (l.drop (p)))[j]? = some u → w2.cell? (ad.add j) = some u) := Lib.hid (by intro ad had; first | (cases had; done) | (injection had with had; subst had; (intro j u hu; rw [List.drop_eq_nil_of_le (by omega)] at hu; cases hu)))
              have c7_ := o2.size
              obtain ⟨nn, hnn⟩ : ∃ nn, nn = (p + 1) + 0 := ⟨_, rfl⟩
              have HNN := Lib.hid hnn
              clear hnn
              go_wp2_with (at_builtin; refine wpList_append_all _ rfl _ _ 44 rfl w.heap.size 73 i0 _ 2 16 Try.underlying44 hi0 hz0 hz1 hz2 rfl (by decide) (.slice a2 (p + 1) c2) (p + 1) (pairCells ((l.take p) ++ [(key, value)])) rfl hown2 (some ⟨b, off, none⟩ : Option Addr) 0 _ (pairCells (l.drop (p))) rfl c1_.out (fun hn => by first | (cases hn; done) | exact ⟨by omega, by omega⟩) c3_.out (pairCells_one _) (by unfold maxLen; omega) (by omega) c7_ nn HNN.out.symm ?_)
              intro a3 c3 w3 hown3 hgrow3
              have o3 : Only0 w w3 := o2.grown hgrow3 (fun k hk => (hown2.lt k hk).1)
              rw [← pairCells_app] at hown3
              have HL : Hid (nn = (setP l key value false).length) := Lib.hid (by rw [HNN.out, HR2.out]; simp <;> omega)
              have HV : Hid (PV w3 a3 c3 (setP l key value false)) := Lib.hid (by
                rw [HL.out] at hown3
                rw [← HR2.out] at hown3
                exact PV.of_own hown3)
              clear hown3 hgrow3 hown2 o2 c1_ c3_ c7_
              go_wp2_with fail
              go_ret
              exact ⟨a3, c3, by rw [← HL.out]; rfl, HV.out, o3⟩
          · cases gone with
            | true =>
              have HR2 : Hid (setP l key value true = (l.take p) ++ (l.drop (p))) := Lib.hid (by rw [HR.out, HT.out]; simp)
              clear HR HT
              have c1_ : Hid ((pairCells (l.take p)).length = p * 2) := Lib.hid (by rw [pairCells_len]; simp <;> omega)
              have c3_ : Hid (∀ ad, (some ⟨b, off, none⟩ : Option Addr) = some ad → ∀ j u, (pairCells (l.take p))[j]? = some u → (w.alloc (.cells #[] 73)).cell? (ad.add j) = some u) := Lib.hid (by intro ad had; first | (cases had; done) | (injection had with had; subst had; exact NW.out _ ((Only0.refl w).alloc _)))
              go_wp2_with (at_builtin; refine wpList_append_all _ rfl _ _ 44 rfl w.heap.size 73 i0 _ 2 16 Try.underlying44 hi0 hz0 hz1 hz2 rfl (by decide) (.slice (some ⟨w.heap.size, 0, none⟩) 0 0) 0 [] rfl (World.ownsRow_made w #[] 0 (Nat.le_refl _) (Nat.zero_le _) rfl) (some ⟨b, off, none⟩ : Option Addr) p c (pairCells (l.take p)) rfl c1_.out (fun hn => by first | (cases hn; done) | exact ⟨by omega, by omega⟩) c3_.out (pairCells_one _) (by unfold maxLen; omega) (by omega) (by simp) p (by omega) ?_)
              intro a1 c1 w1 hown1 hgrow1
              have o1 : Only0 w w1 := ((Only0.refl w).alloc _).grown hgrow1 (fun k hk => by simp [Value.ownBlock] at hk; omega)
              clear hgrow1 c1_ c3_
              have c1_ : Hid ((pairCells (l.drop (p))).length = 0 * 2) := Lib.hid (by rw [pairCells_len]; simp <;> omega)
              have c3_ : Hid (∀ ad, ((some ⟨b, off + (p) * 2, none⟩ : Option Addr) : Option Addr) = some ad → ∀ j u, (pairCells (l.drop (p)))[j]? = some u → w1.cell? (ad.add j) = some u) := Lib.hid (by intro ad had; first | (cases had; done) | (injection had with had; subst had; exact ND.out _ o1))
              have c7_ := o1.size
              obtain ⟨nn, hnn⟩ : ∃ nn, nn = p + 0 := ⟨_, rfl⟩
              have HNN := Lib.hid hnn
              clear hnn
              go_wp2_with (at_builtin; refine wpList_append_all _ rfl _ _ 44 rfl w.heap.size 73 i0 _ 2 16 Try.underlying44 hi0 hz0 hz1 hz2 rfl (by decide) (.slice a1 p c1) p (pairCells (l.take p)) rfl hown1 (some ⟨b, off + (p) * 2, none⟩ : Option Addr) 0 _ (pairCells (l.drop (p))) rfl c1_.out (fun hn => by first | (cases hn; done) | exact ⟨by omega, by omega⟩) c3_.out (pairCells_one _) (by unfold maxLen; omega) (by omega) c7_ nn HNN.out.symm ?_)
              intro a3 c3 w3 hown3 hgrow3
              have o3 : Only0 w w3 := o1.grown hgrow3 (fun k hk => (hown1.lt k hk).1)
              rw [← pairCells_app] at hown3
              have HL : Hid (nn = (setP l key value true).length) := Lib.hid (by rw [HNN.out, HR2.out]; simp <;> omega)
              have HV : Hid (PV w3 a3 c3 (setP l key value true)) := Lib.hid (by
                rw [HL.out] at hown3
                rw [← HR2.out] at hown3
                exact PV.of_own hown3)
              clear hown3 hgrow3 hown1 o1 c1_ c3_ c7_
              go_wp2_with fail
              go_ret
              exact ⟨a3, c3, by rw [← HL.out]; rfl, HV.out, o3⟩
            | false =>
              have HR2 : Hid (setP l key value false = (l.take p) ++ [(key, value)] ++ (l.drop (p))) := Lib.hid (by rw [HR.out, HT.out]; simp)
              clear HR HT
              have c1_ : Hid ((pairCells (l.take p)).length = p * 2) := Lib.hid (by rw [pairCells_len]; simp <;> omega)
              have c3_ : Hid (∀ ad, (some ⟨b, off, none⟩ : Option Addr) = some ad → ∀ j u, (pairCells (l.take p))[j]? = some u → (w.alloc (.cells #[] 73)).cell? (ad.add j) = some u) := Lib.hid (by intro ad had; first | (cases had; done) | (injection had with had; subst had; exact NW.out _ ((Only0.refl w).alloc _)))
              go_wp2_with (at_builtin; refine wpList_append_all _ rfl _ _ 44 rfl w.heap.size 73 i0 _ 2 16 Try.underlying44 hi0 hz0 hz1 hz2 rfl (by decide) (.slice (some ⟨w.heap.size, 0, none⟩) 0 0) 0 [] rfl (World.ownsRow_made w #[] 0 (Nat.le_refl _) (Nat.zero_le _) rfl) (some ⟨b, off, none⟩ : Option Addr) p c (pairCells (l.take p)) rfl c1_.out (fun hn => by first | (cases hn; done) | exact ⟨by omega, by omega⟩) c3_.out (pairCells_one _) (by unfold maxLen; omega) (by omega) (by simp) p (by omega) ?_)
              intro a1 c1 w1 hown1 hgrow1
              have o1 : Only0 w w1 := ((Only0.refl w).alloc _).grown hgrow1 (fun k hk => by simp [Value.ownBlock] at hk; omega)
              clear hgrow1 c1_ c3_
              have c3_ : Hid (∀ ad, (some ⟨w1.heap.size, 0, none⟩ : Option Addr) = some ad → ∀ j u, ([.int .i64 key, .int .i64 value] : List Value)[j]? = some u → (w1.alloc (.cells #[.int .i64 key, .int .i64 value] 73)).cell? (ad.add j) = some u) := Lib.hid (by intro ad had; injection had with had; subst had; exact World.news_of_block (cs := #[.int .i64 key, .int .i64 value]) (t := 73) (fr := (0, 0)) (heap_alloc_new w1 _))
              have c7_ : w.heap.size ≤ (w1.alloc (.cells #[.int .i64 key, .int .i64 value] 73)).heap.size := by have := o1.size; simp; omega
              go_wp2_with (at_builtin; refine wpList_append_all _ rfl _ _ 44 rfl w.heap.size 73 i0 _ 2 16 Try.underlying44 hi0 hz0 hz1 hz2 rfl (by decide) (.slice a1 p c1) p (pairCells (l.take p)) rfl (hown1.alloc _) (some ⟨w1.heap.size, 0, none⟩) 1 1 [.int .i64 key, .int .i64 value] rfl rfl (fun hn => by cases hn) c3_.out (by intro u hu; simp at hu; rcases hu with rfl | rfl <;> rfl) (by unfold maxLen; omega) (by omega) c7_ (p + 1) (by omega) ?_)
              intro a2 c2 w2 hown2 hgrow2
              have o2 : Only0 w w2 := (o1.alloc _).grown hgrow2 (fun k hk => (hown1.lt k hk).1)
              have e2 : pairCells (l.take p) ++ [.int .i64 key, .int .i64 value] = pairCells ((l.take p) ++ [(key, value)]) := by rw [pairCells_app]; rfl
              rw [e2] at hown2
              clear hgrow2 e2 hown1 o1 c3_ c7_
              have c1_ : Hid ((pairCells (l.drop (p))).length = 0 * 2) := Lib.hid (by rw [pairCells_len]; simp <;> omega)
              have c3_ : Hid (∀ ad, ((some ⟨b, off + (p) * 2, none⟩ : Option Addr) : Option Addr) = some ad → ∀ j u, (pairCells (l.drop (p)))[j]? = some u → w2.cell? (ad.add j) = some u) := Lib.hid (by intro ad had; first | (cases had; done) | (injection had with had; subst had; exact ND.out _ o2))
              have c7_ := o2.size
              obtain ⟨nn, hnn⟩ : ∃ nn, nn = (p + 1) + 0 := ⟨_, rfl⟩
              have HNN := Lib.hid hnn
              clear hnn
              go_wp2_with (at_builtin; refine wpList_append_all _ rfl _ _ 44 rfl w.heap.size 73 i0 _ 2 16 Try.underlying44 hi0 hz0 hz1 hz2 rfl (by decide) (.slice a2 (p + 1) c2) (p + 1) (pairCells ((l.take p) ++ [(key, value)])) rfl hown2 (some ⟨b, off + (p) * 2, none⟩ : Option Addr) 0 _ (pairCells (l.drop (p))) rfl c1_.out (fun hn => by first | (cases hn; done) | exact ⟨by omega, by omega⟩) c3_.out (pairCells_one _) (by unfold maxLen; omega) (by omega) c7_ nn HNN.out.symm ?_)
              intro a3 c3 w3 hown3 hgrow3
              have o3 : Only0 w w3 := o2.grown hgrow3 (fun k hk => (hown2.lt k hk).1)
              rw [← pairCells_app] at hown3
              have HL : Hid (nn = (setP l key value false).length) := Lib.hid (by rw [HNN.out, HR2.out]; simp <;> omega)
              have HV : Hid (PV w3 a3 c3 (setP l key value false)) := Lib.hid (by
                rw [HL.out] at hown3
                rw [← HR2.out] at hown3
                exact PV.of_own hown3)
              clear hown3 hgrow3 hown2 o2 c1_ c3_ c7_
              go_wp2_with fail
              go_ret
              exact ⟨a3, c3, by rw [← HL.out]; rfl, HV.out, o3⟩
      · have hpl' : p < l.length := by omega
        obtain ⟨b, off, rfl, hc⟩ := HP.out.at_.at (by omega)
        obtain ⟨h1, h1'⟩ := hc p hpl'
        have NW : Hid (∀ w', Only0 w w' → ∀ j u, (pairCells (l.take p))[j]? = some u → w'.cell? ((⟨b, off, none⟩ : Addr).add j) = some u) := Lib.hid (fun w' o j u hu => cell_only0 o (PV.news hc 0 p (by omega) off (by omega) j u (by simpa using hu)))
        have ND0 : ∀ q, q ≤ l.length → ∀ w', Only0 w w' → ∀ j u, (pairCells (l.drop q))[j]? = some u → w'.cell? ((⟨b, off + q * 2, none⟩ : Addr).add j) = some u := fun q hq w' o j u hu => cell_only0 o (PV.news hc q (l.length - q) (by omega) _ rfl j u (by rw [List.take_of_length_le (by simp)]; exact hu))
        have ec : decide ((l.getD p (0, 0)).1 < key) = false := by
          have := cutPos_step hpl' (by rw [← HC.out]; exact Nat.le_refl _)
          have hx : ¬ (l.getD p (0, 0)).1 < key := fun x => by have := this.1 x; rw [← HC.out] at this; omega
          simpa using hx
        by_cases hx : (l.getD p (0, 0)).1 = key
        · have HT : Hid (is = true) := Lib.hid (by rw [HIS.out, decide_eq_true hpl', decide_eq_true hx]; rfl)
          have ND := Lib.hid (ND0 (p + 1) hpl')
          have hpp := hppc hpl'
          clear hppc
          have eb : ((l.getD p (0, 0)).1 == key) = true := by simpa using hx
          generalize (l.getD p (0, 0)).1 = x at h1 eb ec
          clear hc h1' HIS hx ND0 hpe
          by_cases hcap : c = p + 1
          · obtain rfl : c = p + 1 := hcap
            cases gone with
            | true =>
              have HR2 : Hid (setP l key value true = (l.take p) ++ (l.drop (p + 1))) := Lib.hid (by rw [HR.out, HT.out]; simp)
              clear HR HT
              have c1_ : Hid ((pairCells (l.take p)).length = p * 2) := Lib.hid (by rw [pairCells_len]; simp <;> omega)
              have c3_ : Hid (∀ ad, (some ⟨b, off, none⟩ : Option Addr) = some ad → ∀ j u, (pairCells (l.take p))[j]? = some u → (w.alloc (.cells #[] 73)).cell? (ad.add j) = some u) := Lib.hid (by intro ad had; first | (cases had; done) | (injection had with had; subst had; exact NW.out _ ((Only0.refl w).alloc _)))
              go_wp2_with (at_builtin; refine wpList_append_all _ rfl _ _ 44 rfl w.heap.size 73 i0 _ 2 16 Try.underlying44 hi0 hz0 hz1 hz2 rfl (by decide) (.slice (some ⟨w.heap.size, 0, none⟩) 0 0) 0 [] rfl (World.ownsRow_made w #[] 0 (Nat.le_refl _) (Nat.zero_le _) rfl) (some ⟨b, off, none⟩ : Option Addr) p (p + 1) (pairCells (l.take p)) rfl c1_.out (fun hn => by first | (cases hn; done) | exact ⟨by omega, by omega⟩) c3_.out (pairCells_one _) (by unfold maxLen; omega) (by omega) (by simp) p (by omega) ?_)
              intro a1 c1 w1 hown1 hgrow1
              have o1 : Only0 w w1 := ((Only0.refl w).alloc _).grown hgrow1 (fun k hk => by simp [Value.ownBlock] at hk; omega)
              clear hgrow1 c1_ c3_
              have c1_ : Hid ((pairCells (l.drop (p + 1))).length = 0 * 2) := Lib.hid (by rw [pairCells_len]; simp <;> omega)
              have c3_ : Hid (∀ ad, ((some ⟨b, off, none⟩ : Option Addr) : Option Addr) = some ad → ∀ j u, (pairCells (l.drop (p + 1)))[j]? = some u → w1.cell? (ad.add j) = some u) := Lib.hid (by intro ad had; first | (cases had; done) | (injection had with had; subst had; (intro j u hu; rw [List.drop_eq_nil_of_le (by omega)] at hu; cases hu)))
              have c7_ := o1.size
              obtain ⟨nn, hnn⟩ : ∃ nn, nn = p + 0 := ⟨_, rfl⟩
              have HNN := Lib.hid hnn
              clear hnn
              go_wp2_with (at_builtin; refine wpList_append_all _ rfl _ _ 44 rfl w.heap.size 73 i0 _ 2 16 Try.underlying44 hi0 hz0 hz1 hz2 rfl (by decide) (.slice a1 p c1) p (pairCells (l.take p)) rfl hown1 (some ⟨b, off, none⟩ : Option Addr) 0 _ (pairCells (l.drop (p + 1))) rfl c1_.out (fun hn => by first | (cases hn; done) | exact ⟨by omega, by omega⟩) c3_.out (pairCells_one _) (by unfold maxLen; omega) (by omega) c7_ nn HNN.out.symm ?_)
              intro a3 c3 w3 hown3 hgrow3
              have o3 : Only0 w w3 := o1.grown hgrow3 (fun k hk => (hown1.lt k hk).1)
              rw [← pairCells_app] at hown3
              have HL : Hid (nn = (setP l key value true).length) := Lib.hid (by rw [HNN.out, HR2.out]; simp <;> omega)
              have HV : Hid (PV w3 a3 c3 (setP l key value true)) := Lib.hid (by
                rw [HL.out] at hown3
                rw [← HR2.out] at hown3
                exact PV.of_own hown3)
              clear hown3 hgrow3 hown1 o1 c1_ c3_ c7_
              go_wp2_with fail
              go_ret
              exact ⟨a3, c3, by rw [← HL.out]; rfl, HV.out, o3⟩
            | false =>
              have HR2 : Hid (setP l key value false = (l.take p) ++ [(key, value)] ++ (l.drop (p + 1))) := Lib.hid (by rw [HR.out, HT.out]; simp)
              clear HR HT
              have c1_ : Hid ((pairCells (l.take p)).length = p * 2) := Lib.hid (by rw [pairCells_len]; simp <;> omega)
              have c3_ : Hid (∀ ad, (some ⟨b, off, none⟩ : Option Addr) = some ad → ∀ j u, (pairCells (l.take p))[j]? = some u → (w.alloc (.cells #[] 73)).cell? (ad.add j) = some u) := Lib.hid (by intro ad had; first | (cases had; done) | (injection had with had; subst had; exact NW.out _ ((Only0.refl w).alloc _)))
              go_wp2_with (at_builtin; refine wpList_append_all _ rfl _ _ 44 rfl w.heap.size 73 i0 _ 2 16 Try.underlying44 hi0 hz0 hz1 hz2 rfl (by decide) (.slice (some ⟨w.heap.size, 0, none⟩) 0 0) 0 [] rfl (World.ownsRow_made w #[] 0 (Nat.le_refl _) (Nat.zero_le _) rfl) (some ⟨b, off, none⟩ : Option Addr) p (p + 1) (pairCells (l.take p)) rfl c1_.out (fun hn => by first | (cases hn; done) | exact ⟨by omega, by omega⟩) c3_.out (pairCells_one _) (by unfold maxLen; omega) (by omega) (by simp) p (by omega) ?_)
              intro a1 c1 w1 hown1 hgrow1
              have o1 : Only0 w w1 := ((Only0.refl w).alloc _).grown hgrow1 (fun k hk => by simp [Value.ownBlock] at hk; omega)
              clear hgrow1 c1_ c3_
              have c3_ : Hid (∀ ad, (some ⟨w1.heap.size, 0, none⟩ : Option Addr) = some ad → ∀ j u, ([.int .i64 key, .int .i64 value] : List Value)[j]? = some u → (w1.alloc (.cells #[.int .i64 key, .int .i64 value] 73)).cell? (ad.add j) = some u) := Lib.hid (by intro ad had; injection had with had; subst had; exact World.news_of_block (cs := #[.int .i64 key, .int .i64 value]) (t := 73) (fr := (0, 0)) (heap_alloc_new w1 _))
              have c7_ : w.heap.size ≤ (w1.alloc (.cells #[.int .i64 key, .int .i64 value] 73)).heap.size := by have := o1.size; simp; omega
              go_wp2_with (at_builtin; refine wpList_append_all _ rfl _ _ 44 rfl w.heap.size 73 i0 _ 2 16 Try.underlying44 hi0 hz0 hz1 hz2 rfl (by decide) (.slice a1 p c1) p (pairCells (l.take p)) rfl (hown1.alloc _) (some ⟨w1.heap.size, 0, none⟩) 1 1 [.int .i64 key, .int .i64 value] rfl rfl (fun hn => by cases hn) c3_.out (by intro u hu; simp at hu; rcases hu with rfl | rfl <;> rfl) (by unfold maxLen; omega) (by omega) c7_ (p + 1) (by omega) ?_)
              intro a2 c2 w2 hown2 hgrow2
              have o2 : Only0 w w2 := (o1.alloc _).grown hgrow2 (fun k hk => (hown1.lt k hk).1)
              have e2 : pairCells (l.take p) ++ [.int .i64 key, .int .i64 value] = pairCells ((l.take p) ++ [(key, value)]) := by rw [pairCells_app]; rfl
              rw [e2] at hown2
              clear hgrow2 e2 hown1 o1 c3_ c7_
              have c1_ : Hid ((pairCells (l.drop (p + 1))).length = 0 * 2) := Lib.hid (by rw [pairCells_len]; simp <;> omega)
              have c3_ : Hid (∀ ad, ((some ⟨b, off, none⟩ : Option Addr) : Option Addr) = some ad → ∀ j u, (pairCells (l.drop (p + 1)))[j]? = some u → w2.cell? (ad.add j) = some u) := Lib.hid (by intro ad had; first | (cases had; done) | (injection had with had; subst had; (intro j u hu; rw [List.drop_eq_nil_of_le (by omega)] at hu; cases hu)))
              have c7_ := o2.size
              obtain ⟨nn, hnn⟩ : ∃ nn, nn = (p + 1) + 0 := ⟨_, rfl⟩
              have HNN := Lib.hid hnn
              clear hnn
              go_wp2_with (at_builtin; refine wpList_append_all _ rfl _ _ 44 rfl w.heap.size 73 i0 _ 2 16 Try.underlying44 hi0 hz0 hz1 hz2 rfl (by decide) (.slice a2 (p + 1) c2) (p + 1) (pairCells ((l.take p) ++ [(key, value)])) rfl hown2 (some ⟨b, off, none⟩ : Option Addr) 0 _ (pairCells (l.drop (p + 1))) rfl c1_.out (fun hn => by first | (cases hn; done) | exact ⟨by omega, by omega⟩) c3_.out (pairCells_one _) (by unfold maxLen; omega) (by omega) c7_ nn HNN.out.symm ?_)
              intro a3 c3 w3 hown3 hgrow3
              have o3 : Only0 w w3 := o2.grown hgrow3 (fun k hk => (hown2.lt k hk).1)
              rw [← pairCells_app] at hown3
              have HL : Hid (nn = (setP l key value false).length) := Lib.hid (by rw [HNN.out, HR2.out]; simp <;> omega)
              have HV : Hid (PV w3 a3 c3 (setP l key value false)) := Lib.hid (by
                rw [HL.out] at hown3
                rw [← HR2.out] at hown3
                exact PV.of_own hown3)
              clear hown3 hgrow3 hown2 o2 c1_ c3_ c7_
              go_wp2_with fail
              go_ret
              exact ⟨a3, c3, by rw [← HL.out]; rfl, HV.out, o3⟩
          · cases gone with
            | true =>
              have HR2 : Hid (setP l key value true = (l.take p) ++ (l.drop (p + 1))) := Lib.hid (by rw [HR.out, HT.out]; simp)
              clear HR HT
              have c1_ : Hid ((pairCells (l.take p)).length = p * 2) := Lib.hid (by rw [pairCells_len]; simp <;> omega)
              have c3_ : Hid (∀ ad, (some ⟨b, off, none⟩ : Option Addr) = some ad → ∀ j u, (pairCells (l.take p))[j]? = some u → (w.alloc (.cells #[] 73)).cell? (ad.add j) = some u) := Lib.hid (by intro ad had; first | (cases had; done) | (injection had with had; subst had; exact NW.out _ ((Only0.refl w).alloc _)))
              go_wp2_with (at_builtin; refine wpList_append_all _ rfl _ _ 44 rfl w.heap.size 73 i0 _ 2 16 Try.underlying44 hi0 hz0 hz1 hz2 rfl (by decide) (.slice (some ⟨w.heap.size, 0, none⟩) 0 0) 0 [] rfl (World.ownsRow_made w #[] 0 (Nat.le_refl _) (Nat.zero_le _) rfl) (some ⟨b, off, none⟩ : Option Addr) p c (pairCells (l.take p)) rfl c1_.out (fun hn => by first | (cases hn; done) | exact ⟨by omega, by omega⟩) c3_.out (pairCells_one _) (by unfold maxLen; omega) (by omega) (by simp) p (by omega) ?_)
              intro a1 c1 w1 hown1 hgrow1
              have o1 : Only0 w w1 := ((Only0.refl w).alloc _).grown hgrow1 (fun k hk => by simp [Value.ownBlock] at hk; omega)
              clear hgrow1 c1_ c3_
              have c1_ : Hid ((pairCells (l.drop (p + 1))).length = (l.length - (p + 1)) * 2) := Lib.hid (by rw [pairCells_len]; simp <;> omega)
              have c3_ : Hid (∀ ad, ((some ⟨b, off + (p + 1) * 2, none⟩ : Option Addr) : Option Addr) = some ad → ∀ j u, (pairCells (l.drop (p + 1)))[j]? = some u → w1.cell? (ad.add j) = some u) := Lib.hid (by intro ad had; first | (cases had; done) | (injection had with had; subst had; exact ND.out _ o1))
              have c7_ := o1.size
              obtain ⟨nn, hnn⟩ : ∃ nn, nn = p + (l.length - (p + 1)) := ⟨_, rfl⟩
              have HNN := Lib.hid hnn
              clear hnn
              go_wp2_with (at_builtin; refine wpList_append_all _ rfl _ _ 44 rfl w.heap.size 73 i0 _ 2 16 Try.underlying44 hi0 hz0 hz1 hz2 rfl (by decide) (.slice a1 p c1) p (pairCells (l.take p)) rfl hown1 (some ⟨b, off + (p + 1) * 2, none⟩ : Option Addr) (l.length - (p + 1)) _ (pairCells (l.drop (p + 1))) rfl c1_.out (fun hn => by first | (cases hn; done) | exact ⟨by omega, by omega⟩) c3_.out (pairCells_one _) (by unfold maxLen; omega) (by omega) c7_ nn HNN.out.symm ?_)
              intro a3 c3 w3 hown3 hgrow3
              have o3 : Only0 w w3 := o1.grown hgrow3 (fun k hk => (hown1.lt k hk).1)
              rw [← pairCells_app] at hown3
              have HL : Hid (nn = (setP l key value true).length) := Lib.hid (by rw [HNN.out, HR2.out]; simp <;> omega)
              have HV : Hid (PV w3 a3 c3 (setP l key value true)) := Lib.hid (by
                rw [HL.out] at hown3
                rw [← HR2.out] at hown3
                exact PV.of_own hown3)
              clear hown3 hgrow3 hown1 o1 c1_ c3_ c7_
              go_wp2_with fail
              go_ret
              exact ⟨a3, c3, by rw [← HL.out]; rfl, HV.out, o3⟩
            | false =>
              have HR2 : Hid (setP l key value false = (l.take p) ++ [(key, value)] ++ (l.drop (p + 1))) := Lib.hid (by rw [HR.out, HT.out]; simp)
              clear HR HT
              have c1_ : Hid ((pairCells (l.take p)).length = p * 2) := Lib.hid (by rw [pairCells_len]; simp <;> omega)
              have c3_ : Hid (∀ ad, (some ⟨b, off, none⟩ : Option Addr) = some ad → ∀ j u, (pairCells (l.take p))[j]? = some u → (w.alloc (.cells #[] 73)).cell? (ad.add j) = some u) := Lib.hid (by intro ad had; first | (cases had; done) | (injection had with had; subst had; exact NW.out _ ((Only0.refl w).alloc _)))
              go_wp2_with (at_builtin; refine wpList_append_all _ rfl _ _ 44 rfl w.heap.size 73 i0 _ 2 16 Try.underlying44 hi0 hz0 hz1 hz2 rfl (by decide) (.slice (some ⟨w.heap.size, 0, none⟩) 0 0) 0 [] rfl (World.ownsRow_made w #[] 0 (Nat.le_refl _) (Nat.zero_le _) rfl) (some ⟨b, off, none⟩ : Option Addr) p c (pairCells (l.take p)) rfl c1_.out (fun hn => by first | (cases hn; done) | exact ⟨by omega, by omega⟩) c3_.out (pairCells_one _) (by unfold maxLen; omega) (by omega) (by simp) p (by omega) ?_)
              intro a1 c1 w1 hown1 hgrow1
              have o1 : Only0 w w1 := ((Only0.refl w).alloc _).grown hgrow1 (fun k hk => by simp [Value.ownBlock] at hk; omega)
              clear hgrow1 c1_ c3_
              have c3_ : Hid (∀ ad, (some ⟨w1.heap.size, 0, none⟩ : Option Addr) = some ad → ∀ j u, ([.int .i64 key, .int .i64 value] : List Value)[j]? = some u → (w1.alloc (.cells #[.int .i64 key, .int .i64 value] 73)).cell? (ad.add j) = some u) := Lib.hid (by intro ad had; injection had with had; subst had; exact World.news_of_block (cs := #[.int .i64 key, .int .i64 value]) (t := 73) (fr := (0, 0)) (heap_alloc_new w1 _))
              have c7_ : w.heap.size ≤ (w1.alloc (.cells #[.int .i64 key, .int .i64 value] 73)).heap.size := by have := o1.size; simp; omega
              go_wp2_with (at_builtin; refine wpList_append_all _ rfl _ _ 44 rfl w.heap.size 73 i0 _ 2 16 Try.underlying44 hi0 hz0 hz1 hz2 rfl (by decide) (.slice a1 p c1) p (pairCells (l.take p)) rfl (hown1.alloc _) (some ⟨w1.heap.size, 0, none⟩) 1 1 [.int .i64 key, .int .i64 value] rfl rfl (fun hn => by cases hn) c3_.out (by intro u hu; simp at hu; rcases hu with rfl | rfl <;> rfl) (by unfold maxLen; omega) (by omega) c7_ (p + 1) (by omega) ?_)
              intro a2 c2 w2 hown2 hgrow2
              have o2 : Only0 w w2 := (o1.alloc _).grown hgrow2 (fun k hk => (hown1.lt k hk).1)
              have e2 : pairCells (l.take p) ++ [.int .i64 key, .int .i64 value] = pairCells ((l.take p) ++ [(key, value)]) := by rw [pairCells_app]; rfl
              rw [e2] at hown2
              clear hgrow2 e2 hown1 o1 c3_ c7_
              have c1_ : Hid ((pairCells (l.drop (p + 1))).length = (l.length - (p + 1)) * 2) := Lib.hid (by rw [pairCells_len]; simp <;> omega)
              have c3_ : Hid (∀ ad, ((some ⟨b, off + (p + 1) * 2, none⟩ : Option Addr) : Option Addr) = some ad → ∀ j u, (pairCells (l.drop (p + 1)))[j]? = some u → w2.cell? (ad.add j) = some u) := Lib.hid (by intro ad had; first | (cases had; done) | (injection had with had; subst had; exact ND.out _ o2))
              have c7_ := o2.size
              obtain ⟨nn, hnn⟩ : ∃ nn, nn = (p + 1) + (l.length - (p + 1)) := ⟨_, rfl⟩
              have HNN := Lib.hid hnn
              clear hnn
              go_wp2_with (at_builtin; refine wpList_append_all _ rfl _ _ 44 rfl w.heap.size 73 i0 _ 2 16 Try.underlying44 hi0 hz0 hz1 hz2 rfl (by decide) (.slice a2 (p + 1) c2) (p + 1) (pairCells ((l.take p) ++ [(key, value)])) rfl hown2 (some ⟨b, off + (p + 1) * 2, none⟩ : Option Addr) (l.length - (p + 1)) _ (pairCells (l.drop (p + 1))) rfl c1_.out (fun hn => by first | (cases hn; done) | exact ⟨by omega, by omega⟩) c3_.out (pairCells_one _) (by unfold maxLen; omega) (by omega) c7_ nn HNN.out.symm ?_)
              intro a3 c3 w3 hown3 hgrow3
              have o3 : Only0 w w3 := o2.grown hgrow3 (fun k hk => (hown2.lt k hk).1)
              rw [← pairCells_app] at hown3
              have HL : Hid (nn = (setP l key value false).length) := Lib.hid (by rw [HNN.out, HR2.out]; simp <;> omega)
              have HV : Hid (PV w3 a3 c3 (setP l key value false)) := Lib.hid (by
                rw [HL.out] at hown3
                rw [← HR2.out] at hown3
                exact PV.of_own hown3)
              clear hown3 hgrow3 hown2 o2 c1_ c3_ c7_
              go_wp2_with fail
              go_ret
              exact ⟨a3, c3, by rw [← HL.out]; rfl, HV.out, o3⟩
        · have HT : Hid (is = false) := Lib.hid (by rw [HIS.out, decide_eq_false hx, Bool.and_false])
          have ND := Lib.hid (ND0 p hpl)
          have eb : ((l.getD p (0, 0)).1 == key) = false := by simpa using hx
          generalize (l.getD p (0, 0)).1 = x at h1 eb ec
          clear hc h1' HIS hx ND0 hpe
          have hcap : ¬ c = p := by omega
          cases gone with
          | true =>
            have HR2 : Hid (setP l key value true = (l.take p) ++ (l.drop (p))) := Lib.hid (by rw [HR.out, HT.out]; simp)
            clear HR HT
            have c1_ : Hid ((pairCells (l.take p)).length = p * 2) := Lib.hid (by rw [pairCells_len]; simp <;> omega)
            have c3_ : Hid (∀ ad, (some ⟨b, off, none⟩ : Option Addr) = some ad → ∀ j u, (pairCells (l.take p))[j]? = some u → (w.alloc (.cells #[] 73)).cell? (ad.add j) = some u) := Lib.hid (by intro ad had; first | (cases had; done) | (injection had with had; subst had; exact NW.out _ ((Only0.refl w).alloc _)))
            go_wp2_with (at_builtin; refine wpList_append_all _ rfl _ _ 44 rfl w.heap.size 73 i0 _ 2 16 Try.underlying44 hi0 hz0 hz1 hz2 rfl (by decide) (.slice (some ⟨w.heap.size, 0, none⟩) 0 0) 0 [] rfl (World.ownsRow_made w #[] 0 (Nat.le_refl _) (Nat.zero_le _) rfl) (some ⟨b, off, none⟩ : Option Addr) p c (pairCells (l.take p)) rfl c1_.out (fun hn => by first | (cases hn; done) | exact ⟨by omega, by omega⟩) c3_.out (pairCells_one _) (by unfold maxLen; omega) (by omega) (by simp) p (by omega) ?_)
            intro a1 c1 w1 hown1 hgrow1
            have o1 : Only0 w w1 := ((Only0.refl w).alloc _).grown hgrow1 (fun k hk => by simp [Value.ownBlock] at hk; omega)
            clear hgrow1 c1_ c3_
            have c1_ : Hid ((pairCells (l.drop (p))).length = (l.length - (p)) * 2) := Lib.hid (by rw [pairCells_len]; simp <;> omega)
            have c3_ : Hid (∀ ad, ((some ⟨b, off + (p) * 2, none⟩ : Option Addr) : Option Addr) = some ad → ∀ j u, (pairCells (l.drop (p)))[j]? = some u → w1.cell? (ad.add j) = some u) := Lib.hid (by intro ad had; first | (cases had; done) | (injection had with had; subst had; exact ND.out _ o1))
            have c7_ := o1.size
            obtain ⟨nn, hnn⟩ : ∃ nn, nn = p + (l.length - (p)) := ⟨_, rfl⟩
            have HNN := Lib.hid hnn
            clear hnn
            go_wp2_with (at_builtin; refine wpList_append_all _ rfl _ _ 44 rfl w.heap.size 73 i0 _ 2 16 Try.underlying44 hi0 hz0 hz1 hz2 rfl (by decide) (.slice a1 p c1) p (pairCells (l.take p)) rfl hown1 (some ⟨b, off + (p) * 2, none⟩ : Option Addr) (l.length - (p)) _ (pairCells (l.drop (p))) rfl c1_.out (fun hn => by first | (cases hn; done) | exact ⟨by omega, by omega⟩) c3_.out (pairCells_one _) (by unfold maxLen; omega) (by omega) c7_ nn HNN.out.symm ?_)
            intro a3 c3 w3 hown3 hgrow3
            have o3 : Only0 w w3 := o1.grown hgrow3 (fun k hk => (hown1.lt k hk).1)
            rw [← pairCells_app] at hown3
            have HL : Hid (nn = (setP l key value true).length) := Lib.hid (by rw [HNN.out, HR2.out]; simp <;> omega)
            have HV : Hid (PV w3 a3 c3 (setP l key value true)) := Lib.hid (by
              rw [HL.out] at hown3
              rw [← HR2.out] at hown3
              exact PV.of_own hown3)
            clear hown3 hgrow3 hown1 o1 c1_ c3_ c7_
            go_wp2_with fail
            go_ret
            exact ⟨a3, c3, by rw [← HL.out]; rfl, HV.out, o3⟩
          | false =>
            have HR2 : Hid (setP l key value false = (l.take p) ++ [(key, value)] ++ (l.drop (p))) := Lib.hid (by rw [HR.out, HT.out]; simp)
            clear HR HT
            have c1_ : Hid ((pairCells (l.take p)).length = p * 2) := Lib.hid (by rw [pairCells_len]; simp <;> omega)
            have c3_ : Hid (∀ ad, (some ⟨b, off, none⟩ : Option Addr) = some ad → ∀ j u, (pairCells (l.take p))[j]? = some u → (w.alloc (.cells #[] 73)).cell? (ad.add j) = some u) := Lib.hid (by intro ad had; first | (cases had; done) | (injection had with had; subst had; exact NW.out _ ((Only0.refl w).alloc _)))
            go_wp2_with (at_builtin; refine wpList_append_all _ rfl _ _ 44 rfl w.heap.size 73 i0 _ 2 16 Try.underlying44 hi0 hz0 hz1 hz2 rfl (by decide) (.slice (some ⟨w.heap.size, 0, none⟩) 0 0) 0 [] rfl (World.ownsRow_made w #[] 0 (Nat.le_refl _) (Nat.zero_le _) rfl) (some ⟨b, off, none⟩ : Option Addr) p c (pairCells (l.take p)) rfl c1_.out (fun hn => by first | (cases hn; done) | exact ⟨by omega, by omega⟩) c3_.out (pairCells_one _) (by unfold maxLen; omega) (by omega) (by simp) p (by omega) ?_)
            intro a1 c1 w1 hown1 hgrow1
            have o1 : Only0 w w1 := ((Only0.refl w).alloc _).grown hgrow1 (fun k hk => by simp [Value.ownBlock] at hk; omega)
            clear hgrow1 c1_ c3_
            have c3_ : Hid (∀ ad, (some ⟨w1.heap.size, 0, none⟩ : Option Addr) = some ad → ∀ j u, ([.int .i64 key, .int .i64 value] : List Value)[j]? = some u → (w1.alloc (.cells #[.int .i64 key, .int .i64 value] 73)).cell? (ad.add j) = some u) := Lib.hid (by intro ad had; injection had with had; subst had; exact World.news_of_block (cs := #[.int .i64 key, .int .i64 value]) (t := 73) (fr := (0, 0)) (heap_alloc_new w1 _))
            have c7_ : w.heap.size ≤ (w1.alloc (.cells #[.int .i64 key, .int .i64 value] 73)).heap.size := by have := o1.size; simp; omega
            go_wp2_with (at_builtin; refine wpList_append_all _ rfl _ _ 44 rfl w.heap.size 73 i0 _ 2 16 Try.underlying44 hi0 hz0 hz1 hz2 rfl (by decide) (.slice a1 p c1) p (pairCells (l.take p)) rfl (hown1.alloc _) (some ⟨w1.heap.size, 0, none⟩) 1 1 [.int .i64 key, .int .i64 value] rfl rfl (fun hn => by cases hn) c3_.out (by intro u hu; simp at hu; rcases hu with rfl | rfl <;> rfl) (by unfold maxLen; omega) (by omega) c7_ (p + 1) (by omega) ?_)
            intro a2 c2 w2 hown2 hgrow2
            have o2 : Only0 w w2 := (o1.alloc _).grown hgrow2 (fun k hk => (hown1.lt k hk).1)
            have e2 : pairCells (l.take p) ++ [.int .i64 key, .int .i64 value] = pairCells ((l.take p) ++ [(key, value)]) := by rw [pairCells_app]; rfl
            rw [e2] at hown2
            clear hgrow2 e2 hown1 o1 c3_ c7_
            have c1_ : Hid ((pairCells (l.drop (p))).length = (l.length - (p)) * 2) := Lib.hid (by rw [pairCells_len]; simp <;> omega)
            have c3_ : Hid (∀ ad, ((some ⟨b, off + (p) * 2, none⟩ : Option Addr) : Option Addr) = some ad → ∀ j u, (pairCells (l.drop (p)))[j]? = some u → w2.cell? (ad.add j) = some u) := Lib.hid (by intro ad had; first | (cases had; done) | (injection had with had; subst had; exact ND.out _ o2))
            have c7_ := o2.size
            obtain ⟨nn, hnn⟩ : ∃ nn, nn = (p + 1) + (l.length - (p)) := ⟨_, rfl⟩
            have HNN := Lib.hid hnn
            clear hnn
            go_wp2_with (at_builtin; refine wpList_append_all _ rfl _ _ 44 rfl w.heap.size 73 i0 _ 2 16 Try.underlying44 hi0 hz0 hz1 hz2 rfl (by decide) (.slice a2 (p + 1) c2) (p + 1) (pairCells ((l.take p) ++ [(key, value)])) rfl hown2 (some ⟨b, off + (p) * 2, none⟩ : Option Addr) (l.length - (p)) _ (pairCells (l.drop (p))) rfl c1_.out (fun hn => by first | (cases hn; done) | exact ⟨by omega, by omega⟩) c3_.out (pairCells_one _) (by unfold maxLen; omega) (by omega) c7_ nn HNN.out.symm ?_)
            intro a3 c3 w3 hown3 hgrow3
            have o3 : Only0 w w3 := o2.grown hgrow3 (fun k hk => (hown2.lt k hk).1)
            rw [← pairCells_app] at hown3
            have HL : Hid (nn = (setP l key value false).length) := Lib.hid (by rw [HNN.out, HR2.out]; simp <;> omega)
            have HV : Hid (PV w3 a3 c3 (setP l key value false)) := Lib.hid (by
              rw [HL.out] at hown3
              rw [← HR2.out] at hown3
              exact PV.of_own hown3)
            clear hown3 hgrow3 hown2 o2 c1_ c3_ c7_
            go_wp2_with fail
            go_ret
            exact ⟨a3, c3, by rw [← HL.out]; rfl, HV.out, o3⟩
set_option maxRecDepth 100000 in
set_option maxHeartbeats 16000000 in
theorem ref_laid (a : Option Addr) (c : Nat) (l : List (Int × Int)) (w : World) (h : PV w a c l) (hl : l.length ≤ 1000000) (x : Cl) (pa : Option Addr) (pc : Nat) :
    Calls Try.prog 43 #[.slice a l.length c, clVal x pa pc] w (SetRes w (laidP l x)) := by
  obtain ⟨⟨k, ky, hi, vl⟩, ⟨re, rv, ps, ro, rr⟩⟩ := x
  unfold clVal
  dsimp only
  obtain ⟨w1, hw1⟩ : ∃ w1, w1 = w.alloc (.cells #[.int .i64 k, .int .i64 ky, .int .i64 hi, .int .i64 vl, .int .i64 re, .int .i64 rv, .slice pa ps.length pc, .int .i64 ro, .int .i64 rr] 70) := ⟨_, rfl⟩
  have o1 : Only0 w w1 := by rw [hw1]; exact (Only0.refl w).alloc _
  have B := Blk.new w 70 #[.int .i64 k, .int .i64 ky, .int .i64 hi, .int .i64 vl, .int .i64 re, .int .i64 rv, .slice pa ps.length pc, .int .i64 ro, .int .i64 rr]
  rw [← hw1] at B
  obtain ⟨b, hb⟩ : ∃ b, b = w.heap.size := ⟨_, rfl⟩
  rw [← hb] at B
  have h0 : w1.cell? ⟨b, 0, none⟩ = some (.int .i64 k) := B.cell 0
  have h1 : w1.cell? ⟨b, 1, none⟩ = some (.int .i64 ky) := B.cell 1
  have h3 : w1.cell? ⟨b, 3, none⟩ = some (.int .i64 vl) := B.cell 3
  have h4 : w1.cell? ⟨b, 4, none⟩ = some (.int .i64 re) := B.cell 4
  have HP := Lib.hid (h.only0 o1)
  have HL : Hid (PV w1 a c l ∧ Only0 w w1) := Lib.hid ⟨h.only0 o1, o1⟩
  have HT : Hid (∀ (ps : List (Int × Int)) (e : Ending) (w' : World), SetRes w1 ps e w' → SetRes w ps e w') := Lib.hid fun ps e w' h => by
    obtain ⟨a, c, h1, h2, h3⟩ := h
    exact ⟨a, c, h1, h2, o1.trans h3⟩
  have HW := Lib.hid hw1
  have HB := Lib.hid hb
  clear B o1 h hw1 hb
  by_cases e0 : re = 0
  · subst e0
    by_cases k2 : k = 2
    · subst k2
      have HR : Hid (laidP l ⟨⟨2, ky, hi, vl⟩, ⟨0, rv, ps, ro, rr⟩⟩ = setP l ky vl false) := Lib.hid (by simp [laidP])
      go_enter Try.func43, Try.ntmps43
      go_upto_region 1 with (fail)
      rw [← HW.out, ← HB.out]
      go_wp2_with fail
      refine (ref_set a c l w1 HP.out hl ky vl false).mono ?_
      rintro e w2 ⟨a2, c2, rfl, hp2, o2⟩
      have HP2 := Lib.hid (And.intro hp2 (HL.out.2.trans o2))
      clear hp2 o2
      go_wp2_with fail
      go_ret
      exact ⟨a2, c2, by rw [HR.out]; rfl, by rw [HR.out]; exact HP2.out.1, HP2.out.2⟩
    · by_cases k3 : k = 3
      · subst k3
        have HR : Hid (laidP l ⟨⟨3, ky, hi, vl⟩, ⟨0, rv, ps, ro, rr⟩⟩ = setP l ky vl false) := Lib.hid (by simp [laidP])
        clear k2
        go_enter Try.func43, Try.ntmps43
        go_upto_region 1 with (fail)
        rw [← HW.out, ← HB.out]
        go_wp2_with fail
        refine (ref_set a c l w1 HP.out hl ky vl false).mono ?_
        rintro e w2 ⟨a2, c2, rfl, hp2, o2⟩
        have HP2 := Lib.hid (And.intro hp2 (HL.out.2.trans o2))
        clear hp2 o2
        go_wp2_with fail
        go_ret
        exact ⟨a2, c2, by rw [HR.out]; rfl, by rw [HR.out]; exact HP2.out.1, HP2.out.2⟩
      · by_cases k4 : k = 4
        · subst k4
          have HR : Hid (laidP l ⟨⟨4, ky, hi, vl⟩, ⟨0, rv, ps, ro, rr⟩⟩ = setP l ky 0 true) := Lib.hid (by simp [laidP])
          clear k2 k3
          go_enter Try.func43, Try.ntmps43
          go_upto_region 1 with (fail)
          rw [← HW.out, ← HB.out]
          go_wp2_with fail
          refine (ref_set a c l w1 HP.out hl ky 0 true).mono ?_
          rintro e w2 ⟨a2, c2, rfl, hp2, o2⟩
          have HP2 := Lib.hid (And.intro hp2 (HL.out.2.trans o2))
          clear hp2 o2
          go_wp2_with fail
          go_ret
          exact ⟨a2, c2, by rw [HR.out]; rfl, by rw [HR.out]; exact HP2.out.1, HP2.out.2⟩
        · have HR : Hid (laidP l ⟨⟨k, ky, hi, vl⟩, ⟨0, rv, ps, ro, rr⟩⟩ = l) := Lib.hid (by simp [laidP, k2, k3, k4])
          have b2 : (k == 2) = false := by simpa using k2
          have b3 : (k == 3) = false := by simpa using k3
          have b4 : (k == 4) = false := by simpa using k4
          clear k2 k3 k4
          go_enter Try.func43, Try.ntmps43
          go_upto_region 1 with (fail)
          rw [← HW.out, ← HB.out]
          go_wp2_with fail
          go_ret
          exact ⟨a, c, by rw [HR.out]; rfl, by rw [HR.out]; exact HL.out.1, HL.out.2⟩
  · have HR : Hid (laidP l ⟨⟨k, ky, hi, vl⟩, ⟨re, rv, ps, ro, rr⟩⟩ = l) := Lib.hid (by simp [laidP, e0])
    have b0 : (re != 0) = true := by simpa using e0
    clear e0
    go_enter Try.func43, Try.ntmps43
    go_upto_region 1 with (fail)
    rw [← HW.out, ← HB.out]
    go_wp2_with fail
    go_ret
    exact ⟨a, c, by rw [HR.out]; rfl, by rw [HR.out]; exact HL.out.1, HL.out.2⟩
end Go.Proofs.Ytdjehgnkpbkdbaa
namespace Go.Proofs.Ytdjehgnkpbkdbaa
open Go.RowKit
set_option linter.unusedVariables false
set_option linter.unusedSimpArgs false
def tkList (n : Nat) (t : Nat → Bool) : List Value := (List.range n).map fun i => .bool (t i)
def tkCells (n : Nat) (t : Nat → Bool) : Array Value := (tkList n t).toArray
theorem tk_get {n i : Nat} {t : Nat → Bool} (h : i < n) : (tkCells n t)[i]? = some (.bool (t i)) := by
  unfold tkCells tkList
  rw [List.getElem?_toArray, List.getElem?_map, List.getElem?_range h]; rfl
theorem tk_set {n k : Nat} {t : Nat → Bool} (h : k < n) : (tkCells n t).setIfInBounds k (.bool true) = tkCells n (upd t k true) := by
  unfold tkCells tkList
  rw [List.setIfInBounds_toArray]
  congr 1
  apply List.ext_getElem?
  intro i
  rw [List.getElem?_set, List.getElem?_map, List.getElem?_map]
  by_cases e : k = i
  · subst e
    rw [if_pos rfl, List.getElem?_range h]
    simp [h, upd_same]
  · rw [if_neg e]
    by_cases hi : i < n
    · rw [List.getElem?_range hi]; simp [upd_other _ _ _ (fun x => e x.symm)]
    · rw [List.getElem?_eq_none (by simpa using hi)]; rfl
theorem info_bool : (Try.prog.info? 4).map (fun i => (i.zero, i.size, i.bytes)) = some (some (.bool false), 1, 1) := by kernel_rfl
theorem mk_bools (n : Nat) (hn : n ≤ 1000000) (w : World) : (Instr.makeSlice 100 (.int .i64 n) (.int .i64 n)).run Try.prog w = .ok (.slice (some ⟨w.heap.size, 0, none⟩) n n) (w.alloc (.cells (tkCells n (fun _ => false)) 4)) := by
  obtain ⟨i, hi, hz, h1, h2⟩ := info_parts info_bool
  have hr := run_make (P := Try.prog) w 100 4 i _ Try.underlying100 hi hz .i64 .i64 n n (by omega) (Int.le_refl _) (by rw [h2]; omega) (by omega)
  have he : madeCells (Value.bool false).cells (n * 1) = tkCells n (fun _ => false) := by
    apply Array.ext'
    unfold tkCells tkList
    rw [Nat.mul_one]
    have e : (List.range n).map (fun _ => Value.bool false) = List.replicate n (.bool false) := by
      rw [List.eq_replicate_iff]; exact ⟨by simp, by simp⟩
    rw [e]
    exact toList_madeCells_one (.bool false) n
  rw [h1, Int.toNat_natCast, he] at hr
  exact hr
def cnt (t : Nat → Bool) : Nat → Nat
  | 0 => 0
  | i + 1 => cnt t i + (if t i then 1 else 0)
theorem cnt_le (t : Nat → Bool) : ∀ n, cnt t n ≤ n
  | 0 => Nat.le_refl _
  | n + 1 => by have := cnt_le t n; unfold cnt; split <;> omega
theorem cnt_congr {t u : Nat → Bool} : ∀ n, (∀ i, i < n → t i = u i) → cnt t n = cnt u n
  | 0, _ => rfl
  | n + 1, h => by unfold cnt; rw [cnt_congr n (fun i hi => h i (by omega)), h n (by omega)]
theorem cnt_upd {t : Nat → Bool} {k : Nat} (h : t k = false) : ∀ n, k < n → cnt (upd t k true) n = cnt t n + 1
  | 0, hk => by omega
  | n + 1, hk => by
    unfold cnt
    by_cases e : k = n
    · subst e
      rw [upd_same, h, cnt_congr k (fun i hi => upd_other t k true (by omega))]; simp
    · rw [cnt_upd h n (by omega), upd_other _ _ _ (fun x => e x.symm)]; omega
/-- How many flags of a block are set. -/
def cntW (w : World) (b n : Nat) : Nat := cnt (fun i => match w.cell? ⟨b, i, none⟩ with | some (.bool x) => x | _ => false) n
theorem cntW_eq {w : World} {b n : Nat} {t : Nat → Bool} (h : Blk w b 4 (tkCells n t)) : cntW w b n = cnt t n := by
  unfold cntW
  exact cnt_congr n (fun i hi => by rw [h.cell, tk_get hi])
def pickV : Option Nat → Int
  | none => -1
  | some k => k
theorem listOf_len (f : Fn) : (listOf f).length ≤ 64 := by
  unfold listOf
  refine Nat.le_trans (List.length_filterMap_le _ _) ?_
  simp
theorem tk_bool {n i : Nat} {t : Nat → Bool} {v : Value} (h : (tkCells n t)[i]? = some v) : ∃ b, v = .bool b := by
  unfold tkCells tkList at h
  rw [List.getElem?_toArray, List.getElem?_map] at h
  cases hx : (List.range n)[i]? with
  | none => rw [hx] at h; cases h
  | some j => rw [hx] at h; injection h with h; exact ⟨_, h.symm⟩
theorem PV.flag {w : World} {a : Option Addr} {c n tb k : Nat} {ps : List (Int × Int)} {t : Nat → Bool} (h : PV w a c ps) (B : Blk w tb 4 (tkCells n t)) (v : Value) : PV (w.setCell ⟨tb, k, none⟩ v) a c ps := by
  refine ⟨?_, h.len, h.cap⟩
  have o : Only (fun b => b = tb) w (w.setCell ⟨tb, k, none⟩ v) := Only.setCell (S := fun b => b = tb) (Only.refl _ w) (fun _ => rfl) v
  rcases h.form with h1 | ⟨b, off, h1, h2⟩
  · exact .inl h1
  · refine .inr ⟨b, off, h1, fun i hi => ?_⟩
    have hne : ¬ b = tb := by
      intro e
      have := (h2 i hi).1
      rw [e, B.cell] at this
      obtain ⟨x, hx⟩ := tk_bool this
      cases hx
    exact ⟨cell_only o (h2 i hi).1 hne, cell_only o (h2 i hi).2 hne⟩
/-- The inner loop: so many calls are laid. -/
structure StIn (w : World) (l : List Dl) (ops : List Cl) (tb : Nat) (wr : World) (tk : Nat → Bool) (f g : Fn) (a' : Option Addr) (c' i : Nat) : Prop where
  o : Only0 w wr
  blk : Blk wr tb 4 (tkCells l.length tk)
  pv : PV wr a' c' (listOf g)
  eq : (ops.drop i).foldl laidP (listOf g) = ops.foldl laidP (listOf f)
/-- All operations are such as may be; nothing is too long. -/
structure DlsOk (l : List Dl) : Prop where
  len : l.length ≤ 200
  ops : ∀ i, i < l.length → (dAt l i).ops.length ≤ 200
  ok : ∀ i, i < l.length → ∀ c, c ∈ (dAt l i).ops → ClOk c
/-- The state's work, under way. -/
structure StRel (w : World) (l : List Dl) (at_ but : Int) (tb : Nat) (wr : World) (tk : Nat → Bool) (f : Fn) (a' : Option Addr) (c' q : Nat) : Prop where
  o : Only0 w wr
  blk : Blk wr tb 4 (tkCells l.length tk)
  new : w.heap.size ≤ tb
  pv : PV wr a' c' (listOf f)
  eq : stateN l at_ but (l.length + 1 - q) tk (listOf f) = stateP l at_ but
  cnt : cnt tk l.length = q
set_option maxRecDepth 100000 in
set_option maxHeartbeats 64000000 in
theorem ref_state (a : Option Addr) (c : Nat) (l : List Dl) (w : World) (h : DealsIn w a l) (hk : DlsOk l) (hlc : l.length ≤ c) (at_ but : Int) :
    Calls Try.prog 27 #[.slice a l.length c, .int .u64 at_, .int .i64 but] w (SetRes w (stateP l at_ but)) := by
  have hl := hk.len
  have hmk := fun wx => mk_bools l.length (by omega) wx
  obtain ⟨w1, hw1⟩ : ∃ w1, w1 = w.alloc (.cells (tkCells l.length (fun _ => false)) 4) := ⟨_, rfl⟩
  obtain ⟨tb, htb⟩ : ∃ tb, tb = w.heap.size := ⟨_, rfl⟩
  have h0 : ([] : List (Int × Int)) = listOf (fun _ => none) := by simp [listOf]
  have HS : Hid (StRel w l at_ but tb w1 (fun _ => false) (fun _ => none) none 0 0) := Lib.hid
    ⟨by rw [hw1]; exact (Only0.refl w).alloc _, by rw [hw1, htb]; exact Blk.new _ _ _, by omega, by rw [← h0]; exact PV.nil _, by rw [← h0]; rfl, by
      have : ∀ n, cnt (fun _ => false) n = 0 := fun n => by induction n with | zero => rfl | succ n ih => unfold cnt; rw [ih]; rfl
      exact this _⟩
  have HD := Lib.hid h
  have HK := Lib.hid hk
  have HL0 : Hid ((listOf (fun _ => none)).length = 0) := Lib.hid (by rw [← h0]; rfl)
  have HW1 := Lib.hid hw1
  have HTB := Lib.hid htb
  clear h hk hw1 htb h0
  go_enter Try.func27, Try.ntmps27
  go_upto_region 3 with (fail)
  rw [← HW1.out, ← HTB.out]
  clear hmk
  go_loopw [7, 9, 10, 11] (fun s7 s9 s10 s11 wr => ∃ (q : Nat) (tk : Nat → Bool) (f : Fn) (a' : Option Addr) (c' n' : Nat) (v9 v10 v11 : Value), s9 = v9 ∧ s10 = v10 ∧ s11 = v11 ∧ s7 = .slice a' n' c' ∧ Hid (n' = (listOf f).length) ∧ Hid (StRel w l at_ but tb wr tk f a' c' q)) (fun _ _ _ _ wr => l.length - cntW wr tb l.length)
  case atStart => exact ⟨0, _, _, none, 0, 0, _, _, _, rfl, rfl, rfl, rfl, Lib.hid HL0.out.symm, HS⟩
  case round =>
    obtain ⟨q, tk, f, a', c', n', v9, v10, v11, rfl, rfl, rfl, rfl, HN', HR⟩ := hrel
    clear HS HL0 HW1 HTB
    have HDL := Lib.hid (HD.out.only0 HR.out.o)
    have hct : q ≤ l.length := by rw [← HR.out.cnt]; exact cnt_le _ _
    have HM : Hid (cntW wr tb l.length = q) := Lib.hid (by rw [cntW_eq HR.out.blk]; exact HR.out.cnt)
    go_wp2_with fail
    go_loopw [9, 10] (fun s9 s10 w2 => ∃ (i m : Nat), i ≤ l.length ∧ s10 = .int .i64 i ∧ s9 = .int .i64 (pickV (pickTo l at_ but tk i)) ∧ w2 = wr.drewN m) (fun _ s10 _ => l.length - (intOf s10).toNat)
    case atStart => exact ⟨0, 0, Nat.zero_le _, rfl, rfl, rfl⟩
    case round =>
      obtain ⟨i, m, hi, rfl, hs9, hw2⟩ := hrel
      obtain ⟨kv, hkv⟩ : ∃ kv, kv = pickV (pickTo l at_ but tk i) := ⟨_, rfl⟩
      rw [← hkv] at hs9
      have HKK := Lib.hid hkv
      clear hkv
      subst hs9 hw2
      by_cases hlt : i < l.length
      · have HPB : Hid (((decide ((dAt l i).state = 3) && !decide ((i : Int) = but) && !tk i && decide ((dAt l i).fin ≤ at_)) = false) → pickTo l at_ but tk (i + 1) = pickTo l at_ but tk i) := Lib.hid (fun hx => by
          rw [show pickTo l at_ but tk (i + 1) = if pickB l at_ but tk i (pickTo l at_ but tk i) then some i else pickTo l at_ but tk i from rfl]
          have : pickB l at_ but tk i (pickTo l at_ but tk i) = false := by
            unfold pickB
            show ((decide ((dAt l i).state = 3) && !decide ((i : Int) = but) && !tk i && decide ((dAt l i).fin ≤ at_)) && _) = false
            rw [hx]; rfl
          rw [this]; rfl)
        have HPT : Hid ((((decide ((dAt l i).state = 3) && !decide ((i : Int) = but) && !tk i && decide ((dAt l i).fin ≤ at_)) = true) → pickTo l at_ but tk i = none → pickTo l at_ but tk (i + 1) = some i)
            ∧ (∀ k, ((decide ((dAt l i).state = 3) && !decide ((i : Int) = but) && !tk i && decide ((dAt l i).fin ≤ at_)) = true) → pickTo l at_ but tk i = some k → (dAt l i).fin < (dAt l k).fin → pickTo l at_ but tk (i + 1) = some i)
            ∧ (∀ k, pickTo l at_ but tk i = some k → ¬ (dAt l i).fin < (dAt l k).fin → pickTo l at_ but tk (i + 1) = some k)) := Lib.hid ⟨fun hx hn => by
            rw [show pickTo l at_ but tk (i + 1) = if pickB l at_ but tk i (pickTo l at_ but tk i) then some i else pickTo l at_ but tk i from rfl, hn, pickB_none]
            have : candB l at_ but tk i = true := hx
            rw [this]; rfl, fun k hx hn hf => by
            rw [show pickTo l at_ but tk (i + 1) = if pickB l at_ but tk i (pickTo l at_ but tk i) then some i else pickTo l at_ but tk i from rfl, hn, pickB_some]
            have : candB l at_ but tk i = true := hx
            rw [this, decide_eq_true hf]; rfl, fun k hn hf => by
            rw [show pickTo l at_ but tk (i + 1) = if pickB l at_ but tk i (pickTo l at_ but tk i) then some i else pickTo l at_ but tk i from rfl, hn, pickB_some, decide_eq_false hf, Bool.and_false]; rfl⟩
        obtain ⟨g, oa, oc, rfl, hC, hoc, d0, d1, d2, d3, d4, d5⟩ := HDL.out.at_ hlt
        clear hC hoc d0 d1 d3 d5
        have t0 : wr.cell? ⟨tb, i, none⟩ = some (.bool (tk i)) := by rw [HR.out.blk.cell, tk_get hlt]
        have hkr : pickTo l at_ but tk i = none ∨ ∃ k, pickTo l at_ but tk i = some k := by cases pickTo l at_ but tk i <;> simp
        generalize (dAt l i).state = st at d2 HPB HPT
        generalize hfi : (dAt l i).fin = fi at d4 HPB HPT
        clear hfi
        by_cases e3 : st = 3
        · have b3 : (st == 3) = true := by simpa using e3
          by_cases eb : (i : Int) = but
          · have b1 : ((i : Int) != but) = false := by simpa using eb
            have hb := HPB.out (by simp [eb])
            have HN : Hid (pickV (pickTo l at_ but tk (i + 1)) = kv) := Lib.hid (by rw [hb]; exact HKK.out.symm)
            clear hb
            clear HPB HPT HKK hkr
            try clear e3
            try clear eb
            try clear ea
            try clear el
            go_wp2_with fail
            go_quiet (fail)
            go_wp2_with fail
            go_roundw
            case rel => exact ⟨i + 1, _, by omega, by go_num, by rw [HN.out], by first | rfl | exact World.drewN_drewN _ _ _⟩
            case measure => simp [intOf]; omega
          · have b1 : ((i : Int) != but) = true := by simpa using eb
            cases ht : tk i with
            | true =>
              rw [ht] at t0
              have hb := HPB.out (by simp [ht])
              have HN : Hid (pickV (pickTo l at_ but tk (i + 1)) = kv) := Lib.hid (by rw [hb]; exact HKK.out.symm)
              clear hb
              clear HPB HPT HKK hkr
              try clear e3
              try clear eb
              try clear ea
              try clear el
              go_wp2_with fail
              go_quiet (fail)
              go_wp2_with fail
              go_roundw
              case rel => exact ⟨i + 1, _, by omega, by go_num, by rw [HN.out], by first | rfl | exact World.drewN_drewN _ _ _⟩
              case measure => simp [intOf]; omega
            | false =>
              rw [ht] at t0
              by_cases ea : fi ≤ at_
              · have b4 : decide (fi ≤ at_) = true := by simpa using ea
                cases hk : pickTo l at_ but tk i with
                | none =>
                  have HKV : Hid (pickV (pickTo l at_ but tk i) = -1) := Lib.hid (by rw [hk]; rfl)
                  have hb := HPT.out.1 (by simp [e3, eb, ht, ea]) hk
                  have HN : Hid (pickV (pickTo l at_ but tk (i + 1)) = (i : Int)) := Lib.hid (by rw [hb]; rfl)
                  have hkv : kv = (-1) := by rw [HKK.out]; exact HKV.out
                  subst hkv
                  clear hb hk HKV
                  clear HPB HPT HKK hkr
                  try clear e3
                  try clear eb
                  try clear ea
                  try clear el
                  go_wp2_with fail
                  go_quiet (fail)
                  go_wp2_with fail
                  go_roundw
                  case rel => exact ⟨i + 1, _, by omega, by go_num, by rw [HN.out], by first | rfl | exact World.drewN_drewN _ _ _⟩
                  case measure => simp [intOf]; omega
                | some k =>
                  have hkn : k < l.length := by have := (pickTo_cand hk).1; omega
                  obtain ⟨g', oa', oc', hg', hC', hoc', d0', d1', d2', d3', d4', d5'⟩ := HDL.out.at_ hkn
                  injection hg' with hg'
                  injection hg' with hg'
                  subst hg'
                  clear hC' hoc' d0' d1' d2' d3' d5'
                  have HFK : Hid ((dAt l k).fin = (dAt l k).fin) := Lib.hid rfl
                  by_cases el : fi < (dAt l k).fin
                  · have b6 : decide (fi < (dAt l k).fin) = true := by simpa using el
                    have HKV : Hid (pickV (pickTo l at_ but tk i) = (k : Int)) := Lib.hid (by rw [hk]; rfl)
                    have hb := HPT.out.2.1 k (by simp [e3, eb, ht, ea]) hk el
                    generalize (dAt l k).fin = fk at d4' b6
                    have HN : Hid (pickV (pickTo l at_ but tk (i + 1)) = (i : Int)) := Lib.hid (by rw [hb]; rfl)
                    have hkv : kv = (k : Int) := by rw [HKK.out]; exact HKV.out
                    subst hkv
                    clear hb hk HKV
                    clear HPB HPT HKK hkr
                    try clear e3
                    try clear eb
                    try clear ea
                    try clear el
                    go_wp2_with fail
                    go_quiet (fail)
                    go_wp2_with fail
                    go_roundw
                    case rel => exact ⟨i + 1, _, by omega, by go_num, by rw [HN.out], by first | rfl | exact World.drewN_drewN _ _ _⟩
                    case measure => simp [intOf]; omega
                  · have b6 : decide (fi < (dAt l k).fin) = false := by simpa using el
                    have HKV : Hid (pickV (pickTo l at_ but tk i) = (k : Int)) := Lib.hid (by rw [hk]; rfl)
                    have hb := HPT.out.2.2 k hk el
                    generalize (dAt l k).fin = fk at d4' b6
                    have HN : Hid (pickV (pickTo l at_ but tk (i + 1)) = (k : Int)) := Lib.hid (by rw [hb]; rfl)
                    have hkv : kv = (k : Int) := by rw [HKK.out]; exact HKV.out
                    subst hkv
                    clear hb hk HKV
                    clear HPB HPT HKK hkr
                    try clear e3
                    try clear eb
                    try clear ea
                    try clear el
                    go_wp2_with fail
                    go_quiet (fail)
                    go_wp2_with fail
                    go_roundw
                    case rel => exact ⟨i + 1, _, by omega, by go_num, by rw [HN.out], by first | rfl | exact World.drewN_drewN _ _ _⟩
                    case measure => simp [intOf]; omega
              · have b4 : decide (fi ≤ at_) = false := by simpa using ea
                have hb := HPB.out (by simp [ea])
                have HN : Hid (pickV (pickTo l at_ but tk (i + 1)) = kv) := Lib.hid (by rw [hb]; exact HKK.out.symm)
                clear hb
                clear HPB HPT HKK hkr
                try clear e3
                try clear eb
                try clear ea
                try clear el
                go_wp2_with fail
                go_quiet (fail)
                go_wp2_with fail
                go_roundw
                case rel => exact ⟨i + 1, _, by omega, by go_num, by rw [HN.out], by first | rfl | exact World.drewN_drewN _ _ _⟩
                case measure => simp [intOf]; omega
        · have b3 : (st == 3) = false := by simpa using e3
          have hb := HPB.out (by simp [e3])
          have HN : Hid (pickV (pickTo l at_ but tk (i + 1)) = kv) := Lib.hid (by rw [hb]; exact HKK.out.symm)
          clear hb
          clear HPB HPT HKK hkr
          try clear e3
          try clear eb
          try clear ea
          try clear el
          go_wp2_with fail
          go_quiet (fail)
          go_wp2_with fail
          go_roundw
          case rel => exact ⟨i + 1, _, by omega, by go_num, by rw [HN.out], by first | rfl | exact World.drewN_drewN _ _ _⟩
          case measure => simp [intOf]; omega
      · obtain rfl : i = l.length := by omega
        clear hlt hi
        cases hk : pickTo l at_ but tk l.length with
        | none =>
          have hkv : kv = -1 := by rw [HKK.out, hk]; rfl
          subst hkv
          have HE : Hid (stateP l at_ but = listOf f) := Lib.hid (by
            rw [← HR.out.eq, show l.length + 1 - q = (l.length - q) + 1 by omega]
            show (match pickTo l at_ but tk l.length with | none => listOf f | some k => _) = _
            rw [hk])
          have HO := Lib.hid (And.intro (HR.out.pv.only0 ((Only0.refl wr).drewN m)) (HR.out.o.drewN m))
          clear hk HKK
          go_wp2_with fail
          go_ret
          exact ⟨a', c', by rw [HE.out, ← HN'.out]; rfl, by rw [HE.out]; exact HO.out.1, HO.out.2⟩
        | some k =>
          have hkv : kv = (k : Int) := by rw [HKK.out, hk]; rfl
          subst hkv
          have hkn := (pickTo_cand hk).1
          have htk : tk k = false := by
            have := (pickTo_cand hk).2
            unfold candB at this
            simp only [Bool.and_eq_true, Bool.not_eq_true'] at this
            exact this.1.2
          have hq1 : q + 1 ≤ l.length := by
            rw [← HR.out.cnt, ← cnt_upd htk l.length hkn]; exact cnt_le _ _
          have HE : Hid (stateN l at_ but (l.length + 1 - (q + 1)) (upd tk k true) ((dAt l k).ops.foldl laidP (listOf f)) = stateP l at_ but) := Lib.hid (by
            rw [← HR.out.eq, show l.length + 1 - q = (l.length - q) + 1 by omega, show l.length + 1 - (q + 1) = l.length - q by omega]
            show _ = (match pickTo l at_ but tk l.length with | none => listOf f | some k => stateN l at_ but (l.length - q) (upd tk k true) ((dAt l k).ops.foldl laidP (listOf f)))
            rw [hk])
          have HC : Hid (cnt (upd tk k true) l.length = q + 1) := Lib.hid (by rw [cnt_upd htk l.length hkn, HR.out.cnt])
          have B0 := (HR.out.blk.drewN m).set k (.bool true)
          rw [tk_set hkn] at B0
          have HB0 := Lib.hid B0
          have fz := fun o => (HR.out.blk.drewN m).free o
          have tk0 : (wr.drewN m).cell? ⟨tb, k, none⟩ = some (.bool (tk k)) := by rw [(HR.out.blk.drewN m).cell, tk_get hkn]
          have hkl : (k : Int) < (l.length : Int) := by omega
          have hk0 : (0 : Int) ≤ (k : Int) := by omega
          have HI : Hid (StIn w l (dAt l k).ops tb ((wr.drewN m).setCell ⟨tb, k, none⟩ (.bool true)) (upd tk k true) f f a' c' 0) :=
            Lib.hid ⟨(HR.out.o.drewN m).setCell HR.out.new _, B0, (HR.out.pv.only0 ((Only0.refl wr).drewN m)).flag (HR.out.blk.drewN m) _, rfl⟩
          have HNT := Lib.hid HR.out.new
          obtain ⟨g, oa, oc, rfl, hC, hoc, d0, d1, d2, d3, d4, d5⟩ := HD.out.at_ hkn
          have HCL := Lib.hid hC
          have HD5 := Lib.hid d5
          have hol : (dAt l k).ops.length ≤ 200 := HK.out.ops k hkn
          have HOK := Lib.hid (HK.out.ok k hkn)
          generalize hops : (dAt l k).ops = ops at *
          clear hk HKK htk B0 HR HB0 hC d0 d1 d2 d3 d4 d5 hops HDL
          go_wp2_with fail
          go_loopw [7, 11] (fun s7 s11 w3 => ∃ (i : Nat) (f2 : Fn) (a2 : Option Addr) (c2 n2 : Nat), i ≤ ops.length ∧ s11 = .int .i64 i ∧ s7 = .slice a2 n2 c2 ∧ Hid (n2 = (listOf f2).length) ∧ Hid (StIn w l ops tb w3 (upd tk k true) f f2 a2 c2 i)) (fun _ s11 _ => ops.length - (intOf s11).toNat)
          case atStart => exact ⟨0, f, a', c', n', Nat.zero_le _, rfl, rfl, HN', HI⟩
          case round =>
            obtain ⟨i, f2, a2, c2, n2, hi, rfl, rfl, HN2, HI2⟩ := hrel
            clear HI HN'
            by_cases hlt : i < ops.length
            · have hiI : (i : Int) < (ops.length : Int) := by omega
              obtain ⟨g2, pa, pc, rfl, hP, c0, c1, c3, c4, c5, c6, c7, c8, c9⟩ := (HCL.out.only0 HI2.out.o).at_ hlt
              have d5 := cell_only0 HI2.out.o HD5.out
              have hcok : ClOk (ops.getD i default) := HOK.out _ (by rw [List.getD_eq_getElem?_getD, List.getElem?_eq_getElem hlt]; exact List.getElem_mem hlt)
              have HN3 : Hid (ops.drop i = ops.getD i default :: ops.drop (i + 1)) := Lib.hid (by rw [List.drop_eq_getElem_cons hlt, List.getD_eq_getElem?_getD, List.getElem?_eq_getElem hlt]; rfl)
              generalize ops.getD i default = x at *
              have C := ref_laid a2 c2 (listOf f2) wr HI2.out.pv (by have := listOf_len f2; omega) x pa pc
              rw [laidP_listOf f2 hcok, ← HN2.out] at C
              unfold clVal at C
              have HEQ : Hid ((ops.drop (i + 1)).foldl laidP (listOf (laidF f2 x)) = ops.foldl laidP (listOf f)) := Lib.hid (by
                rw [← HI2.out.eq, HN3.out, List.foldl_cons, laidP_listOf f2 hcok])
              have HST : Hid (∀ w4 a4 c4, PV w4 a4 c4 (listOf (laidF f2 x)) → Only0 wr w4 → StIn w l ops tb w4 (upd tk k true) f (laidF f2 x) a4 c4 (i + 1)) := Lib.hid (fun w4 a4 c4 hp ho => ⟨HI2.out.o.trans ho, ho.blk HI2.out.blk (fun hf => hf), hp, HEQ.out⟩)
              clear hP hcok HN3 HEQ HI2
              obtain ⟨⟨k_, ky_, hi_, vl_⟩, ⟨re_, rv_, ps_, ro_, rr_⟩⟩ := x
              dsimp only at c0 c1 c3 c4 c5 c6 c7 c8 c9 C
              go_wp2_with fail
              refine C.mono ?_
              rintro e w4 ⟨a4, c4_, rfl, hp4, o4⟩
              have HN4 := Lib.hid (HST.out w4 a4 c4_ hp4 o4)
              generalize laidF f2 _ = f4 at *
              obtain ⟨n4, hn4⟩ : ∃ n4, n4 = (listOf f4).length := ⟨_, rfl⟩
              rw [← hn4]
              have HNN := Lib.hid hn4
              clear C HST hp4 o4 hn4 c0 c1 c3 c4 c5 c6 c7 c8 c9 d5
              go_wp2_with fail
              go_roundw
              case rel => exact ⟨i + 1, f4, a4, c4_, n4, by omega, by go_num, rfl, HNN, HN4⟩
              case measure => simp [intOf]; omega
            · obtain rfl : i = ops.length := by omega
              have d5 := cell_only0 HI2.out.o HD5.out
              have HF : Hid (listOf f2 = ops.foldl laidP (listOf f)) := Lib.hid (by
                have := HI2.out.eq
                rw [List.drop_length] at this
                exact this)
              have HR2 : Hid (StRel w l at_ but tb wr (upd tk k true) f2 a2 c2 (q + 1)) := Lib.hid ⟨HI2.out.o, HI2.out.blk, HNT.out, HI2.out.pv, by rw [HF.out]; exact HE.out, HC.out⟩
              have HM2 : Hid (cntW wr tb l.length = q + 1) := Lib.hid (by rw [cntW_eq HI2.out.blk]; exact HC.out)
              clear HF HI2 HE HC hlt hi
              go_wp2_with fail
              go_roundw
              case rel => exact ⟨q + 1, _, f2, a2, c2, n2, _, _, _, rfl, rfl, rfl, rfl, HN2, HR2⟩
              case measure => rw [HM2.out, HM.out]; omega
end Go.Proofs.Ytdjehgnkpbkdbaa

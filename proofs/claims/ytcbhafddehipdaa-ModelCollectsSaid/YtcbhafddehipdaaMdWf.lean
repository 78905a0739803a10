/-
  The Model as plain data: what holds of it in every state. No program is named here.
-/
import Derived.Test.YtcbhafddehipdaaMdAlP
namespace Go.Proofs.Ytcbhafddehipdaa
set_option linter.unusedVariables false
set_option linter.unusedSimpArgs false

/-- A version that was committed by a time. -/
def Com (now : Int) (v : Ver) : Prop := v.dead = false ∧ 0 < v.beg ∧ v.beg ≤ now ∧ (v.fin = 0 ∨ v.beg ≤ v.fin ∧ v.fin ≤ now)
/-- A version that lies as its maker left it. -/
def Raw (v : Ver) : Prop := v.beg = 0 ∧ v.fin = 0
/-- Two versions of a key are not there at one time. -/
def Apt (v u : Ver) : Prop := (v.fin ≠ 0 ∧ v.fin ≤ u.beg) ∨ (u.fin ≠ 0 ∧ u.fin ≤ v.beg)
/-- The transaction in j has the cell c of key k. -/
def Has (s : St) (j k : Nat) (t : Tx) (c : Cel) : Prop := s.tx j = some t ∧ t.cells k = some c
structure Wf (s : St) : Prop where
  slots : 0 < s.slots
  nodup : s.l.Nodup
  lin : ∀ i, i ∈ s.l → i < s.vs.length
  /-- what is no slot any more is dead, or ended ahead of all that live. -/
  gone : ∀ i, i < s.vs.length → i ∉ s.l → (s.ver i).dead = true ∨ ((s.ver i).fin ≠ 0 ∧ ∀ j t, s.tx j = some t → (s.ver i).fin ≤ t.beg)
  kind : ∀ i, i < s.vs.length → ((s.ver i).dead = true ∧ Raw (s.ver i)) ∨ Com s.now (s.ver i) ∨ ((s.ver i).dead = false ∧ Raw (s.ver i) ∧ ∃ j k t c, Has s j k t c ∧ c.own = some i)
  /-- the own version of a cell. -/
  own : ∀ j k t c i, Has s j k t c → c.own = some i → i ∈ s.l ∧ (s.ver i).key = (k : Int) ∧ (s.ver i).dead = false ∧ Raw (s.ver i) ∧ (s.ver i).by_ = t.id
  /-- the version that a cell replaces. -/
  old : ∀ j k t c, Has s j k t c → c.old = s.at k t.beg
  kin : ∀ j k t c, Has s j k t c → k < 64
  there : ∀ j k t c, Has s j k t c → c.there = true → c.own.isSome = true
  only : ∀ j i k t u c d, Has s j k t c → Has s i k u d → i = j
  inj : ∀ j k j' k' t t' c c' i, Has s j k t c → Has s j' k' t' c' → c.own = some i → c'.own = some i → j = j' ∧ k = k'
  /-- whoever has a cell bars others: all versions of its key were there at its begin. -/
  bar : ∀ j k t c i, Has s j k t c → i < s.vs.length → (s.ver i).key = (k : Int) → (s.ver i).beg ≤ t.beg ∧ (s.ver i).fin ≤ t.beg
  apt : ∀ i i', i < s.vs.length → i' < s.vs.length → i ≠ i' → (s.ver i).key = (s.ver i').key → 0 < (s.ver i).beg → 0 < (s.ver i').beg → Apt (s.ver i) (s.ver i')
  now : 0 ≤ s.now
  beg : ∀ j t, s.tx j = some t → 0 < t.beg ∧ t.beg ≤ s.now ∧ 0 < t.id ∧ t.id ≤ s.made ∧ j < 8
  ids : ∀ i j t u, s.tx i = some t → s.tx j = some u → t.id = u.id → i = j
  made : 0 ≤ s.made

theorem Wf.new (slots limit : Int) (h : 0 < slots) : Wf (newSt slots limit) := by
  have nx : ∀ j k t c, ¬ Has (newSt slots limit) j k t c := fun j k t c h => by cases h.1
  refine ⟨h, List.nodup_nil, fun i h => (by cases h), fun i h => (by cases h), fun i h => (by cases h), fun j k t c i h => absurd h (nx _ _ _ _), fun j k t c h => absurd h (nx _ _ _ _), fun j k t c h => absurd h (nx _ _ _ _), fun j k t c h => absurd h (nx _ _ _ _), fun j i k t u c d h => absurd h (nx _ _ _ _), fun j k j' k' t t' c c' i h => absurd h (nx _ _ _ _), fun j k t c i h => absurd h (nx _ _ _ _), fun i i' h => (by cases h), Int.le_refl _, fun j t h => (by cases h), fun i j t u h => (by cases h), Int.le_refl _⟩

/-! ### what is seen at a time -/
/-- A version of a key is there at a time. -/
def Vis (v : Ver) (k a : Int) : Prop := v.key = k ∧ 0 < v.beg ∧ v.beg ≤ a ∧ (v.fin = 0 ∨ a < v.fin)
theorem visB_iff {v : Ver} {k a : Int} : visB v k a = true ↔ Vis v k a := by
  unfold visB Vis
  simp only [Bool.and_eq_true, Bool.or_eq_true, decide_eq_true_eq]
  constructor
  · rintro ⟨⟨⟨h1, h2⟩, h3⟩, h4⟩; exact ⟨h1, h2, h3, h4⟩
  · rintro ⟨h1, h2, h3, h4⟩; exact ⟨⟨⟨h1, h2⟩, h3⟩, h4⟩
theorem Wf.one {s : St} (h : Wf s) {i i' : Nat} {k a : Int} (hi : i < s.vs.length) (hi' : i' < s.vs.length) (v : Vis (s.ver i) k a) (v' : Vis (s.ver i') k a) : i = i' := by
  apply Classical.byContradiction
  intro hne
  have := h.apt i i' hi hi' hne (v.1.trans v'.1.symm) v.2.1 v'.2.1
  have a1 := v.2.2.1
  have a2 := v.2.2.2
  have b1 := v'.2.2.1
  have b2 := v'.2.2.2
  rcases this with ⟨x, y⟩ | ⟨x, y⟩ <;> omega
theorem Wf.at_some {s : St} (h : Wf s) {k a : Int} {i : Nat} : s.at k a = some i ↔ i ∈ s.l ∧ Vis (s.ver i) k a := by
  unfold St.at
  constructor
  · intro hf
    exact ⟨List.mem_of_find?_eq_some hf, visB_iff.1 (List.find?_some (p := fun i => visB (s.ver i) k a) hf)⟩
  · rintro ⟨hi, hv⟩
    cases hf : s.l.find? (fun i => visB (s.ver i) k a) with
    | none => exact absurd (visB_iff.2 hv) (by simpa using List.find?_eq_none.1 hf i hi)
    | some x =>
      rw [h.one (h.lin x (List.mem_of_find?_eq_some hf)) (h.lin i hi) (visB_iff.1 (List.find?_some (p := fun i => visB (s.ver i) k a) hf)) hv]
theorem Wf.at_none {s : St} (h : Wf s) {k a : Int} : s.at k a = none ↔ ∀ i, i ∈ s.l → ¬ Vis (s.ver i) k a := by
  constructor
  · intro hn i hi hv
    rw [h.at_some.2 ⟨hi, hv⟩] at hn
    cases hn
  · intro hn
    cases ha : s.at k a with
    | none => rfl
    | some i => exact absurd (h.at_some.1 ha).2 (hn i (h.at_some.1 ha).1)
/-- At a begin of one that lives, or later, nothing is lacking that was collected. -/
theorem Wf.vis_in {s : St} (h : Wf s) {k a : Int} {i : Nat} (hi : i < s.vs.length) (hv : Vis (s.ver i) k a) (ha : a = s.now ∨ ∃ j t, s.tx j = some t ∧ t.beg ≤ a) (hn : a = s.now → ∀ i, i < s.vs.length → (s.ver i).fin ≤ s.now) : i ∈ s.l := by
  apply Classical.byContradiction
  intro hm
  have a1 := hv.2.1
  have a2 := hv.2.2.2
  rcases h.gone i hi hm with hd | ⟨h0, hl⟩
  · rcases h.kind i hi with ⟨_, r⟩ | c | ⟨e, _⟩
    · have := r.1; omega
    · rw [c.1] at hd; cases hd
    · rw [e] at hd; cases hd
  · rcases ha with rfl | ⟨j, t, ht, hb⟩
    · have := hn rfl i hi; omega
    · have := hl j t ht; omega
theorem Wf.fin_le {s : St} (h : Wf s) {i : Nat} (hi : i < s.vs.length) : (s.ver i).fin ≤ s.now ∧ (s.ver i).beg ≤ s.now ∧ 0 ≤ (s.ver i).beg ∧ 0 ≤ (s.ver i).fin ∧ ((s.ver i).fin ≠ 0 → (s.ver i).beg ≤ (s.ver i).fin) := by
  have hn := h.now
  rcases h.kind i hi with ⟨_, r⟩ | c | ⟨_, r, _⟩
  · have := r.1; have := r.2; omega
  · obtain ⟨_, c2, c3, c4⟩ := c; omega
  · have := r.1; have := r.2; omega
theorem Wf.dead_raw {s : St} (h : Wf s) {i : Nat} (hi : i < s.vs.length) (hd : (s.ver i).dead = true) : Raw (s.ver i) := by
  rcases h.kind i hi with ⟨_, r⟩ | c | ⟨e, _⟩
  · exact r
  · rw [c.1] at hd; cases hd
  · rw [e] at hd; cases hd
/-- Nothing is lacking that is seen now, or at the begin of one that lives. -/
theorem Wf.in_l {s : St} (h : Wf s) {k a : Int} {i : Nat} (hi : i < s.vs.length) (hv : Vis (s.ver i) k a) (ha : a = s.now ∨ ∃ j t, s.tx j = some t ∧ t.beg ≤ a) : i ∈ s.l :=
  h.vis_in hi hv ha (fun _ i hi => (h.fin_le hi).1)

/-! ### steps that leave the versions' times -/
def VEq (v u : Ver) : Prop := v.key = u.key ∧ v.by_ = u.by_ ∧ v.beg = u.beg ∧ v.fin = u.fin ∧ v.dead = u.dead
theorem VEq.refl (v : Ver) : VEq v v := ⟨rfl, rfl, rfl, rfl, rfl⟩
theorem VEq.vis {v u : Ver} (h : VEq v u) (k a : Int) : visB v k a = visB u k a := by
  obtain ⟨h1, _, h3, h4, _⟩ := h
  unfold visB; rw [h1, h3, h4]
theorem at_congr {s s' : St} (hl : s'.l = s.l) (hv : ∀ i, VEq (s'.ver i) (s.ver i)) (k a : Int) : s'.at k a = s.at k a := by
  unfold St.at
  rw [hl]
  congr 1
  funext i
  exact (hv i).vis k a
theorem Wf.back {s s' : St} (h : Wf s) (hl : s'.l = s.l) (hn : s'.vs.length = s.vs.length) (hv : ∀ i, VEq (s'.ver i) (s.ver i)) (hnow : s'.now = s.now) (hsl : s'.slots = s.slots) (hm : s'.made = s.made)
    (hT : ∀ j t', s'.tx j = some t' → ∃ t, s.tx j = some t ∧ t.beg = t'.beg ∧ t.id = t'.id ∧ ∀ k c', t'.cells k = some c' → ∃ c, t.cells k = some c ∧ c.own = c'.own ∧ c.old = c'.old ∧ (c'.there = true → c'.own.isSome = true))
    (hF : ∀ j t, s.tx j = some t → ∃ t', s'.tx j = some t' ∧ ∀ k c, t.cells k = some c → ∃ c', t'.cells k = some c' ∧ c'.own = c.own) : Wf s' := by
  have B : ∀ j k t' c', Has s' j k t' c' → ∃ t c, Has s j k t c ∧ t.beg = t'.beg ∧ t.id = t'.id ∧ c.own = c'.own ∧ c.old = c'.old ∧ (c'.there = true → c'.own.isSome = true) := by
    rintro j k t' c' ⟨h1, h2⟩
    obtain ⟨t, ht, hb, hi, hc⟩ := hT j t' h1
    obtain ⟨c, hc1, hc2, hc3, hc4⟩ := hc k c' h2
    exact ⟨t, c, ⟨ht, hc1⟩, hb, hi, hc2, hc3, hc4⟩
  have kk : ∀ i, (s'.ver i).key = (s.ver i).key := fun i => (hv i).1
  have kb : ∀ i, (s'.ver i).beg = (s.ver i).beg := fun i => (hv i).2.2.1
  have kf : ∀ i, (s'.ver i).fin = (s.ver i).fin := fun i => (hv i).2.2.2.1
  have kd : ∀ i, (s'.ver i).dead = (s.ver i).dead := fun i => (hv i).2.2.2.2
  have ky : ∀ i, (s'.ver i).by_ = (s.ver i).by_ := fun i => (hv i).2.1
  have kR : ∀ i, Raw (s.ver i) → Raw (s'.ver i) := fun i r => ⟨(kb i).trans r.1, (kf i).trans r.2⟩
  have kC : ∀ i, Com s.now (s.ver i) → Com s'.now (s'.ver i) := fun i r => by
    unfold Com at *
    rw [kb, kf, kd, hnow]; exact r
  refine ⟨by rw [hsl]; exact h.slots, by rw [hl]; exact h.nodup, fun i hi => by rw [hn]; exact h.lin i (by rw [← hl]; exact hi), fun i hi hm => ?_, fun i hi => ?_, fun j k t c i hh ho => ?_, fun j k t c hh => ?_, fun j k t c hh => ?_, fun j k t c hh ht => ?_, fun j i k t u c d h1 h2 => ?_, fun j k j' k' t t' c c' i h1 h2 o1 o2 => ?_, fun j k t c i hh hi hk => ?_, fun i i' hi hi' hne hk hb hb' => ?_, by rw [hnow]; exact h.now, fun j t ht => ?_, fun i j t u h1 h2 e => ?_, by rw [hm]; exact h.made⟩
  · rw [kd, kf]
    rcases h.gone i (by omega) (by rw [← hl]; exact hm) with h1 | ⟨h1, h2⟩
    · exact .inl h1
    · refine .inr ⟨h1, fun j t ht => ?_⟩
      obtain ⟨t0, ht0, hb, _⟩ := hT j t ht
      rw [← hb]; exact h2 j t0 ht0
  · rcases h.kind i (by omega) with ⟨h1, h2⟩ | h1 | ⟨h1, h2, j, k, t, c, hh, ho⟩
    · exact .inl ⟨by rw [kd]; exact h1, kR i h2⟩
    · exact .inr (.inl (kC i h1))
    · obtain ⟨t', ht', hc⟩ := hF j t hh.1
      obtain ⟨c', hc', ho'⟩ := hc k c hh.2
      exact .inr (.inr ⟨by rw [kd]; exact h1, kR i h2, j, k, t', c', ⟨ht', hc'⟩, by rw [ho']; exact ho⟩)
  · obtain ⟨t0, c0, h0, hb, hi, e1, e2, e3⟩ := B j k t c hh
    obtain ⟨a1, a2, a3, a4, a5⟩ := h.own j k t0 c0 i h0 (by rw [e1]; exact ho)
    exact ⟨by rw [hl]; exact a1, by rw [kk]; exact a2, by rw [kd]; exact a3, kR i a4, by rw [ky, ← hi]; exact a5⟩
  · obtain ⟨t0, c0, h0, hb, hi, e1, e2, e3⟩ := B j k t c hh
    rw [← e2, h.old j k t0 c0 h0, hb]
    exact (at_congr hl hv _ _).symm
  · obtain ⟨t0, c0, h0, _⟩ := B j k t c hh
    exact h.kin j k t0 c0 h0
  · obtain ⟨t0, c0, h0, hb, hi, e1, e2, e3⟩ := B j k t c hh
    exact e3 ht
  · obtain ⟨t0, c0, h0, _⟩ := B j k t c h1
    obtain ⟨u0, d0, h0', _⟩ := B i k u d h2
    exact h.only j i k t0 u0 c0 d0 h0 h0'
  · obtain ⟨t0, c0, h0, hb, hi, e1, e2, e3⟩ := B j k t c h1
    obtain ⟨u0, d0, h0', hb', hi', e1', e2', e3'⟩ := B j' k' t' c' h2
    exact h.inj j k j' k' t0 u0 c0 d0 i h0 h0' (by rw [e1]; exact o1) (by rw [e1']; exact o2)
  · obtain ⟨t0, c0, h0, hb, _⟩ := B j k t c hh
    rw [kb, kf, ← hb]
    exact h.bar j k t0 c0 i h0 (by omega) (by rw [← kk]; exact hk)
  · have := h.apt i i' (by omega) (by omega) hne (by rw [← kk, ← kk]; exact hk) (by rw [← kb]; exact hb) (by rw [← kb]; exact hb')
    unfold Apt at *
    rw [kf, kb, kf, kb]; exact this
  · obtain ⟨t0, ht0, hb, hi, _⟩ := hT j t ht
    have := h.beg j t0 ht0
    rw [← hb, ← hi, hnow, hm]; exact this
  · obtain ⟨t0, ht0, _, hi, _⟩ := hT i t h1
    obtain ⟨u0, hu0, _, hi', _⟩ := hT j u h2
    exact h.ids i j t0 u0 ht0 hu0 (by rw [hi, hi']; exact e)
theorem setTx_tx (s : St) (j i : Nat) (t : Option Tx) : (s.setTx j t).tx i = if i = j then t else s.tx i := by
  by_cases h : i = j
  · subst h; rw [setTx_same, if_pos rfl]
  · rw [if_neg h]; exact upd_other _ _ _ h
/-- A transaction's numbers turn, but not its cells. -/
theorem Wf.retx {s : St} (h : Wf s) {j : Nat} {t t' : Tx} (ht : s.tx j = some t) (hc : t'.cells = t.cells) (hb : t'.beg = t.beg) (hi : t'.id = t.id) : Wf (s.setTx j (some t')) := by
  refine h.back rfl rfl (fun i => VEq.refl _) rfl rfl rfl (fun i u hu => ?_) (fun i u hu => ?_)
  · rw [setTx_tx] at hu
    by_cases e : i = j
    · subst e
      rw [if_pos rfl] at hu; injection hu with hu; subst hu
      exact ⟨t, ht, hb.symm, hi.symm, fun k c hk => ⟨c, by rw [← hc]; exact hk, rfl, rfl, h.there i k t c ⟨ht, by rw [← hc]; exact hk⟩⟩⟩
    · rw [if_neg e] at hu
      exact ⟨u, hu, rfl, rfl, fun k c hk => ⟨c, hk, rfl, rfl, h.there i k u c ⟨hu, hk⟩⟩⟩
  · by_cases e : i = j
    · subst e
      rw [ht] at hu; injection hu with hu; subst hu
      exact ⟨t', setTx_same _ _ _, fun k c hk => ⟨c, by rw [hc]; exact hk, rfl⟩⟩
    · exact ⟨u, by rw [setTx_tx, if_neg e]; exact hu, fun k c hk => ⟨c, hk, rfl⟩⟩
/-- A cell's flag turns. -/
theorem Wf.flag {s : St} (h : Wf s) {j k : Nat} {t : Tx} {c : Cel} (hh : Has s j k t c) (b : Bool) (hb : b = true → c.own.isSome = true) : Wf (s.setTx j (some (t.put k { c with there := b }))) := by
  refine h.back rfl rfl (fun i => VEq.refl _) rfl rfl rfl (fun i u hu => ?_) (fun i u hu => ?_)
  · rw [setTx_tx] at hu
    by_cases e : i = j
    · subst e
      rw [if_pos rfl] at hu; injection hu with hu; subst hu
      refine ⟨t, hh.1, rfl, rfl, fun k' c' hk => ?_⟩
      rw [put_cells] at hk
      by_cases e : k' = k
      · subst e
        rw [if_pos rfl] at hk; injection hk with hk; subst hk
        exact ⟨c, hh.2, rfl, rfl, hb⟩
      · rw [if_neg e] at hk
        exact ⟨c', hk, rfl, rfl, h.there i k' t c' ⟨hh.1, hk⟩⟩
    · rw [if_neg e] at hu
      exact ⟨u, hu, rfl, rfl, fun k c hk => ⟨c, hk, rfl, rfl, h.there i k u c ⟨hu, hk⟩⟩⟩
  · by_cases e : i = j
    · subst e
      rw [hh.1] at hu; injection hu with hu; subst hu
      refine ⟨_, setTx_same _ _ _, fun k' c' hk => ?_⟩
      rw [put_cells]
      by_cases e : k' = k
      · subst e
        rw [hh.2] at hk; injection hk with hk; subst hk
        exact ⟨{ c with there := b }, if_pos rfl, rfl⟩
      · exact ⟨c', by rw [if_neg e]; exact hk, rfl⟩
    · exact ⟨u, by rw [setTx_tx, if_neg e]; exact hu, fun k c hk => ⟨c, hk, rfl⟩⟩
theorem Wf.setVal {s : St} (h : Wf s) (i : Nat) (x : Int) : Wf (s.setVal i x) := by
  refine h.back rfl (by show (s.vs.set i _).length = _; simp) (fun k => ?_) rfl rfl rfl (fun j t ht => ⟨t, ht, rfl, rfl, fun k c hk => ⟨c, hk, rfl, rfl, h.there j k t c ⟨ht, hk⟩⟩⟩) (fun j t ht => ⟨t, ht, fun k c hk => ⟨c, hk, rfl⟩⟩)
  rw [ver_setVal]
  split
  · rename_i hx
    obtain ⟨rfl, _⟩ := hx
    exact VEq.refl _
  · exact VEq.refl _
end Go.Proofs.Ytcbhafddehipdaa

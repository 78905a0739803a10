/-
  The Model as plain data: what holds of it goes on holding: begin, a new cell, a new version, the ends, Collect.
-/
import Derived.Test.YtcbhafddehipdaaMdWf
namespace Go.Proofs.Ytcbhafddehipdaa
set_option linter.unusedVariables false
set_option linter.unusedSimpArgs false

theorem find_congr {α : Type} {p q : α → Bool} : ∀ {l : List α}, (∀ x, x ∈ l → p x = q x) → l.find? p = l.find? q := by
  intro l
  induction l with
  | nil => intro _; rfl
  | cons a l ih =>
    intro h
    rw [List.find?_cons, List.find?_cons, h a (by simp), ih (fun x hx => h x (by simp [hx]))]
theorem Has.congr {s s' : St} (h : s'.tx = s.tx) {j k : Nat} {t : Tx} {c : Cel} : Has s' j k t c ↔ Has s j k t c := by unfold Has; rw [h]
theorem upd_tx {α : Type} (f : Nat → α) (j i : Nat) (x : α) : upd f j x i = if i = j then x else f i := rfl
/-! ### begin -/
theorem Wf.begun {s : St} (h : Wf s) {j : Nat} (hj : j < 8) (hn : s.tx j = none) (level : Int) (s' : St) (hs : s' = { s with made := s.made + 1, now := s.now + 1, tx := upd s.tx j (some (newTx (s.made + 1) level (s.now + 1))) }) : Wf s' := by
  have htx : ∀ i, s'.tx i = if i = j then some (newTx (s.made + 1) level (s.now + 1)) else s.tx i := fun i => by rw [hs]; rfl
  have hnow : s'.now = s.now + 1 := by rw [hs]
  have hmade : s'.made = s.made + 1 := by rw [hs]
  have hl : s'.l = s.l := by rw [hs]
  have hvs : s'.vs = s.vs := by rw [hs]
  have hv : ∀ i, s'.ver i = s.ver i := fun i => by rw [hs]; rfl
  have hsl : s'.slots = s.slots := by rw [hs]
  have hat : ∀ k a, s'.at k a = s.at k a := fun k a => by rw [hs]; rfl
  have B : ∀ i k t c, Has s' i k t c → Has s i k t c := by
    rintro i k t c ⟨h1, h2⟩
    rw [htx] at h1
    by_cases e : i = j
    · rw [if_pos e] at h1; injection h1 with h1; subst h1; cases h2
    · rw [if_neg e] at h1; exact ⟨h1, h2⟩
  have F : ∀ i k t c, Has s i k t c → Has s' i k t c := by
    rintro i k t c ⟨h1, h2⟩
    refine ⟨?_, h2⟩
    rw [htx, if_neg (fun e => by rw [e, hn] at h1; cases h1)]; exact h1
  clear hs
  refine ⟨by rw [hsl]; exact h.slots, by rw [hl]; exact h.nodup, fun i hi => by rw [hvs]; exact h.lin i (by rw [← hl]; exact hi), fun i hi hm => ?_, fun i hi => ?_, fun i k t c x hh ho => ?_, fun i k t c hh => ?_, fun i k t c hh => h.kin i k t c (B _ _ _ _ hh), fun i k t c hh ht => h.there i k t c (B _ _ _ _ hh) ht, fun i i' k t u c d h1 h2 => h.only i i' k t u c d (B _ _ _ _ h1) (B _ _ _ _ h2), fun i k i' k' t t' c c' x h1 h2 o1 o2 => h.inj i k i' k' t t' c c' x (B _ _ _ _ h1) (B _ _ _ _ h2) o1 o2, fun i k t c x hh hi hk => ?_, fun i i' hi hi' hne hk hb hb' => ?_, by rw [hnow]; have := h.now; omega, fun i t ht => ?_, fun i i' t u h1 h2 e => ?_, by rw [hmade]; have := h.made; omega⟩
  · rw [hvs] at hi
    rw [hl] at hm
    rw [hv]
    rcases h.gone i hi hm with h1 | ⟨h1, h2⟩
    · exact .inl h1
    · refine .inr ⟨h1, fun i' t ht => ?_⟩
      rw [htx] at ht
      by_cases e : i' = j
      · rw [if_pos e] at ht; injection ht with ht; subst ht
        have := (h.fin_le hi).1
        show _ ≤ s.now + 1
        omega
      · rw [if_neg e] at ht; exact h2 i' t ht
  · rw [hvs] at hi
    rw [hv, hnow]
    rcases h.kind i hi with h1 | h1 | ⟨h1, h2, i', k, t, c, hh, ho⟩
    · exact .inl h1
    · obtain ⟨c1, c2, c3, c4⟩ := h1
      exact .inr (.inl ⟨c1, c2, by omega, by omega⟩)
    · exact .inr (.inr ⟨h1, h2, i', k, t, c, F _ _ _ _ hh, ho⟩)
  · rw [hl, hv]; exact h.own i k t c x (B _ _ _ _ hh) ho
  · rw [hat]; exact h.old i k t c (B _ _ _ _ hh)
  · rw [hv] at hk ⊢
    rw [hvs] at hi
    exact h.bar i k t c x (B _ _ _ _ hh) hi hk
  · rw [hvs] at hi hi'
    rw [hv] at hk hb
    rw [hv] at hk hb'
    rw [hv, hv]
    exact h.apt i i' hi hi' hne hk hb hb'
  · rw [htx] at ht
    rw [hnow, hmade]
    by_cases e : i = j
    · rw [if_pos e] at ht; injection ht with ht; subst ht
      have := h.now
      have := h.made
      subst e
      show 0 < s.now + 1 ∧ s.now + 1 ≤ s.now + 1 ∧ 0 < s.made + 1 ∧ s.made + 1 ≤ s.made + 1 ∧ _
      omega
    · rw [if_neg e] at ht
      have := h.beg i t ht
      omega
  · rw [htx] at h1 h2
    by_cases e1 : i = j
    · by_cases e2 : i' = j
      · rw [e1, e2]
      · rw [if_pos e1] at h1; rw [if_neg e2] at h2
        injection h1 with h1; subst h1
        have := h.beg i' u h2
        have e' : s.made + 1 = u.id := e
        omega
    · by_cases e2 : i' = j
      · rw [if_neg e1] at h1; rw [if_pos e2] at h2
        injection h2 with h2; subst h2
        have := h.beg i t h1
        have e' : t.id = s.made + 1 := e
        omega
      · rw [if_neg e1] at h1; rw [if_neg e2] at h2
        exact h.ids i i' t u h1 h2 e
/-! ### a new cell -/
theorem others_none {s : St} {j k : Nat} (h : s.others j k = false) {i : Nat} (hi : i < 8) (hij : i ≠ j) {u : Tx} (hu : s.tx i = some u) : u.cells k = none := by
  unfold St.others at h
  rw [List.any_eq_false] at h
  have := h i (by simpa using hi)
  unfold holderB at this
  rw [hu] at this
  simp [hij] at this
  exact this
theorem later_none {s : St} {k a : Int} (h : s.later k a = false) {i : Nat} (hi : i ∈ s.l) (hk : (s.ver i).key = k) : (s.ver i).beg ≤ a ∧ (s.ver i).fin ≤ a := by
  unfold St.later at h
  rw [List.any_eq_false] at h
  have := h i hi
  unfold laterB at this
  simp [hk] at this
  exact this
theorem Wf.newcell {s : St} (h : Wf s) {j k : Nat} {t : Tx} (ht : s.tx j = some t) (hc : t.cells k = none) (hk64 : k < 64) (ho : s.others j k = false) (hl : s.later k t.beg = false) : Wf (s.setTx j (some (t.put k ⟨none, s.at k t.beg, false⟩))) := by
  have htb := h.beg j t ht
  have hcell : ∀ k', (t.put k ⟨none, s.at k t.beg, false⟩).cells k' = if k' = k then some ⟨none, s.at k t.beg, false⟩ else t.cells k' := fun k' => put_cells _ _ _ _
  obtain ⟨t', ht'⟩ : ∃ t', t' = t.put k ⟨none, s.at k t.beg, false⟩ := ⟨_, rfl⟩
  have hb' : t'.beg = t.beg := by rw [ht']; rfl
  have hi' : t'.id = t.id := by rw [ht']; rfl
  rw [← ht'] at hcell ⊢
  clear ht'
  obtain ⟨s', hs'⟩ : ∃ s', s' = s.setTx j (some t') := ⟨_, rfl⟩
  have htx : ∀ i, s'.tx i = if i = j then some t' else s.tx i := fun i => by rw [hs']; exact setTx_tx _ _ _ _
  have hnow : s'.now = s.now := by rw [hs']; rfl
  have hmade : s'.made = s.made := by rw [hs']; rfl
  have hll : s'.l = s.l := by rw [hs']; rfl
  have hvs : s'.vs = s.vs := by rw [hs']; rfl
  have hv : ∀ i, s'.ver i = s.ver i := fun i => by rw [hs']; rfl
  have hsl : s'.slots = s.slots := by rw [hs']; rfl
  have hat : ∀ k a, s'.at k a = s.at k a := fun k a => by rw [hs']; rfl
  rw [← hs']
  clear hs'
  -- a cell is the new one, or was there
  have B : ∀ i x u d, Has s' i x u d → (i = j ∧ x = k ∧ u = t' ∧ d = ⟨none, s.at k t.beg, false⟩) ∨ (¬ (i = j ∧ x = k) ∧ ∃ u0, Has s i x u0 d ∧ u0.beg = u.beg ∧ u0.id = u.id) := by
    rintro i x u d ⟨h1, h2⟩
    rw [htx] at h1
    by_cases e : i = j
    · subst e
      rw [if_pos rfl] at h1; injection h1 with h1; subst h1
      rw [hcell] at h2
      by_cases e2 : x = k
      · rw [if_pos e2] at h2; injection h2 with h2
        exact .inl ⟨rfl, e2, rfl, h2.symm⟩
      · rw [if_neg e2] at h2
        exact .inr ⟨fun e => e2 e.2, t, ⟨ht, h2⟩, hb'.symm, hi'.symm⟩
    · rw [if_neg e] at h1
      exact .inr ⟨fun e' => e e'.1, u, ⟨h1, h2⟩, rfl, rfl⟩
  have F : ∀ i x u d, Has s i x u d → ∃ u', Has s' i x u' d := by
    rintro i x u d ⟨h1, h2⟩
    by_cases e : i = j
    · subst e
      rw [ht] at h1; injection h1 with h1; subst h1
      refine ⟨t', by rw [htx, if_pos rfl], ?_⟩
      rw [hcell, if_neg (fun e => by rw [e, hc] at h2; cases h2)]; exact h2
    · exact ⟨u, by rw [htx, if_neg e]; exact h1, h2⟩
  have nob : ∀ i u d, Has s i k u d → False := by
    rintro i u d ⟨h1, h2⟩
    by_cases e : i = j
    · subst e; rw [ht] at h1; injection h1 with h1; subst h1; rw [hc] at h2; cases h2
    · rw [others_none ho (h.beg i u h1).2.2.2.2 e h1] at h2; cases h2
  have bars : ∀ x, x < s.vs.length → (s.ver x).key = (k : Int) → (s.ver x).beg ≤ t.beg ∧ (s.ver x).fin ≤ t.beg := by
    intro x hx hxk
    by_cases hm : x ∈ s.l
    · exact later_none hl hm hxk
    · rcases h.gone x hx hm with hd | ⟨h0, hd⟩
      · have r := h.dead_raw hx hd
        rw [r.1, r.2]; omega
      · have := hd j t ht
        have := (h.fin_le hx).2.2.2.2 h0
        omega
  refine ⟨by rw [hsl]; exact h.slots, by rw [hll]; exact h.nodup, fun i hi => by rw [hvs]; exact h.lin i (by rw [← hll]; exact hi), fun i hi hm => ?_, fun i hi => ?_, fun i x u d y hh ho => ?_, fun i x u d hh => ?_, fun i x u d hh => ?_, fun i x u d hh ht => ?_, fun i i' x u u' d d' h1 h2 => ?_, fun i x i' x' u u' d d' y h1 h2 o1 o2 => ?_, fun i x u d y hh hi hk => ?_, fun i i' hi hi' hne hk hb hb' => ?_, by rw [hnow]; exact h.now, fun i u hu => ?_, fun i i' u u' h1 h2 e => ?_, by rw [hmade]; exact h.made⟩
  · rw [hvs] at hi; rw [hll] at hm; rw [hv]
    rcases h.gone i hi hm with h1 | ⟨h1, h2⟩
    · exact .inl h1
    · refine .inr ⟨h1, fun i' u hu => ?_⟩
      rw [htx] at hu
      by_cases e : i' = j
      · rw [if_pos e] at hu; injection hu with hu; subst hu
        rw [hb']; exact h2 j t ht
      · rw [if_neg e] at hu; exact h2 i' u hu
  · rw [hvs] at hi; rw [hv, hnow]
    rcases h.kind i hi with h1 | h1 | ⟨h1, h2, i', x, u, d, hh, ho⟩
    · exact .inl h1
    · exact .inr (.inl h1)
    · obtain ⟨u', hu'⟩ := F _ _ _ _ hh
      exact .inr (.inr ⟨h1, h2, i', x, u', d, hu', ho⟩)
  · rcases B _ _ _ _ hh with ⟨-, -, -, rfl⟩ | ⟨-, u0, h0, -, e⟩
    · cases ho
    · rw [hll, hv, ← e]; exact h.own i x u0 d y h0 ho
  · rw [hat]
    rcases B _ _ _ _ hh with ⟨-, rfl, rfl, rfl⟩ | ⟨-, u0, h0, e, -⟩
    · rw [hb']
    · rw [← e]; exact h.old i x u0 d h0
  · rcases B _ _ _ _ hh with ⟨-, rfl, -, -⟩ | ⟨-, u0, h0, e, -⟩
    · exact hk64
    · exact h.kin i x u0 d h0
  · rcases B _ _ _ _ hh with ⟨-, -, -, rfl⟩ | ⟨-, u0, h0, e, -⟩
    · cases ht
    · exact h.there i x u0 d h0 ht
  · rcases B _ _ _ _ h1 with ⟨rfl, rfl, -, -⟩ | ⟨-, u0, h0, -⟩
    · rcases B _ _ _ _ h2 with ⟨rfl, -⟩ | ⟨-, u0, h0, -⟩
      · rfl
      · exact (nob _ _ _ h0).elim
    · rcases B _ _ _ _ h2 with ⟨rfl, rfl, -, -⟩ | ⟨-, v0, h0', -⟩
      · exact (nob _ _ _ h0).elim
      · exact h.only i i' x u0 v0 d d' h0 h0'
  · rcases B _ _ _ _ h1 with ⟨-, -, -, rfl⟩ | ⟨-, u0, h0, -⟩
    · cases o1
    · rcases B _ _ _ _ h2 with ⟨-, -, -, rfl⟩ | ⟨-, v0, h0', -⟩
      · cases o2
      · exact h.inj i x i' x' u0 v0 d d' y h0 h0' o1 o2
  · rw [hvs] at hi; rw [hv] at hk ⊢
    rcases B _ _ _ _ hh with ⟨-, rfl, rfl, -⟩ | ⟨-, u0, h0, e, -⟩
    · rw [hb']; exact bars y hi hk
    · rw [← e]; exact h.bar i x u0 d y h0 hi hk
  · rw [hvs] at hi hi'
    rw [hv] at hk hb
    rw [hv] at hk hb'
    rw [hv, hv]
    exact h.apt i i' hi hi' hne hk hb hb'
  · rw [htx] at hu; rw [hnow, hmade]
    by_cases e : i = j
    · rw [if_pos e] at hu; injection hu with hu; subst hu
      rw [hb', hi', e]; exact h.beg j t ht
    · rw [if_neg e] at hu; exact h.beg i u hu
  · have bk : ∀ i u, s'.tx i = some u → ∃ u0, s.tx i = some u0 ∧ u0.id = u.id := by
      intro i u hu
      rw [htx] at hu
      by_cases e : i = j
      · rw [if_pos e] at hu; injection hu with hu; subst hu; rw [e]; exact ⟨t, ht, hi'.symm⟩
      · rw [if_neg e] at hu; exact ⟨u, hu, rfl⟩
    obtain ⟨u0, hu0, e1⟩ := bk i u h1
    obtain ⟨u1, hu1, e2⟩ := bk i' u' h2
    exact h.ids i i' u0 u1 hu0 hu1 (by rw [e1, e2]; exact e)
/-! ### a new version -/
theorem Wf.grown {s : St} (h : Wf s) {j k : Nat} {t : Tx} {c : Cel} (hh : Has s j k t c) (hco : c.own = none) (x : Int) : Wf ((s.grow ⟨k, x, t.id, 0, 0, false⟩).setTx j (some (t.put k { c with own := some s.vs.length, there := true }))) := by
  have htb := h.beg j t hh.1
  obtain ⟨c', hc'⟩ : ∃ c', c' = ({ c with own := some s.vs.length, there := true } : Cel) := ⟨_, rfl⟩
  have co : c'.own = some s.vs.length := by rw [hc']
  have cd : c'.old = c.old := by rw [hc']
  rw [← hc']
  clear hc'
  have hcell : ∀ k', (t.put k c').cells k' = if k' = k then some c' else t.cells k' := fun k' => put_cells _ _ _ _
  obtain ⟨t', ht'⟩ : ∃ t', t' = t.put k c' := ⟨_, rfl⟩
  have hb' : t'.beg = t.beg := by rw [ht']; rfl
  have hi' : t'.id = t.id := by rw [ht']; rfl
  rw [← ht'] at hcell ⊢
  clear ht'
  obtain ⟨s', hs'⟩ : ∃ s', s' = (s.grow ⟨k, x, t.id, 0, 0, false⟩).setTx j (some t') := ⟨_, rfl⟩
  have htx : ∀ i, s'.tx i = if i = j then some t' else s.tx i := fun i => by rw [hs']; exact setTx_tx _ _ _ _
  have hnow : s'.now = s.now := by rw [hs']; rfl
  have hmade : s'.made = s.made := by rw [hs']; rfl
  have hll : s'.l = s.l ++ [s.vs.length] := by rw [hs']; rfl
  have hvs : s'.vs.length = s.vs.length + 1 := by rw [hs']; show (s.vs ++ [_]).length = _; simp
  have hv : ∀ i, i < s.vs.length → s'.ver i = s.ver i := fun i hi => by rw [hs']; exact ver_grow hi
  have hvn : s'.ver s.vs.length = ⟨k, x, t.id, 0, 0, false⟩ := by rw [hs']; exact ver_grow_new
  have hsl : s'.slots = s.slots := by rw [hs']; rfl
  rw [← hs']
  clear hs'
  have hat : ∀ k a, s'.at k a = s.at k a := fun k a => by
    unfold St.at
    rw [hll, List.find?_append]
    have e1 : List.find? (fun i => visB (s'.ver i) k a) s.l = List.find? (fun i => visB (s.ver i) k a) s.l := by
      apply find_congr
      intro i hi
      rw [hv i (h.lin i hi)]
    have e2 : List.find? (fun i => visB (s'.ver i) k a) [s.vs.length] = none := by
      simp [hvn, visB]
    rw [e1, e2, Option.or_none]
  have B : ∀ i y u d, Has s' i y u d → (i = j ∧ y = k ∧ u = t' ∧ d = c') ∨ (¬ (i = j ∧ y = k) ∧ ∃ u0, Has s i y u0 d ∧ u0.beg = u.beg ∧ u0.id = u.id) := by
    rintro i y u d ⟨h1, h2⟩
    rw [htx] at h1
    by_cases e : i = j
    · subst e
      rw [if_pos rfl] at h1; injection h1 with h1; subst h1
      rw [hcell] at h2
      by_cases e2 : y = k
      · rw [if_pos e2] at h2; injection h2 with h2
        exact .inl ⟨rfl, e2, rfl, h2.symm⟩
      · rw [if_neg e2] at h2
        exact .inr ⟨fun e => e2 e.2, t, ⟨hh.1, h2⟩, hb'.symm, hi'.symm⟩
    · rw [if_neg e] at h1
      exact .inr ⟨fun e' => e e'.1, u, ⟨h1, h2⟩, rfl, rfl⟩
  have F : ∀ i y u d z, Has s i y u d → d.own = some z → ∃ u', Has s' i y u' d := by
    rintro i y u d z ⟨h1, h2⟩ hz
    by_cases e : i = j
    · subst e
      rw [hh.1] at h1; injection h1 with h1; subst h1
      refine ⟨t', by rw [htx, if_pos rfl], ?_⟩
      rw [hcell, if_neg (fun e => by rw [e, hh.2] at h2; injection h2 with h2; rw [← h2, hco] at hz; cases hz)]; exact h2
    · exact ⟨u, by rw [htx, if_neg e]; exact h1, h2⟩
  have hhn : Has s' j k t' c' := ⟨by rw [htx, if_pos rfl], by rw [hcell, if_pos rfl]⟩
  have ownlt : ∀ i y u d z, Has s i y u d → d.own = some z → z < s.vs.length := fun i y u d z h0 hz => h.lin z (h.own i y u d z h0 hz).1
  refine ⟨by rw [hsl]; exact h.slots, ?_, fun i hi => ?_, fun i hi hm => ?_, fun i hi => ?_, fun i y u d z hh ho => ?_, fun i y u d hh => ?_, fun i y u d hh => ?_, fun i y u d hh ht => ?_, fun i i' y u u' d d' h1 h2 => ?_, fun i y i' y' u u' d d' z h1 h2 o1 o2 => ?_, fun i y u d z hh hi hk => ?_, fun i i' hi hi' hne hk hb hb' => ?_, by rw [hnow]; exact h.now, fun i u hu => ?_, fun i i' u u' h1 h2 e => ?_, by rw [hmade]; exact h.made⟩
  · rw [hll, List.nodup_append]
    refine ⟨h.nodup, by simp, fun a ha b hb e => ?_⟩
    have := h.lin a ha
    simp at hb
    omega
  · rw [hll] at hi
    rw [hvs]
    rcases List.mem_append.1 hi with h1 | h1
    · have := h.lin i h1; omega
    · simp at h1; omega
  · rw [hvs] at hi; rw [hll] at hm
    have hm1 : i ∉ s.l := fun e => hm (List.mem_append.2 (.inl e))
    have hm2 : i ≠ s.vs.length := fun e => hm (List.mem_append.2 (.inr (by simp [e])))
    rw [hv i (by omega)]
    rcases h.gone i (by omega) hm1 with h1 | ⟨h1, h2⟩
    · exact .inl h1
    · refine .inr ⟨h1, fun i' u hu => ?_⟩
      rw [htx] at hu
      by_cases e : i' = j
      · rw [if_pos e] at hu; injection hu with hu; subst hu
        rw [hb']; exact h2 j t hh.1
      · rw [if_neg e] at hu; exact h2 i' u hu
  · rw [hvs] at hi
    by_cases e : i = s.vs.length
    · subst e
      rw [hvn]
      exact .inr (.inr ⟨rfl, ⟨rfl, rfl⟩, j, k, t', c', hhn, co⟩)
    · rw [hv i (by omega), hnow]
      rcases h.kind i (by omega) with h1 | h1 | ⟨h1, h2, i', y, u, d, h0, ho⟩
      · exact .inl h1
      · exact .inr (.inl h1)
      · obtain ⟨u', hu'⟩ := F _ _ _ _ _ h0 ho
        exact .inr (.inr ⟨h1, h2, i', y, u', d, hu', ho⟩)
  · rcases B _ _ _ _ hh with ⟨rfl, rfl, rfl, rfl⟩ | ⟨-, u0, h0, -, e⟩
    · rw [co] at ho; injection ho with ho; subst ho
      rw [hvn, hll, hi']
      exact ⟨List.mem_append.2 (.inr (by simp)), rfl, rfl, ⟨rfl, rfl⟩, rfl⟩
    · rw [hll, hv z (ownlt _ _ _ _ _ h0 ho), ← e]
      have := h.own i y u0 d z h0 ho
      exact ⟨List.mem_append.2 (.inl this.1), this.2⟩
  · rw [hat]
    rcases B _ _ _ _ hh with ⟨rfl, rfl, rfl, rfl⟩ | ⟨-, u0, h0, e, -⟩
    · rw [hb', cd]; exact h.old i y t c ‹Has s i y t c›
    · rw [← e]; exact h.old i y u0 d h0
  · rcases B _ _ _ _ hh with ⟨rfl, rfl, -, -⟩ | ⟨-, u0, h0, e, -⟩
    · exact h.kin _ _ _ _ ‹Has s i y t c›
    · exact h.kin i y u0 d h0
  · rcases B _ _ _ _ hh with ⟨-, -, -, rfl⟩ | ⟨-, u0, h0, e, -⟩
    · rw [co]; rfl
    · exact h.there i y u0 d h0 ht
  · have bk : ∀ i y u d, Has s' i y u d → ∃ u0 d0, Has s i y u0 d0 := by
      intro i y u d h1
      rcases B _ _ _ _ h1 with ⟨rfl, rfl, -, -⟩ | ⟨-, u0, h0, -⟩
      · exact ⟨t, c, hh⟩
      · exact ⟨u0, d, h0⟩
    obtain ⟨u0, d0, h0⟩ := bk _ _ _ _ h1
    obtain ⟨u1, d1, h1'⟩ := bk _ _ _ _ h2
    exact h.only i i' y u0 u1 d0 d1 h0 h1'
  · rcases B _ _ _ _ h1 with ⟨rfl, rfl, -, rfl⟩ | ⟨n1, u0, h0, -⟩
    · rcases B _ _ _ _ h2 with ⟨rfl, rfl, -, -⟩ | ⟨-, v0, h0', -⟩
      · exact ⟨rfl, rfl⟩
      · rw [co] at o1; injection o1 with o1; subst o1
        have := ownlt _ _ _ _ _ h0' o2
        omega
    · rcases B _ _ _ _ h2 with ⟨rfl, rfl, -, rfl⟩ | ⟨-, v0, h0', -⟩
      · rw [co] at o2; injection o2 with o2; subst o2
        have := ownlt _ _ _ _ _ h0 o1
        omega
      · exact h.inj i y i' y' u0 v0 d d' z h0 h0' o1 o2
  · rw [hvs] at hi
    by_cases e : z = s.vs.length
    · subst e
      rw [hvn]
      rcases B _ _ _ _ hh with ⟨-, -, rfl, -⟩ | ⟨-, u0, h0, e, -⟩
      · rw [hb']; show (0 : Int) ≤ _ ∧ (0 : Int) ≤ _; omega
      · have := h.beg i u0 h0.1
        rw [← e]; show (0 : Int) ≤ _ ∧ (0 : Int) ≤ _; omega
    · rw [hv z (by omega)] at hk ⊢
      rcases B _ _ _ _ hh with ⟨rfl, rfl, rfl, -⟩ | ⟨-, u0, h0, e, -⟩
      · rw [hb']; exact h.bar i y t c z ‹Has s i y t c› (by omega) hk
      · rw [← e]; exact h.bar i y u0 d z h0 (by omega) hk
  · rw [hvs] at hi hi'
    by_cases e : i = s.vs.length
    · rw [e, hvn] at hb; exact absurd hb (by show ¬ ((0 : Int) < 0); decide)
    · by_cases e' : i' = s.vs.length
      · rw [e', hvn] at hb'; exact absurd hb' (by show ¬ ((0 : Int) < 0); decide)
      · rw [hv i (by omega)] at hk hb
        rw [hv i' (by omega)] at hk hb'
        rw [hv i (by omega), hv i' (by omega)]
        exact h.apt i i' (by omega) (by omega) hne hk hb hb'
  · rw [htx] at hu; rw [hnow, hmade]
    by_cases e : i = j
    · rw [if_pos e] at hu; injection hu with hu; subst hu
      rw [hb', hi', e]; exact h.beg j t hh.1
    · rw [if_neg e] at hu; exact h.beg i u hu
  · have bk : ∀ i u, s'.tx i = some u → ∃ u0, s.tx i = some u0 ∧ u0.id = u.id := by
      intro i u hu
      rw [htx] at hu
      by_cases e : i = j
      · rw [if_pos e] at hu; injection hu with hu; subst hu; rw [e]; exact ⟨t, hh.1, hi'.symm⟩
      · rw [if_neg e] at hu; exact ⟨u, hu, rfl⟩
    obtain ⟨u0, hu0, e1⟩ := bk i u h1
    obtain ⟨u1, hu1, e2⟩ := bk i' u' h2
    exact h.ids i i' u0 u1 hu0 hu1 (by rw [e1, e2]; exact e)
end Go.Proofs.Ytcbhafddehipdaa

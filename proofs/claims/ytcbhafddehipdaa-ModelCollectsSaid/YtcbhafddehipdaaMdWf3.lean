/-
  The Model as plain data: what holds of it goes on holding: the ends of a transaction, Collect.
-/
import Derived.Test.YtcbhafddehipdaaMdWf2
namespace Go.Proofs.Ytcbhafddehipdaa
set_option linter.unusedVariables false
set_option linter.unusedSimpArgs false

theorem Has.other {s s' : St} {j : Nat} (htx : ∀ i, s'.tx i = if i = j then none else s.tx i) {i k : Nat} {t : Tx} {c : Cel} : Has s' i k t c ↔ i ≠ j ∧ Has s i k t c := by
  unfold Has
  rw [htx]
  by_cases e : i = j
  · rw [if_pos e]; simp [e]
  · rw [if_neg e]; simp [e]
theorem getD_ne {l : List Ver} {i : Nat} (h : ¬ i < l.length) : l.getD i default = default := by
  rw [List.getD_eq_getElem?_getD, List.getElem?_eq_none (by omega)]; rfl
/-! ### an abort -/
theorem Wf.killed {s : St} (h : Wf s) {j : Nat} {t : Tx} (ht : s.tx j = some t) : Wf (s.kill j t) := by
  obtain ⟨s', hs'⟩ : ∃ s', s' = s.kill j t := ⟨_, rfl⟩
  have htx : ∀ i, s'.tx i = if i = j then none else s.tx i := fun i => by rw [hs']; rfl
  have hnow : s'.now = s.now := by rw [hs']; rfl
  have hmade : s'.made = s.made := by rw [hs']; rfl
  have hll : s'.l = s.l := by rw [hs']; rfl
  have hvs : s'.vs.length = s.vs.length := by rw [hs']; show (s.vs.mapIdx _).length = _; simp
  have hv : ∀ i, i < s.vs.length → s'.ver i = killV t.cells i (s.ver i) := fun i hi => by rw [hs']; exact ver_kill hi
  have hsl : s'.slots = s.slots := by rw [hs']; rfl
  rw [← hs']
  clear hs'
  have hk : ∀ i, (killV t.cells i (s.ver i)).key = (s.ver i).key ∧ (killV t.cells i (s.ver i)).beg = (s.ver i).beg ∧ (killV t.cells i (s.ver i)).fin = (s.ver i).fin ∧ (killV t.cells i (s.ver i)).by_ = (s.ver i).by_ := fun i => by
    unfold killV; split <;> exact ⟨rfl, rfl, rfl, rfl⟩
  have hat : ∀ k a, s'.at k a = s.at k a := fun k a => by
    unfold St.at
    rw [hll]
    apply find_congr
    intro i hi
    obtain ⟨h1, h2, h3, _⟩ := hk i
    rw [hv i (h.lin i hi)]
    unfold visB
    rw [h1, h2, h3]
  -- whose versions die
  have dies : ∀ i, i < s.vs.length → anyC t.cells (isOwn i) = true → ∃ k c, Has s j k t c ∧ c.own = some i := by
    intro i hi ha
    obtain ⟨k, c, _, hc, hp⟩ := anyC_iff.1 ha
    exact ⟨k, c, ⟨ht, hc⟩, by simpa [isOwn] using hp⟩
  have lives : ∀ i y u d z, i ≠ j → Has s i y u d → d.own = some z → s'.ver z = s.ver z := by
    intro i y u d z hne h0 hz
    rw [hv z (h.lin z (h.own i y u d z h0 hz).1)]
    unfold killV
    rw [if_neg]
    intro ha
    obtain ⟨k, c, hc, ho⟩ := dies z (h.lin z (h.own i y u d z h0 hz).1) ha
    exact hne (h.inj i y j k u t d c z h0 hc hz ho).1
  refine ⟨by rw [hsl]; exact h.slots, by rw [hll]; exact h.nodup, fun i hi => by rw [hvs]; exact h.lin i (by rw [← hll]; exact hi), fun i hi hm => ?_, fun i hi => ?_, fun i y u d z hh ho => ?_, fun i y u d hh => ?_, fun i y u d hh => h.kin i y u d (Has.other htx |>.1 hh).2, fun i y u d hh ht => h.there i y u d (Has.other htx |>.1 hh).2 ht, fun i i' y u u' d d' h1 h2 => h.only i i' y u u' d d' (Has.other htx |>.1 h1).2 (Has.other htx |>.1 h2).2, fun i y i' y' u u' d d' z h1 h2 o1 o2 => h.inj i y i' y' u u' d d' z (Has.other htx |>.1 h1).2 (Has.other htx |>.1 h2).2 o1 o2, fun i y u d z hh hi hkk => ?_, fun i i' hi hi' hne hkk hb hb' => ?_, by rw [hnow]; exact h.now, fun i u hu => ?_, fun i i' u u' h1 h2 e => ?_, by rw [hmade]; exact h.made⟩
  · rw [hvs] at hi; rw [hll] at hm
    rw [hv i hi]
    rcases h.gone i hi hm with h1 | ⟨h1, h2⟩
    · left
      unfold killV
      split
      · rfl
      · exact h1
    · right
      rw [(hk i).2.2.1]
      refine ⟨h1, fun i' u hu => ?_⟩
      rw [htx] at hu
      by_cases e : i' = j
      · rw [if_pos e] at hu; cases hu
      · rw [if_neg e] at hu; exact h2 i' u hu
  · rw [hvs] at hi
    rw [hv i hi, hnow]
    cases ha : anyC t.cells (isOwn i) with
    | true =>
      obtain ⟨k, c, hc, ho⟩ := dies i hi ha
      obtain ⟨_, _, _, r, _⟩ := h.own j k t c i hc ho
      left
      unfold killV
      rw [if_pos ha]
      exact ⟨rfl, r⟩
    | false =>
      have e : killV t.cells i (s.ver i) = s.ver i := by unfold killV; rw [ha]; rfl
      rw [e]
      rcases h.kind i hi with h1 | h1 | ⟨h1, h2, i', y, u, d, h0, ho⟩
      · exact .inl h1
      · exact .inr (.inl h1)
      · refine .inr (.inr ⟨h1, h2, i', y, u, d, (Has.other htx).2 ⟨fun e => ?_, h0⟩, ho⟩)
        subst e
        have := h0.1
        rw [ht] at this; injection this with this; subst this
        have := anyC_iff.2 ⟨y, d, h.kin _ _ _ _ h0, h0.2, (show isOwn i d = true by simp [isOwn, ho])⟩
        rw [ha] at this; cases this
  · obtain ⟨hne, h0⟩ := (Has.other htx).1 hh
    rw [lives i y u d z hne h0 ho, hll]
    exact h.own i y u d z h0 ho
  · rw [hat]; exact h.old i y u d ((Has.other htx).1 hh).2
  · rw [hvs] at hi
    rw [hv z hi] at hkk ⊢
    rw [(hk z).1] at hkk
    rw [(hk z).2.1, (hk z).2.2.1]
    exact h.bar i y u d z ((Has.other htx).1 hh).2 hi hkk
  · rw [hvs] at hi hi'
    rw [hv i hi] at hkk hb
    rw [hv i' hi'] at hkk hb'
    rw [(hk i).1, (hk i').1] at hkk
    rw [(hk i).2.1] at hb
    rw [(hk i').2.1] at hb'
    have := h.apt i i' hi hi' hne hkk hb hb'
    rw [hv i hi, hv i' hi']
    unfold Apt at *
    rw [(hk i).2.1, (hk i').2.1, (hk i).2.2.1, (hk i').2.2.1]; exact this
  · rw [htx] at hu; rw [hnow, hmade]
    by_cases e : i = j
    · rw [if_pos e] at hu; cases hu
    · rw [if_neg e] at hu; exact h.beg i u hu
  · rw [htx] at h1 h2
    by_cases e1 : i = j
    · rw [if_pos e1] at h1; cases h1
    · by_cases e2 : i' = j
      · rw [if_pos e2] at h2; cases h2
      · rw [if_neg e1] at h1; rw [if_neg e2] at h2
        exact h.ids i i' u u' h1 h2 e
/-! ### the clock -/
theorem Wf.ticked {s : St} (h : Wf s) : Wf s.tick := by
  refine ⟨h.slots, h.nodup, h.lin, h.gone, fun i hi => ?_, h.own, h.old, h.kin, h.there, h.only, h.inj, h.bar, h.apt, by have := h.now; show 0 ≤ s.now + 1; omega, fun j t ht => by have := h.beg j t ht; show 0 < t.beg ∧ t.beg ≤ s.now + 1 ∧ 0 < t.id ∧ t.id ≤ s.made ∧ j < 8; omega, h.ids, h.made⟩
  rcases h.kind i hi with h1 | h1 | h1
  · exact .inl h1
  · obtain ⟨c1, c2, c3, c4⟩ := h1
    refine .inr (.inl ⟨c1, c2, ?_, ?_⟩)
    · show (s.ver i).beg ≤ s.now + 1; omega
    · have hc : (s.ver i).fin = 0 ∨ (s.ver i).beg ≤ (s.ver i).fin ∧ (s.ver i).fin ≤ s.now + 1 := by omega
      exact hc
  · exact .inr (.inr h1)
/-! ### a commit: the clock has been turned, no version has this time yet -/
theorem Wf.did {s : St} (h : Wf s) {j : Nat} {t : Tx} (ht : s.tx j = some t) (hfresh : ∀ i u, s.tx i = some u → u.beg < s.now) (hf2 : ∀ i, i < s.vs.length → (s.ver i).beg < s.now ∧ (s.ver i).fin < s.now) : Wf (s.done j t) := by
  obtain ⟨s', hs'⟩ : ∃ s', s' = s.done j t := ⟨_, rfl⟩
  have htx : ∀ i, s'.tx i = if i = j then none else s.tx i := fun i => by rw [hs']; rfl
  have hnow : s'.now = s.now := by rw [hs']; rfl
  have hmade : s'.made = s.made := by rw [hs']; rfl
  have hll : s'.l = s.l := by rw [hs']; rfl
  have hvs : s'.vs.length = s.vs.length := by rw [hs']; show (s.vs.mapIdx _).length = _; simp
  have hv : ∀ i, i < s.vs.length → s'.ver i = doneV t.cells s.now i (s.ver i) := fun i hi => by rw [hs']; exact ver_done hi
  have hsl : s'.slots = s.slots := by rw [hs']; rfl
  rw [← hs']
  clear hs'
  have oOwn : ∀ i, anyC t.cells (isOwn i) = true ↔ ∃ k c, Has s j k t c ∧ c.own = some i := by
    intro i
    rw [anyC_iff]
    constructor
    · rintro ⟨k, c, _, hc, hp⟩; exact ⟨k, c, ⟨ht, hc⟩, by simpa [isOwn] using hp⟩
    · rintro ⟨k, c, hc, hp⟩; exact ⟨k, c, h.kin _ _ _ _ hc, hc.2, by simp [isOwn, hp]⟩
  have oOld : ∀ i, anyC t.cells (isOld i) = true ↔ ∃ k c, Has s j k t c ∧ c.old = some i := by
    intro i
    rw [anyC_iff]
    constructor
    · rintro ⟨k, c, _, hc, hp⟩; exact ⟨k, c, ⟨ht, hc⟩, by simpa [isOld] using hp⟩
    · rintro ⟨k, c, hc, hp⟩; exact ⟨k, c, h.kin _ _ _ _ hc, hc.2, by simp [isOld, hp]⟩
  have oGone : ∀ i, anyC t.cells (isGone i) = true → anyC t.cells (isOwn i) = true := by
    intro i hg
    obtain ⟨k, c, hk, hc, hp⟩ := anyC_iff.1 hg
    exact anyC_iff.2 ⟨k, c, hk, hc, by simp [isGone] at hp; simp [isOwn, hp.1]⟩
  -- a version that the transaction does not touch
  have same : ∀ i, i < s.vs.length → anyC t.cells (isOwn i) = false → anyC t.cells (isOld i) = false → s'.ver i = s.ver i := by
    intro i hi h1 h2
    have h3 : anyC t.cells (isGone i) = false := by
      cases e : anyC t.cells (isGone i) with
      | false => rfl
      | true => rw [oGone i e] at h1; cases h1
    rw [hv i hi]
    unfold doneV
    rw [h1, h2, h3]
    rfl
  -- the ones that it made
  have made : ∀ i, i < s.vs.length → anyC t.cells (isOwn i) = true → (s'.ver i).key = (s.ver i).key ∧ (s'.ver i).beg = s.now ∧ ((s'.ver i).fin = 0 ∨ (s'.ver i).fin = s.now) ∧ (s'.ver i).dead = (s.ver i).dead ∧ Raw (s.ver i) := by
    intro i hi h1
    obtain ⟨k, c, hc, ho⟩ := (oOwn i).1 h1
    obtain ⟨_, _, _, r, _⟩ := h.own j k t c i hc ho
    rw [hv i hi]
    refine ⟨rfl, ?_, ?_, rfl, r⟩
    · show (if anyC t.cells (isOwn i) then s.now else _) = s.now
      rw [h1]; rfl
    · show (if anyC t.cells (isOld i) || anyC t.cells (isGone i) then s.now else (s.ver i).fin) = 0 ∨ (if anyC t.cells (isOld i) || anyC t.cells (isGone i) then s.now else (s.ver i).fin) = s.now
      split
      · exact .inr rfl
      · exact .inl r.2
  -- the ones that it ended
  have ended : ∀ i, i < s.vs.length → anyC t.cells (isOwn i) = false → anyC t.cells (isOld i) = true → (s'.ver i).key = (s.ver i).key ∧ (s'.ver i).beg = (s.ver i).beg ∧ (s'.ver i).fin = s.now ∧ (s'.ver i).dead = (s.ver i).dead := by
    intro i hi h1 h2
    rw [hv i hi]
    refine ⟨rfl, ?_, ?_, rfl⟩
    · show (if anyC t.cells (isOwn i) then s.now else _) = _
      rw [h1]; rfl
    · show (if anyC t.cells (isOld i) || anyC t.cells (isGone i) then s.now else _) = _
      rw [h2]; rfl
  have oldfact : ∀ i k c, Has s j k t c → c.old = some i → i ∈ s.l ∧ Vis (s.ver i) k t.beg := by
    intro i k c hc ho
    rw [h.old j k t c hc] at ho
    exact h.at_some.1 ho
  have key : ∀ i, i < s.vs.length → (s'.ver i).key = (s.ver i).key := by
    intro i hi
    rw [hv i hi]; rfl
  have dead : ∀ i, i < s.vs.length → (s'.ver i).dead = (s.ver i).dead := by
    intro i hi
    rw [hv i hi]; rfl
  -- what others have a cell of is not touched
  have far : ∀ i y u d z, i ≠ j → Has s i y u d → z < s.vs.length → (s.ver z).key = (y : Int) → s'.ver z = s.ver z := by
    intro i y u d z hne h0 hz hk
    apply same z hz
    · cases e : anyC t.cells (isOwn z) with
      | false => rfl
      | true =>
        obtain ⟨k, c, hc, ho⟩ := (oOwn z).1 e
        have hkz := (h.own j k t c z hc ho).2.1
        have : k = y := by omega
        subst this
        exact absurd (h.only j i k t u c d hc h0) hne
    · cases e : anyC t.cells (isOld z) with
      | false => rfl
      | true =>
        obtain ⟨k, c, hc, ho⟩ := (oOld z).1 e
        have hkz := (oldfact z k c hc ho).2.1
        have : k = y := by omega
        subst this
        exact absurd (h.only j i k t u c d hc h0) hne
  have hat : ∀ i y u d, i ≠ j → Has s i y u d → s'.at y u.beg = s.at y u.beg := by
    intro i y u d hne h0
    unfold St.at
    rw [hll]
    apply find_congr
    intro z hz
    by_cases hk : (s.ver z).key = (y : Int)
    · rw [far i y u d z hne h0 (h.lin z hz) hk]
    · have hk' : ¬ (s'.ver z).key = (y : Int) := by rw [key z (h.lin z hz)]; exact hk
      unfold visB
      simp [hk, hk']
  have ownfar : ∀ i y u d z, i ≠ j → Has s i y u d → d.own = some z → s'.ver z = s.ver z := fun i y u d z hne h0 hz => by
    obtain ⟨a1, a2, _⟩ := h.own i y u d z h0 hz
    exact far i y u d z hne h0 (h.lin z a1) a2
  refine ⟨by rw [hsl]; exact h.slots, by rw [hll]; exact h.nodup, fun i hi => by rw [hvs]; exact h.lin i (by rw [← hll]; exact hi), fun i hi hm => ?_, fun i hi => ?_, fun i y u d z hh ho => ?_, fun i y u d hh => ?_, fun i y u d hh => h.kin i y u d (Has.other htx |>.1 hh).2, fun i y u d hh ht => h.there i y u d (Has.other htx |>.1 hh).2 ht, fun i i' y u u' d d' h1 h2 => h.only i i' y u u' d d' (Has.other htx |>.1 h1).2 (Has.other htx |>.1 h2).2, fun i y i' y' u u' d d' z h1 h2 o1 o2 => h.inj i y i' y' u u' d d' z (Has.other htx |>.1 h1).2 (Has.other htx |>.1 h2).2 o1 o2, fun i y u d z hh hi hkk => ?_, fun i i' hi hi' hne hkk hb hb' => ?_, by rw [hnow]; exact h.now, fun i u hu => ?_, fun i i' u u' h1 h2 e => ?_, by rw [hmade]; exact h.made⟩
  · rw [hvs] at hi; rw [hll] at hm
    have e1 : anyC t.cells (isOwn i) = false := by
      cases e : anyC t.cells (isOwn i) with
      | false => rfl
      | true =>
        obtain ⟨k, c, hc, ho⟩ := (oOwn i).1 e
        exact absurd (h.own j k t c i hc ho).1 hm
    have e2 : anyC t.cells (isOld i) = false := by
      cases e : anyC t.cells (isOld i) with
      | false => rfl
      | true =>
        obtain ⟨k, c, hc, ho⟩ := (oOld i).1 e
        exact absurd (oldfact i k c hc ho).1 hm
    rw [same i hi e1 e2]
    rcases h.gone i hi hm with h1 | ⟨h1, h2⟩
    · exact .inl h1
    · refine .inr ⟨h1, fun i' u hu => ?_⟩
      rw [htx] at hu
      by_cases e : i' = j
      · rw [if_pos e] at hu; cases hu
      · rw [if_neg e] at hu; exact h2 i' u hu
  · rw [hvs] at hi
    have hn0 : 0 < s.now := by have := hfresh j t ht; have := h.beg j t ht; omega
    rw [hnow]
    cases e1 : anyC t.cells (isOwn i) with
    | true =>
      obtain ⟨m1, m2, m3, m4, r⟩ := made i hi e1
      obtain ⟨k, c, hc, ho⟩ := (oOwn i).1 e1
      have hd := (h.own j k t c i hc ho).2.2.1
      refine .inr (.inl ⟨by rw [m4]; exact hd, by rw [m2]; exact hn0, by rw [m2]; exact Int.le_refl _, ?_⟩)
      rw [m2]
      rcases m3 with m3 | m3 <;> rw [m3]
      · exact .inl rfl
      · exact .inr ⟨Int.le_refl _, Int.le_refl _⟩
    | false =>
      cases e2 : anyC t.cells (isOld i) with
      | true =>
        obtain ⟨m1, m2, m3, m4⟩ := ended i hi e1 e2
        obtain ⟨k, c, hc, ho⟩ := (oOld i).1 e2
        have hv := (oldfact i k c hc ho).2
        have hb := (h.fin_le hi).2.1
        refine .inr (.inl ⟨?_, by rw [m2]; exact hv.2.1, by rw [m2]; exact hb, .inr ⟨by rw [m2, m3]; exact hb, by rw [m3]; exact Int.le_refl _⟩⟩)
        rw [m4]
        cases hd : (s.ver i).dead with
        | false => rfl
        | true => have := (h.dead_raw hi hd).1; have := hv.2.1; omega
      | false =>
        rw [same i hi e1 e2]
        rcases h.kind i hi with h1 | h1 | ⟨h1, h2, i', y, u, d, h0, ho⟩
        · exact .inl h1
        · exact .inr (.inl h1)
        · refine .inr (.inr ⟨h1, h2, i', y, u, d, (Has.other htx).2 ⟨fun e => ?_, h0⟩, ho⟩)
          subst e
          have := h0.1
          rw [ht] at this; injection this with this; subst this
          rw [(oOwn i).2 ⟨y, d, h0, ho⟩] at e1; cases e1
  · obtain ⟨hne, h0⟩ := (Has.other htx).1 hh
    rw [ownfar i y u d z hne h0 ho, hll]
    exact h.own i y u d z h0 ho
  · obtain ⟨hne, h0⟩ := (Has.other htx).1 hh
    rw [hat i y u d hne h0]; exact h.old i y u d h0
  · obtain ⟨hne, h0⟩ := (Has.other htx).1 hh
    rw [hvs] at hi
    rw [key z hi] at hkk
    rw [far i y u d z hne h0 hi hkk]
    exact h.bar i y u d z h0 hi hkk
  · rw [hvs] at hi hi'
    rw [key i hi, key i' hi'] at hkk
    -- a version of that key that the transaction did not make, beside one that it made
    have P : ∀ i i', i < s.vs.length → i' < s.vs.length → i ≠ i' → (s.ver i).key = (s.ver i').key → 0 < (s'.ver i').beg → anyC t.cells (isOwn i) = true → anyC t.cells (isOwn i') = false → (s'.ver i').fin ≠ 0 ∧ (s'.ver i').fin ≤ (s'.ver i).beg := by
      intro i i' hi hi' hne hkk hb' e1 e1'
      obtain ⟨m1, m2, m3, m4, r⟩ := made i hi e1
      obtain ⟨k, c, hc, ho⟩ := (oOwn i).1 e1
      have hki := (h.own j k t c i hc ho).2.1
      have hbar := h.bar j k t c i' hc hi' (by rw [← hkk]; exact hki)
      have hfr := hfresh j t ht
      rw [m2]
      cases e2' : anyC t.cells (isOld i') with
      | true =>
        obtain ⟨n1, n2, n3, n4⟩ := ended i' hi' e1' e2'
        rw [n3]
        have := h.beg j t ht
        exact ⟨by omega, Int.le_refl _⟩
      | false =>
        rw [same i' hi' e1' e2'] at hb' ⊢
        refine ⟨fun hz => ?_, by omega⟩
        -- it would be the one that is there at the begin
        have hvis : Vis (s.ver i') k t.beg := ⟨by rw [← hkk]; exact hki, hb', hbar.1, .inl hz⟩
        have hin := h.in_l hi' hvis (.inr ⟨j, t, ht, Int.le_refl _⟩)
        have hat := h.at_some.2 ⟨hin, hvis⟩
        rw [← h.old j k t c hc] at hat
        rw [(oOld i').2 ⟨k, c, hc, hat⟩] at e2'
        cases e2'
    unfold Apt
    cases e1 : anyC t.cells (isOwn i) with
    | true =>
      cases e1' : anyC t.cells (isOwn i') with
      | true =>
        obtain ⟨k, c, hc, ho⟩ := (oOwn i).1 e1
        obtain ⟨k', c', hc', ho'⟩ := (oOwn i').1 e1'
        have a1 := (h.own j k t c i hc ho).2.1
        have a2 := (h.own j k' t c' i' hc' ho').2.1
        have : k = k' := by omega
        subst this
        have e := hc.2
        rw [hc'.2] at e
        injection e with e
        subst e
        rw [ho] at ho'
        injection ho' with ho'
        exact absurd ho' hne
      | false => exact .inr (P i i' hi hi' hne hkk hb' e1 e1')
    | false =>
      cases e1' : anyC t.cells (isOwn i') with
      | true => exact .inl (P i' i hi' hi (Ne.symm hne) hkk.symm hb e1' e1)
      | false =>
        have fb : ∀ i, i < s.vs.length → anyC t.cells (isOwn i) = false → (s'.ver i).beg = (s.ver i).beg ∧ ((s'.ver i).fin = (s.ver i).fin ∨ ((s'.ver i).fin = s.now ∧ ((s.ver i).fin = 0 ∨ t.beg < (s.ver i).fin) ∧ (s.ver i).beg ≤ t.beg ∧ ∃ k c, Has s j k t c ∧ (s.ver i).key = (k : Int))) := by
          intro i hi e1
          cases e2 : anyC t.cells (isOld i) with
          | true =>
            obtain ⟨n1, n2, n3, n4⟩ := ended i hi e1 e2
            obtain ⟨k, c, hc, ho⟩ := (oOld i).1 e2
            have hv := (oldfact i k c hc ho).2
            exact ⟨n2, .inr ⟨n3, hv.2.2.2, hv.2.2.1, k, c, hc, hv.1⟩⟩
          | false => rw [same i hi e1 e2]; exact ⟨rfl, .inl rfl⟩
        obtain ⟨b1, f1⟩ := fb i hi e1
        obtain ⟨b2, f2⟩ := fb i' hi' e1'
        rw [b1] at hb
        rw [b2] at hb'
        have A := h.apt i i' hi hi' hne hkk hb hb'
        unfold Apt at A
        rw [b1, b2]
        have q1 := hf2 i hi
        have q2 := hf2 i' hi'
        have hn0 : 0 < s.now := by have := hfresh j t ht; have := h.beg j t ht; omega
        have bars : ∀ i, i < s.vs.length → (∃ k c, Has s j k t c ∧ (s.ver i).key = (k : Int)) → (s.ver i).fin ≤ t.beg := by
          rintro i hi ⟨k, c, hc, hk⟩
          exact (h.bar j k t c i hc hi hk).2
        rcases f1 with f1 | ⟨f1, g1, g1', g1''⟩
        · rcases f2 with f2 | ⟨f2, g2, g2', g2''⟩
          · rw [f1, f2]; exact A
          · have := bars i' hi' g2''
            rw [f1, f2]
            have h0 : (s.ver i').fin = 0 := by omega
            rcases A with ⟨x, y⟩ | ⟨x, y⟩
            · exact .inl ⟨x, y⟩
            · exact absurd h0 x
        · have := bars i hi g1''
          have h0 : (s.ver i).fin = 0 := by omega
          rcases f2 with f2 | ⟨f2, g2, g2', g2''⟩
          · rw [f1, f2]
            rcases A with ⟨x, y⟩ | ⟨x, y⟩
            · exact absurd h0 x
            · exact .inr ⟨x, y⟩
          · have := bars i' hi' g2''
            have h0' : (s.ver i').fin = 0 := by omega
            rcases A with ⟨x, y⟩ | ⟨x, y⟩
            · exact absurd h0 x
            · exact absurd h0' x
  · rw [htx] at hu; rw [hnow, hmade]
    by_cases e : i = j
    · rw [if_pos e] at hu; cases hu
    · rw [if_neg e] at hu; exact h.beg i u hu
  · rw [htx] at h1 h2
    by_cases e1 : i = j
    · rw [if_pos e1] at h1; cases h1
    · by_cases e2 : i' = j
      · rw [if_pos e2] at h2; cases h2
      · rw [if_neg e1] at h1; rw [if_neg e2] at h2
        exact h.ids i i' u u' h1 h2 e
theorem Wf.committed {s : St} (h : Wf s) {j : Nat} {t : Tx} (ht : s.tx j = some t) : Wf (s.tick.done j t) := by
  refine h.ticked.did ht (fun i u hu => ?_) (fun i hi => ?_)
  · have := h.beg i u hu
    show u.beg < s.now + 1
    omega
  · have := h.fin_le hi
    show (s.ver i).beg < s.now + 1 ∧ (s.ver i).fin < s.now + 1
    omega
/-! ### Collect -/
theorem foldl_le (f : Nat → Option Tx) : ∀ (l : List Nat) (a : Int), l.foldl (fun a j => match f j with | some t => if t.beg < a then t.beg else a | none => a) a ≤ a ∧ ∀ j t, j ∈ l → f j = some t → l.foldl (fun a j => match f j with | some t => if t.beg < a then t.beg else a | none => a) a ≤ t.beg := by
  intro l
  induction l with
  | nil => intro a; exact ⟨Int.le_refl _, fun j t h => by cases h⟩
  | cons x l ih =>
    intro a
    simp only [List.foldl_cons]
    obtain ⟨i1, i2⟩ := ih (match f x with | some t => if t.beg < a then t.beg else a | none => a)
    have hx : (match f x with | some t => if t.beg < a then t.beg else a | none => a) ≤ a ∧ ∀ t, f x = some t → (match f x with | some t => if t.beg < a then t.beg else a | none => a) ≤ t.beg := by
      cases hf : f x with
      | none => exact ⟨Int.le_refl _, fun t h => by cases h⟩
      | some t =>
        refine ⟨?_, fun u hu => ?_⟩
        · show (if t.beg < a then t.beg else a) ≤ a
          split <;> omega
        · injection hu with hu; subst hu
          show (if t.beg < a then t.beg else a) ≤ t.beg
          split <;> omega
    refine ⟨Int.le_trans i1 hx.1, fun j t hj ht => ?_⟩
    rcases List.mem_cons.1 hj with rfl | hj
    · exact Int.le_trans i1 (hx.2 t ht)
    · exact i2 j t hj ht
theorem low_le (s : St) {j : Nat} {t : Tx} (hj : j < 8) (ht : s.tx j = some t) : s.low ≤ t.beg := (foldl_le s.tx (List.range 8) _).2 j t (by simpa using hj) ht
theorem goneB_iff {v : Ver} {low : Int} : goneB v low = true ↔ v.dead = true ∨ (0 < v.fin ∧ v.fin ≤ low) := by
  unfold goneB
  simp only [Bool.or_eq_true, Bool.and_eq_true, decide_eq_true_eq]
theorem mem_kept {s : St} {i : Nat} : i ∈ s.kept ↔ i ∈ s.l ∧ goneB (s.ver i) s.low = false := by
  unfold St.kept
  rw [List.mem_filter]
  simp
theorem Wf.at_collect {s : St} (h : Wf s) {k a : Int} (ha : s.low ≤ a ∨ ∀ i, i < s.vs.length → (s.ver i).fin ≤ a) : s.collect.at k a = s.at k a := by
  show s.kept.find? (fun i => visB (s.ver i) k a) = s.l.find? (fun i => visB (s.ver i) k a)
  unfold St.kept
  rw [List.find?_filter]
  apply find_congr
  intro i hi
  cases hv : visB (s.ver i) k a with
  | false => simp
  | true =>
    have hv' := visB_iff.1 hv
    have : goneB (s.ver i) s.low = false := by
      cases hg : goneB (s.ver i) s.low with
      | false => rfl
      | true =>
        rcases goneB_iff.1 hg with hd | ⟨h1, h2⟩
        · have := (h.dead_raw (h.lin i hi) hd).1
          have := hv'.2.1
          omega
        · have := hv'.2.2.2
          rcases ha with ha | ha
          · omega
          · have := ha i (h.lin i hi); omega
    simp [this]
theorem Wf.collected {s : St} (h : Wf s) : Wf s.collect := by
  have hl : ∀ i, i ∈ s.collect.l ↔ i ∈ s.l ∧ goneB (s.ver i) s.low = false := fun i => mem_kept
  refine ⟨h.slots, ?_, fun i hi => h.lin i ((hl i).1 hi).1, fun i hi hm => ?_, h.kind, fun j k t c i hh ho => ?_, fun j k t c hh => ?_, h.kin, h.there, h.only, h.inj, h.bar, h.apt, h.now, h.beg, h.ids, h.made⟩
  · show s.kept.Nodup
    unfold St.kept
    exact h.nodup.filter _
  · by_cases hm' : i ∈ s.l
    · have hg : goneB (s.ver i) s.low = true := by
        cases hg : goneB (s.ver i) s.low with
        | true => rfl
        | false => exact absurd ((hl i).2 ⟨hm', hg⟩) hm
      rcases goneB_iff.1 hg with h1 | ⟨h1, h2⟩
      · exact .inl h1
      · refine .inr ⟨?_, fun j t ht => ?_⟩
        · show (s.ver i).fin ≠ 0; omega
        · have := low_le s (h.beg j t ht).2.2.2.2 ht
          show (s.ver i).fin ≤ t.beg; omega
    · exact h.gone i hi hm'
  · have a := h.own j k t c i hh ho
    refine ⟨(hl i).2 ⟨a.1, ?_⟩, a.2⟩
    unfold goneB
    rw [a.2.2.1, a.2.2.2.1.2]
    rfl
  · rw [h.at_collect (.inl (low_le s (h.beg j t hh.1).2.2.2.2 hh.1))]
    exact h.old j k t c hh
end Go.Proofs.Ytcbhafddehipdaa

/-
  ModelAborted: the plain law.
-/
import Derived.Test.YtcbhafddehipdaaMdSlP
namespace Go.Proofs.Ytcbhafddehipdaa
open Go.RowKit
set_option linter.unusedVariables false
set_option linter.unusedSimpArgs false

theorem anyC_iff {f : Nat → Option Cel} {p : Cel → Bool} : anyC f p = true ↔ ∃ k c, k < 64 ∧ f k = some c ∧ p c = true := by
  unfold anyC
  rw [List.any_eq_true]
  constructor
  · rintro ⟨k, hk, h⟩
    cases hf : f k with
    | none => rw [hf] at h; simp at h
    | some c => rw [hf] at h; exact ⟨k, c, by simpa using hk, hf, h⟩
  · rintro ⟨k, c, hk, hf, h⟩
    exact ⟨k, by simpa using hk, by rw [hf]; exact h⟩
theorem anyC_off {f : Nat → Option Cel} {p : Cel → Bool} (h : ∀ k c, f k = some c → p c = false) : anyC f p = false := by
  cases ha : anyC f p with
  | false => rfl
  | true =>
    obtain ⟨k, c, _, hf, hp⟩ := anyC_iff.1 ha
    rw [h k c hf] at hp
    cases hp
structure AbB (n : Nat) (s : St) : Prop where
  slots : s.slots = 50
  limit : s.limit = 100
  now : s.now = 4
  len : s.vs.length = 2 + n
  l : s.l = List.range (2 + n)
  v0 : s.ver 0 = ⟨1, 10, 1, 2, 0, false⟩
  v1 : s.ver 1 = ⟨2, 20, 1, 2, 0, false⟩
  junk : ∀ x, 2 ≤ x → x < 2 + n → (s.ver x).beg = 0 ∧ (s.ver x).fin = 0
def abAt (k : Int) : Option Nat := if k = 1 then some 0 else if k = 2 then some 1 else none
theorem AbB.at {n : Nat} {s : St} (h : AbB n s) (k a : Int) (ha : 2 ≤ a) : s.at k a = abAt k := by
  unfold St.at abAt
  rw [h.l]
  have hv0 : visB (s.ver 0) k a = decide (k = 1) := by
    rw [h.v0]; simp [visB, ha]; omega
  have hv1 : visB (s.ver 1) k a = decide (k = 2) := by
    rw [h.v1]; simp [visB, ha]; omega
  have hj : ∀ x, 2 ≤ x → x < 2 + n → visB (s.ver x) k a = false := by
    intro x h1 h2
    simp [visB, (h.junk x h1 h2).1]
  by_cases h1 : k = 1
  · rw [if_pos h1, List.find?_range_eq_some]
    exact ⟨by rw [hv0]; simp [h1], by simp; omega, fun j hj => by omega⟩
  · rw [if_neg h1]
    by_cases h2 : k = 2
    · rw [if_pos h2, List.find?_range_eq_some]
      refine ⟨by rw [hv1]; simp [h2], by simp; omega, fun j hj => ?_⟩
      obtain rfl : j = 0 := by omega
      rw [hv0]; simp [h1]
    · rw [if_neg h2, List.find?_range_eq_none]
      intro x hx
      match x with
      | 0 => rw [hv0]; simp [h1]
      | 1 => rw [hv1]; simp [h2]
      | x + 2 => rw [hj (x + 2) (by omega) hx]; rfl
theorem AbB.later {n : Nat} {s : St} (h : AbB n s) (k a : Int) (ha : 2 ≤ a) : s.later k a = false := by
  unfold St.later
  rw [h.l, List.any_eq_false]
  intro x hx
  simp at hx
  match x with
  | 0 => rw [h.v0]; simp [laterB]; omega
  | 1 => rw [h.v1]; simp [laterB]; omega
  | x + 2 => rw [show s.ver (x + 2) = s.ver (x + 2) from rfl]; simp [laterB, (h.junk (x + 2) (by omega) hx).1, (h.junk (x + 2) (by omega) hx).2]; omega
theorem AbB.setTx {n : Nat} {s : St} (h : AbB n s) (j : Nat) (t : Option Tx) : AbB n (s.setTx j t) := ⟨h.slots, h.limit, h.now, h.len, h.l, h.v0, h.v1, h.junk⟩
theorem ver_grow {s : St} {v : Ver} {x : Nat} (h : x < s.vs.length) : (s.grow v).ver x = s.ver x := by
  simp [St.ver, St.grow, List.getD_eq_getElem?_getD, List.getElem?_append_left h]
theorem ver_grow_new {s : St} {v : Ver} : (s.grow v).ver s.vs.length = v := by
  simp [St.ver, St.grow, List.getD_eq_getElem?_getD]
theorem AbB.grow {n : Nat} {s : St} (h : AbB n s) {v : Ver} (hb : v.beg = 0) (hf : v.fin = 0) : AbB (n + 1) (s.grow v) := by
  refine ⟨h.slots, h.limit, h.now, ?_, ?_, ?_, ?_, fun x h1 h2 => ?_⟩
  · show (s.vs ++ [v]).length = _
    simp [h.len]; omega
  · show s.l ++ [s.vs.length] = _
    rw [h.l, h.len, ← Nat.add_assoc, List.range_succ]
  · rw [ver_grow (by rw [h.len]; omega), h.v0]
  · rw [ver_grow (by rw [h.len]; omega), h.v1]
  · by_cases hx : x < 2 + n
    · rw [ver_grow (by rw [h.len]; omega)]; exact h.junk x h1 hx
    · obtain rfl : x = s.vs.length := by rw [h.len]; omega
      rw [ver_grow_new]; exact ⟨hb, hf⟩
theorem ver_setVal {s : St} {i x : Nat} {v : Int} : (s.setVal i v).ver x = if x = i ∧ i < s.vs.length then { s.ver i with value := v } else s.ver x := by
  simp only [St.ver, St.setVal, List.getD_eq_getElem?_getD, List.getElem?_set]
  by_cases h : i = x
  · subst h
    by_cases hl : i < s.vs.length
    · simp [hl]
    · simp [hl]
  · simp [h, Ne.symm h]
theorem AbB.setVal {n : Nat} {s : St} (h : AbB n s) {i : Nat} (hi : 2 ≤ i) (v : Int) : AbB n (s.setVal i v) := by
  refine ⟨h.slots, h.limit, h.now, ?_, h.l, ?_, ?_, fun x h1 h2 => ?_⟩
  · show (s.vs.set i _).length = _
    simp [h.len]
  · rw [ver_setVal, if_neg (by omega), h.v0]
  · rw [ver_setVal, if_neg (by omega), h.v1]
  · rw [ver_setVal]
    split
    · rename_i hx
      obtain ⟨rfl, _⟩ := hx
      exact h.junk x h1 h2
    · exact h.junk x h1 h2
/-- A transaction whose own versions are those from 2 on. -/
structure Good (n : Nat) (t : Tx) : Prop where
  own : ∀ k c, t.cells k = some c → ∀ x, c.own = some x → 2 ≤ x ∧ x < 2 + n
  all : ∀ x, 2 ≤ x → x < 2 + n → ∃ k c, k < 64 ∧ t.cells k = some c ∧ c.own = some x
theorem put_cells (t : Tx) (k j : Nat) (c : Cel) : (t.put k c).cells j = if j = k then some c else t.cells j := rfl
theorem Good.put_same {n k : Nat} {t : Tx} {c c' : Cel} (h : Good n t) (hc : t.cells k = some c) (ho : c'.own = c.own) : Good n (t.put k c') := by
  refine ⟨fun j d hd x hx => ?_, fun x h1 h2 => ?_⟩
  · rw [put_cells] at hd
    split at hd
    · injection hd with hd; subst hd; exact h.own k c hc x (by rw [← ho]; exact hx)
    · exact h.own j d hd x hx
  · obtain ⟨j, d, hj, hd, hx⟩ := h.all x h1 h2
    by_cases hjk : j = k
    · subst hjk
      rw [hc] at hd
      injection hd with hd
      subst hd
      exact ⟨j, c', hj, by rw [put_cells, if_pos rfl], by rw [ho]; exact hx⟩
    · exact ⟨j, d, hj, by rw [put_cells, if_neg hjk]; exact hd, hx⟩
theorem Good.put_none {n k : Nat} {t : Tx} {c' : Cel} (h : Good n t) (hc : t.cells k = none) (ho : c'.own = none) : Good n (t.put k c') := by
  refine ⟨fun j d hd x hx => ?_, fun x h1 h2 => ?_⟩
  · rw [put_cells] at hd
    split at hd
    · injection hd with hd; subst hd; rw [ho] at hx; cases hx
    · exact h.own j d hd x hx
  · obtain ⟨j, d, hj, hd, hx⟩ := h.all x h1 h2
    have hjk : j ≠ k := by rintro rfl; rw [hc] at hd; cases hd
    exact ⟨j, d, hj, by rw [put_cells, if_neg hjk]; exact hd, hx⟩
theorem Good.put_new {n k : Nat} {t : Tx} {c c' : Cel} (h : Good n t) (hk : k < 64) (hc : t.cells k = some c) (ho : c.own = none) (ho' : c'.own = some (2 + n)) : Good (n + 1) (t.put k c') := by
  refine ⟨fun j d hd x hx => ?_, fun x h1 h2 => ?_⟩
  · rw [put_cells] at hd
    split at hd
    · injection hd with hd; subst hd; rw [ho'] at hx; injection hx with hx; omega
    · have := h.own j d hd x hx; omega
  · by_cases hx : x = 2 + n
    · subst hx
      exact ⟨k, c', hk, by rw [put_cells, if_pos rfl], ho'⟩
    · obtain ⟨j, d, hj, hd, hx⟩ := h.all x h1 (by omega)
      have hjk : j ≠ k := by rintro rfl; rw [hc] at hd; injection hd with hd; subst hd; rw [ho] at hx; cases hx
      exact ⟨j, d, hj, by rw [put_cells, if_neg hjk]; exact hd, hx⟩
structure AbI (L n i : Nat) (s : St) : Prop where
  base : AbB n s
  few : n ≤ i
  tx0 : ∃ t, s.tx 0 = some t ∧ t.beg = 3 ∧ t.ops = (i : Int) ∧ Good n t
  tx1 : s.tx 1 = some (newTx 3 ((L : Int) + 1) 4)
  txs : ∀ j, 2 ≤ j → s.tx j = none
theorem AbI.of {L n i : Nat} {s : St} (B : AbB n s) (hn : n ≤ i) {t : Tx} (hb : t.beg = 3) (ho : t.ops = (i : Int)) (G : Good n t) (h1 : s.tx 1 = some (newTx 3 ((L : Int) + 1) 4)) (h2 : ∀ j, 2 ≤ j → s.tx j = none) : AbI L n i (s.setTx 0 (some t)) := by
  refine ⟨B.setTx 0 (some t), hn, ⟨t, setTx_same _ _ _, hb, ho, G⟩, ?_, fun j hj => ?_⟩
  · exact (upd_other s.tx 0 (some t) (by decide)).trans h1
  · exact (upd_other s.tx 0 (some t) (by omega)).trans (h2 j hj)
theorem AbI.others {L n i : Nat} {s : St} (h : AbI L n i s) (k : Nat) : s.others 0 k = false := by
  unfold St.others
  rw [List.any_eq_false]
  intro j _
  match j with
  | 0 =>
    obtain ⟨t, ht, _⟩ := h.tx0
    simp [holderB, ht]
  | 1 => simp [holderB, h.tx1, newTx]
  | j + 2 => simp [holderB, h.txs (j + 2) (by omega)]
/-- What a write's beginning gives. -/
theorem AbI.taken {L n i : Nat} {s : St} (h : AbI L n i s) {t : Tx} (ht : s.tx 0 = some t) (hb : t.beg = 3) (G : Good n t) (k : Nat) :
    ∃ c t1, s.take 0 t k = (some c, t1) ∧ t1.cells k = some c ∧ Good n t1 ∧ t1.beg = t.beg ∧ t1.ops = t.ops := by
  cases hc : t.cells k with
  | some c => exact ⟨c, t, by unfold St.take; rw [hc], hc, G, rfl, rfl⟩
  | none =>
    refine ⟨s.newCel t k, t.put k (s.newCel t k), ?_, by rw [put_cells, if_pos rfl], G.put_none hc rfl, rfl, rfl⟩
    unfold St.take
    rw [hc, h.others, hb, h.base.later _ _ (by decide)]
    rfl
theorem AbI.write {L n i : Nat} {s : St} (h : AbI L n i s) (hi : i < 12) {K v : Int} {k : Nat} (hK : K = 2 ∨ K = 3 ∨ K = 4) (hk : k < 8) (hv : 0 ≤ v ∧ v ≤ 255) (h4 : K = 4 → v = 0) :
    ∃ re s' n', s.do_ 0 ⟨K, k, 0, v⟩ = (⟨re, 0, [], 0, 0⟩, 0, s') ∧ AbI L n' (i + 1) s' := by
  obtain ⟨t, ht, hb, ho, G⟩ := h.tx0
  have hok : opOkB ⟨K, k, 0, v⟩ = true := by
    rcases hK with rfl | rfl | rfl
    · simp [opOkB, keyOkB]; omega
    · simp [opOkB, keyOkB]; omega
    · simp [opOkB, keyOkB, h4 rfl]; omega
  have he : endsB ⟨K, k, 0, v⟩ = false := by rcases hK with rfl | rfl | rfl <;> rfl
  have hn := h.few
  have h6 : ¬ (K = 6) := by omega
  have h7 : ¬ (K = 7) := by omega
  have h1 : ¬ (K = 1) := by omega
  have h5 : ¬ (K = 5) := by omega
  have H0 : AbI L n (i + 1) (s.setTx 0 (some t.op)) := AbI.of h.base (by omega) hb (by show t.ops + 1 = _; rw [ho]; omega) ⟨G.own, G.all⟩ h.tx1 h.txs
  have e0 : (s.setTx 0 (some t.op)).tx 0 = some t.op := setTx_same _ _ _
  obtain ⟨s0, hs0⟩ : ∃ s0, s0 = s.setTx 0 (some t.op) := ⟨_, rfl⟩
  obtain ⟨t0, ht0⟩ : ∃ t0, t0 = t.op := ⟨_, rfl⟩
  have hb0 : t0.beg = 3 := by rw [ht0]; exact hb
  have ho0 : t0.ops = (i : Int) + 1 := by rw [ht0]; show t.ops + 1 = _; rw [ho]
  have G0 : Good n t0 := by rw [ht0]; exact ⟨G.own, G.all⟩
  have hd : s.do_ 0 ⟨K, k, 0, v⟩ = ((s0.change 0 t0 K k v).1, 0, (s0.change 0 t0 K k v).2) := by
    unfold St.do_
    rw [if_pos (by decide), show (0 : Int).toNat = 0 from rfl, ht]
    simp only [hok, he, if_true]
    rw [if_neg (by simp [ho]; omega)]
    unfold St.call
    rw [hs0, ht0]
    simp only [if_neg h6, if_neg h7, if_neg h1, if_neg h5, Int.toNat_natCast]
  rw [hd]
  rw [← hs0, ← ht0] at e0
  rw [← hs0] at H0
  clear hd hs0 ht0 ht hb ho G h
  unfold St.change
  split
  · exact ⟨_, _, n, rfl, AbI.of H0.base (by omega) (by unfold Tx.look; split <;> exact hb0) (by unfold Tx.look; split <;> exact (by rw [ho0]; rfl)) (by unfold Tx.look; split <;> exact ⟨G0.own, G0.all⟩) H0.tx1 H0.txs⟩
  · obtain ⟨c, t1, htk, hck, G1, hb1, ho1⟩ := H0.taken e0 hb0 G0 k
    rw [hb0] at hb1
    rw [ho0] at ho1
    have hl : ¬ (s0.slots ≤ (s0.l.length : Int)) := by rw [H0.base.slots, H0.base.l]; simp; omega
    unfold St.write
    rw [htk]
    by_cases hK4 : K = 4
    · simp only [if_pos hK4]
      exact ⟨0, _, n, rfl, AbI.of H0.base (by omega) hb1 (by show t1.ops = _; rw [ho1]; rfl) (G1.put_same hck rfl) H0.tx1 H0.txs⟩
    · simp only [if_neg hK4]
      cases hown : c.own with
      | none =>
        simp only [if_neg hl]
        exact ⟨0, _, n + 1, rfl, AbI.of (H0.base.grow rfl rfl) (by omega) hb1 (by show t1.ops = _; rw [ho1]; rfl) (G1.put_new (by omega) hck hown (by rw [← H0.base.len])) H0.tx1 H0.txs⟩
      | some x =>
        have hx := G1.own k c hck x hown
        exact ⟨0, _, n, rfl, AbI.of (H0.base.setVal hx.1 v) (by omega) hb1 (by show t1.ops = _; rw [ho1]; rfl) (G1.put_same hck hown.symm) H0.tx1 H0.txs⟩
/-- Behind the abort: nothing of it is seen. -/
structure AcI (n q : Nat) (s : St) : Prop where
  base : AbB n s
  few : n ≤ 12
  dead : ∀ x, 2 ≤ x → x < 2 + n → (s.ver x).dead = true
  tx1 : ∃ t, s.tx 1 = some t ∧ t.beg = 4 ∧ t.ops = (q : Int) ∧ ∀ k, t.cells k = none
  txs : ∀ j, j ≠ 1 → s.tx j = none
theorem ver_kill {s : St} {j x : Nat} {t : Tx} (h : x < s.vs.length) : (s.kill j t).ver x = killV t.cells x (s.ver x) := by
  simp [St.ver, St.kill, List.getD_eq_getElem?_getD, List.getElem?_mapIdx, List.getElem?_eq_getElem h]
theorem ver_done {s : St} {j x : Nat} {t : Tx} (h : x < s.vs.length) : (s.done j t).ver x = doneV t.cells s.now x (s.ver x) := by
  simp [St.ver, St.done, List.getD_eq_getElem?_getD, List.getElem?_mapIdx, List.getElem?_eq_getElem h]
theorem killV_no {f : Nat → Option Cel} {x : Nat} {v : Ver} (h : anyC f (isOwn x) = false) : killV f x v = v := by
  unfold killV; rw [h]; rfl
theorem AbI.abort {L n i : Nat} {s : St} (h : AbI L n i s) (hi : i ≤ 12) : ∃ s', s.do_ 0 ⟨7, 0, 0, 0⟩ = (⟨0, 0, [], 4, 1⟩, 0, s') ∧ AcI n 0 s' ∧ s'.l = s.l := by
  obtain ⟨t, ht, hb, ho, G⟩ := h.tx0
  have hn := h.few
  have hlo : ∀ x, x < 2 → anyC t.cells (isOwn x) = false := fun x hx => anyC_off fun k c hc => by
    simp only [isOwn, decide_eq_false_iff_not]
    intro ho
    have := G.own k c hc x ho
    omega
  have hV : ∀ x, x < 2 + n → (s.kill 0 t).ver x = killV t.cells x (s.ver x) := fun x hx => ver_kill (by rw [h.base.len]; exact hx)
  refine ⟨s.kill 0 t, ?_, ⟨⟨h.base.slots, h.base.limit, h.base.now, ?_, h.base.l, ?_, ?_, fun x h1 h2 => ?_⟩, by omega, fun x h1 h2 => ?_, ⟨newTx 3 ((L : Int) + 1) 4, ?_, rfl, rfl, fun k => rfl⟩, fun j hj => ?_⟩, rfl⟩
  · simp [St.do_, show sessB 0 = true by decide, ht, opOkB, endsB, St.call, abortRes]
  · show (s.vs.mapIdx _).length = _
    simp [h.base.len]
  · rw [hV 0 (by omega), killV_no (hlo 0 (by decide)), h.base.v0]
  · rw [hV 1 (by omega), killV_no (hlo 1 (by decide)), h.base.v1]
  · rw [hV x h2]
    unfold killV
    split
    · exact h.base.junk x h1 h2
    · exact h.base.junk x h1 h2
  · rw [hV x h2]
    obtain ⟨k, c, hk, hc, hx⟩ := G.all x h1 h2
    unfold killV
    rw [if_pos (anyC_iff.2 ⟨k, c, hk, hc, by simp [isOwn, hx]⟩)]
  · show upd s.tx 0 none 1 = _
    rw [upd_other _ _ _ (by decide)]; exact h.tx1
  · show upd s.tx 0 none j = none
    match j with
    | 0 => exact upd_same _ _ _
    | 1 => exact absurd rfl hj
    | j + 2 => rw [upd_other _ _ _ (by omega)]; exact h.txs _ (by omega)
def abWant (k : Nat) : Int := if k = 1 then 10 else if k = 2 then 20 else -1
theorem AcI.set {n q : Nat} {s : St} (h : AcI n q s) {t : Tx} (hb : t.beg = 4) (ho : t.ops = (q : Int) + 1) (hc : ∀ k, t.cells k = none) : AcI n (q + 1) (s.setTx 1 (some t)) := by
  refine ⟨h.base.setTx _ _, h.few, h.dead, ⟨t, setTx_same _ _ _, hb, by rw [ho]; rfl, hc⟩, fun j hj => ?_⟩
  show upd s.tx 1 _ j = none
  rw [upd_other _ _ _ hj]; exact h.txs j hj
theorem AcI.get {n q : Nat} {s : St} (h : AcI n q s) (hq : q < 12) {k : Nat} (hk : k < 8) :
    ∃ re rv s', s.do_ 1 ⟨1, k, 0, 0⟩ = (⟨re, rv, [], 0, 0⟩, 0, s') ∧ getV re rv = abWant k ∧ AcI n (q + 1) s' := by
  obtain ⟨t, ht, hb, ho, hc⟩ := h.tx1
  have hok : opOkB ⟨1, k, 0, 0⟩ = true := by simp [opOkB, keyOkB]; omega
  have hd : s.do_ 1 ⟨1, k, 0, 0⟩ = ((s.get 1 t.op k).1, 0, (s.get 1 t.op k).2) := by
    unfold St.do_
    rw [if_pos (by decide), show (1 : Int).toNat = 1 from rfl, ht]
    simp only [hok, if_true]
    rw [if_neg (by simp [ho]; omega)]
    unfold St.call
    simp
  have hsee : s.sees t.op k = abAt k := by
    unfold St.sees
    rw [show t.op.cells k = none from hc k]
    show s.at k t.beg = _
    rw [hb, h.base.at _ _ (by decide)]
  have ho1 : t.op.ops = (q : Int) + 1 := by show t.ops + 1 = _; rw [ho]
  rw [hd]
  unfold St.get
  rw [hsee]
  have hlk : ∀ t' : Tx, (∀ j, t'.cells j = none) → (t'.look k).beg = t'.beg ∧ (t'.look k).ops = t'.ops ∧ ∀ j, (t'.look k).cells j = none := by
    intro t' h'
    unfold Tx.look
    split <;> exact ⟨rfl, rfl, h'⟩
  have hmk : ∀ t' : Tx, (∀ j, t'.cells j = none) → (t'.mark k).beg = t'.beg ∧ (t'.mark k).ops = t'.ops ∧ ∀ j, (t'.mark k).cells j = none := by
    intro t' h'
    unfold Tx.mark
    split <;> exact ⟨rfl, rfl, h'⟩
  obtain ⟨l1, l2, l3⟩ := hlk t.op hc
  obtain ⟨m1, m2, m3⟩ := hmk _ l3
  by_cases h1 : k = 1
  · subst h1
    exact ⟨0, 10, _, by simp [abAt, h.base.v0], rfl, h.set (m1.trans (l1.trans hb)) (m2.trans (l2.trans ho1)) m3⟩
  · by_cases h2 : k = 2
    · subst h2
      exact ⟨0, 20, _, by simp [abAt, h.base.v1], rfl, h.set (m1.trans (l1.trans hb)) (m2.trans (l2.trans ho1)) m3⟩
    · refine ⟨11, 0, s.setTx 1 (some (t.op.look k)), ?_, by simp [abWant, h1, h2, getV], h.set (l1.trans hb) (l2.trans ho1) l3⟩
      have : abAt k = none := by unfold abAt; rw [if_neg (by omega), if_neg (by omega)]
      rw [this]
      rfl
/-- Behind the update of key 1. -/
structure AdI (n : Nat) (s : St) : Prop where
  base : AbB (n + 1) s
  few : n ≤ 12
  dead : ∀ x, 2 ≤ x → x < 2 + n → (s.ver x).dead = true
  v2 : (s.ver (2 + n)).key = 1 ∧ (s.ver (2 + n)).value = 77 ∧ (s.ver (2 + n)).dead = false
  tx1 : ∃ t, s.tx 1 = some t ∧ t.beg = 4 ∧ t.ops = 9 ∧ ∀ k, t.cells k = if k = 1 then some ⟨some (2 + n), some 0, true⟩ else none
  txs : ∀ j, j ≠ 1 → s.tx j = none
theorem others1 {s : St} (h : ∀ j, j ≠ 1 → s.tx j = none) (t : Option Tx) (k : Nat) : (s.setTx 1 t).others 1 k = false := by
  unfold St.others
  rw [List.any_eq_false]
  intro j _
  by_cases h1 : j = 1
  · subst h1
    simp [holderB]
    split <;> simp
  · simp [holderB, St.setTx, upd_other _ _ _ h1, h j h1]
theorem take1 {s : St} (h : ∀ j, j ≠ 1 → s.tx j = none) {n : Nat} (B : AbB n s) {t : Tx} (hb : t.beg = 4) {k : Nat} (hc : t.cells k = none) :
    (s.setTx 1 (some t)).take 1 t k = (some ⟨none, abAt k, (abAt k).isSome⟩, t.put k ⟨none, abAt k, (abAt k).isSome⟩) := by
  have e : (s.setTx 1 (some t)).newCel t k = ⟨none, abAt k, (abAt k).isSome⟩ := by
    show Cel.mk none (s.at k t.beg) (s.at k t.beg).isSome = _
    rw [hb, B.at _ _ (by decide)]
  unfold St.take
  rw [hc, others1 h, hb, show (s.setTx 1 (some t)).later (k : Int) 4 = false from B.later _ _ (by decide), e]
  rfl
/-- A first write of session 1. -/
theorem write1 {s : St} (h : ∀ j, j ≠ 1 → s.tx j = none) {n : Nat} (B : AbB n s) (hn : n ≤ 20) {t : Tx} (ht : s.tx 1 = some t) (hb : t.beg = 4) (ho : t.ops < 12) {k : Nat} (hc : t.cells k = none) {K v : Int} (hok : opOkB ⟨K, k, 0, v⟩ = true) (hK : K = 2 ∧ abAt k = none ∨ K = 3 ∧ abAt k ≠ none) :
    s.do_ 1 ⟨K, k, 0, v⟩ = (⟨0, 0, [], 0, 0⟩, 0, ((s.setTx 1 (some t.op)).grow ⟨k, v, t.id, 0, 0, false⟩).setTx 1 (some ((t.op.put k ⟨none, abAt k, (abAt k).isSome⟩).put k ⟨some (2 + n), abAt k, true⟩))) := by
  have h6 : ¬ (K = 6) := by omega
  have h7 : ¬ (K = 7) := by omega
  have h1 : ¬ (K = 1) := by omega
  have h5 : ¬ (K = 5) := by omega
  have h4 : ¬ (K = 4) := by omega
  have hsee : (s.setTx 1 (some t.op)).sees t.op k = abAt k := by
    unfold St.sees
    rw [show t.op.cells k = none from hc]
    show s.at k t.beg = _
    rw [hb, B.at _ _ (by decide)]
  have hl : ¬ ((s.setTx 1 (some t.op)).slots ≤ ((s.setTx 1 (some t.op)).l.length : Int)) := by
    show ¬ (s.slots ≤ (s.l.length : Int))
    rw [B.slots, B.l]; simp; omega
  unfold St.do_
  rw [if_pos (by decide), show (1 : Int).toNat = 1 from rfl, ht]
  simp only [hok, if_true]
  rw [if_neg (by simp; intro h12; omega)]
  unfold St.call
  simp only [if_neg h6, if_neg h7, if_neg h1, if_neg h5, Int.toNat_natCast]
  unfold St.change
  rw [hsee, if_neg (by
    rcases hK with ⟨rfl, h⟩ | ⟨rfl, h⟩
    · rw [h]; simp
    · cases ha : abAt k with
      | none => exact absurd ha h
      | some x => simp)]
  unfold St.write
  rw [take1 (t := t.op) h B hb hc]
  simp only [if_neg h4, if_neg hl, if_true]
  rw [show (s.setTx 1 (some t.op)).vs.length = 2 + n from B.len]
  rfl
theorem AcI.change1 {n : Nat} {s : St} (h : AcI n 8 s) : ∃ s', s.do_ 1 ⟨3, 1, 0, 77⟩ = (⟨0, 0, [], 0, 0⟩, 0, s') ∧ AdI n s' := by
  obtain ⟨t, ht, hb, ho, hc⟩ := h.tx1
  have hn := h.few
  refine ⟨_, write1 h.txs h.base (by omega) ht hb (by rw [ho]; decide) (k := 1) (hc 1) (K := 3) (v := 77) (by decide) (.inr ⟨rfl, by decide⟩), ?_⟩
  have hlen : (s.setTx 1 (some t.op)).vs.length = 2 + n := h.base.len
  refine ⟨((h.base.setTx 1 _).grow rfl rfl).setTx 1 _, h.few, fun x h1 h2 => ?_, ?_, ⟨_, setTx_same _ _ _, hb, ?_, fun k => ?_⟩, fun j hj => ?_⟩
  · show (((s.setTx 1 (some t.op)).grow _).ver x).dead = true
    rw [ver_grow (by rw [hlen]; exact h2)]
    exact h.dead x h1 h2
  · have e : ∀ v : Ver, (((s.setTx 1 (some t.op)).grow v).setTx 1 (some ((t.op.put 1 ⟨none, abAt (1 : Nat), (abAt (1 : Nat)).isSome⟩).put 1 ⟨some (2 + n), abAt (1 : Nat), true⟩))).ver (2 + n) = v := by
      intro v
      have := ver_grow_new (s := s.setTx 1 (some t.op)) (v := v)
      rw [hlen] at this
      exact this
    rw [e]
    exact ⟨rfl, rfl, rfl⟩
  · show t.ops + 1 = 9
    rw [ho]; rfl
  · rw [put_cells, put_cells]
    by_cases hk : k = 1
    · simp [hk, abAt]
    · simp [hk]; exact hc k
  · show upd (upd s.tx 1 _) 1 _ j = none
    rw [upd_other _ _ _ hj, upd_other _ _ _ hj, h.txs j hj]
/-- Behind the insert of key 5. -/
structure AeI (n : Nat) (s : St) : Prop where
  base : AbB (n + 2) s
  few : n ≤ 12
  dead : ∀ x, 2 ≤ x → x < 2 + n → (s.ver x).dead = true
  v2 : (s.ver (2 + n)).key = 1 ∧ (s.ver (2 + n)).value = 77 ∧ (s.ver (2 + n)).dead = false
  v3 : (s.ver (3 + n)).key = 5 ∧ (s.ver (3 + n)).value = 78 ∧ (s.ver (3 + n)).dead = false
  tx1 : ∃ t, s.tx 1 = some t ∧ t.beg = 4 ∧ ∀ k, t.cells k = if k = 1 then some ⟨some (2 + n), some 0, true⟩ else if k = 5 then some ⟨some (3 + n), none, true⟩ else none
  txs : ∀ j, j ≠ 1 → s.tx j = none
theorem AdI.ins {n : Nat} {s : St} (h : AdI n s) : ∃ s', s.do_ 1 ⟨2, 5, 0, 78⟩ = (⟨0, 0, [], 0, 0⟩, 0, s') ∧ AeI n s' := by
  obtain ⟨t, ht, hb, ho, hc⟩ := h.tx1
  have hn := h.few
  refine ⟨_, write1 h.txs h.base (by omega) ht hb (by rw [ho]; decide) (k := 5) (by rw [hc]; rfl) (K := 2) (v := 78) (by decide) (.inl ⟨rfl, by decide⟩), ?_⟩
  have hlen : (s.setTx 1 (some t.op)).vs.length = 3 + n := by rw [show (s.setTx 1 (some t.op)).vs.length = s.vs.length from rfl, h.base.len]; omega
  have hold : ∀ (v : Ver) (u : Option Tx) (x : Nat), x < 3 + n → (((s.setTx 1 (some t.op)).grow v).setTx 1 u).ver x = s.ver x := by
    intro v u x hx
    exact ver_grow (s := s.setTx 1 (some t.op)) (v := v) (by rw [hlen]; exact hx)
  refine ⟨((h.base.setTx 1 _).grow rfl rfl).setTx 1 _, h.few, fun x h1 h2 => ?_, ?_, ?_, ⟨_, setTx_same _ _ _, hb, fun k => ?_⟩, fun j hj => ?_⟩
  · rw [hold _ _ _ (by omega)]
    exact h.dead x h1 h2
  · rw [hold _ _ _ (by omega)]
    exact h.v2
  · have e : ∀ (v : Ver) (u : Option Tx), (((s.setTx 1 (some t.op)).grow v).setTx 1 u).ver (3 + n) = v := by
      intro v u
      have := ver_grow_new (s := s.setTx 1 (some t.op)) (v := v)
      rw [hlen] at this
      exact this
    rw [e]
    exact ⟨rfl, rfl, rfl⟩
  · rw [put_cells, put_cells]
    by_cases hk : k = 5
    · simp [hk, abAt]; omega
    · simp [hk]; exact hc k
  · show upd (upd s.tx 1 _) 1 _ j = none
    rw [upd_other _ _ _ hj, upd_other _ _ _ hj, h.txs j hj]
/-- Behind the commit. -/
structure AfI (n : Nat) (s : St) : Prop where
  l : s.l = List.range (4 + n)
  now : s.now = 5
  v0 : (s.ver 0).fin = 5
  v1 : s.ver 1 = ⟨2, 20, 1, 2, 0, false⟩
  dead : ∀ x, 2 ≤ x → x < 2 + n → (s.ver x).dead = true
  v2 : (s.ver (2 + n)).key = 1 ∧ (s.ver (2 + n)).value = 77 ∧ (s.ver (2 + n)).dead = false ∧ (s.ver (2 + n)).beg = 5 ∧ (s.ver (2 + n)).fin = 0
  v3 : (s.ver (3 + n)).key = 5 ∧ (s.ver (3 + n)).value = 78 ∧ (s.ver (3 + n)).dead = false ∧ (s.ver (3 + n)).beg = 5 ∧ (s.ver (3 + n)).fin = 0
  tx : ∀ j, s.tx j = none
theorem AeI.commit {n : Nat} {s : St} (h : AeI n s) : ∃ s', s.do_ 1 ⟨6, 0, 0, 0⟩ = (⟨0, 0, [], 3, 0⟩, 0, s') ∧ AfI n s' := by
  obtain ⟨t, ht, hb, hc⟩ := h.tx1
  have hl : ¬ (s.limit ≤ s.now) := by rw [h.base.limit, h.base.now]; decide
  have hat : ∀ k a : Int, 2 ≤ a → s.tick.at k a = abAt k := fun k a ha => h.base.at k a ha
  have hh : s.tick.holds t (s.now + 1) = true := by
    unfold St.holds
    rw [Bool.or_eq_true]
    right
    rw [List.all_eq_true]
    intro k _
    rw [hat _ _ (by rw [h.base.now]; decide), hat _ _ (by rw [hb]; decide)]
    simp
  have hlen := h.base.len
  have hV : ∀ x, x < 4 + n → (s.tick.done 1 t).ver x = doneV t.cells 5 x (s.ver x) := fun x hx => by
    have := ver_done (s := s.tick) (j := 1) (t := t) (x := x) (by show x < s.vs.length; omega)
    rw [this, show s.tick.now = 5 by show s.now + 1 = 5; rw [h.base.now]; rfl]
    rfl
  have hO : ∀ x, anyC t.cells (isOwn x) = decide (x = 2 + n ∨ x = 3 + n) := fun x => by
    rw [Bool.eq_iff_iff, anyC_iff, decide_eq_true_eq]
    constructor
    · rintro ⟨k, c, _, hk, hp⟩
      rw [hc] at hk
      split at hk
      · injection hk with hk; subst hk; simp [isOwn] at hp; omega
      · split at hk
        · injection hk with hk; subst hk; simp [isOwn] at hp; omega
        · cases hk
    · rintro (rfl | rfl)
      · exact ⟨1, _, by decide, by rw [hc]; rfl, by simp [isOwn]⟩
      · exact ⟨5, _, by decide, by rw [hc]; rfl, by simp [isOwn]⟩
  have hD : ∀ x, anyC t.cells (isOld x) = decide (x = 0) := fun x => by
    rw [Bool.eq_iff_iff, anyC_iff, decide_eq_true_eq]
    constructor
    · rintro ⟨k, c, _, hk, hp⟩
      rw [hc] at hk
      split at hk
      · injection hk with hk; subst hk; simp [isOld] at hp; omega
      · split at hk
        · injection hk with hk; subst hk; simp [isOld] at hp
        · cases hk
    · rintro rfl
      exact ⟨1, _, by decide, by rw [hc]; rfl, by simp [isOld]⟩
  have hG : ∀ x, anyC t.cells (isGone x) = false := fun x => anyC_off fun k c hk => by
    rw [hc] at hk
    split at hk
    · injection hk with hk; subst hk; simp [isGone]
    · split at hk
      · injection hk with hk; subst hk; simp [isGone]
      · cases hk
  have hW : ∀ x, x < 4 + n → (s.tick.done 1 t).ver x = { s.ver x with beg := if x = 2 + n ∨ x = 3 + n then 5 else (s.ver x).beg, fin := if x = 0 then 5 else (s.ver x).fin } := fun x hx => by
    rw [hV x hx]
    unfold doneV
    rw [hO, hD, hG]
    simp
  refine ⟨s.tick.done 1 t, ?_, ⟨?_, ?_, ?_, ?_, fun x h1 h2 => ?_, ?_, ?_, fun j => ?_⟩⟩
  · simp [St.do_, show sessB 1 = true by decide, ht, opOkB, endsB, St.call, St.commit, hl, hh]
  · show s.l = _
    rw [h.base.l]
    congr 1; omega
  · show s.now + 1 = 5
    rw [h.base.now]; rfl
  · rw [hW 0 (by omega)]; rfl
  · rw [hW 1 (by omega), h.base.v1, if_neg (by omega)]; rfl
  · rw [hW x (by omega)]; exact h.dead x h1 h2
  · have hj := h.base.junk (2 + n) (by omega) (by omega)
    rw [hW (2 + n) (by omega), if_pos (.inl rfl), if_neg (by omega)]
    exact ⟨h.v2.1, h.v2.2.1, h.v2.2.2, rfl, hj.2⟩
  · have hj := h.base.junk (3 + n) (by omega) (by omega)
    rw [hW (3 + n) (by omega), if_pos (.inr rfl), if_neg (by omega)]
    exact ⟨h.v3.1, h.v3.2.1, h.v3.2.2, rfl, hj.2⟩
  · show upd s.tx 1 none j = none
    by_cases hj : j = 1
    · subst hj; exact upd_same _ _ _
    · rw [upd_other _ _ _ hj]; exact h.txs j hj
theorem AfI.kept {n : Nat} {s : St} (h : AfI n s) : s.kept = [1, 2 + n, 3 + n] := by
  unfold St.kept
  rw [h.l, low_none h.tx, show 4 + n = 2 + n + 2 by omega, List.range_add, List.range_add, List.filter_append, List.filter_append]
  have e0 : goneB (s.ver 0) 18446744073709551615 = true := by simp [goneB, h.v0]
  have e1 : goneB (s.ver 1) 18446744073709551615 = false := by simp [goneB, h.v1]
  have e2 : goneB (s.ver (2 + n)) 18446744073709551615 = false := by simp [goneB, h.v2.2.2.1, h.v2.2.2.2.2]
  have e3 : goneB (s.ver (3 + n)) 18446744073709551615 = false := by simp [goneB, h.v3.2.2.1, h.v3.2.2.2.2]
  rw [show List.filter (fun i => !goneB (s.ver i) 18446744073709551615) (List.map (fun x => 2 + x) (List.range n)) = [] from ?_]
  · have r2 : List.range 2 = [0, 1] := rfl
    rw [r2]
    simp only [List.map, List.append_nil, List.filter, e0, e1, Nat.add_zero, e2, show 2 + n + 1 = 3 + n by omega, e3]
    rfl
  · rw [List.filter_eq_nil_iff]
    intro x hx
    obtain ⟨y, hy, rfl⟩ := List.mem_map.1 hx
    simp at hy
    simp [goneB, h.dead (2 + y) (by omega) (by omega)]
theorem AfI.pairs {n : Nat} {s : St} (h : AfI n s) : s.collect.pairs s.now = [(1, 77), (2, 20), (5, 78)] := by
  unfold St.pairs
  have e1 : ∀ k : Int, visB (s.ver 1) k 5 = decide (k = 2) := by
    intro k
    rw [h.v1]
    simp [visB]; omega
  have e2 : ∀ k : Int, visB (s.ver (2 + n)) k 5 = decide (k = 1) := by
    intro k
    simp [visB, h.v2.1, h.v2.2.2.2.1, h.v2.2.2.2.2]; omega
  have e3 : ∀ k : Int, visB (s.ver (3 + n)) k 5 = decide (k = 5) := by
    intro k
    simp [visB, h.v3.1, h.v3.2.2.2.1, h.v3.2.2.2.2]; omega
  have hf : (fun (k : Nat) => (s.collect.at k s.now).map fun i => ((k : Int), (s.collect.ver i).value)) = fun (k : Nat) => if k = 1 then some ((1 : Int), (77 : Int)) else if k = 2 then some (2, 20) else if k = 5 then some (5, 78) else none := by
    funext k
    have hat : s.collect.at k s.now = if k = 1 then some (2 + n) else if k = 2 then some 1 else if k = 5 then some (3 + n) else none := by
      unfold St.at
      rw [show s.collect.l = [1, 2 + n, 3 + n] from h.kept, h.now]
      show List.find? (fun i => visB (s.ver i) (k : Int) 5) [1, 2 + n, 3 + n] = _
      simp only [List.find?, e1, e2, e3]
      by_cases k2 : k = 2
      · subst k2; rfl
      · rw [show decide ((k : Int) = 2) = false by simp; omega]
        by_cases k1 : k = 1
        · subst k1; rfl
        · rw [show decide ((k : Int) = 1) = false by simp; omega, if_neg k1, if_neg k2]
          by_cases k5 : k = 5
          · subst k5; rfl
          · rw [show decide ((k : Int) = 5) = false by simp; omega, if_neg k5]
    rw [hat]
    have w1 : (s.collect.ver 1).value = 20 := by show (s.ver 1).value = 20; rw [h.v1]
    have w2 : (s.collect.ver (2 + n)).value = 77 := h.v2.2.1
    have w3 : (s.collect.ver (3 + n)).value = 78 := h.v3.2.1
    by_cases k1 : k = 1
    · subst k1; simp [w2]
    · by_cases k2 : k = 2
      · subst k2; simp [w1]
      · by_cases k5 : k = 5
        · subst k5; simp [w3]
        · simp [k1, k2, k5]
  rw [hf]
  rfl
end Go.Proofs.Ytcbhafddehipdaa

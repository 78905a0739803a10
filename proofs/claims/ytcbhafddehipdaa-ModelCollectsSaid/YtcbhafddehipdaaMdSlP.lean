/-
  ModelSlots: the plain law.
-/
import Derived.Test.YtcbhafddehipdaaMdTimes
import Derived.Test.YtcbhafddehipdaaMdGnP
import Derived.Test.YtcbhafddehipdaaMdFiP
namespace Go.Proofs.Ytcbhafddehipdaa
open Go.RowKit
set_option linter.unusedVariables false
set_option linter.unusedSimpArgs false

theorem anyC_one {f : Nat → Option Cel} {k : Nat} {c : Cel} (p : Cel → Bool) (hk : k < 64) (hf : ∀ j, f j = if j = k then some c else none) : anyC f p = p c := by
  unfold anyC
  cases hp : p c with
  | true =>
    rw [List.any_eq_true]
    exact ⟨k, by simp [hk], by rw [hf k]; simp [hp]⟩
  | false =>
    rw [List.any_eq_false]
    intro j _
    rw [hf j]
    by_cases h : j = k
    · simp [h, hp]
    · simp [h]
def slV (i k : Nat) : Ver := ⟨1, k, (k : Int) + 1, 2 * (k : Int) + 2, if k + 1 < i then 2 * (k : Int) + 4 else 0, false⟩
theorem vis_slV {i k : Nat} {key a : Int} : visB (slV i k) key a = true ↔ key = 1 ∧ 2 * (k : Int) + 2 ≤ a ∧ (k + 1 < i → a < 2 * (k : Int) + 4) := by
  have e : visB (slV i k) key a = (decide ((1 : Int) = key) && decide (0 < 2 * (k : Int) + 2) && decide (2 * (k : Int) + 2 ≤ a) && (decide ((if k + 1 < i then 2 * (k : Int) + 4 else 0) = 0) || decide (a < (if k + 1 < i then 2 * (k : Int) + 4 else 0)))) := rfl
  rw [e]
  by_cases h : k + 1 < i
  · rw [if_pos h]
    simp only [Bool.and_eq_true, Bool.or_eq_true, decide_eq_true_eq]
    constructor
    · rintro ⟨⟨⟨h1, h2⟩, h3⟩, h4⟩
      exact ⟨h1.symm, h3, fun _ => by omega⟩
    · rintro ⟨h1, h2, h3⟩
      exact ⟨⟨⟨h1.symm, by omega⟩, h2⟩, .inr (h3 h)⟩
  · rw [if_neg h]
    simp only [Bool.and_eq_true, Bool.or_eq_true, decide_eq_true_eq]
    constructor
    · rintro ⟨⟨⟨h1, h2⟩, h3⟩, h4⟩
      exact ⟨h1.symm, h3, fun h' => absurd h' h⟩
    · rintro ⟨h1, h2, h3⟩
      exact ⟨⟨⟨h1.symm, by omega⟩, h2⟩, .inl trivial⟩
theorem setTx_same (s : St) (j : Nat) (t : Option Tx) : (s.setTx j t).tx j = t := by
  show upd s.tx j t j = t
  exact upd_same _ _ _
theorem vis_slV_no {i k : Nat} {key a : Int} (h : ¬ (key = 1 ∧ 2 * (k : Int) + 2 ≤ a ∧ (k + 1 < i → a < 2 * (k : Int) + 4))) : visB (slV i k) key a = false := by
  rw [Bool.eq_false_iff]
  exact fun hv => h (vis_slV.1 hv)
structure SlC (n i : Nat) (s : St) : Prop where
  slots : s.slots = (n : Int)
  limit : s.limit = 1000
  l : s.l = List.range i
  vs : s.vs = (List.range i).map (slV i)
structure SlS (n i : Nat) (s : St) : Prop where
  c : SlC n i s
  now : s.now = 2 * (i : Int)
  made : s.made = (i : Int)
  tx : ∀ j, s.tx j = none
structure SlB (n i : Nat) (s : St) : Prop where
  c : SlC n i s
  now : s.now = 2 * (i : Int) + 1
  made : s.made = (i : Int) + 1
  tx0 : s.tx 0 = some (newTx ((i : Int) + 1) 1 (2 * (i : Int) + 1))
  txs : ∀ j, j ≠ 0 → s.tx j = none
def slCel (i : Nat) : Cel := ⟨some i, if i = 0 then none else some (i - 1), true⟩
structure SlD (n i : Nat) (s : St) : Prop where
  slots : s.slots = (n : Int)
  limit : s.limit = 1000
  l : s.l = List.range (i + 1)
  vs : s.vs = (List.range i).map (slV i) ++ [⟨1, i, (i : Int) + 1, 0, 0, false⟩]
  now : s.now = 2 * (i : Int) + 1
  made : s.made = (i : Int) + 1
  tx0 : ∃ t, s.tx 0 = some t ∧ t.level = 1 ∧ ∀ k, t.cells k = if k = 1 then some (slCel i) else none
  txs : ∀ j, j ≠ 0 → s.tx j = none
/-- No room is left, nobody lives. -/
structure SlE (n : Nat) (s : St) : Prop where
  c : SlC n n s
  now : s.now = 2 * (n : Int) + 1
  tx : ∀ j, s.tx j = none
theorem SlS.new (n : Nat) (N : Int) (h : N = (n : Int)) : SlS n 0 (newSt N 1000) := ⟨⟨h, rfl, rfl, rfl⟩, rfl, rfl, fun _ => rfl⟩
theorem SlC.ver {n i k : Nat} {s : St} (h : SlC n i s) (hk : k < i) : s.ver k = slV i k := by
  simp [St.ver, h.vs, List.getD_eq_getElem?_getD, hk]
theorem SlS.begun {n i : Nat} {s : St} (h : SlS n i s) (hi : i ≤ 30) : ∃ s', s.begin 0 1 = ((i : Int) + 1, 0, s') ∧ SlB n i s' := by
  have h1 : ¬ (2000 ≤ s.made) := by rw [h.made]; omega
  have h2 : ¬ (s.limit ≤ s.now) := by rw [h.now, h.c.limit]; omega
  refine ⟨{ s with made := (i : Int) + 1, now := s.now + 1, tx := upd s.tx 0 (some (newTx ((i : Int) + 1) 1 (s.now + 1))) }, ?_, ?_⟩
  · unfold St.begin
    rw [if_pos (by decide), if_neg (by rw [show (0 : Int).toNat = 0 from rfl, h.tx 0]; decide), if_neg h1, if_neg h2]
    rw [show s.made + 1 = (i : Int) + 1 by rw [h.made]]
    rfl
  · refine ⟨⟨h.c.slots, h.c.limit, h.c.l, h.c.vs⟩, ?_, rfl, ?_, fun j hj => ?_⟩
    · show s.now + 1 = _; rw [h.now]
    · exact (upd_same s.tx 0 (some (newTx ((i : Int) + 1) 1 (s.now + 1)))).trans (by rw [h.now])
    · show upd s.tx 0 _ j = _
      rw [upd_other _ _ _ hj]
      exact h.tx j
theorem SlC.at1 {n i : Nat} {s : St} (h : SlC n i s) : s.at 1 (2 * (i : Int) + 1) = if i = 0 then none else some (i - 1) := by
  unfold St.at
  rw [h.l]
  by_cases h0 : i = 0
  · subst h0; rfl
  · rw [if_neg h0, List.find?_range_eq_some]
    refine ⟨?_, by simp; omega, fun j hj => ?_⟩
    · rw [h.ver (by omega)]
      exact vis_slV.2 (by omega)
    · rw [h.ver (by omega), vis_slV_no (by omega)]
      rfl
theorem SlC.at2 {n i : Nat} {s : St} (h : SlC n i s) (k a : Int) (hk : k ≠ 1) : s.at k a = none := by
  unfold St.at
  rw [h.l, List.find?_range_eq_none]
  intro j hj
  rw [h.ver hj, vis_slV_no (by omega)]
  rfl
theorem SlC.later {n i : Nat} {s : St} (h : SlC n i s) (k : Int) : s.later k (2 * (i : Int) + 1) = false := by
  unfold St.later
  rw [h.l, List.any_eq_false]
  intro j hj
  rw [h.ver (by simpa using hj)]
  simp at hj
  have e : laterB (slV i j) k (2 * (i : Int) + 1) = (decide ((1 : Int) = k) && (decide (2 * (i : Int) + 1 < 2 * (j : Int) + 2) || decide (2 * (i : Int) + 1 < (if j + 1 < i then 2 * (j : Int) + 4 else 0)))) := rfl
  rw [e, show decide (2 * (i : Int) + 1 < 2 * (j : Int) + 2) = false by simp; omega]
  by_cases h : j + 1 < i
  · rw [if_pos h, show decide (2 * (i : Int) + 1 < 2 * (j : Int) + 4) = false by simp; omega]
    simp
  · rw [if_neg h, show decide (2 * (i : Int) + 1 < 0) = false by simp; omega]
    simp
theorem SlB.others {n i : Nat} {s : St} (h : SlB n i s) (t : Option Tx) (k : Nat) : (s.setTx 0 t).others 0 k = false := by
  unfold St.others
  rw [List.any_eq_false]
  intro j _
  by_cases h0 : j = 0
  · subst h0
    simp [holderB]
    split <;> simp
  · simp [holderB, St.setTx, upd_other _ _ _ h0, h.txs j h0]
theorem SlB.done {n i : Nat} {s : St} (h : SlB n i s) (hi : i < n) (hn : i < 30) : ∃ s', s.do_ 0 ⟨if i = 0 then 2 else 3, 1, 0, i⟩ = (⟨0, 0, [], 0, 0⟩, 0, s') ∧ SlD n i s' := by
  obtain ⟨t, ht⟩ : ∃ t, t = (newTx ((i : Int) + 1) 1 (2 * (i : Int) + 1)).op := ⟨_, rfl⟩
  have hc : ∀ k, t.cells k = none := by intro k; rw [ht]; rfl
  have hb : t.beg = 2 * (i : Int) + 1 := by rw [ht]; rfl
  have hid : t.id = (i : Int) + 1 := by rw [ht]; rfl
  have hs1 : (s.setTx 0 (some t)).sees t 1 = if i = 0 then none else some (i - 1) := by
    unfold St.sees
    rw [hc 1, hb]
    exact h.c.at1
  have hw : (s.setTx 0 (some t)).write 0 t (if i = 0 then 2 else 3) 1 i = (0, ((s.setTx 0 (some t)).grow ⟨1, i, (i : Int) + 1, 0, 0, false⟩).setTx 0 (some ((t.put 1 (s.newCel t 1)).put 1 ⟨some s.vs.length, (s.newCel t 1).old, true⟩))) := by
    have htk : (s.setTx 0 (some t)).take 0 t 1 = (some (s.newCel t 1), t.put 1 (s.newCel t 1)) := by
      unfold St.take
      rw [hc 1, h.others, hb, show (s.setTx 0 (some t)).later ((1 : Nat) : Int) (2 * (i : Int) + 1) = false from h.c.later 1]
      rfl
    unfold St.write
    rw [htk]
    have h4 : ¬ ((if i = 0 then 2 else 3 : Int) = 4) := by split <;> decide
    have hl : ¬ ((s.setTx 0 (some t)).slots ≤ ((s.setTx 0 (some t)).l.length : Int)) := by
      show ¬ (s.slots ≤ (s.l.length : Int))
      rw [h.c.slots, h.c.l]; simp; omega
    simp only [if_neg h4]
    rw [show (s.newCel t 1).own = none from rfl]
    simp only [if_neg hl]
    rw [hid]
    rfl
  refine ⟨((s.setTx 0 (some t)).grow ⟨1, i, (i : Int) + 1, 0, 0, false⟩).setTx 0 (some ((t.put 1 (s.newCel t 1)).put 1 ⟨some s.vs.length, (s.newCel t 1).old, true⟩)), ?_, ?_⟩
  · unfold St.do_
    rw [if_pos (by decide), show (0 : Int).toNat = 0 from rfl, h.tx0]
    have ho : opOkB ⟨if i = 0 then 2 else 3, 1, 0, i⟩ = true := by
      unfold opOkB
      by_cases h0 : i = 0
      · subst h0; decide
      · simp [h0, keyOkB]; omega
    simp only [ho, if_true]
    rw [if_neg (by simp [newTx])]
    unfold St.call
    have k6 : ¬ ((if i = 0 then 2 else 3 : Int) = 6) := by split <;> decide
    have k7 : ¬ ((if i = 0 then 2 else 3 : Int) = 7) := by split <;> decide
    have k1 : ¬ ((if i = 0 then 2 else 3 : Int) = 1) := by split <;> decide
    have k5 : ¬ ((if i = 0 then 2 else 3 : Int) = 5) := by split <;> decide
    simp only [if_neg k6, if_neg k7, if_neg k1, if_neg k5]
    rw [← ht]
    unfold St.change
    rw [show (1 : Int).toNat = 1 from rfl, hs1, if_neg (by by_cases h0 : i = 0 <;> simp [h0]), hw]
    rfl
  · refine ⟨h.c.slots, h.c.limit, ?_, ?_, h.now, h.made, ⟨_, setTx_same _ _ _, ?_, fun k => ?_⟩, fun j hj => ?_⟩
    · show s.l ++ [s.vs.length] = _
      rw [h.c.l, h.c.vs]; simp [List.range_succ]
    · show s.vs ++ _ = _
      rw [h.c.vs]
    · show t.level = 1
      rw [ht]; rfl
    · show upd (upd t.cells 1 _) 1 _ k = _
      by_cases hk : k = 1
      · subst hk
        rw [upd_same, if_pos rfl, h.c.vs]
        show some (Cel.mk _ (s.at 1 t.beg) _) = _
        rw [hb, h.c.at1]
        simp [slCel]
      · rw [upd_other _ _ _ hk, upd_other _ _ _ hk, if_neg hk, hc k]
    · show upd (upd s.tx 0 _) 0 _ j = _
      rw [upd_other _ _ _ hj, upd_other _ _ _ hj, h.txs j hj]
theorem SlD.commit {n i : Nat} {s : St} (h : SlD n i s) (hn : i < 30) : ∃ s', s.do_ 0 ⟨6, 0, 0, 0⟩ = (⟨0, 0, [], 3, 0⟩, 0, s') ∧ SlS n (i + 1) s' := by
  obtain ⟨t, h0, hlev, hc⟩ := h.tx0
  have hl : ¬ (s.limit ≤ s.now) := by rw [h.limit, h.now]; omega
  refine ⟨s.tick.done 0 t, ?_, ?_⟩
  · simp [St.do_, show sessB 0 = true by decide, h0, opOkB, endsB, St.call, St.commit, hl, St.holds, hlev]
  · refine ⟨⟨h.slots, h.limit, h.l, ?_⟩, ?_, ?_, fun j => ?_⟩
    · show s.vs.mapIdx (doneV t.cells (s.now + 1)) = _
      rw [h.vs, h.now]
      refine List.ext_getElem (by simp) fun k h1 h2 => ?_
      simp at h2
      simp only [List.getElem_mapIdx, List.getElem_map, List.getElem_range]
      unfold doneV
      rw [anyC_one (isOwn k) (by decide) hc, anyC_one (isOld k) (by decide) hc, anyC_one (isGone k) (by decide) hc]
      by_cases hk : k = i
      · subst hk
        have e2 : isOld k (slCel k) = false := by
          unfold isOld slCel
          by_cases h : k = 0
          · simp [h]
          · simp [h]; omega
        rw [e2, show isOwn k (slCel k) = true by simp [isOwn, slCel], show isGone k (slCel k) = false by simp [isGone, slCel]]
        simp [slV]
        omega
      · rw [List.getElem_append_left (by simp; omega)]
        rw [show isOwn k (slCel i) = false by simp [isOwn, slCel]; omega, show isGone k (slCel i) = false by simp [isGone, slCel]]
        by_cases hk1 : k + 1 = i
        · rw [show isOld k (slCel i) = true by simp [isOld, slCel]; omega]
          simp [slV]
          omega
        · rw [show isOld k (slCel i) = false by unfold isOld slCel; by_cases h : i = 0 <;> simp [h]; omega]
          simp [slV]
          rw [if_pos (by omega), if_pos (by omega)]
    · show s.now + 1 = _
      rw [h.now]; omega
    · show s.made = _
      rw [h.made]; omega
    · show upd s.tx 0 none j = none
      by_cases hj : j = 0
      · subst hj; rw [upd_same]
      · rw [upd_other _ _ _ hj, h.txs j hj]
theorem SlB.full {n : Nat} {s : St} (h : SlB n n s) (hn : n ≤ 30) : ∃ s', s.do_ 0 ⟨2, 2, 0, 1⟩ = (⟨14, 0, [], 4, 5⟩, 0, s') ∧ SlE n s' := by
  obtain ⟨t, ht⟩ : ∃ t, t = (newTx ((n : Int) + 1) 1 (2 * (n : Int) + 1)).op := ⟨_, rfl⟩
  have hc : ∀ k, t.cells k = none := by intro k; rw [ht]; rfl
  have hb : t.beg = 2 * (n : Int) + 1 := by rw [ht]; rfl
  have hat : s.at 2 (2 * (n : Int) + 1) = none := h.c.at2 2 _ (by decide)
  have hs1 : (s.setTx 0 (some t)).sees t 2 = none := by
    unfold St.sees
    rw [hc 2, hb]
    exact hat
  have hnc : (s.setTx 0 (some t)).newCel t 2 = ⟨none, none, false⟩ := by
    show Cel.mk none (s.at 2 t.beg) (s.at 2 t.beg).isSome = _
    rw [hb, hat]; rfl
  have hw : (s.setTx 0 (some t)).write 0 t 2 2 1 = (5, (s.setTx 0 (some t)).setTx 0 (some (t.put 2 ⟨none, none, false⟩))) := by
    have htk : (s.setTx 0 (some t)).take 0 t 2 = (some ⟨none, none, false⟩, t.put 2 ⟨none, none, false⟩) := by
      unfold St.take
      rw [hc 2, h.others, hb, show (s.setTx 0 (some t)).later ((2 : Nat) : Int) (2 * (n : Int) + 1) = false from h.c.later 2, hnc]
      rfl
    unfold St.write
    rw [htk]
    have hl : (s.setTx 0 (some t)).slots ≤ ((s.setTx 0 (some t)).l.length : Int) := by
      show s.slots ≤ (s.l.length : Int)
      rw [h.c.slots, h.c.l]; simp
    simp only [if_neg (show ¬ ((2 : Int) = 4) by decide), if_pos hl]
  refine ⟨((s.setTx 0 (some t)).setTx 0 (some (t.put 2 ⟨none, none, false⟩))).kill 0 (t.put 2 ⟨none, none, false⟩), ?_, ?_⟩
  · unfold St.do_
    rw [if_pos (by decide), show (0 : Int).toNat = 0 from rfl, h.tx0]
    simp only [show opOkB ⟨2, 2, 0, 1⟩ = true by decide, if_true]
    rw [if_neg (by simp [newTx])]
    unfold St.call
    simp only [if_neg (show ¬ ((2 : Int) = 6) by decide), if_neg (show ¬ ((2 : Int) = 7) by decide), if_neg (show ¬ ((2 : Int) = 1) by decide), if_neg (show ¬ ((2 : Int) = 5) by decide)]
    rw [← ht]
    unfold St.change
    rw [show (2 : Int).toNat = 2 from rfl, hs1, if_neg (by simp), hw]
    simp only [if_neg (show ¬ ((5 : Int) = 0) by decide)]
    rw [show ((s.setTx 0 (some t)).setTx 0 (some (t.put 2 ⟨none, none, false⟩))).tx 0 = some (t.put 2 ⟨none, none, false⟩) from setTx_same _ _ _]
    rfl
  · refine ⟨⟨h.c.slots, h.c.limit, h.c.l, ?_⟩, h.now, fun j => ?_⟩
    · show s.vs.mapIdx (killV (upd t.cells 2 (some ⟨none, none, false⟩))) = _
      rw [← h.c.vs]
      refine List.ext_getElem (by simp) fun k h1 h2 => ?_
      rw [List.getElem_mapIdx]
      unfold killV
      rw [anyC_one (c := ⟨none, none, false⟩) (k := 2) (isOwn k) (by decide) (fun j => by
        by_cases hj : j = 2
        · subst hj; rw [upd_same, if_pos rfl]
        · rw [upd_other _ _ _ hj, if_neg hj, hc j])]
      simp [isOwn]
    · show upd (upd (upd s.tx 0 _) 0 _) 0 none j = none
      by_cases hj : j = 0
      · subst hj; rw [upd_same]
      · rw [upd_other _ _ _ hj, upd_other _ _ _ hj, upd_other _ _ _ hj, h.txs j hj]
theorem live_none {s : St} (h : ∀ j, s.tx j = none) : s.live = [] := by
  unfold St.live
  rw [funext h]
  rfl
theorem low_none {s : St} (h : ∀ j, s.tx j = none) : s.low = 18446744073709551615 := by
  unfold St.low
  rw [funext h]
  rfl
theorem SlE.kept {m : Nat} {s : St} (h : SlE (m + 1) s) (hm : m < 30) : s.kept = [m] := by
  unfold St.kept
  rw [h.c.l, List.range_succ, List.filter_append, low_none h.tx]
  rw [show List.filter (fun i => !goneB (s.ver i) 18446744073709551615) (List.range m) = [] from ?_]
  · rw [List.nil_append]
    have hv : goneB (s.ver m) 18446744073709551615 = false := by
      rw [h.c.ver (by omega)]
      simp [goneB, slV]
    simp [List.filter, hv]
  · rw [List.filter_eq_nil_iff]
    intro k hk
    simp at hk
    rw [h.c.ver (by omega)]
    simp [goneB, slV]
    omega
theorem SlE.pairs {m : Nat} {s : St} (h : SlE (m + 1) s) (hm : m < 30) : s.collect.pairs s.now = [(1, (m : Int))] := by
  unfold St.pairs
  have hf : (fun (k : Nat) => (s.collect.at k s.now).map fun i => ((k : Int), (s.collect.ver i).value)) = fun (k : Nat) => if k = 1 then some ((1 : Int), (m : Int)) else none := by
    funext k
    have hv : s.collect.ver m = slV (m + 1) m := h.c.ver (by omega)
    have hat : s.collect.at k s.now = if k = 1 then some m else none := by
      unfold St.at
      rw [show s.collect.l = [m] from h.kept hm]
      simp only [List.find?, hv]
      by_cases hk : k = 1
      · subst hk
        have : visB (slV (m + 1) m) ((1 : Nat) : Int) s.now = true := by
          rw [h.now]; exact vis_slV.2 (by omega)
        rw [this]; rfl
      · have : visB (slV (m + 1) m) (k : Int) s.now = false := by
          exact vis_slV_no (by omega)
        rw [this, if_neg hk]
    rw [hat]
    by_cases hk : k = 1
    · subst hk; simp [hv, slV]
    · simp [hk]
  rw [hf]
  rfl
end Go.Proofs.Ytcbhafddehipdaa

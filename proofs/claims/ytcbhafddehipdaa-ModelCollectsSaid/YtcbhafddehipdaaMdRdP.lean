/-
  ModelReaders: the plain law.
-/
import Derived.Test.YtcbhafddehipdaaMdTimes
import Derived.Test.YtcbhafddehipdaaMdFiP
namespace Go.Proofs.Ytcbhafddehipdaa
open Go.RowKit
set_option linter.unusedVariables false
set_option linter.unusedSimpArgs false

/-- Nobody has written: sessions from lo up to hi read. -/
structure RdI (lo hi : Nat) (s : St) : Prop where
  limit : s.limit = 100
  now : s.now = (hi : Int) + (lo : Int)
  made : s.made ≤ (hi : Int)
  l : s.l = []
  some_ : ∀ j, lo ≤ j → j < hi → ∃ t, s.tx j = some t ∧ ∀ k, t.cells k = none
  none_ : ∀ j, j < lo ∨ hi ≤ j → s.tx j = none
theorem RdI.new : RdI 0 0 (newSt 5 100) := ⟨rfl, rfl, by simp [newSt], rfl, fun j h1 h2 => by omega, fun _ _ => rfl⟩
theorem RdI.begun {q : Nat} {s : St} (h : RdI 0 q s) (hq : q < 8) {L : Int} (hL : levelB L = true) : ∃ id s', s.begin q L = (id, 0, s') ∧ RdI 0 (q + 1) s' := by
  have hm := h.made
  have h1 : ¬ (2000 ≤ s.made) := by omega
  have h2 : ¬ (s.limit ≤ s.now) := by rw [h.now, h.limit]; omega
  refine ⟨s.made + 1, { s with made := s.made + 1, now := s.now + 1, tx := upd s.tx q (some (newTx (s.made + 1) L (s.now + 1))) }, ?_, ?_⟩
  · unfold St.begin
    rw [if_pos (by rw [hL]; simp [sessB]; omega), Int.toNat_natCast, if_neg (by rw [h.none_ q (.inr (Nat.le_refl _))]; decide), if_neg h1, if_neg h2]
  · refine ⟨h.limit, ?_, ?_, h.l, fun j _ hj => ?_, fun j hj => ?_⟩
    · show s.now + 1 = _; rw [h.now]; omega
    · show s.made + 1 ≤ _; omega
    · show ∃ t, upd s.tx q _ j = some t ∧ _
      by_cases hjq : j = q
      · subst hjq; rw [upd_same]; exact ⟨_, rfl, fun _ => rfl⟩
      · rw [upd_other _ _ _ hjq]; exact h.some_ j (by omega) (by omega)
    · show upd s.tx q _ j = none
      rw [upd_other _ _ _ (by omega)]
      exact h.none_ j (by omega)
theorem at_nil {s : St} (h : s.l = []) (k a : Int) : s.at k a = none := by unfold St.at; rw [h]; rfl
theorem sees_nil {s : St} (h : s.l = []) {t : Tx} (hc : ∀ k, t.cells k = none) (k : Nat) : s.sees t k = none := by
  unfold St.sees; rw [hc k]; exact at_nil h _ _
theorem RdI.set {s : St} (h : RdI 0 8 s) {j : Nat} (hj : j < 8) {t : Tx} (hc : ∀ k, t.cells k = none) : RdI 0 8 (s.setTx j (some t)) := by
  refine ⟨h.limit, h.now, h.made, h.l, fun i h1 h2 => ?_, fun i hi => ?_⟩
  · show ∃ t', upd s.tx j _ i = some t' ∧ _
    by_cases hij : i = j
    · subst hij; rw [upd_same]; exact ⟨t, rfl, hc⟩
    · rw [upd_other _ _ _ hij]; exact h.some_ i h1 h2
  · show upd s.tx j _ i = none
    rw [upd_other _ _ _ (by omega)]; exact h.none_ i hi
theorem RdI.read {s : St} (h : RdI 0 8 s) {j : Nat} (hj : j < 8) {o : MOp} (ho : opOkB o = true) (hk : o.kind = 1 ∨ o.kind = 5) :
    ∃ re f s', s.do_ j o = (⟨re, 0, [], 0, 0⟩, f, s') ∧ (f = 0 ∨ f = 65) ∧ RdI 0 8 s' := by
  obtain ⟨t, ht, hc⟩ := h.some_ j (by omega) hj
  have he : endsB o = false := by unfold endsB; rcases hk with h | h <;> rw [h] <;> decide
  unfold St.do_
  rw [if_pos (show sessB (j : Int) = true from sess_nat hj), Int.toNat_natCast, ht]
  simp only [ho, he, if_true, Bool.not_false, Bool.and_true, decide_eq_true_eq]
  by_cases h12 : 12 ≤ t.ops
  · rw [if_pos h12]
    exact ⟨0, 65, s, rfl, .inr rfl, h⟩
  · rw [if_neg h12]
    have hn6 : ¬ (o.kind = 6) := by omega
    have hn7 : ¬ (o.kind = 7) := by omega
    unfold St.call
    rw [if_neg hn6, if_neg hn7]
    rcases hk with hk | hk
    · rw [if_pos hk]
      unfold St.get
      rw [sees_nil (t := t.op) h.l hc]
      refine ⟨11, 0, _, rfl, .inl rfl, h.set hj ?_⟩
      intro k
      unfold Tx.look
      split <;> exact hc k
    · rw [if_neg (by omega), if_pos hk]
      unfold St.scan
      rw [show (keysFrom o.key.toNat (o.hi + 1 - o.key).toNat).filterMap (s.pairOf t.op) = [] from ?_]
      · exact ⟨0, 0, _, rfl, .inl rfl, h.set hj hc⟩
      · rw [List.filterMap_eq_nil_iff]
        intro k _
        unfold St.pairOf
        rw [sees_nil (t := t.op) h.l hc]
        rfl
theorem RdI.commit {s : St} {q : Nat} (h : RdI q 8 s) (hq : q < 8) : ∃ s', s.do_ q ⟨6, 0, 0, 0⟩ = (⟨0, 0, [], 3, 0⟩, 0, s') ∧ RdI (q + 1) 8 s' := by
  obtain ⟨t, ht, hc⟩ := h.some_ q (Nat.le_refl _) hq
  have hl : ¬ (s.limit ≤ s.now) := by rw [h.limit, h.now]; omega
  have hh : s.tick.holds t (s.now + 1) = true := by
    unfold St.holds
    rw [Bool.or_eq_true]
    right
    rw [List.all_eq_true]
    intro k _
    rw [at_nil (s := s.tick) h.l, at_nil (s := s.tick) h.l]
    simp
  refine ⟨s.tick.done q t, ?_, ?_⟩
  · simp [St.do_, sess_nat hq, ht, opOkB, endsB, St.call, St.commit, hl, hh]
  · refine ⟨h.limit, ?_, h.made, h.l, fun j h1 h2 => ?_, fun j hj => ?_⟩
    · show s.now + 1 = _; rw [h.now]; omega
    · show ∃ t', upd s.tx q none j = some t' ∧ _
      rw [upd_other _ _ _ (by omega)]; exact h.some_ j (by omega) h2
    · show upd s.tx q none j = none
      by_cases hjq : j = q
      · subst hjq; rw [upd_same]
      · rw [upd_other _ _ _ hjq]; exact h.none_ j (by omega)
theorem RdI.live {s : St} (h : RdI 8 8 s) : s.live = [] := by
  unfold St.live
  rw [List.filterMap_eq_nil_iff]
  intro j hj
  rw [h.none_ j (by omega)]
  rfl
end Go.Proofs.Ytcbhafddehipdaa

/-
  The Model as plain data: what holds of it goes on holding whatever is called.
-/
import Derived.Test.YtcbhafddehipdaaMdWf3
namespace Go.Proofs.Ytcbhafddehipdaa
set_option linter.unusedVariables false
set_option linter.unusedSimpArgs false

theorem upd_again {α : Type} (f : Nat → α) (j : Nat) (x y : α) : upd (upd f j x) j y = upd f j y := by
  funext i; unfold upd; split <;> rfl
theorem put_again (t : Tx) (k : Nat) (a b : Cel) : (t.put k a).put k b = t.put k b := by
  unfold Tx.put; rw [upd_again]
theorem setTx_again (s : St) (j : Nat) (a b : Option Tx) : (s.setTx j a).setTx j b = s.setTx j b := by
  unfold St.setTx; simp only; rw [upd_again]
theorem setTx_grow (s : St) (j : Nat) (a b : Option Tx) (v : Ver) : ((s.setTx j a).grow v).setTx j b = (s.grow v).setTx j b := by
  unfold St.setTx St.grow; simp only; rw [upd_again]
theorem kill_congr (s : St) (j : Nat) (a : Option Tx) (t t' : Tx) (h : ∀ i, anyC t'.cells (isOwn i) = anyC t.cells (isOwn i)) : (s.setTx j a).kill j t' = s.kill j t := by
  unfold St.kill St.setTx
  simp only
  rw [upd_again, show killV t'.cells = killV t.cells from funext fun i => funext fun v => by unfold killV; rw [h]]
theorem anyC_put {f : Nat → Option Cel} {k : Nat} {c : Cel} {p : Cel → Bool} (h : f k = none) (hp : p c = false) : anyC (upd f k (some c)) p = anyC f p := by
  rw [Bool.eq_iff_iff, anyC_iff, anyC_iff]
  constructor
  · rintro ⟨i, d, hi, hd, hpd⟩
    by_cases e : i = k
    · subst e
      rw [upd_same] at hd; injection hd with hd; subst hd
      rw [hp] at hpd; cases hpd
    · rw [upd_other _ _ _ e] at hd; exact ⟨i, d, hi, hd, hpd⟩
  · rintro ⟨i, d, hi, hd, hpd⟩
    refine ⟨i, d, hi, ?_, hpd⟩
    rw [upd_other _ _ _ (fun e => by rw [e, h] at hd; cases hd)]; exact hd
/-- What is left of a state in which a transaction is ended badly. -/
def St.fell (s : St) (j : Nat) : St := match s.tx j with
  | some t => s.kill j t
  | none => s
theorem look_id (t : Tx) (k : Nat) : (t.look k).id = t.id := by unfold Tx.look; split <;> rfl
theorem mark_id (t : Tx) (k : Nat) : (t.mark k).id = t.id := by unfold Tx.mark; split <;> rfl
theorem Wf.write {s : St} (h : Wf s) {j : Nat} {t : Tx} (ht : s.tx j = some t) {k : Nat} (hk : k < 64) (kind x : Int) :
    ((s.write j t kind k x).1 = 0 → Wf (s.write j t kind k x).2) ∧ ((s.write j t kind k x).1 ≠ 0 → (s.write j t kind k x).2.fell j = s.kill j t) := by
  have hfs : s.fell j = s.kill j t := by unfold St.fell; rw [ht]
  unfold St.write St.take
  cases hc : t.cells k with
  | some c =>
    have hh : Has s j k t c := ⟨ht, hc⟩
    simp only
    by_cases h4 : kind = 4
    · rw [if_pos h4]
      exact ⟨fun _ => h.flag hh false (fun e => by cases e), fun e => absurd rfl e⟩
    · rw [if_neg h4]
      cases ho : c.own with
      | none =>
        simp only
        by_cases hs : s.slots ≤ (s.l.length : Int)
        · rw [if_pos hs]
          refine ⟨fun e => absurd (show (5 : Int) = 0 from e) (by decide), fun _ => ?_⟩
          unfold St.fell
          simp only
          rw [setTx_same]
          exact kill_congr s j _ t t (fun _ => rfl)
        · rw [if_neg hs]
          exact ⟨fun _ => h.grown hh ho x, fun e => absurd rfl e⟩
      | some i =>
        simp only
        refine ⟨fun _ => ?_, fun e => absurd rfl e⟩
        have := (h.setVal i x).flag (j := j) (k := k) (t := t) (c := c) ⟨ht, hc⟩ true (fun _ => by rw [ho]; rfl)
        rw [ho] at this
        exact this
  | none =>
    simp only
    cases hot : s.others j k with
    | true => simp only [Bool.true_or, if_true]; exact ⟨fun e => absurd (show (2 : Int) = 0 from e) (by decide), fun _ => hfs⟩
    | false =>
      cases hlt : s.later k t.beg with
      | true => simp only [Bool.or_true, if_true]; exact ⟨fun e => absurd (show (2 : Int) = 0 from e) (by decide), fun _ => hfs⟩
      | false =>
        have h1 := h.newcell ht hc hk hot hlt
        have hh1 : Has (s.setTx j (some (t.put k ⟨none, s.at k t.beg, false⟩))) j k (t.put k ⟨none, s.at k t.beg, false⟩) ⟨none, s.at k t.beg, false⟩ := ⟨setTx_same _ _ _, by rw [put_cells, if_pos rfl]⟩
        simp only [Bool.or_false, Bool.false_eq_true, if_false]
        by_cases h4 : kind = 4
        · rw [if_pos h4]
          refine ⟨fun _ => ?_, fun e => absurd rfl e⟩
          rw [put_again]
          exact h1
        · rw [if_neg h4]
          rw [show (s.newCel t k).own = none from rfl]
          simp only
          by_cases hs : s.slots ≤ (s.l.length : Int)
          · rw [if_pos hs]
            refine ⟨fun e => absurd (show (5 : Int) = 0 from e) (by decide), fun _ => ?_⟩
            unfold St.fell
            simp only
            rw [setTx_same]
            exact kill_congr s j _ t _ (fun i => anyC_put hc (by simp [isOwn, St.newCel]))
          · rw [if_neg hs]
            refine ⟨fun _ => ?_, fun e => absurd rfl e⟩
            have h2 := h1.grown hh1 rfl x
            rw [put_again]
            rw [put_again, setTx_grow] at h2
            exact h2
theorem Wf.change {s : St} (h : Wf s) {j : Nat} {t : Tx} (ht : s.tx j = some t) {k : Nat} (hk : k < 64) (kind x : Int) : Wf (s.change j t kind k x).2 := by
  have hw := h.write ht hk kind x
  unfold St.change
  split
  · exact h.retx ht (look_beg t k).2.2 (look_beg t k).1 (look_id t k)
  · rcases hr : s.write j t kind k x with ⟨r, s1⟩
    rw [hr] at hw
    simp only at hw ⊢
    by_cases h0 : r = 0
    · rw [if_pos h0]; exact hw.1 h0
    · rw [if_neg h0]
      have := hw.2 h0
      unfold St.fell at this
      show Wf (match s1.tx j with | some t1 => s1.kill j t1 | none => s1)
      rw [this]
      exact h.killed ht
theorem Wf.call {s : St} (h : Wf s) {j : Nat} {t : Tx} (ht : s.tx j = some t) {o : MOp} (ho : opOkB o = true) : Wf (s.call j t o).2 := by
  unfold St.call
  split
  · unfold St.commit
    split
    · exact h.killed ht
    · split
      · exact h.committed ht
      · exact h.ticked.killed ht
  · split
    · exact h.killed ht
    · rename_i n6 n7
      have hop : Wf (s.setTx j (some t.op)) := h.retx ht rfl rfl rfl
      have htop : (s.setTx j (some t.op)).tx j = some t.op := setTx_same _ _ _
      have hk : o.key.toNat < 64 := by
        unfold opOkB at ho
        split at ho
        · simp [keyOkB] at ho; omega
        · split at ho
          · simp [keyOkB] at ho; omega
          · split at ho
            · simp [keyOkB] at ho; omega
            · split at ho
              · simp at ho; omega
              · cases ho
      split
      · unfold St.get
        split
        · exact h.retx ht (look_beg t.op _).2.2 (look_beg t.op _).1 (look_id t.op _)
        · exact h.retx ht ((mark_beg _ _).2.2.trans (look_beg t.op _).2.2) ((mark_beg _ _).1.trans (look_beg t.op _).1) ((mark_id _ _).trans (look_id t.op _))
      · split
        · exact h.retx ht rfl rfl rfl
        · exact hop.change htop hk _ _
theorem Wf.do_ {s : St} (h : Wf s) (j : Int) (o : MOp) : Wf (s.do_ j o).2.2 := by
  unfold St.do_
  split
  · split
    · exact h
    · rename_i t ht
      split
      · rename_i ho
        split
        · exact h
        · exact h.call ht ho
      · exact h
  · exact h
theorem Wf.begin {s : St} (h : Wf s) (j level : Int) : Wf (s.begin j level).2.2 := by
  unfold St.begin
  split
  · rename_i hs
    split
    · exact h
    · rename_i hn
      split
      · exact h
      · split
        · exact h
        · refine h.begun ?_ (by simpa using hn) level _ rfl
          simp [sessB] at hs; omega
  · exact h
end Go.Proofs.Ytcbhafddehipdaa

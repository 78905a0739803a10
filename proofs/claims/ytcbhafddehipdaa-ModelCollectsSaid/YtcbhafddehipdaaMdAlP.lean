/-
  ModelAlone: the plain law.
-/
import Derived.Test.YtcbhafddehipdaaMdAbP
namespace Go.Proofs.Ytcbhafddehipdaa
open Go.RowKit
set_option linter.unusedVariables false
set_option linter.unusedSimpArgs false

/-- Transaction 3 is alone: n calls were done; th and vl tell which keys are there for it, and their values. -/
structure AlT (n : Nat) (th : Nat → Bool) (vl : Nat → Int) (s : St) (t : Tx) : Prop where
  beg : t.beg = 1
  ops : t.ops = (n : Int)
  cn : ∀ k, t.cells k = none → th k = false
  cs : ∀ k c, t.cells k = some c → c.there = th k ∧ ∃ i, c.own = some i ∧ i < s.vs.length ∧ (s.ver i).key = (k : Int) ∧ (th k = true → (s.ver i).value = vl k)
structure AlB (n : Nat) (s : St) : Prop where
  slots : s.slots = 200
  limit : s.limit = 50
  now : s.now = 1
  l : s.l = List.range s.vs.length
  few : s.vs.length ≤ n
  raw : ∀ x, (s.ver x).beg = 0 ∧ (s.ver x).fin = 0
  txs : ∀ j, j ≠ 3 → s.tx j = none
structure AlI (n : Nat) (th : Nat → Bool) (vl : Nat → Int) (s : St) : Prop where
  base : AlB n s
  most : n ≤ 12
  tx : ∃ t, s.tx 3 = some t ∧ AlT n th vl s t
theorem AlB.at {n : Nat} {s : St} (h : AlB n s) (k a : Int) : s.at k a = none := by
  unfold St.at
  rw [List.find?_eq_none]
  intro i _
  simp [visB, (h.raw i).1]
theorem AlB.later {n : Nat} {s : St} (h : AlB n s) (k a : Int) (ha : 0 ≤ a) : s.later k a = false := by
  unfold St.later
  rw [List.any_eq_false]
  intro i _
  simp [laterB, (h.raw i).1, (h.raw i).2]
  omega
theorem AlB.others {n : Nat} {s : St} (h : AlB n s) (k : Nat) : s.others 3 k = false := by
  unfold St.others
  rw [List.any_eq_false]
  intro j _
  by_cases h3 : j = 3
  · subst h3
    simp [holderB]
    split <;> simp
  · simp [holderB, h.txs j h3]
theorem AlB.setTx {n : Nat} {s : St} (h : AlB n s) (t : Option Tx) : AlB n (s.setTx 3 t) :=
  ⟨h.slots, h.limit, h.now, h.l, h.few, h.raw, fun j hj => by
    show upd s.tx 3 t j = none
    rw [upd_other _ _ _ hj]; exact h.txs j hj⟩
theorem AlB.more {n : Nat} {s : St} (h : AlB n s) : AlB (n + 1) s := ⟨h.slots, h.limit, h.now, h.l, Nat.le_succ_of_le h.few, h.raw, h.txs⟩
theorem AlT.sees {n : Nat} {th : Nat → Bool} {vl : Nat → Int} {s s' : St} {t : Tx} (h : AlT n th vl s t) (B : AlB n s') (k : Nat) :
    (s'.sees t k = none ∧ th k = false) ∨ ∃ i, s'.sees t k = some i ∧ th k = true ∧ i < s.vs.length ∧ (s.ver i).value = vl k := by
  unfold St.sees
  cases hc : t.cells k with
  | none => exact .inl ⟨B.at _ _, h.cn k hc⟩
  | some c =>
    obtain ⟨ht, i, ho, hi, -, hv⟩ := h.cs k c hc
    cases hth : th k with
    | false => rw [hth] at ht; exact .inl ⟨by simp [ht], rfl⟩
    | true => rw [hth] at ht; exact .inr ⟨i, by simp [ht, ho], rfl, hi, hv hth⟩
def alRes (th : Nat → Bool) (vl : Nat → Int) (o : MOp) : Res :=
  if o.kind = 1 then (if th o.key.toNat then ⟨0, vl o.key.toNat, [], 0, 0⟩ else .err 11)
  else if o.kind = 2 then (if th o.key.toNat then .err 12 else .zero)
  else if o.kind = 5 then ⟨0, 0, (keysFrom o.key.toNat (o.hi + 1 - o.key).toNat).filterMap fun k => if th k then some ((k : Int), vl k) else none, 0, 0⟩
  else (if th o.key.toNat then .zero else .err 11)
def alTh (th : Nat → Bool) (o : MOp) : Nat → Bool := if o.kind = 2 then upd th o.key.toNat true else if o.kind = 4 then upd th o.key.toNat false else th
def alVl (th : Nat → Bool) (vl : Nat → Int) (o : MOp) : Nat → Int :=
  if o.kind = 2 ∧ th o.key.toNat = false ∨ o.kind = 3 ∧ th o.key.toNat = true then upd vl o.key.toNat o.value else vl
theorem AlT.same {n : Nat} {th : Nat → Bool} {vl : Nat → Int} {s s' : St} {t t' : Tx} (h : AlT n th vl s t) (hs : s'.vs = s.vs) (hc : t'.cells = t.cells) (hb : t'.beg = t.beg) {m : Nat} (ho : t'.ops = (m : Int)) : AlT m th vl s' t' := by
  refine ⟨hb.trans h.beg, ho, fun k hk => h.cn k (by rw [← hc]; exact hk), fun k c hk => ?_⟩
  obtain ⟨h1, i, h2, h3, h4, h5⟩ := h.cs k c (by rw [← hc]; exact hk)
  have hv : s'.ver i = s.ver i := by unfold St.ver; rw [hs]
  exact ⟨h1, i, h2, by rw [hs]; exact h3, by rw [hv]; exact h4, by rw [hv]; exact h5⟩
theorem AlI.of {n : Nat} {th : Nat → Bool} {vl : Nat → Int} {s : St} {t : Tx} (B : AlB n s) (hn : n ≤ 12) (T : AlT n th vl s t) : AlI n th vl (s.setTx 3 (some t)) :=
  ⟨B.setTx _, hn, t, setTx_same _ _ _, T.same (s' := s.setTx 3 (some t)) rfl rfl rfl T.ops⟩
theorem look_beg (t : Tx) (k : Nat) : (t.look k).beg = t.beg ∧ (t.look k).ops = t.ops ∧ (t.look k).cells = t.cells := by
  unfold Tx.look; split <;> exact ⟨rfl, rfl, rfl⟩
theorem mark_beg (t : Tx) (k : Nat) : (t.mark k).beg = t.beg ∧ (t.mark k).ops = t.ops ∧ (t.mark k).cells = t.cells := by
  unfold Tx.mark; split <;> exact ⟨rfl, rfl, rfl⟩
/-- Behind a write of a key. -/
theorem AlT.put {n : Nat} {th : Nat → Bool} {vl : Nat → Int} {s s' : St} {t t' : Tx} (h : AlT n th vl s t) (k : Nat) (b : Bool) (x : Int) {c : Cel} {i : Nat} (hb : t'.beg = 1) (ho : t'.ops = (n : Int))
    (hc : ∀ j, t'.cells j = if j = k then some c else t.cells j) (hct : c.there = b) (hco : c.own = some i) (hi : i < s'.vs.length) (hk : (s'.ver i).key = (k : Int)) (hv : b = true → (s'.ver i).value = x)
    (hlen : s.vs.length ≤ s'.vs.length) (hold : ∀ j, j < s.vs.length → j ≠ i → s'.ver j = s.ver j) (hdif : ∀ j d, j ≠ k → t.cells j = some d → d.own ≠ some i) : AlT n (upd th k b) (upd vl k x) s' t' := by
  refine ⟨hb, ho, fun j hj => ?_, fun j d hd => ?_⟩
  · rw [hc] at hj
    by_cases hjk : j = k
    · rw [if_pos hjk] at hj; cases hj
    · rw [if_neg hjk] at hj
      rw [upd_other _ _ _ hjk]; exact h.cn j hj
  · rw [hc] at hd
    by_cases hjk : j = k
    · subst hjk
      rw [if_pos rfl] at hd; injection hd with hd; subst hd
      refine ⟨by rw [upd_same]; exact hct, i, hco, hi, hk, fun h1 => ?_⟩
      rw [upd_same] at h1 ⊢
      exact hv h1
    · rw [if_neg hjk] at hd
      obtain ⟨h1, y, h2, h3, h4, h5⟩ := h.cs j d hd
      have hy : y ≠ i := fun e => hdif j d hjk hd (by rw [h2, e])
      have hvy := hold y h3 hy
      rw [upd_other _ _ _ hjk]
      refine ⟨h1, y, h2, by omega, by rw [hvy]; exact h4, fun h6 => ?_⟩
      rw [upd_other _ _ _ hjk, hvy]
      exact h5 h6
theorem AlI.bad {n : Nat} {th : Nat → Bool} {vl : Nat → Int} {s : St} (h : AlI n th vl s) {o : MOp} (ho : opOkB o = false) : s.do_ 3 o = (.zero, 9, s) := by
  obtain ⟨t, ht, -⟩ := h.tx
  unfold St.do_
  rw [if_pos (by decide), show (3 : Int).toNat = 3 from rfl, ht]
  simp [ho]
theorem AlI.many {th : Nat → Bool} {vl : Nat → Int} {s : St} (h : AlI 12 th vl s) {o : MOp} (ho : opOkB o = true) (h6 : o.kind < 6) : s.do_ 3 o = (.zero, 65, s) := by
  obtain ⟨t, ht, T⟩ := h.tx
  have he : endsB o = false := by unfold endsB; simp; omega
  unfold St.do_
  rw [if_pos (by decide), show (3 : Int).toNat = 3 from rfl, ht]
  simp [ho, he, T.ops]
theorem op_kinds {o : MOp} (ho : opOkB o = true) (h6 : o.kind < 6) : (1 ≤ o.kind ∧ o.kind ≤ 5) ∧ 0 ≤ o.key ∧ o.key ≤ 63 ∧ (o.kind = 5 → o.key ≤ o.hi ∧ o.hi ≤ 63) := by
  unfold opOkB at ho
  split at ho
  · simp [keyOkB] at ho; omega
  · split at ho
    · simp [keyOkB] at ho; omega
    · split at ho
      · simp [keyOkB] at ho; omega
      · split at ho
        · omega
        · cases ho
theorem upd_id {α : Type} (f : Nat → α) (k : Nat) (x : α) (h : f k = x) : upd f k x = f := by
  funext j
  by_cases hj : j = k
  · subst hj; rw [upd_same, h]
  · rw [upd_other _ _ _ hj]
set_option maxHeartbeats 1600000 in
theorem AlI.step {n : Nat} {th : Nat → Bool} {vl : Nat → Int} {s : St} (h : AlI n th vl s) (hn : n < 12) {o : MOp} (ho : opOkB o = true) (h6 : o.kind < 6) :
    ∃ s', s.do_ 3 o = (alRes th vl o, 0, s') ∧ AlI (n + 1) (alTh th o) (alVl th vl o) s' := by
  obtain ⟨t, ht, T⟩ := h.tx
  have he : endsB o = false := by unfold endsB; simp; omega
  obtain ⟨hK, hk0, hk1, h5⟩ := op_kinds ho h6
  obtain ⟨k, hk⟩ : ∃ k : Nat, o.key = (k : Int) := ⟨o.key.toNat, by omega⟩
  have hkn : o.key.toNat = k := by omega
  have T0 : AlT (n + 1) th vl s t.op := T.same (t' := t.op) rfl rfl rfl (by show t.ops + 1 = _; rw [T.ops]; rfl)
  obtain ⟨t0, ht0⟩ : ∃ t0, t0 = t.op := ⟨_, rfl⟩
  rw [← ht0] at T0
  have B := h.base.more
  have hd : s.do_ 3 o = ((s.call 3 t o).1, 0, (s.call 3 t o).2) := by
    unfold St.do_
    rw [if_pos (by decide), show (3 : Int).toNat = 3 from rfl, ht]
    simp only [ho, he, if_true]
    rw [if_neg (by simp [T.ops]; omega)]
  rw [hd]
  unfold St.call
  rw [← ht0]
  have n6 : ¬ (o.kind = 6) := by omega
  have n7 : ¬ (o.kind = 7) := by omega
  simp only [if_neg n6, if_neg n7, hkn]
  clear hd ht ht0
  by_cases k1 : o.kind = 1
  · simp only [if_pos k1]
    have e1 : alTh th o = th := by unfold alTh; rw [if_neg (by omega), if_neg (by omega)]
    have e2 : alVl th vl o = vl := by unfold alVl; rw [if_neg (by omega)]
    rw [e1, e2]
    unfold alRes St.get
    rw [if_pos k1, hkn]
    have l1 := look_beg t0 k
    have m1 := mark_beg (t0.look k) k
    rcases T0.sees B k with ⟨hs, hth⟩ | ⟨i, hs, hth, hi, hv⟩
    · rw [hs, hth]
      exact ⟨_, rfl, AlI.of B hn (T0.same rfl l1.2.2 l1.1 (l1.2.1.trans T0.ops))⟩
    · rw [hs, hth]
      refine ⟨_, ?_, AlI.of B hn (T0.same rfl (m1.2.2.trans l1.2.2) (m1.1.trans l1.1) (m1.2.1.trans (l1.2.1.trans T0.ops)))⟩
      rw [← hv]; rfl
  simp only [if_neg k1]
  by_cases k5 : o.kind = 5
  · simp only [if_pos k5]
    have e1 : alTh th o = th := by unfold alTh; rw [if_neg (by omega), if_neg (by omega)]
    have e2 : alVl th vl o = vl := by unfold alVl; rw [if_neg (by omega)]
    rw [e1, e2]
    unfold alRes St.scan
    rw [if_neg k1, if_neg (by omega), if_pos k5, hkn]
    refine ⟨_, ?_, AlI.of B hn (T0.same (t' := t0.lookAll k (o.hi + 1 - o.key).toNat) rfl rfl rfl T0.ops)⟩
    rw [show (keysFrom k (o.hi + 1 - o.key).toNat).filterMap (s.pairOf t0) = (keysFrom k (o.hi + 1 - o.key).toNat).filterMap (fun k => if th k then some ((k : Int), vl k) else none) from ?_]
    congr 1
    funext j
    unfold St.pairOf
    rcases T0.sees B j with ⟨hs, hth⟩ | ⟨i, hs, hth, hi, hv⟩
    · rw [hs, hth]; rfl
    · rw [hs, hth, ← hv]; rfl
  simp only [if_neg k5]
  have B1 : AlB (n + 1) (s.setTx 3 (some t0)) := B.setTx _
  have T1 : AlT (n + 1) th vl (s.setTx 3 (some t0)) t0 := T0.same (s' := s.setTx 3 (some t0)) rfl rfl rfl T0.ops
  have hf1 : (s.setTx 3 (some t0)).vs.length ≤ n := h.base.few
  generalize s.setTx 3 (some t0) = s1 at B1 T1 hf1 ⊢
  clear B T0 T h
  have hS := T1.sees B1 k
  unfold St.change alRes
  rw [if_neg k1, if_neg k5, hkn]
  by_cases hsame : (s1.sees t0 k).isSome = decide (o.kind = 2)
  · -- nothing is written
    rw [if_pos hsame]
    have l1 := look_beg t0 k
    have hthk : th k = decide (o.kind = 2) := by
      rw [← hsame]
      rcases hS with ⟨hs, hth⟩ | ⟨i, hs, hth, -⟩ <;> rw [hs, hth] <;> rfl
    have e1 : alTh th o = th := by
      unfold alTh
      rw [hkn]
      by_cases k2 : o.kind = 2
      · rw [if_pos k2]; exact upd_id _ _ _ (by rw [hthk]; simp [k2])
      · rw [if_neg k2]
        by_cases k4 : o.kind = 4
        · rw [if_pos k4]; exact upd_id _ _ _ (by rw [hthk]; simp [k2])
        · rw [if_neg k4]
    have e2 : alVl th vl o = vl := by
      unfold alVl
      rw [hkn, hthk, if_neg]
      by_cases k2 : o.kind = 2
      · simp [k2]
      · simp [k2]
    rw [e1, e2]
    refine ⟨_, ?_, AlI.of B1 hn (T1.same rfl l1.2.2 l1.1 (l1.2.1.trans T1.ops))⟩
    rw [hsame, hthk]
    by_cases k2 : o.kind = 2
    · simp [k2]
    · simp [k2]
  · rw [if_neg hsame]
    have hthk : th k = !decide (o.kind = 2) := by
      rcases hS with ⟨hs, hth⟩ | ⟨i, hs, hth, -⟩
      · rw [hs] at hsame; rw [hth]
        by_cases k2 : o.kind = 2
        · simp [k2]
        · simp [k2] at hsame
      · rw [hs] at hsame; rw [hth]
        by_cases k2 : o.kind = 2
        · simp [k2] at hsame
        · simp [k2]
    have hr : (if o.kind = 2 then if th k = true then Res.err 12 else Res.zero else if th k = true then Res.zero else Res.err 11) = Res.zero := by
      rw [hthk]
      by_cases k2 : o.kind = 2 <;> simp [k2]
    rw [hr]
    have hl : ¬ (s1.slots ≤ (s1.l.length : Int)) := by rw [B1.slots, B1.l]; have := B1.few; simp; omega
    have hne : ∀ (c : Cel) (i : Nat), t0.cells k = some c → c.own = some i → ∀ j d, j ≠ k → t0.cells j = some d → d.own ≠ some i := by
      intro c i hc hi j d hjk hd e
      obtain ⟨-, y, h2, -, h4, -⟩ := T1.cs j d hd
      obtain ⟨-, z, h2', -, h4', -⟩ := T1.cs k c hc
      rw [h2] at e; rw [h2'] at hi
      injection e with e; injection hi with hi
      subst e; subst hi
      rw [h4] at h4'
      omega
    unfold St.write
    cases hc : t0.cells k with
    | some c =>
      have htk : s1.take 3 t0 k = (some c, t0) := by unfold St.take; rw [hc]
      rw [htk]
      obtain ⟨hct, i, hci, hi, hki, hvi⟩ := T1.cs k c hc
      by_cases k4 : o.kind = 4
      · simp only [if_pos k4, if_true]
        have e1 : alTh th o = upd th k false := by unfold alTh; rw [if_neg (by omega), if_pos k4, hkn]
        have e2 : alVl th vl o = upd vl k (vl k) := by unfold alVl; rw [if_neg (by omega)]; exact (upd_id _ _ _ rfl).symm
        rw [e1, e2]
        exact ⟨_, rfl, AlI.of B1 hn (T1.put k false (vl k) (c := { c with there := false }) (i := i) T1.beg T1.ops (fun j => put_cells _ _ _ _) rfl hci hi hki (fun h => by cases h) (Nat.le_refl _) (fun _ _ _ => rfl) (hne c i hc hci))⟩
      · simp only [if_neg k4, hci, if_true]
        have e1 : alTh th o = upd th k true := by
          unfold alTh
          rw [hkn]
          by_cases k2 : o.kind = 2
          · rw [if_pos k2]
          · rw [if_neg k2, if_neg k4]
            exact (upd_id _ _ _ (by rw [hthk]; simp [k2])).symm
        have e2 : alVl th vl o = upd vl k o.value := by
          unfold alVl
          rw [hkn, hthk, if_pos]
          by_cases k2 : o.kind = 2
          · simp [k2]
          · simp [k2]; omega
        rw [e1, e2]
        have hlen : (s1.setVal i o.value).vs.length = s1.vs.length := by show (s1.vs.set i _).length = _; simp
        refine ⟨_, rfl, AlI.of (s := s1.setVal i o.value) ⟨B1.slots, B1.limit, B1.now, ?_, ?_, fun x => ?_, B1.txs⟩ hn (T1.put k true o.value (c := ⟨some i, c.old, true⟩) (i := i) T1.beg T1.ops (fun j => put_cells _ _ _ _) rfl rfl (by rw [hlen]; exact hi) ?_ (fun _ => ?_) (by rw [hlen]; exact Nat.le_refl _) (fun j _ hj => ?_) (hne c i hc hci))⟩
        · rw [hlen]; exact B1.l
        · rw [hlen]; exact B1.few
        · rw [ver_setVal]
          split
          · exact B1.raw i
          · exact B1.raw x
        · rw [ver_setVal, if_pos ⟨rfl, hi⟩]; exact hki
        · rw [ver_setVal, if_pos ⟨rfl, hi⟩]
        · rw [ver_setVal, if_neg (by omega)]
    | none =>
      have hcn := T1.cn k hc
      have k2 : o.kind = 2 := by
        rw [hcn] at hthk
        by_cases k2 : o.kind = 2
        · exact k2
        · simp [k2] at hthk
      have htk : s1.take 3 t0 k = (some ⟨none, none, false⟩, t0.put k ⟨none, none, false⟩) := by
        have e : s1.newCel t0 k = ⟨none, none, false⟩ := by
          show Cel.mk none (s1.at k t0.beg) (s1.at k t0.beg).isSome = _
          rw [B1.at]; rfl
        unfold St.take
        rw [hc, B1.others, B1.later _ _ (by rw [T1.beg]; decide), e]
        rfl
      rw [htk]
      simp only [if_neg (show ¬ (o.kind = 4) by omega), if_neg hl, if_true]
      have e1 : alTh th o = upd th k true := by unfold alTh; rw [if_pos k2, hkn]
      have e2 : alVl th vl o = upd vl k o.value := by unfold alVl; rw [if_pos (.inl ⟨k2, by rw [hkn]; exact hcn⟩), hkn]
      rw [e1, e2]
      have hlen : ∀ v, (s1.grow v).vs.length = s1.vs.length + 1 := fun v => by show (s1.vs ++ [v]).length = _; simp
      have hnew : ∀ v, (s1.grow v).ver s1.vs.length = v := fun v => ver_grow_new
      refine ⟨_, rfl, AlI.of (s := s1.grow ⟨k, o.value, t0.id, 0, 0, false⟩) ⟨B1.slots, B1.limit, B1.now, ?_, ?_, fun x => ?_, B1.txs⟩ hn
        (T1.put k true o.value (c := ⟨some s1.vs.length, none, true⟩) (i := s1.vs.length) T1.beg T1.ops (fun j => ?_) rfl rfl (by rw [hlen]; omega) (by rw [hnew]) (fun _ => by rw [hnew]) (by rw [hlen]; omega) (fun j hj _ => ver_grow hj) (fun j d hjk hd e => ?_))⟩
      · show s1.l ++ [s1.vs.length] = _
        rw [hlen, B1.l, List.range_succ]
      · rw [hlen]
        omega
      · by_cases hx : x < s1.vs.length
        · rw [ver_grow hx]; exact B1.raw x
        · by_cases hx1 : x = s1.vs.length
          · rw [hx1, hnew]; exact ⟨rfl, rfl⟩
          · have : (s1.grow ⟨k, o.value, t0.id, 0, 0, false⟩).ver x = default := by
              simp only [St.ver, List.getD_eq_getElem?_getD]
              rw [List.getElem?_eq_none (by have := hlen ⟨k, o.value, t0.id, 0, 0, false⟩; unfold St.grow at this ⊢; omega)]
              rfl
            rw [this]; exact ⟨rfl, rfl⟩
      · rw [put_cells, put_cells]
        by_cases hj : j = k
        · simp [hj]
        · simp [hj]
      · obtain ⟨-, y, h2, h3, -⟩ := T1.cs j d hd
        rw [h2] at e
        injection e with e
        omega
theorem AlI.commit {n : Nat} {th : Nat → Bool} {vl : Nat → Int} {s : St} (h : AlI n th vl s) : ∃ s', s.do_ 3 ⟨6, 0, 0, 0⟩ = (⟨0, 0, [], 3, 0⟩, 0, s') := by
  obtain ⟨t, ht, T⟩ := h.tx
  have hl : ¬ (s.limit ≤ s.now) := by rw [h.base.limit, h.base.now]; decide
  have hat : ∀ k a : Int, s.tick.at k a = none := fun k a => h.base.at k a
  have hh : s.tick.holds t (s.now + 1) = true := by
    unfold St.holds
    rw [Bool.or_eq_true]
    right
    rw [List.all_eq_true]
    intro k _
    rw [hat, hat]
    simp
  exact ⟨s.tick.done 3 t, by simp [St.do_, show sessB 3 = true by decide, ht, opOkB, endsB, St.call, St.commit, hl, hh]⟩
theorem AlI.start {L : Int} (hL : levelB L = true) : ∃ s, (newSt 200 50).begin 3 L = (1, 0, s) ∧ AlI 0 (fun _ => false) (fun _ => 0) s := by
  refine ⟨_, by unfold St.begin; rw [if_pos (by rw [hL]; decide), if_neg (by simp [newSt]), if_neg (by simp [newSt]), if_neg (by simp [newSt])]; rfl, ⟨rfl, rfl, rfl, rfl, Nat.le_refl _, fun x => ?_, fun j hj => ?_⟩, by decide, newTx 1 L 1, ?_, rfl, rfl, fun k _ => rfl, fun k c hk => by cases hk⟩
  · exact ⟨rfl, rfl⟩
  · exact upd_other (newSt 200 50).tx (Int.toNat 3) _ hj
  · exact upd_same (newSt 200 50).tx 3 (some (newTx 1 L 1))
end Go.Proofs.Ytcbhafddehipdaa

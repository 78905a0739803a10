/-
  ModelCollects: the plain law: a Model that never collects answers as one that does.
-/
import Derived.Test.YtcbhafddehipdaaMdWf4
namespace Go.Proofs.Ytcbhafddehipdaa
set_option linter.unusedVariables false
set_option linter.unusedSimpArgs false

/-- The same Model, of which nothing was ever taken away. -/
def full (s : St) : St := { s with l := List.range s.vs.length }
theorem full_some {s : St} (h : Wf s) {k a : Int} {i : Nat} : (full s).at k a = some i ↔ i < s.vs.length ∧ Vis (s.ver i) k a := by
  show (List.range s.vs.length).find? (fun i => visB (s.ver i) k a) = some i ↔ _
  constructor
  · intro hf
    exact ⟨by simpa using List.mem_of_find?_eq_some hf, visB_iff.1 (List.find?_some (p := fun i => visB (s.ver i) k a) hf)⟩
  · rintro ⟨hi, hv⟩
    cases hf : (List.range s.vs.length).find? (fun i => visB (s.ver i) k a) with
    | none => exact absurd (visB_iff.2 hv) (by simpa using List.find?_eq_none.1 hf i (by simpa using hi))
    | some x =>
      rw [h.one (by simpa using List.mem_of_find?_eq_some hf) hi (visB_iff.1 (List.find?_some (p := fun i => visB (s.ver i) k a) hf)) hv]
theorem opt_ext {a b : Option Nat} (h : ∀ i, a = some i ↔ b = some i) : a = b := by
  cases a with
  | some i => exact ((h i).1 rfl).symm
  | none =>
    cases b with
    | none => rfl
    | some i => exact (h i).2 rfl
theorem full_at {s : St} (h : Wf s) {k a : Int} (ha : a = s.now ∨ ∃ j t, s.tx j = some t ∧ t.beg ≤ a) : (full s).at k a = s.at k a := by
  apply opt_ext
  intro i
  rw [full_some h, h.at_some]
  exact ⟨fun ⟨h1, h2⟩ => ⟨h.in_l h1 h2 ha, h2⟩, fun ⟨h1, h2⟩ => ⟨h.lin i h1, h2⟩⟩
theorem full_later {s : St} (h : Wf s) {j : Nat} {t : Tx} (ht : s.tx j = some t) (k : Int) : (full s).later k t.beg = s.later k t.beg := by
  show (List.range s.vs.length).any (fun i => laterB (s.ver i) k t.beg) = s.l.any (fun i => laterB (s.ver i) k t.beg)
  rw [Bool.eq_iff_iff, List.any_eq_true, List.any_eq_true]
  constructor
  · rintro ⟨i, hi, hl⟩
    have hi' : i < s.vs.length := by simpa using hi
    refine ⟨i, ?_, hl⟩
    apply Classical.byContradiction
    intro hm
    unfold laterB at hl
    simp only [Bool.and_eq_true, Bool.or_eq_true, decide_eq_true_eq] at hl
    have hb := h.beg j t ht
    rcases h.gone i hi' hm with hd | ⟨h0, hd⟩
    · have r := h.dead_raw hi' hd
      rw [r.1, r.2] at hl; omega
    · have := hd j t ht
      have := (h.fin_le hi').2.2.2.2 h0
      omega
  · rintro ⟨i, hi, hl⟩
    exact ⟨i, by simpa using h.lin i hi, hl⟩
theorem full_sees {s : St} (h : Wf s) {j : Nat} {t t' : Tx} (ht : s.tx j = some t) (hb : t'.beg = t.beg) (k : Nat) : (full s).sees t' k = s.sees t' k := by
  unfold St.sees
  split
  · rw [hb]; exact full_at h (.inr ⟨j, t, ht, Int.le_refl _⟩)
  · rfl
theorem full_setTx (s : St) (j : Nat) (t : Option Tx) : full (s.setTx j t) = (full s).setTx j t := rfl
theorem full_setVal (s : St) (i : Nat) (x : Int) : full (s.setVal i x) = (full s).setVal i x := by
  unfold full St.setVal
  simp only [List.length_set]
  rfl
theorem full_grow (s : St) (v : Ver) : full (s.grow v) = (full s).grow v := by
  unfold full St.grow
  simp only [List.length_append, List.length_singleton, List.range_succ]
theorem full_kill (s : St) (j : Nat) (t : Tx) : full (s.kill j t) = (full s).kill j t := by
  unfold full St.kill
  simp only [List.length_mapIdx]
theorem full_done (s : St) (j : Nat) (t : Tx) : full (s.done j t) = (full s).done j t := by
  unfold full St.done
  simp only [List.length_mapIdx]
theorem full_tick (s : St) : full s.tick = (full s).tick := rfl
theorem l_short {s : St} (h : Wf s) : s.l.length ≤ s.vs.length := nodup_bound64 _ _ h.nodup (fun x hx => h.lin x hx)
/-- Of the written transaction's state only what was counted may differ; there is room for one more version. -/
theorem full_write {s : St} (h : Wf s) {j : Nat} {t : Tx} (ht : s.tx j = some t) (k : Nat) (kind x : Int) (hr : (s.vs.length : Int) < s.slots) : (full s).write j t kind k x = ((s.write j t kind k x).1, full (s.write j t kind k x).2) := by
  have hl : ¬ (s.slots ≤ (s.l.length : Int)) := by have := l_short h; omega
  have hl' : ¬ ((full s).slots ≤ ((full s).l.length : Int)) := by
    show ¬ (s.slots ≤ ((List.range s.vs.length).length : Int)); simp; omega
  have hot : (full s).others j k = s.others j k := rfl
  have hlt : (full s).later k t.beg = s.later k t.beg := full_later h ht k
  have hn : (full s).newCel t k = s.newCel t k := by
    unfold St.newCel
    rw [full_at h (.inr ⟨j, t, ht, Int.le_refl _⟩)]
  have hlen : (full s).vs.length = s.vs.length := rfl
  unfold St.write St.take
  rw [hot, hlt, hn, hlen]
  simp only [if_neg hl, if_neg hl']
  cases hc : t.cells k with
  | some c =>
    simp only
    by_cases h4 : kind = 4
    · simp only [if_pos h4]; rfl
    · simp only [if_neg h4]
      cases ho : c.own with
      | none => simp only [full_setTx, full_grow]
      | some i => simp only [full_setTx, full_setVal]
  | none =>
    simp only
    by_cases hb : (s.others j k || s.later (↑k) t.beg) = true
    · simp only [if_pos hb]
    · simp only [if_neg hb]
      by_cases h4 : kind = 4
      · simp only [if_pos h4]; rfl
      · simp only [if_neg h4]
        rw [show (s.newCel t k).own = none from rfl]
        simp only [full_setTx, full_grow]
theorem co_write_tx {s : St} {j : Nat} {t : Tx} (ht : s.tx j = some t) (kind : Int) (k : Nat) (x : Int) : ∃ t1, (s.write j t kind k x).2.tx j = some t1 := by
  unfold St.write
  split
  · exact ⟨t, ht⟩
  · split
    · exact ⟨_, setTx_same _ _ _⟩
    · split
      · split
        · exact ⟨_, setTx_same _ _ _⟩
        · exact ⟨_, setTx_same _ _ _⟩
      · exact ⟨_, setTx_same _ _ _⟩
theorem full_change {s : St} (h : Wf s) {j : Nat} {t : Tx} (ht : s.tx j = some t) (k : Nat) (kind x : Int) (hr : (s.vs.length : Int) < s.slots) : (full s).change j t kind k x = ((s.change j t kind k x).1, full (s.change j t kind k x).2) := by
  unfold St.change
  rw [full_sees h ht rfl, full_write h ht k kind x hr]
  by_cases hs : (s.sees t k).isSome = decide (kind = 2)
  · simp only [if_pos hs]; rfl
  · simp only [if_neg hs]
    by_cases h0 : (s.write j t kind k x).1 = 0
    · simp only [if_pos h0]
    · simp only [if_neg h0]
      obtain ⟨t1, ht1⟩ := co_write_tx ht kind k x
      have ht1' : (full (s.write j t kind k x).2).tx j = some t1 := ht1
      rw [ht1, ht1']
      simp only [full_kill]
theorem full_pairOf {s : St} (h : Wf s) {j : Nat} {t t' : Tx} (ht : s.tx j = some t) (hb : t'.beg = t.beg) : (full s).pairOf t' = s.pairOf t' := by
  funext k
  unfold St.pairOf
  rw [full_sees h ht hb]
  rfl
theorem full_holds {s : St} (h : Wf s) {j : Nat} {t : Tx} (ht : s.tx j = some t) : (full s).holds t s.now = s.holds t s.now := by
  unfold St.holds
  congr 2
  funext k
  rw [full_at h (.inl rfl), full_at h (.inr ⟨j, t, ht, Int.le_refl _⟩)]
theorem full_call {s : St} (h : Wf s) {j : Nat} {t : Tx} (ht : s.tx j = some t) (o : MOp) (hr : (s.vs.length : Int) < s.slots) : (full s).call j t o = ((s.call j t o).1, full (s.call j t o).2) := by
  unfold St.call
  by_cases h6 : o.kind = 6
  · simp only [if_pos h6]
    unfold St.commit
    by_cases hl : s.limit ≤ s.now
    · rw [if_pos hl, if_pos (show (full s).limit ≤ (full s).now from hl), full_kill]
    · rw [if_neg hl, if_neg (show ¬ ((full s).limit ≤ (full s).now) from hl)]
      have hh := full_holds h.ticked (j := j) (t := t) ht
      rw [show (full s).tick = full s.tick from rfl, show (full s).now + 1 = s.tick.now from rfl, hh, show s.tick.now = s.now + 1 from rfl]
      by_cases hd : s.tick.holds t (s.now + 1) = true
      · simp only [if_pos hd, full_done]
      · simp only [if_neg hd, full_kill]
  · simp only [if_neg h6]
    by_cases h7 : o.kind = 7
    · simp only [if_pos h7, full_kill]
    · simp only [if_neg h7]
      by_cases h1 : o.kind = 1
      · simp only [if_pos h1]
        unfold St.get
        rw [full_sees (t' := t.op) h ht rfl]
        cases s.sees t.op o.key.toNat with
        | none => rfl
        | some i => rfl
      · simp only [if_neg h1]
        by_cases h5 : o.kind = 5
        · simp only [if_pos h5]
          unfold St.scan
          rw [full_pairOf (t' := t.op) h ht rfl]
          rfl
        · simp only [if_neg h5]
          rw [← full_setTx]
          exact full_change (h.retx (t' := t.op) ht rfl rfl rfl) (setTx_same _ _ _) _ _ _ hr
theorem full_do {s : St} (h : Wf s) (j : Int) (o : MOp) (hr : (s.vs.length : Int) < s.slots) : (full s).do_ j o = ((s.do_ j o).1, (s.do_ j o).2.1, full (s.do_ j o).2.2) := by
  unfold St.do_
  by_cases hs : sessB j = true
  · simp only [if_pos hs]
    rw [show (full s).tx j.toNat = s.tx j.toNat from rfl]
    cases ht : s.tx j.toNat with
    | none => rfl
    | some t =>
      simp only
      by_cases ho : opOkB o = true
      · simp only [if_pos ho]
        by_cases hm : (decide (12 ≤ t.ops) && !endsB o) = true
        · simp only [if_pos hm]
        · simp only [if_neg hm]
          rw [full_call h ht o hr]
      · simp only [if_neg ho]
  · simp only [if_neg hs]
theorem full_begin (s : St) (j level : Int) : (full s).begin j level = ((s.begin j level).1, (s.begin j level).2.1, full (s.begin j level).2.2) := by
  unfold St.begin
  rw [show (full s).tx = s.tx from rfl, show (full s).made = s.made from rfl, show (full s).now = s.now from rfl, show (full s).limit = s.limit from rfl]
  by_cases h1 : (sessB j && levelB level) = true
  · simp only [if_pos h1]
    by_cases h2 : (s.tx j.toNat).isSome = true
    · simp only [if_pos h2]
    · simp only [if_neg h2]
      by_cases h3 : 2000 ≤ s.made
      · simp only [if_pos h3]
      · simp only [if_neg h3]
        by_cases h4 : s.limit ≤ s.now
        · simp only [if_pos h4]
        · simp only [if_neg h4]; rfl
  · simp only [if_neg h1]
theorem full_collect (s : St) : full s.collect = full s := rfl

/-! ### how many versions there are, and their keys -/
def KeyIn (s : St) : Prop := ∀ i, i < s.vs.length → ∃ k : Nat, k < 64 ∧ (s.ver i).key = (k : Int)
/-- n more versions at most; the keys stay; the slots stay. -/
def Few (s s' : St) (n : Nat) : Prop := s'.slots = s.slots ∧ s'.limit = s.limit ∧ s'.vs.length ≤ s.vs.length + n ∧ (KeyIn s → KeyIn s')
theorem Few.refl (s : St) (n : Nat) : Few s s n := ⟨rfl, rfl, by omega, fun h => h⟩
theorem Few.trans {a b c : St} {n m : Nat} (h : Few a b n) (k : Few b c m) : Few a c (n + m) := ⟨k.1.trans h.1, k.2.1.trans h.2.1, by have := h.2.2.1; have := k.2.2.1; omega, fun x => k.2.2.2 (h.2.2.2 x)⟩
theorem Few.setTx (s : St) (j : Nat) (t : Option Tx) : Few s (s.setTx j t) 0 := ⟨rfl, rfl, Nat.le_refl _, fun h => h⟩
theorem Few.more {s s' : St} {n m : Nat} (h : Few s s' n) (hm : n ≤ m) : Few s s' m := ⟨h.1, h.2.1, by have := h.2.2.1; omega, h.2.2.2⟩
theorem Few.kill (s : St) (j : Nat) (t : Tx) : Few s (s.kill j t) 0 := by
  refine ⟨rfl, rfl, by show (s.vs.mapIdx _).length ≤ _; simp, fun h i hi => ?_⟩
  have hi' : i < s.vs.length := by have : (s.kill j t).vs.length = s.vs.length := by show (s.vs.mapIdx _).length = _; simp
                                   omega
  rw [ver_kill hi']
  have : (killV t.cells i (s.ver i)).key = (s.ver i).key := by unfold killV; split <;> rfl
  rw [this]; exact h i hi'
theorem Few.done (s : St) (j : Nat) (t : Tx) : Few s (s.done j t) 0 := by
  refine ⟨rfl, rfl, by show (s.vs.mapIdx _).length ≤ _; simp, fun h i hi => ?_⟩
  have hi' : i < s.vs.length := by have : (s.done j t).vs.length = s.vs.length := by show (s.vs.mapIdx _).length = _; simp
                                   omega
  rw [ver_done hi']
  exact h i hi'
theorem Few.setVal (s : St) (i : Nat) (x : Int) : Few s (s.setVal i x) 0 := by
  refine ⟨rfl, rfl, by show (s.vs.set i _).length ≤ _; simp, fun h y hy => ?_⟩
  have hy' : y < s.vs.length := by have : (s.setVal i x).vs.length = s.vs.length := by show (s.vs.set i _).length = _; simp
                                   omega
  rw [ver_setVal]
  split
  · rename_i e; rw [← e.1]; exact h y hy'
  · exact h y hy'
theorem Few.grow (s : St) (v : Ver) {k : Nat} (hk : k < 64) (hv : v.key = (k : Int)) : Few s (s.grow v) 1 := by
  refine ⟨rfl, rfl, by show (s.vs ++ [v]).length ≤ _; simp, fun h y hy => ?_⟩
  have hl : (s.grow v).vs.length = s.vs.length + 1 := by show (s.vs ++ [v]).length = _; simp
  by_cases e : y = s.vs.length
  · rw [e, ver_grow_new]; exact ⟨k, hk, hv⟩
  · rw [ver_grow (by omega)]; exact h y (by omega)
theorem few_write (s : St) (j : Nat) (t : Tx) (kind : Int) {k : Nat} (hk : k < 64) (x : Int) : Few s (s.write j t kind k x).2 1 := by
  unfold St.write
  split
  · exact Few.refl _ _
  · split
    · exact (Few.setTx _ _ _).more (by omega)
    · split
      · split
        · exact (Few.setTx _ _ _).more (by omega)
        · exact (Few.grow s _ hk rfl).trans (Few.setTx _ _ _)
      · exact ((Few.setVal s _ _).trans (Few.setTx _ _ _)).more (by omega)
theorem few_change (s : St) (j : Nat) (t : Tx) (kind : Int) {k : Nat} (hk : k < 64) (x : Int) : Few s (s.change j t kind k x).2 1 := by
  unfold St.change
  split
  · exact (Few.setTx _ _ _).more (by omega)
  · have h := few_write s j t kind hk x
    rcases hr : s.write j t kind k x with ⟨r, s1⟩
    rw [hr] at h
    simp only
    split
    · exact h
    · split
      · exact h.trans (Few.kill _ _ _)
      · exact h
theorem few_do (s : St) (j : Int) (o : MOp) : Few s (s.do_ j o).2.2 1 := by
  unfold St.do_
  split
  · split
    · exact Few.refl _ _
    · rename_i t ht
      split
      · rename_i ho
        split
        · exact Few.refl _ _
        · have hk : o.key.toNat < 64 := by
            unfold opOkB at ho
            split at ho
            · simp [keyOkB] at ho; omega
            · split at ho
              · simp [keyOkB] at ho; omega
              · split at ho
                · simp [keyOkB] at ho; omega
                · split at ho
                  · simp at ho; omega
                  · cases ho
          unfold St.call
          split
          · unfold St.commit
            split
            · exact (Few.kill _ _ _).more (by omega)
            · split
              · exact Few.more (n := 0) (show Few s (s.tick.done _ _) 0 from Few.done s.tick _ _) (by omega)
              · exact Few.more (n := 0) (show Few s (s.tick.kill _ _) 0 from Few.kill s.tick _ _) (by omega)
          · split
            · exact (Few.kill _ _ _).more (by omega)
            · split
              · unfold St.get
                split
                · exact (Few.setTx _ _ _).more (by omega)
                · exact (Few.setTx _ _ _).more (by omega)
              · split
                · exact (Few.setTx _ _ _).more (by omega)
                · exact (Few.setTx s _ _).trans (few_change _ _ _ _ hk _)
      · exact Few.refl _ _
  · exact Few.refl _ _
theorem few_begin (s : St) (j level : Int) : Few s (s.begin j level).2.2 0 := by
  unfold St.begin
  split
  · split
    · exact Few.refl _ _
    · split
      · exact Few.refl _ _
      · split
        · exact Few.refl _ _
        · exact ⟨rfl, rfl, Nat.le_refl _, fun h => h⟩
  · exact Few.refl _ _

/-! ### both played side by side: s collects, its twin never does -/
structure CoI (q : Nat) (s : St) : Prop where
  wf : Wf s
  slots : s.slots = 256
  limit : s.limit = 1000
  few : s.vs.length ≤ q
  keys : KeyIn s
  nowl : s.now ≤ 1000
theorem CoI.new : CoI 0 (newSt 256 1000) := ⟨Wf.new _ _ (by decide), rfl, rfl, Nat.le_refl _, fun i h => (by cases h), by decide⟩
theorem now_do (s : St) (j : Int) (o : MOp) : (s.do_ j o).2.2.now ≤ max s.now (min (s.now + 1) s.limit) := by
  have hset : ∀ j t, (s.setTx j t).now = s.now := fun _ _ => rfl
  have hch : ∀ (s : St) j t kind k x, (s.change j t kind k x).2.now = s.now := by
    intro s j t kind k x
    have hw : (s.write j t kind k x).2.now = s.now := by
      unfold St.write
      split
      · rfl
      · split
        · rfl
        · split
          · split <;> rfl
          · rfl
    unfold St.change
    split
    · rfl
    · rcases hr : s.write j t kind k x with ⟨r, s1⟩
      rw [hr] at hw
      simp only
      split
      · exact hw
      · split
        · exact hw
        · exact hw
  unfold St.do_
  split
  · split
    · exact Int.le_max_left _ _
    · split
      · split
        · exact Int.le_max_left _ _
        · unfold St.call
          split
          · unfold St.commit
            split
            · exact Int.le_max_left _ _
            · split
              · show s.now + 1 ≤ _; omega
              · show s.now + 1 ≤ _; omega
          · split
            · exact Int.le_max_left _ _
            · split
              · unfold St.get
                split <;> exact Int.le_max_left _ _
              · split
                · exact Int.le_max_left _ _
                · show ((s.setTx _ _).change _ _ _ _ _).2.now ≤ _
                  rw [hch]; exact Int.le_max_left _ _
      · exact Int.le_max_left _ _
  · exact Int.le_max_left _ _
theorem now_begin (s : St) (j l : Int) : (s.begin j l).2.2.now ≤ max s.now (min (s.now + 1) s.limit) := by
  unfold St.begin
  split
  · split
    · exact Int.le_max_left _ _
    · split
      · exact Int.le_max_left _ _
      · split
        · exact Int.le_max_left _ _
        · show s.now + 1 ≤ _; omega
  · exact Int.le_max_left _ _
theorem CoI.do_ {q : Nat} {s : St} (h : CoI q s) (j : Int) (o : MOp) : CoI (q + 1) (s.do_ j o).2.2 := by
  have F := few_do s j o
  have N := now_do s j o
  refine ⟨h.wf.do_ j o, F.1.trans h.slots, F.2.1.trans h.limit, by have := F.2.2.1; have := h.few; omega, F.2.2.2 h.keys, ?_⟩
  have := h.nowl
  rw [h.limit] at N
  omega
theorem CoI.begin {q : Nat} {s : St} (h : CoI q s) (j l : Int) : CoI (q + 1) (s.begin j l).2.2 := by
  have F := few_begin s j l
  have N := now_begin s j l
  refine ⟨h.wf.begin j l, F.1.trans h.slots, F.2.1.trans h.limit, by have := F.2.2.1; have := h.few; omega, F.2.2.2 h.keys, ?_⟩
  have := h.nowl
  rw [h.limit] at N
  omega
theorem CoI.collect {q : Nat} {s : St} (h : CoI q s) : CoI (q + 1) s.collect := ⟨h.wf.collected, h.slots, h.limit, by have := h.few; show s.vs.length ≤ _; omega, h.keys, h.nowl⟩
theorem CoI.twin {q : Nat} {s : St} (h : CoI q s) (hq : q ≤ 80) (j : Int) (o : MOp) : (full s).do_ j o = ((s.do_ j o).1, (s.do_ j o).2.1, full (s.do_ j o).2.2) :=
  full_do h.wf j o (by rw [h.slots]; have := h.few; omega)

/-! ### the end: all that live are aborted, then a Collect -/
theorem pairs_kill {s : St} (h : Wf s) (j : Nat) (t : Tx) (a : Int) : (s.kill j t).pairs a = s.pairs a := by
  have hk : ∀ i, i < s.vs.length → ((s.kill j t).ver i).key = (s.ver i).key ∧ ((s.kill j t).ver i).beg = (s.ver i).beg ∧ ((s.kill j t).ver i).fin = (s.ver i).fin ∧ ((s.kill j t).ver i).value = (s.ver i).value := fun i hi => by
    rw [ver_kill hi]; unfold killV; split <;> exact ⟨rfl, rfl, rfl, rfl⟩
  have hat : ∀ k, (s.kill j t).at k a = s.at k a := fun k => by
    unfold St.at
    show s.l.find? _ = s.l.find? _
    apply find_congr
    intro i hi
    obtain ⟨h1, h2, h3, _⟩ := hk i (h.lin i hi)
    unfold visB
    rw [h1, h2, h3]
  unfold St.pairs
  congr 1
  funext k
  rw [hat]
  cases hx : s.at k a with
  | none => rfl
  | some i =>
    have := (h.at_some.1 hx).1
    simp only [Option.map_some]
    rw [(hk i (h.lin i this)).2.2.2]
/-- q sessions have been asked to abort; what is there now is p. -/
structure CeI (q : Nat) (p : List (Int × Int)) (s : St) : Prop where
  wf : Wf s
  keys : KeyIn s
  nowl : s.now ≤ 1000
  none_ : ∀ j, j < q → s.tx j = none
  pairs : s.pairs s.now = p
theorem CoI.over {q : Nat} {s : St} (h : CoI q s) : CeI 0 (s.pairs s.now) s := ⟨h.wf, h.keys, h.nowl, fun j h => by omega, rfl⟩
theorem CeI.abort {q : Nat} {p : List (Int × Int)} {s : St} (h : CeI q p s) (hq : q < 8) : ∃ r f s', s.do_ q ⟨7, 0, 0, 0⟩ = (r, f, s') ∧ r.pairs = [] ∧ CeI (q + 1) p s' := by
  unfold St.do_
  rw [if_pos (show sessB (q : Int) = true from sess_nat hq), Int.toNat_natCast]
  cases ht : s.tx q with
  | none =>
    refine ⟨_, _, s, rfl, rfl, h.wf, h.keys, h.nowl, fun j hj => ?_, h.pairs⟩
    by_cases e : j = q
    · rw [e]; exact ht
    · exact h.none_ j (by omega)
  | some t =>
    refine ⟨abortRes 0 1, 0, s.kill q t, by simp [opOkB, endsB, St.call], rfl, h.wf.killed ht, (Few.kill s q t).2.2.2 h.keys, h.nowl, fun j hj => ?_, ?_⟩
    · show upd s.tx q none j = none
      by_cases e : j = q
      · subst e; exact upd_same _ _ _
      · rw [upd_other _ _ _ e]; exact h.none_ j (by omega)
    · rw [pairs_kill h.wf]; exact h.pairs
theorem CeI.all {p : List (Int × Int)} {s : St} (h : CeI 8 p s) (j : Nat) : s.tx j = none := by
  by_cases hj : j < 8
  · exact h.none_ j hj
  · cases ht : s.tx j with
    | none => rfl
    | some t => have := (h.wf.beg j t ht).2.2.2.2; omega
theorem CeI.low {p : List (Int × Int)} {s : St} (h : CeI 8 p s) : s.low = 18446744073709551615 := low_none (fun j => h.all j)
/-- What is kept is there now. -/
theorem CeI.kept {p : List (Int × Int)} {s : St} (h : CeI 8 p s) {i : Nat} : i ∈ s.kept ↔ i ∈ s.l ∧ ∃ k : Nat, k < 64 ∧ s.at k s.now = some i := by
  rw [mem_kept, h.low]
  constructor
  · rintro ⟨hi, hg⟩
    have hi' := h.wf.lin i hi
    obtain ⟨k, hk, hkk⟩ := h.keys i hi'
    refine ⟨hi, k, hk, h.wf.at_some.2 ⟨hi, ?_⟩⟩
    have nd : ¬ ((s.ver i).dead = true ∨ (0 < (s.ver i).fin ∧ (s.ver i).fin ≤ 18446744073709551615)) := fun e => by rw [goneB_iff.2 e] at hg; cases hg
    have hf := h.wf.fin_le hi'
    have hn := h.nowl
    rcases h.wf.kind i hi' with ⟨hd, _⟩ | ⟨c1, c2, c3, c4⟩ | ⟨_, _, j, k', t, c, hh, _⟩
    · exact absurd (.inl hd) nd
    · refine ⟨hkk, c2, c3, .inl ?_⟩
      have : ¬ (0 < (s.ver i).fin) := fun e => nd (.inr ⟨e, by omega⟩)
      omega
    · have := hh.1; rw [h.all j] at this; cases this
  · rintro ⟨hi, k, hk, hat⟩
    obtain ⟨_, v1, v2, v3, v4⟩ := h.wf.at_some.1 hat
    have hf := h.wf.fin_le (h.wf.lin i hi)
    refine ⟨hi, ?_⟩
    cases hg : goneB (s.ver i) 18446744073709551615 with
    | false => rfl
    | true =>
      rcases goneB_iff.1 hg with hd | ⟨g1, g2⟩
      · have := (h.wf.dead_raw (h.wf.lin i hi) hd).1; omega
      · omega
theorem len_filterMap_map {α β γ : Type} (f : α → Option β) (g : α → β → γ) : ∀ l : List α, (l.filterMap (fun k => (f k).map (g k))).length = (l.filterMap f).length := by
  intro l
  induction l with
  | nil => rfl
  | cons a l ih =>
    rw [List.filterMap_cons, List.filterMap_cons]
    cases hf : f a with
    | none => simpa using ih
    | some b => simpa using ih
theorem nodup_len_le : ∀ (l m : List Nat), l.Nodup → (∀ x, x ∈ l → x ∈ m) → l.length ≤ m.length := by
  intro l
  induction l with
  | nil => intro m _ _; exact Nat.zero_le _
  | cons a l ih =>
    intro m nd hs
    rw [List.nodup_cons] at nd
    have ha := hs a (by simp)
    have := ih (m.erase a) nd.2 (fun x hx => by
      have hx' := hs x (by simp [hx])
      have hne : x ≠ a := fun e => nd.1 (e ▸ hx)
      exact (List.mem_erase_of_ne hne).2 hx')
    rw [List.length_erase_of_mem ha] at this
    have : 0 < m.length := List.length_pos_of_mem ha
    simp only [List.length_cons]
    omega
theorem CeI.count {p : List (Int × Int)} {s : St} (h : CeI 8 p s) : s.kept.length = p.length := by
  have e : p.length = ((List.range 64).filterMap (fun (k : Nat) => s.at k s.now)).length := by
    rw [← h.pairs]
    exact len_filterMap_map (fun (k : Nat) => s.at k s.now) (fun (k : Nat) i => ((k : Int), (s.ver i).value)) _
  rw [e]
  have nd1 : s.kept.Nodup := by unfold St.kept; exact h.wf.nodup.filter _
  have nd2 : ((List.range 64).filterMap (fun (k : Nat) => s.at k s.now)).Nodup := by
    rw [List.Nodup, List.pairwise_filterMap]
    refine List.Pairwise.imp ?_ (List.nodup_range (n := 64))
    intro k k' hne i hi i' hi' e
    subst e
    have a1 := (h.wf.at_some.1 hi).2.1
    have a2 := (h.wf.at_some.1 hi').2.1
    exact hne (by omega)
  have mem : ∀ i, i ∈ s.kept ↔ i ∈ (List.range 64).filterMap (fun (k : Nat) => s.at k s.now) := by
    intro i
    rw [h.kept, List.mem_filterMap]
    constructor
    · rintro ⟨_, k, hk, hat⟩; exact ⟨k, by simpa using hk, hat⟩
    · rintro ⟨k, hk, hat⟩; exact ⟨(h.wf.at_some.1 hat).1, k, by simpa using hk, hat⟩
  exact Nat.le_antisymm (nodup_len_le _ _ nd1 (fun x hx => (mem x).1 hx)) (nodup_len_le _ _ nd2 (fun x hx => (mem x).2 hx))
theorem CeI.collected {p : List (Int × Int)} {s : St} (h : CeI 8 p s) : s.collect.pairs s.collect.now = p ∧ s.collect.l.length = p.length ∧ s.collect.kept.length = p.length := by
  have hp : s.collect.pairs s.collect.now = p := by
    rw [← h.pairs]
    show s.collect.pairs s.now = s.pairs s.now
    unfold St.pairs
    congr 1
    funext k
    rw [h.wf.at_collect (.inr (fun i hi => (h.wf.fin_le hi).1))]
    rfl
  have h' : CeI 8 p s.collect := ⟨h.wf.collected, h.keys, h.nowl, h.none_, hp⟩
  exact ⟨hp, h.count, h'.count⟩
/-- The twin tells the same pairs. -/
theorem CoI.pairs {q : Nat} {s : St} (h : CoI q s) : (full s).pairs s.now = s.pairs s.now := by
  unfold St.pairs
  congr 1
  funext k
  rw [full_at h.wf (.inl rfl)]
  rfl
end Go.Proofs.Ytcbhafddehipdaa

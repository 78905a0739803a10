/-
  ModelBounds: what its proof rests on, part 4.
-/
import Derived.Deep.RegionHeld3
import Derived.Deep.DrawnRows
import Derived.Deep.DeepCutAuto
import Derived.Test.YtcbhafddehipdaaZModelBounds3
namespace Go.Proofs.Ytcbhafddehipdaa
open Go.RowKit
set_option linter.unusedVariables false
set_option linter.unusedSimpArgs false
theorem rm_set (A A' : RAd) (s s' : RSt) {j : Nat} (hj : j < 8) (f : Nat) (hf : f < 6) (u : Value) (h0 : s'.slots = s.slots ∧ s'.limit = s.limit ∧ s'.time = s.time ∧ s'.made = s.made) (h2 : A'.va = A.va ∧ A'.vc = A.vc ∧ s'.v.length = s.v.length)
    (ho : ∀ i, i ≠ j → rtCells A' i (s'.s i) = rtCells A i (s.s i)) (hs : rtCells A' j (s'.s j) = (rtCells A j (s.s j)).set f u) : rmCells A' s' = (rmCells A s).setIfInBounds (3 + j * 6 + f) u := by
  obtain ⟨a1, a2, a3, a4⟩ := h0
  obtain ⟨b1, b2, b3⟩ := h2
  unfold rmCells
  rw [List.setIfInBounds_toArray]
  congr 1
  unfold rmList
  rw [a1, a2, a3, a4, b1, b2, b3]
  match j, hj with
  | 0, _ =>
    rw [hs, ho 1 (by decide), ho 2 (by decide), ho 3 (by decide), ho 4 (by decide), ho 5 (by decide), ho 6 (by decide), ho 7 (by decide)]
    match f, hf with | 0, _ => rfl | 1, _ => rfl | 2, _ => rfl | 3, _ => rfl | 4, _ => rfl | 5, _ => rfl
  | 1, _ =>
    rw [hs, ho 0 (by decide), ho 2 (by decide), ho 3 (by decide), ho 4 (by decide), ho 5 (by decide), ho 6 (by decide), ho 7 (by decide)]
    match f, hf with | 0, _ => rfl | 1, _ => rfl | 2, _ => rfl | 3, _ => rfl | 4, _ => rfl | 5, _ => rfl
  | 2, _ =>
    rw [hs, ho 0 (by decide), ho 1 (by decide), ho 3 (by decide), ho 4 (by decide), ho 5 (by decide), ho 6 (by decide), ho 7 (by decide)]
    match f, hf with | 0, _ => rfl | 1, _ => rfl | 2, _ => rfl | 3, _ => rfl | 4, _ => rfl | 5, _ => rfl
  | 3, _ =>
    rw [hs, ho 0 (by decide), ho 1 (by decide), ho 2 (by decide), ho 4 (by decide), ho 5 (by decide), ho 6 (by decide), ho 7 (by decide)]
    match f, hf with | 0, _ => rfl | 1, _ => rfl | 2, _ => rfl | 3, _ => rfl | 4, _ => rfl | 5, _ => rfl
  | 4, _ =>
    rw [hs, ho 0 (by decide), ho 1 (by decide), ho 2 (by decide), ho 3 (by decide), ho 5 (by decide), ho 6 (by decide), ho 7 (by decide)]
    match f, hf with | 0, _ => rfl | 1, _ => rfl | 2, _ => rfl | 3, _ => rfl | 4, _ => rfl | 5, _ => rfl
  | 5, _ =>
    rw [hs, ho 0 (by decide), ho 1 (by decide), ho 2 (by decide), ho 3 (by decide), ho 4 (by decide), ho 6 (by decide), ho 7 (by decide)]
    match f, hf with | 0, _ => rfl | 1, _ => rfl | 2, _ => rfl | 3, _ => rfl | 4, _ => rfl | 5, _ => rfl
  | 6, _ =>
    rw [hs, ho 0 (by decide), ho 1 (by decide), ho 2 (by decide), ho 3 (by decide), ho 4 (by decide), ho 5 (by decide), ho 7 (by decide)]
    match f, hf with | 0, _ => rfl | 1, _ => rfl | 2, _ => rfl | 3, _ => rfl | 4, _ => rfl | 5, _ => rfl
  | 7, _ =>
    rw [hs, ho 0 (by decide), ho 1 (by decide), ho 2 (by decide), ho 3 (by decide), ho 4 (by decide), ho 5 (by decide), ho 6 (by decide)]
    match f, hf with | 0, _ => rfl | 1, _ => rfl | 2, _ => rfl | 3, _ => rfl | 4, _ => rfl | 5, _ => rfl
/-- Six stores lay session j anew. -/
theorem rm_six {w : World} {m : Nat} {A A' : RAd} {s : RSt} {j : Nat} (hj : j < 8) (t' : RTx) (hA : A'.va = A.va ∧ A'.vc = A.vc ∧ ∀ i, i ≠ j → A'.wa i = A.wa i ∧ A'.wc i = A.wc i ∧ A'.ra i = A.ra i ∧ A'.rc i = A.rc i) (h : Blk w m 65 (rmCells A s)) :
    Blk ((((((w.setCell ⟨m, 3 + j * 6, none⟩ (.int .i64 t'.id)).setCell ⟨m, 3 + j * 6 + 1, none⟩ (.int .i64 t'.level)).setCell ⟨m, 3 + j * 6 + 2, none⟩ (.int .i64 t'.ops)).setCell ⟨m, 3 + j * 6 + 3, none⟩ (.int .u64 t'.beg)).setCell ⟨m, 3 + j * 6 + 4, none⟩ (.slice (A'.wa j) t'.wrote.length (A'.wc j))).setCell ⟨m, 3 + j * 6 + 5, none⟩ (.slice (A'.ra j) t'.reads.length (A'.rc j))) m 65 (rmCells A' (s.setS j t')) ∧
      Only (fun b => b = m) w ((((((w.setCell ⟨m, 3 + j * 6, none⟩ (.int .i64 t'.id)).setCell ⟨m, 3 + j * 6 + 1, none⟩ (.int .i64 t'.level)).setCell ⟨m, 3 + j * 6 + 2, none⟩ (.int .i64 t'.ops)).setCell ⟨m, 3 + j * 6 + 3, none⟩ (.int .u64 t'.beg)).setCell ⟨m, 3 + j * 6 + 4, none⟩ (.slice (A'.wa j) t'.wrote.length (A'.wc j))).setCell ⟨m, 3 + j * 6 + 5, none⟩ (.slice (A'.ra j) t'.reads.length (A'.rc j))) := by
  obtain ⟨hv, hc, ho⟩ := hA
  refine ⟨?_, (((((Only.set1 w m _ _).trans (Only.set1 _ m _ _)).trans (Only.set1 _ m _ _)).trans (Only.set1 _ m _ _)).trans (Only.set1 _ m _ _)).trans (Only.set1 _ m _ _)⟩
  have off : ∀ (X : RTx) i, i ≠ j → rtCells A i ((s.setS j X).s i) = rtCells A i (s.s i) := fun X i hi => by
    show rtCells A i (upd s.s j X i) = _
    rw [upd_other _ _ _ hi]
  have on : ∀ (X : RTx), (s.setS j X).s j = X := fun X => upd_same _ _ _
  have again : ∀ X Y, (s.setS j X).setS j Y = s.setS j Y := fun X Y => by
    unfold RSt.setS; simp only
    congr 1
    funext i; unfold upd; split <;> rfl
  have st : ∀ (X Y : RTx) (f : Nat) (u : Value), f < 6 → rtCells A j Y = (rtCells A j X).set f u → rmCells A (s.setS j Y) = (rmCells A (s.setS j X)).setIfInBounds (3 + j * 6 + f) u := by
    intro X Y f u hf hs
    refine rm_set A A (s.setS j X) (s.setS j Y) hj f hf u ⟨rfl, rfl, rfl, rfl⟩ ⟨rfl, rfl, rfl⟩ (fun i hi => ?_) ?_
    · rw [off X i hi, off Y i hi]
    · rw [on, on]; exact hs
  have e0 : s.setS j (s.s j) = s := by
    unfold RSt.setS
    have : upd s.s j (s.s j) = s.s := by
      funext i; unfold upd; split
      · rename_i e; rw [e]
      · rfl
    rw [this]
  obtain ⟨t, ht⟩ : ∃ t, t = s.s j := ⟨_, rfl⟩
  rw [← ht] at e0
  have B0 : Blk w m 65 (rmCells A (s.setS j t)) := by rw [e0]; exact h
  have B1 := B0.set (3 + j * 6 + 0) (.int .i64 t'.id)
  rw [← st t { t with id := t'.id } 0 _ (by decide) rfl] at B1
  have B2 := B1.set (3 + j * 6 + 1) (.int .i64 t'.level)
  rw [← st { t with id := t'.id } { t with id := t'.id, level := t'.level } 1 _ (by decide) rfl] at B2
  have B3 := B2.set (3 + j * 6 + 2) (.int .i64 t'.ops)
  rw [← st { t with id := t'.id, level := t'.level } { t with id := t'.id, level := t'.level, ops := t'.ops } 2 _ (by decide) rfl] at B3
  have B4 := B3.set (3 + j * 6 + 3) (.int .u64 t'.beg)
  rw [← st { t with id := t'.id, level := t'.level, ops := t'.ops } { t with id := t'.id, level := t'.level, ops := t'.ops, beg := t'.beg } 3 _ (by decide) rfl] at B4
  have B5 := B4.set (3 + j * 6 + 4) (.slice (A'.wa j) t'.wrote.length (A'.wc j))
  obtain ⟨A1, hA1⟩ : ∃ A1 : RAd, A1 = { A with wa := upd A.wa j (A'.wa j), wc := upd A.wc j (A'.wc j) } := ⟨_, rfl⟩
  have a1 : rmCells A1 (s.setS j { t with id := t'.id, level := t'.level, ops := t'.ops, beg := t'.beg, wrote := t'.wrote }) = (rmCells A (s.setS j { t with id := t'.id, level := t'.level, ops := t'.ops, beg := t'.beg })).setIfInBounds (3 + j * 6 + 4) (.slice (A'.wa j) t'.wrote.length (A'.wc j)) := by
    refine rm_set A A1 _ _ hj 4 (by decide) _ ⟨rfl, rfl, rfl, rfl⟩ ⟨by rw [hA1], by rw [hA1], rfl⟩ (fun i hi => ?_) ?_
    · rw [off _ i hi, show (s.setS j { t with id := t'.id, level := t'.level, ops := t'.ops, beg := t'.beg, wrote := t'.wrote }).s i = s.s i from upd_other _ _ _ hi, hA1]
      unfold rtCells
      simp only
      rw [upd_other _ _ _ hi, upd_other _ _ _ hi]
    · rw [on, on, hA1]
      unfold rtCells
      simp only
      rw [upd_same, upd_same]
      rfl
  rw [← a1] at B5
  have B6 := B5.set (3 + j * 6 + 5) (.slice (A'.ra j) t'.reads.length (A'.rc j))
  have a2 : rmCells A' (s.setS j t') = (rmCells A1 (s.setS j { t with id := t'.id, level := t'.level, ops := t'.ops, beg := t'.beg, wrote := t'.wrote })).setIfInBounds (3 + j * 6 + 5) (.slice (A'.ra j) t'.reads.length (A'.rc j)) := by
    refine rm_set A1 A' _ _ hj 5 (by decide) _ ⟨rfl, rfl, rfl, rfl⟩ ⟨by rw [hA1]; exact hv, by rw [hA1]; exact hc, rfl⟩ (fun i hi => ?_) ?_
    · rw [show (s.setS j t').s i = s.s i from upd_other _ _ _ hi, show (s.setS j { t with id := t'.id, level := t'.level, ops := t'.ops, beg := t'.beg, wrote := t'.wrote }).s i = s.s i from upd_other _ _ _ hi, hA1]
      obtain ⟨o1, o2, o3, o4⟩ := ho i hi
      unfold rtCells
      simp only
      rw [upd_other _ _ _ hi, upd_other _ _ _ hi, o1, o2, o3, o4]
    · rw [on, on, hA1]
      unfold rtCells
      simp only
      rw [upd_same, upd_same]
      rfl
  rw [← a2] at B6
  exact B6
/-- The Model's own block has turned; the rows are as they were, or nothing. -/
theorem RIn.setMod {B m : Nat} {w w' : World} {P : Nat → Prop} {s s' : RSt} {A A' : RAd} (h : RIn B w P m s A) (o : Only (fun b => b = m) w w') (hb : Blk w' m 65 (rmCells A' s')) (hv : s'.v = s.v ∧ A'.va = A.va ∧ A'.vc = A.vc)
    (hj : ∀ j, j < 8 → ((s'.s j).wrote = (s.s j).wrote ∧ A'.wa j = A.wa j ∧ A'.wc j = A.wc j ∧ (s'.s j).reads = (s.s j).reads ∧ A'.ra j = A.ra j ∧ A'.rc j = A.rc j) ∨ ((s'.s j).wrote = [] ∧ A'.wa j = none ∧ A'.wc j = 0 ∧ (s'.s j).reads = [] ∧ A'.ra j = none ∧ A'.rc j = 0)) (ok : ROk s') : RIn B w' P m s' A' := by
  obtain ⟨v1, v2, v3⟩ := hv
  have wn : ∀ j, j < 8 → ¬ rowOf (.slice (A.wa j) (s.s j).wrote.length (A.wc j)) m := fun j hj => rows_ne (h.ws j hj) h.mod (by decide)
  have rn : ∀ j, j < 8 → ¬ rowOf (.slice (A.ra j) (s.s j).reads.length (A.rc j)) m := fun j hj => rows_ne (h.rs j hj) h.mod (by decide)
  have W : ∀ j, j < 8 → w'.ownsRow B 3 1 (.slice (A'.wa j) (s'.s j).wrote.length (A'.wc j)) (s'.s j).wrote.length (wrCells (s'.s j).wrote) := by
    intro j hj'
    rcases hj j hj' with ⟨e1, e2, e3, _⟩ | ⟨e1, e2, e3, _⟩
    · rw [e1, e2, e3]; exact rows_only (h.ws j hj') o (fun b hb' e => by subst e; exact wn j hj' hb')
    · rw [e1, e2, e3]; exact World.ownsRow_nil _ _ _ _
  have R : ∀ j, j < 8 → w'.ownsRow B 110 4 (.slice (A'.ra j) (s'.s j).reads.length (A'.rc j)) (s'.s j).reads.length (rrCells (s'.s j).reads) := by
    intro j hj'
    rcases hj j hj' with ⟨_, _, _, e1, e2, e3⟩ | ⟨_, _, _, e1, e2, e3⟩
    · rw [e1, e2, e3]; exact rows_only (h.rs j hj') o (fun b hb' e => by subst e; exact rn j hj' hb')
    · rw [e1, e2, e3]; exact World.ownsRow_nil _ _ _ _
  have wo : ∀ j, j < 8 → ∀ b, rowOf (.slice (A'.wa j) (s'.s j).wrote.length (A'.wc j)) b → rowOf (.slice (A.wa j) (s.s j).wrote.length (A.wc j)) b := by
    intro j hj' b hb'
    rcases hj j hj' with ⟨e1, e2, e3, _⟩ | ⟨e1, e2, e3, _⟩
    · rw [e1, e2, e3] at hb'; exact hb'
    · rw [e2] at hb'; exact (rowOf_none _ _ _ hb').elim
  have ro : ∀ j, j < 8 → ∀ b, rowOf (.slice (A'.ra j) (s'.s j).reads.length (A'.rc j)) b → rowOf (.slice (A.ra j) (s.s j).reads.length (A.rc j)) b := by
    intro j hj' b hb'
    rcases hj j hj' with ⟨_, _, _, e1, e2, e3⟩ | ⟨_, _, _, e1, e2, e3⟩
    · rw [e1, e2, e3] at hb'; exact hb'
    · rw [e2] at hb'; exact (rowOf_none _ _ _ hb').elim
  refine ⟨hb, ?_, W, R, fun i j hi hj' hne b h1 h2 => h.winj i j hi hj' hne b (wo i hi b h1) (wo j hj' b h2), fun i j hi hj' hne b h1 h2 => h.rinj i j hi hj' hne b (ro i hi b h1) (ro j hj' b h2), ok, h.pm, fun b hb' => h.pr b (by rw [v1, v2, v3] at hb'; exact hb'), fun j hj' b hb' => h.pw j hj' b (wo j hj' b hb'), fun j hj' b hb' => h.pd j hj' b (ro j hj' b hb'), h.under.mono o.size, h.above⟩
  rw [v1, v2, v3]
  exact rows_only h.row o (fun b hb' e => by subst e; exact rows_ne h.row h.mod (by decide) hb')
theorem rvCells_set (l : List RVer) : ∀ (k f : Nat) (v' : RVer) (u : Value), k < l.length → f < 7 → rvCell v' = (rvCell (l.getD k default)).set f u → rvCells (l.set k v') = (rvCells l).set (k * 7 + f) u := by
  induction l with
  | nil => intro k f v' u hk; simp at hk
  | cons a l ih =>
    intro k f v' u hk hf hv
    cases k with
    | zero =>
      rw [List.set_cons_zero]
      unfold rvCells
      rw [List.flatMap_cons, List.flatMap_cons, Nat.zero_mul, Nat.zero_add, List.set_append_left _ _ (by simp [rvCell]; exact hf)]
      rw [hv]; rfl
    | succ k =>
      rw [List.set_cons_succ]
      have e : (k + 1) * 7 + f = (rvCell a).length + (k * 7 + f) := by simp [rvCell]; omega
      have := ih k f v' u (by simpa using hk) hf hv
      unfold rvCells at *
      rw [List.flatMap_cons, List.flatMap_cons, e, List.set_append_right _ _ (by omega), Nat.add_sub_cancel_left, this]
theorem RIn.setVer {B m g : Nat} {w : World} {P : Nat → Prop} {s : RSt} {A : RAd} (h : RIn B w P m s A) (hg : A.va = some ⟨g, 0, none⟩) {k f : Nat} (hk : k < s.v.length) (hf : f < 7) {v' : RVer} {u : Value} (hv : rvCell v' = (rvCell (s.v.getD k default)).set f u) :
    RIn B (w.setCell ⟨g, k * 7 + f, none⟩ u) P m { s with v := s.v.set k v' } A ∧ Only P w (w.setCell ⟨g, k * 7 + f, none⟩ u) := by
  have o : Only (fun b => b = g) w (w.setCell ⟨g, k * 7 + f, none⟩ u) := Only.set1 w g _ _
  have hgr : rowOf (.slice A.va s.v.length A.vc) g := by rw [hg]; exact rowOf_some.2 rfl
  have hrow := h.row
  have hl : (s.v.set k v').length = s.v.length := by simp
  refine ⟨⟨?_, ?_, fun j hj => rows_only (h.ws j hj) o (fun b hb e => ?_), fun j hj => rows_only (h.rs j hj) o (fun b hb e => ?_), h.winj, h.rinj, ⟨h.ok.slots, h.ok.limit, h.ok.time, h.ok.made, by rw [hl]; exact h.ok.few, h.ok.ops, h.ok.wrote, h.ok.reads, h.ok.span⟩, h.pm, fun b hb => h.pr b (by rw [hl] at hb; exact hb), h.pw, h.pd, h.under.mono o.size, h.above⟩, o.toward (fun b hb => by subst hb; exact h.pr _ hgr)⟩
  · have : rmCells A { s with v := s.v.set k v' } = rmCells A s := by unfold rmCells rmList; rw [hl]
    rw [this]
    exact o.blk h.mod (fun e => by subst e; exact rows_ne hrow h.mod (by decide) hgr)
  · rw [hl, rvCells_set s.v k f v' u hk hf hv]
    rw [hg] at hrow ⊢
    exact (hrow.stored (k * 7 + f) u).1
  · subst e; exact rows_apart (h.ws j hj) h.row (by decide) _ hb hgr
  · subst e; exact rows_apart (h.rs j hj) h.row (by decide) _ hb hgr
end Go.Proofs.Ytcbhafddehipdaa
namespace Go.Proofs.Ytcbhafddehipdaa
open Go.RowKit
set_option linter.unusedVariables false
set_option linter.unusedSimpArgs false
/-- The first k of a row have turned. -/
def rUpto {α : Type} (f : α → α) (l : List α) (k : Nat) : List α := l.mapIdx fun i v => if i < k then f v else v
theorem rUpto_zero {α : Type} (f : α → α) (l : List α) : rUpto f l 0 = l := by
  unfold rUpto
  refine List.ext_getElem (by simp) fun i h1 h2 => ?_
  rw [List.getElem_mapIdx]; simp
theorem rUpto_len {α : Type} (f : α → α) (l : List α) (k : Nat) : (rUpto f l k).length = l.length := by unfold rUpto; simp
theorem rUpto_all {α : Type} (f : α → α) (l : List α) : rUpto f l l.length = l.map f := by
  unfold rUpto
  refine List.ext_getElem (by simp) fun i h1 h2 => ?_
  rw [List.getElem_mapIdx, List.getElem_map]
  simp at h1
  simp [h1]
theorem rUpto_get {α : Type} [Inhabited α] (f : α → α) (l : List α) (k : Nat) (hk : k < l.length) : (rUpto f l k).getD k default = l.getD k default := by
  unfold rUpto
  simp [List.getD_eq_getElem?_getD, List.getElem?_mapIdx, List.getElem?_eq_getElem hk]
theorem rUpto_get? {α : Type} (f : α → α) (l : List α) (k i : Nat) : (rUpto f l k)[i]? = (l[i]?).map fun v => if i < k then f v else v := by
  unfold rUpto; rw [List.getElem?_mapIdx]
theorem rUpto_set {α : Type} [Inhabited α] (f : α → α) (l : List α) (k : Nat) (hk : k < l.length) : (rUpto f l k).set k (f (l.getD k default)) = rUpto f l (k + 1) := by
  refine List.ext_getElem? fun i => ?_
  rw [List.getElem?_set, rUpto_get?, rUpto_get?, rUpto_len]
  by_cases e : k = i
  · subst e
    rw [if_pos rfl, if_pos hk, List.getD_eq_getElem?_getD, List.getElem?_eq_getElem hk]
    simp
  · rw [if_neg e]
    congr 1
    funext v
    by_cases h : i < k
    · rw [if_pos h, if_pos (by omega)]
    · rw [if_neg h, if_neg (by omega)]
theorem rUpto_same {α : Type} [Inhabited α] (f : α → α) (l : List α) (k : Nat) (hk : k < l.length) (h : f (l.getD k default) = l.getD k default) : rUpto f l (k + 1) = rUpto f l k := by
  rw [← rUpto_set f l k hk, h]
  refine List.ext_getElem (by simp) fun i h1 h2 => ?_
  rw [List.getElem_set]
  split
  · rename_i e
    subst e
    have := rUpto_get f l k hk
    rw [List.getD_eq_getElem?_getD, List.getElem?_eq_getElem h2] at this
    exact this.symm
  · rfl
theorem set_set_same {α : Type} (l : List α) (k : Nat) (a b : α) : (l.set k a).set k b = l.set k b := by
  refine List.ext_getElem (by simp) fun i h1 h2 => ?_
  simp only [List.getElem_set]
  split <;> rfl
theorem getD_set_same {α : Type} [Inhabited α] (l : List α) (k : Nat) (a : α) (hk : k < l.length) : (l.set k a).getD k default = a := by
  rw [List.getD_eq_getElem?_getD, List.getElem?_set_self hk]; rfl
/-- What a call leaves that turns the Model. -/
def RRes (B m : Nat) (w : World) (P : Nat → Prop) (v : Value) (s' : RSt) (e : Ending) (w' : World) : Prop := ∃ P' : Nat → Prop, e = .returned v ∧ RAt B w' P' m s' ∧ Only P w w' ∧ Grew w.heap.size P P'
/-- A loop over the versions that turns them, under way. -/
structure RvRel (B m : Nat) (w : World) (P : Nat → Prop) (s : RSt) (A : RAd) (f : RVer → RVer) (n0 k : Nat) (wr : World) : Prop where
  mod : RIn B wr P m { s with v := rUpto f s.v k } A
  box : Blk wr n0 27 #[.int .i64 0, .int .i64 0, .slice none 0 0, .int .i64 0, .int .i64 0]
  only : Only P w wr
/-- Session j is emptied. -/
theorem RIn.empty {B m : Nat} {w : World} {P : Nat → Prop} {s : RSt} {A : RAd} (h : RIn B w P m s A) {j : Nat} (hj : j < 8) :
    ∃ A', RIn B ((((((w.setCell ⟨m, 3 + j * 6, none⟩ (.int .i64 0)).setCell ⟨m, 3 + j * 6 + 1, none⟩ (.int .i64 0)).setCell ⟨m, 3 + j * 6 + 2, none⟩ (.int .i64 0)).setCell ⟨m, 3 + j * 6 + 3, none⟩ (.int .u64 0)).setCell ⟨m, 3 + j * 6 + 4, none⟩ (.slice none 0 0)).setCell ⟨m, 3 + j * 6 + 5, none⟩ (.slice none 0 0)) P m (s.setS j RTx.zero) A' ∧
      Only P w ((((((w.setCell ⟨m, 3 + j * 6, none⟩ (.int .i64 0)).setCell ⟨m, 3 + j * 6 + 1, none⟩ (.int .i64 0)).setCell ⟨m, 3 + j * 6 + 2, none⟩ (.int .i64 0)).setCell ⟨m, 3 + j * 6 + 3, none⟩ (.int .u64 0)).setCell ⟨m, 3 + j * 6 + 4, none⟩ (.slice none 0 0)).setCell ⟨m, 3 + j * 6 + 5, none⟩ (.slice none 0 0)) := by
  obtain ⟨A', hA'⟩ : ∃ A' : RAd, A' = ⟨A.va, A.vc, upd A.wa j none, upd A.wc j 0, upd A.ra j none, upd A.rc j 0⟩ := ⟨_, rfl⟩
  have wa : A'.wa j = none := by rw [hA']; exact upd_same _ _ _
  have wc : A'.wc j = 0 := by rw [hA']; exact upd_same _ _ _
  have ra : A'.ra j = none := by rw [hA']; exact upd_same _ _ _
  have rc : A'.rc j = 0 := by rw [hA']; exact upd_same _ _ _
  have off : ∀ i, i ≠ j → A'.wa i = A.wa i ∧ A'.wc i = A.wc i ∧ A'.ra i = A.ra i ∧ A'.rc i = A.rc i := fun i hi => by
    rw [hA']; exact ⟨upd_other _ _ _ hi, upd_other _ _ _ hi, upd_other _ _ _ hi, upd_other _ _ _ hi⟩
  have hv : A'.va = A.va ∧ A'.vc = A.vc := by rw [hA']; exact ⟨rfl, rfl⟩
  obtain ⟨b, o⟩ := rm_six (A' := A') hj RTx.zero ⟨hv.1, hv.2, off⟩ h.mod
  rw [wa, wc, ra, rc] at b o
  refine ⟨A', h.setMod o b ⟨rfl, hv.1, hv.2⟩ (fun i hi => ?_) ?_, o.toward (fun b hb => by subst hb; exact h.pm)⟩
  · by_cases e : i = j
    · subst e
      right
      rw [show (s.setS i RTx.zero).s i = RTx.zero from upd_same _ _ _]
      exact ⟨rfl, wa, wc, rfl, ra, rc⟩
    · left
      rw [show (s.setS j RTx.zero).s i = s.s i from upd_other _ _ _ e]
      obtain ⟨o1, o2, o3, o4⟩ := off i e
      exact ⟨rfl, o1, o2, rfl, o3, o4⟩
  · have e : ∀ i, (s.setS j RTx.zero).s i = if i = j then RTx.zero else s.s i := fun i => rfl
    have h0 := h.ok
    refine ⟨h0.slots, h0.limit, h0.time, h0.made, h0.few, fun i => ?_, fun i => ?_, fun i => ?_, fun i r hr => ?_⟩
    · rw [e]; split
      · exact ⟨by decide, by decide⟩
      · exact h0.ops i
    · rw [e]; split
      · exact Int.le_refl _
      · exact h0.wrote i
    · rw [e]; split
      · exact Int.le_refl _
      · exact h0.reads i
    · rw [e] at hr
      split at hr
      · cases hr
      · exact h0.span i r hr
set_option maxRecDepth 100000 in
set_option maxHeartbeats 16000000 in
theorem ref_over {B m : Nat} {w : World} {P : Nat → Prop} {s : RSt} (h : RAt B w P m s) (j : Nat) (hj : j < 8) (er reason : Int) :
    Calls Try.prog 57 #[.pointer (some ⟨m, 0, none⟩), .int .i64 j, .int .i64 er, .int .i64 reason] w (RRes B m w P (.agg #[.int .i64 er, .int .i64 0, .slice none 0 0, .int .i64 4, .int .i64 reason]) (s.over j)) := by
  obtain ⟨A, h⟩ := h
  obtain ⟨W, hW⟩ : ∃ W, W = w.alloc (.cells #[.int .i64 0, .int .i64 0, .slice none 0 0, .int .i64 0, .int .i64 0] 27) := ⟨_, rfl⟩
  have oW : Only0 w W := by rw [hW]; exact (Only0.refl w).alloc _
  have M := h.only0 oW
  obtain ⟨n0, hn0⟩ : ∃ n0, n0 = w.heap.size := ⟨_, rfl⟩
  have BX : Blk W n0 27 #[.int .i64 0, .int .i64 0, .slice none 0 0, .int .i64 0, .int .i64 0] := by rw [hW, hn0]; exact Blk.new _ _ _
  have hnP : Hid (¬ P n0) := fun hp => by have := h.under _ hp; omega
  have HN0 := Lib.hid hn0
  have id0 : W.cell? ⟨m, 3 + j * 6, none⟩ = some (.int .i64 (s.s j).id) := (M.txCells hj).1
  obtain ⟨id, hid⟩ : ∃ id, id = (s.s j).id := ⟨_, rfl⟩
  rw [← hid] at id0
  have HID := Lib.hid hid
  have R0 : Hid (RvRel B m w P s A (rOverV id) n0 0 W) := by
    refine ⟨?_, BX, oW.any P⟩
    rw [rUpto_zero]; exact M
  have hlen : s.v.length ≤ 256 := by have := h.ok.few; have := h.ok.slots; omega
  have j8 : (j : Int) < 8 := by omega
  have j0 : (0 : Int) ≤ (j : Int) := by omega
  clear h M BX hn0 oW hid
  go_enter Try.func57, Try.ntmps57
  go_upto_region 1 with (fail)
  rw [← hW, ← HN0.out]
  clear hW
  go_wp2_with fail
  go_loopw [10] (fun s10 wr => ∃ k : Nat, k ≤ s.v.length ∧ s10 = .int .i64 k ∧ Hid (RvRel B m w P s A (rOverV id) n0 k wr)) (fun s10 _ => s.v.length - (intOf s10).toNat)
  case atStart => exact ⟨0, Nat.zero_le _, rfl, R0⟩
  case round =>
    obtain ⟨k, hk, rfl, HR⟩ := hrel
    clear R0
    have c2 : wr.cell? ⟨m, 2, none⟩ = some (.slice A.va s.v.length A.vc) := by have := HR.out.mod.head.2.2.1; rw [rUpto_len] at this; exact this
    by_cases hlt : k < s.v.length
    · have MM := HR.out.mod
      obtain ⟨g, hg, hPg, hc⟩ : ∃ g, A.va = some ⟨g, 0, none⟩ ∧ P g ∧ ∀ f, f < 7 → wr.cell? ⟨g, k * 7 + f, none⟩ = (rvCell (s.v.getD k default))[f]? := by
        rcases MM.rowAt with ⟨_, e, _⟩ | ⟨g, hg, hp, hc⟩
        · rw [rUpto_len] at e; omega
        · refine ⟨g, hg, hp, fun f hf => ?_⟩
          have := hc k f (by rw [rUpto_len]; exact hlt) hf
          rw [rUpto_get _ _ _ hlt] at this; exact this
      have hk' : k < (rUpto (rOverV id) s.v k).length := by rw [rUpto_len]; exact hlt
      have fz : ∀ i, wr.frozen? ⟨g, i, none⟩ = false := fun i => by
        have hr := MM.row
        have hg' : ({ s with v := rUpto (rOverV id) s.v k } : RSt).v = rUpto (rOverV id) s.v k := rfl
        rw [hg] at hr
        exact hr.frozenAt i
      have US := rUpto_set (rOverV id) s.v k hlt
      have UE := rUpto_same (rOverV id) s.v k hlt
      obtain ⟨v, hv⟩ : ∃ v, s.v.getD k default = v := ⟨_, rfl⟩
      have hgd : (rUpto (rOverV id) s.v k).getD k default = v := (rUpto_get _ _ _ hlt).trans hv
      rw [hv] at hc US UE
      obtain ⟨kk, vv, by_, en, bg, fn, dd⟩ := v
      have q2 : wr.cell? ⟨g, k * 7 + 2, none⟩ = some (.int .i64 by_) := hc 2 (by omega)
      have q3 : wr.cell? ⟨g, k * 7 + 3, none⟩ = some (.int .i64 en) := hc 3 (by omega)
      have q6 : wr.cell? ⟨g, k * 7 + 6, none⟩ = some (.bool dd) := hc 6 (by omega)
      obtain ⟨M1, o1⟩ := MM.setVer hg hk' (f := 3) (by decide) (v' := ⟨kk, vv, by_, 0, bg, fn, dd⟩) (u := .int .i64 0) (by rw [hgd]; rfl)
      have c21 : (wr.setCell ⟨g, k * 7 + 3, none⟩ (.int .i64 0)).cell? ⟨m, 2, none⟩ = some (.slice (some ⟨g, 0, none⟩) s.v.length A.vc) := by
        have := M1.head.2.2.1
        rw [hg] at this
        simpa [rUpto_len] using this
      obtain ⟨r1, r2, r3⟩ : (wr.setCell ⟨g, k * 7 + 3, none⟩ (.int .i64 0)).cell? ⟨g, k * 7 + 2, none⟩ = some (.int .i64 by_) ∧ (wr.setCell ⟨g, k * 7 + 3, none⟩ (.int .i64 0)).cell? ⟨g, k * 7 + 6, none⟩ = some (.bool dd) ∧ ∀ i, (wr.setCell ⟨g, k * 7 + 3, none⟩ (.int .i64 0)).frozen? ⟨g, i, none⟩ = false := by
        rcases M1.rowAt with ⟨e, _⟩ | ⟨g', e, _, hc1⟩
        · rw [hg] at e; cases e
        · rw [hg] at e; injection e with e; injection e with e; subst e
          have hl1 : k < ((rUpto (rOverV id) s.v k).set k ⟨kk, vv, by_, 0, bg, fn, dd⟩).length := by simpa using hk'
          have g1 : ((rUpto (rOverV id) s.v k).set k ⟨kk, vv, by_, 0, bg, fn, dd⟩).getD k default = ⟨kk, vv, by_, 0, bg, fn, dd⟩ := getD_set_same _ _ _ hk'
          have a := hc1 k 2 hl1 (by omega)
          have b := hc1 k 6 hl1 (by omega)
          simp only [g1] at a b
          refine ⟨a, b, fun i => ?_⟩
          have hr := M1.row
          rw [hg] at hr
          exact hr.frozenAt i
      obtain ⟨M2, o2⟩ := MM.setVer hg hk' (f := 6) (by decide) (v' := ⟨kk, vv, by_, en, bg, fn, true⟩) (u := .bool true) (by rw [hgd]; rfl)
      obtain ⟨M3, o3⟩ := M1.setVer hg (k := k) (by simpa using hk') (f := 6) (by decide) (v' := ⟨kk, vv, by_, 0, bg, fn, true⟩) (u := .bool true) (by
        rw [show ({ s with v := (rUpto (rOverV id) s.v k).set k ⟨kk, vv, by_, 0, bg, fn, dd⟩ } : RSt).v.getD k default = ⟨kk, vv, by_, 0, bg, fn, dd⟩ from getD_set_same _ _ _ hk']; rfl)
      have hbox := HR.out.box
      have honly := HR.out.only
      have hnb : ∀ b, P b → b ≠ n0 := fun b hb e => hnP.out (e ▸ hb)
      have B1 := o1.blk hbox hnP.out
      have B2 := o2.blk hbox hnP.out
      have B3 := o3.blk B1 hnP.out
      rw [hg] at c2
      have HM := Lib.hid MM
      have HM1 := Lib.hid M1
      have HM2 := Lib.hid M2
      have HM3 := Lib.hid M3
      have HO := Lib.hid honly
      have HO1 := Lib.hid o1
      have HO2 := Lib.hid o2
      have HO3 := Lib.hid o3
      have HB := Lib.hid hbox
      have HB1 := Lib.hid B1
      have HB2 := Lib.hid B2
      have HB3 := Lib.hid B3
      have HUS := Lib.hid US
      have HUE := Lib.hid UE
      have HG := Lib.hid hgd
      clear MM M1 M2 M3 honly o1 o2 o3 hbox B1 B2 B3 US UE hgd hv hc HR hnb
      by_cases h1 : en = id
      · by_cases h2 : by_ = id
        · have HR' : Hid (RvRel B m w P s A (rOverV id) n0 (k + 1) ((wr.setCell ⟨g, k * 7 + 3, none⟩ (.int .i64 0)).setCell ⟨g, k * 7 + 6, none⟩ (.bool true))) := by
            refine ⟨?_, HB3.out, (HO.out.trans HO1.out).trans HO3.out⟩
            have e : rOverV id ⟨kk, vv, by_, en, bg, fn, dd⟩ = ⟨kk, vv, by_, 0, bg, fn, true⟩ := by simp [rOverV, h1, h2]
            have := HM3.out
            simp only [set_set_same] at this
            rw [← e, HUS.out] at this
            exact this
          subst h1
          subst h2
          clear HM HM1 HM2 HM3 HO HO1 HO2 HO3 HB HB1 HB2 HB3 HUS HUE HG
          go_wp2_with fail
          go_roundw
          case rel => exact ⟨k + 1, by omega, by go_num, HR'⟩
          case measure => simp [intOf]; omega
        · have HR' : Hid (RvRel B m w P s A (rOverV id) n0 (k + 1) (wr.setCell ⟨g, k * 7 + 3, none⟩ (.int .i64 0))) := by
            refine ⟨?_, HB1.out, HO.out.trans HO1.out⟩
            have e : rOverV id ⟨kk, vv, by_, en, bg, fn, dd⟩ = ⟨kk, vv, by_, 0, bg, fn, dd⟩ := by simp [rOverV, h1, h2]
            have := HM1.out
            rw [← e, HUS.out] at this
            exact this
          have h2b : (by_ == id) = false := by simpa using h2
          subst h1
          clear HM HM1 HM2 HM3 HO HO1 HO2 HO3 HB HB1 HB2 HB3 HUS HUE HG h2
          go_wp2_with fail
          go_roundw
          case rel => exact ⟨k + 1, by omega, by go_num, HR'⟩
          case measure => simp [intOf]; omega
      · by_cases h2 : by_ = id
        · have HR' : Hid (RvRel B m w P s A (rOverV id) n0 (k + 1) (wr.setCell ⟨g, k * 7 + 6, none⟩ (.bool true))) := by
            refine ⟨?_, HB2.out, HO.out.trans HO2.out⟩
            have e : rOverV id ⟨kk, vv, by_, en, bg, fn, dd⟩ = ⟨kk, vv, by_, en, bg, fn, true⟩ := by simp [rOverV, h1, h2]
            have := HM2.out
            rw [← e, HUS.out] at this
            exact this
          have h1b : (en == id) = false := by simpa using h1
          subst h2
          clear HM HM1 HM2 HM3 HO HO1 HO2 HO3 HB HB1 HB2 HB3 HUS HUE HG h1
          go_wp2_with fail
          go_roundw
          case rel => exact ⟨k + 1, by omega, by go_num, HR'⟩
          case measure => simp [intOf]; omega
        · have HR' : Hid (RvRel B m w P s A (rOverV id) n0 (k + 1) wr) := by
            refine ⟨?_, HB.out, HO.out⟩
            have e : rOverV id ⟨kk, vv, by_, en, bg, fn, dd⟩ = ⟨kk, vv, by_, en, bg, fn, dd⟩ := by simp [rOverV, h1, h2]
            rw [HUE.out e]
            exact HM.out
          have h1b : (en == id) = false := by simpa using h1
          have h2b : (by_ == id) = false := by simpa using h2
          clear HM HM1 HM2 HM3 HO HO1 HO2 HO3 HB HB1 HB2 HB3 HUS HUE HG h1 h2
          go_wp2_with fail
          go_roundw
          case rel => exact ⟨k + 1, by omega, by go_num, HR'⟩
          case measure => simp [intOf]; omega
    · obtain rfl : k = s.v.length := by omega
      have M9 := HR.out.mod
      rw [rUpto_all] at M9
      obtain ⟨A', MA, OA⟩ := M9.empty hj
      have BA := OA.blk HR.out.box hnP.out
      obtain ⟨t0, t1, t2, t3, t4, t5⟩ := M9.txCells hj
      have tf := fun i => M9.free i
      obtain ⟨W8, hW8⟩ : ∃ W8, W8 = ((((((wr.setCell ⟨m, 3 + j * 6, none⟩ (.int .i64 0)).setCell ⟨m, 3 + j * 6 + 1, none⟩ (.int .i64 0)).setCell ⟨m, 3 + j * 6 + 2, none⟩ (.int .i64 0)).setCell ⟨m, 3 + j * 6 + 3, none⟩ (.int .u64 0)).setCell ⟨m, 3 + j * 6 + 4, none⟩ (.slice none 0 0)).setCell ⟨m, 3 + j * 6 + 5, none⟩ (.slice none 0 0)) := ⟨_, rfl⟩
      rw [← hW8] at MA BA OA
      have ME : RIn B W8 P m (s.over j) A' := by
        have := MA
        rw [show ({ s with v := s.v.map (rOverV id) } : RSt).setS j RTx.zero = s.over j by unfold RSt.over RSt.setS; rw [HID.out]] at this
        exact this
      have HME := Lib.hid ME
      have HBA := Lib.hid BA
      have HO8 := Lib.hid (HR.out.only.trans OA)
      have b0 : W8.cell? ⟨n0, 0, none⟩ = some (.int .i64 0) := BA.cell 0
      have b1 : W8.cell? ⟨n0, 1, none⟩ = some (.int .i64 0) := BA.cell 1
      have b2 : W8.cell? ⟨n0, 2, none⟩ = some (.slice none 0 0) := BA.cell 2
      have b3 : W8.cell? ⟨n0, 3, none⟩ = some (.int .i64 0) := BA.cell 3
      have b4 : W8.cell? ⟨n0, 4, none⟩ = some (.int .i64 0) := BA.cell 4
      have bf := fun i => BA.free i
      clear M9 MA ME OA BA HR
      go_upto_region 10 with (fail)
      rw [← hW8]
      clear hW8 t0 t1 t2 t3 t4 t5 tf
      go_wp2_with fail
      obtain ⟨B9, o9⟩ := set5 HBA.out (.int .i64 er) (.int .i64 0) (.slice none 0 0) (.int .i64 4) (.int .i64 reason)
      have hn := HN0.out
      refine bodyPost_ret (v := .agg #[.int .i64 er, .int .i64 0, .slice none 0 0, .int .i64 4, .int .i64 reason]) (results_cell_row Try.results57 _ _ n0 _ _ _ _ rfl B9 Try.underlying27 rfl info_res) rfl ?_
      exact ⟨P, rfl, ⟨A', HME.out.only o9 (fun b hb e => by subst e; exact hnP.out hb)⟩, HO8.out.grewTrans (P2 := fun b => P b ∨ b = n0) (fun b hb => hb.imp (fun h => h) (fun e => by omega)) (o9.toward (fun b hb => .inr hb)), Grew.refl _ _⟩
end Go.Proofs.Ytcbhafddehipdaa
namespace Go.Proofs.Ytcbhafddehipdaa
open Go.RowKit
attribute [local go_sem ↓] Go.wp_at_zero Go.wp_at_succ
set_option linter.unusedVariables false
set_option linter.unusedSimpArgs false
theorem idxV_neq (a b : Option Nat) : (idxV a != idxV b) = !decide (a = b) := by
  cases a with
  | none => cases b with
    | none => rfl
    | some y => simp [idxV] <;> omega
  | some x => cases b with
    | none => simp [idxV] <;> omega
    | some y => by_cases e : x = y <;> simp [idxV, e] <;> omega
theorem all_no {α : Type} [Inhabited α] {p : α → Bool} {l : List α} {k : Nat} (hk : k < l.length) (hp : p (l.getD k default) = false) : l.all p = false := by
  cases h : l.all p with
  | false => rfl
  | true =>
    rw [List.all_eq_true] at h
    have := h (l.getD k default) (by rw [List.getD_eq_getElem?_getD, List.getElem?_eq_getElem hk]; exact List.getElem_mem hk)
    rw [hp] at this; cases this
theorem all_yes {α : Type} [Inhabited α] {p : α → Bool} {l : List α} (hn : ∀ i, i < l.length → p (l.getD i default) = true) : l.all p = true := by
  rw [List.all_eq_true]
  intro x hx
  obtain ⟨i, hi, rfl⟩ := List.getElem_of_mem hx
  have := hn i hi
  rw [List.getD_eq_getElem?_getD, List.getElem?_eq_getElem hi] at this
  simpa using this
theorem allStep {α : Type} [Inhabited α] {p : α → Bool} {l : List α} {k : Nat} (hn : ∀ i, i < k → p (l.getD i default) = true) (hp : p (l.getD k default) = true) : ∀ i, i < k + 1 → p (l.getD i default) = true := by
  intro i hi
  by_cases e : i = k
  · rw [e]; exact hp
  · exact hn i (by omega)
theorem mem_rKeys {lo hi : Int} (h0 : 0 ≤ lo) (k : Nat) : k ∈ rKeys lo hi ↔ lo ≤ (k : Int) ∧ (k : Int) ≤ hi := by
  unfold rKeys keysFrom
  rw [List.mem_map]
  constructor
  · rintro ⟨x, hx, rfl⟩
    simp at hx; omega
  · rintro ⟨h1, h2⟩
    exact ⟨k - lo.toNat, by simp; omega, by omega⟩
theorem holdsR_yes {s : RSt} {beg : Int} {r : RRd} (h0 : 0 ≤ r.lo) (h : ∀ k : Nat, r.lo ≤ (k : Int) → (k : Int) ≤ r.hi → s.there k beg = s.there k s.time) : s.holdsR beg r = true := by
  unfold RSt.holdsR
  rw [List.all_eq_true]
  intro k hk
  rw [mem_rKeys h0] at hk
  exact decide_eq_true (h k hk.1 hk.2)
theorem holdsR_no {s : RSt} {beg : Int} {r : RRd} (h0 : 0 ≤ r.lo) {k : Nat} (h1 : r.lo ≤ (k : Int)) (h2 : (k : Int) ≤ r.hi) (h : ¬ s.there k beg = s.there k s.time) : s.holdsR beg r = false := by
  cases hh : s.holdsR beg r with
  | false => rfl
  | true =>
    unfold RSt.holdsR at hh
    rw [List.all_eq_true] at hh
    exact absurd (of_decide_eq_true (hh k ((mem_rKeys h0 k).2 ⟨h1, h2⟩))) h
def rHoldB (s : RSt) (t : RTx) (r : RRd) : Bool := (decide (t.level = 2) && !r.found) || s.holdsR t.beg r
set_option maxRecDepth 100000 in
set_option maxHeartbeats 16000000 in
theorem ref_holds {B m : Nat} {w : World} {P : Nat → Prop} {s : RSt} {A : RAd} (h : RIn B w P m s A) (t : RTx) (wa : Option Addr) (wl wc : Nat) (ra : Option Addr) (rc : Nat) (hlen : t.reads.length ≤ 100)
    (hr : t.reads = [] ∨ ∃ g, ra = some ⟨g, 0, none⟩ ∧ ∀ k f, k < t.reads.length → f < 4 → w.cell? ⟨g, k * 4 + f, none⟩ = (rrCell (t.reads.getD k default))[f]?) (hsp : ∀ r ∈ t.reads, 0 ≤ r.lo ∧ r.lo ≤ 63 ∧ 0 ≤ r.hi ∧ r.hi ≤ 63) :
    Calls Try.prog 76 #[.pointer (some ⟨m, 0, none⟩), .agg #[.int .i64 t.id, .int .i64 t.level, .int .i64 t.ops, .int .u64 t.beg, .slice wa wl wc, .slice ra t.reads.length rc]] w fun e w' => e = .returned (.bool (s.holds t)) ∧ Only0 w w' := by
  obtain ⟨W, hW⟩ : ∃ W, W = w.alloc (.cells #[.int .i64 t.id, .int .i64 t.level, .int .i64 t.ops, .int .u64 t.beg, .slice wa wl wc, .slice ra t.reads.length rc] 62) := ⟨_, rfl⟩
  have oW : Only0 w W := by rw [hW]; exact (Only0.refl w).alloc _
  have M := h.only0 oW
  obtain ⟨n0, hn0⟩ : ∃ n0, n0 = w.heap.size := ⟨_, rfl⟩
  have HB : Hid (Blk W n0 62 #[.int .i64 t.id, .int .i64 t.level, .int .i64 t.ops, .int .u64 t.beg, .slice wa wl wc, .slice ra t.reads.length rc]) := by rw [hW, hn0]; exact Blk.new _ _ _
  have HR : Hid (t.reads = [] ∨ ∃ g, ra = some ⟨g, 0, none⟩ ∧ ∀ k f, k < t.reads.length → f < 4 → W.cell? ⟨g, k * 4 + f, none⟩ = (rrCell (t.reads.getD k default))[f]?) := by
    rcases hr with e | ⟨g, e, hc⟩
    · exact .inl e
    · refine .inr ⟨g, e, fun k f hk hf => ?_⟩
      have e0 := hc k f hk hf
      have e1 : ∃ v, (rrCell (t.reads.getD k default))[f]? = some v := by
        match f, hf with
        | 0, _ => exact ⟨_, rfl⟩
        | 1, _ => exact ⟨_, rfl⟩
        | 2, _ => exact ⟨_, rfl⟩
        | 3, _ => exact ⟨_, rfl⟩
      obtain ⟨v, hv⟩ := e1
      rw [hv] at e0 ⊢
      exact (World.cell?_of_block (oW.block g (block_lt_of_cell e0) (fun h => h))).trans e0
  have HM := Lib.hid M
  have HW := Lib.hid oW
  have HN0 := Lib.hid hn0
  have HSP := Lib.hid hsp
  have HF := Lib.hid (show t.reads.all (rHoldB s t) = s.holds t from rfl)
  have HOO := Lib.hid (Only0.refl W)
  generalize s.holds t = res at HF ⊢
  clear h hr hsp M oW hn0
  go_enter Try.func76, Try.ntmps76
  go_upto_region 1 with (fail)
  rw [← hW, ← HN0.out]
  clear hW
  go_wp2_with fail
  go_loopw [5, 6, 7] (fun s5 s6 s7 wr => ∃ (k : Nat) (v6 v7 : Value), k ≤ t.reads.length ∧ s6 = v6 ∧ s7 = v7 ∧ s5 = .int .i64 k ∧ Hid (Only0 W wr) ∧ Hid (∀ i, i < k → rHoldB s t (t.reads.getD i default) = true)) (fun s5 _ _ _ => t.reads.length - (intOf s5).toNat)
  case atStart => exact ⟨0, _, _, Nat.zero_le _, rfl, rfl, rfl, HOO, Lib.hid (fun i hi => by omega)⟩
  case round =>
    obtain ⟨k, v6, v7, hk, rfl, rfl, rfl, HO, HN⟩ := hrel
    clear HOO
    have b5 : wr.cell? ⟨n0, 5, none⟩ = some (.slice ra t.reads.length rc) := (HO.out.blk HB.out (fun h => h)).cell 5
    by_cases hlt : k < t.reads.length
    · obtain ⟨g, rfl, hc⟩ : ∃ g, ra = some ⟨g, 0, none⟩ ∧ ∀ k f, k < t.reads.length → f < 4 → W.cell? ⟨g, k * 4 + f, none⟩ = (rrCell (t.reads.getD k default))[f]? := by
        rcases HR.out with e | e
        · rw [e] at hlt; simp at hlt
        · exact e
      have hin : t.reads.getD k default ∈ t.reads := by rw [List.getD_eq_getElem?_getD, List.getElem?_eq_getElem hlt]; exact List.getElem_mem hlt
      have hs := HSP.out _ hin
      have NO := Lib.hid (fun hp : rHoldB s t (t.reads.getD k default) = false => HF.out.symm.trans (all_no (p := rHoldB s t) hlt hp))
      have YES := Lib.hid (fun hp : rHoldB s t (t.reads.getD k default) = true => allStep (p := rHoldB s t) HN.out hp)
      obtain ⟨r, hr⟩ : ∃ r, t.reads.getD k default = r := ⟨_, rfl⟩
      have hcc := hc k
      rw [hr] at NO YES hs hcc
      obtain ⟨lo, hi, fo, sc⟩ := r
      have cell : ∀ f v, W.cell? ⟨g, k * 4 + f, none⟩ = some v → wr.cell? ⟨g, k * 4 + f, none⟩ = some v := fun f v e => (World.cell?_of_block (HO.out.block g (block_lt_of_cell e) (fun h => h))).trans e
      have q0 : wr.cell? ⟨g, k * 4, none⟩ = some (.int .i64 lo) := cell 0 _ (hcc 0 hlt (by omega))
      have q1 : wr.cell? ⟨g, k * 4 + 1, none⟩ = some (.int .i64 hi) := cell 1 _ (hcc 1 hlt (by omega))
      have q2 : wr.cell? ⟨g, k * 4 + 2, none⟩ = some (.bool fo) := cell 2 _ (hcc 2 hlt (by omega))
      have q3 : wr.cell? ⟨g, k * 4 + 3, none⟩ = some (.bool sc) := cell 3 _ (hcc 3 hlt (by omega))
      simp only at hs
      obtain ⟨W2, hW2⟩ : ∃ W2, W2 = wr.alloc (.cells #[.int .i64 lo, .int .i64 hi, .bool fo, .bool sc] 110) := ⟨_, rfl⟩
      have O2 : Hid (Only0 W W2) := by rw [hW2]; exact HO.out.alloc _
      obtain ⟨n2, hn2⟩ : ∃ n2, n2 = wr.heap.size := ⟨_, rfl⟩
      have B2 : Hid (Blk W2 n2 110 #[.int .i64 lo, .int .i64 hi, .bool fo, .bool sc]) := by rw [hW2, hn2]; exact Blk.new _ _ _
      have d0 : W2.cell? ⟨n2, 0, none⟩ = some (.int .i64 lo) := B2.out.cell 0
      have d1 : W2.cell? ⟨n2, 1, none⟩ = some (.int .i64 hi) := B2.out.cell 1
      have d2 : W2.cell? ⟨n2, 2, none⟩ = some (.bool fo) := B2.out.cell 2
      have e1 : W2.cell? ⟨n0, 1, none⟩ = some (.int .i64 t.level) := (O2.out.blk HB.out (fun h => h)).cell 1
      have HN2 := Lib.hid hn2
      have HW2 := Lib.hid hW2
      clear HN hc hcc cell hr hin hn2 hW2
      have skip : t.level = 2 ∧ fo = false ∨ ¬ (t.level = 2) ∨ (t.level = 2 ∧ fo = true) := by
        by_cases e : t.level = 2
        · cases fo
          · exact .inl ⟨e, rfl⟩
          · exact .inr (.inr ⟨e, rfl⟩)
        · exact .inr (.inl e)
      rcases skip with ⟨hl2, rfl⟩ | hno
      · have R := Lib.hid (YES.out (by simp [rHoldB, hl2]))
        have hl2b : (t.level == 2) = true := by simpa using hl2
        clear YES NO
        go_upto_region 5 with (fail)
        rw [← HW2.out, ← HN2.out]
        clear HW2
        go_wp2_with fail
        go_roundw
        case rel => exact ⟨k + 1, _, _, by omega, rfl, rfl, by go_num, O2, R⟩
        case measure => simp [intOf] <;> omega
      · have hE : rHoldB s t ⟨lo, hi, fo, sc⟩ = s.holdsR t.beg ⟨lo, hi, fo, sc⟩ := by
          unfold rHoldB
          rcases hno with e | ⟨e1, e2⟩
          · simp [e]
          · simp [e2]
        rw [hE] at YES NO
        obtain ⟨lon, rfl⟩ : ∃ lon : Nat, lo = (lon : Int) := ⟨lo.toNat, by omega⟩
        obtain ⟨hin, rfl⟩ : ∃ hin : Nat, hi = (hin : Int) := ⟨hi.toNat, by omega⟩
        have hlo : lon ≤ 63 := by omega
        have hhi : hin ≤ 63 := by omega
        have O22 := Lib.hid (Only0.refl W2)
        clear hs hE
        have GO : ∀ (hsk : ((t.level == 2) = false) ∨ ((t.level == 2) = true ∧ fo = true)), True := fun _ => trivial
        have hsk : ((t.level == 2) = false) ∨ ((t.level == 2) = true ∧ fo = true) := by
          rcases hno with e | ⟨e1, e2⟩
          · exact .inl (by simpa using e)
          · exact .inr ⟨by simpa using e1, e2⟩
        clear GO hno
        rcases hsk with hsk | ⟨hsk, rfl⟩
        all_goals
          go_upto_region 5 with (fail)
          rw [← HW2.out, ← HN2.out]
          clear HW2
          go_wp2_with fail
          go_loopw [7] (fun s7 wr => ∃ (kk : Nat), s7 = .int .i64 kk ∧ lon ≤ kk ∧ kk ≤ hin + lon + 1 ∧ Hid (Only0 W2 wr) ∧ Hid (∀ x : Nat, lon ≤ x → x < kk → s.there x t.beg = s.there x s.time)) (fun s7 _ => 200 - (intOf s7).toNat)
          case atStart => exact ⟨lon, rfl, Nat.le_refl _, by omega, O22, Lib.hid (fun x h1 h2 => by omega)⟩
          case round =>
            obtain ⟨kk, rfl, hk1, hk2, HX, HT⟩ := hrel
            clear O22
            have f1 : wr.cell? ⟨n2, 1, none⟩ = some (.int .i64 hin) := (HX.out.blk B2.out (fun h => h)).cell 1
            by_cases hle : kk ≤ hin
            · have f3 : wr.cell? ⟨n0, 3, none⟩ = some (.int .u64 t.beg) := ((O2.out.trans HX.out).blk HB.out (fun h => h)).cell 3
              have M3 := HM.out.only0 (O2.out.trans HX.out)
              have mt : wr.cell? ⟨m, 51, none⟩ = some (.int .u64 s.time) := M3.head.2.2.2.1
              have HM3 := Lib.hid M3
              have CK : Hid (∀ w', Only0 wr w' → w'.cell? ⟨n0, 3, none⟩ = some (.int .u64 t.beg) ∧ w'.cell? ⟨m, 51, none⟩ = some (.int .u64 s.time)) := fun w' o => ⟨((((O2.out.trans HX.out).trans o).blk HB.out (fun h => h)).cell 3), (HM3.out.only0 o).head.2.2.2.1⟩
              clear M3
              by_cases he : s.there kk t.beg = s.there kk s.time
              · have hq : (idxV (s.there kk t.beg) != idxV (s.there kk s.time)) = false := by rw [idxV_neq]; simp [he]
                have HT' : Hid (∀ x : Nat, lon ≤ x → x < kk + 1 → s.there x t.beg = s.there x s.time) := fun x h1 h2 => by
                  by_cases e : x = kk
                  · rw [e]; exact he
                  · exact HT.out x h1 (by omega)
                clear he HT
                go_wp2_with fail
                refine wp_region_held_drew (S := (fun w' => w'.cell? ⟨n0, 3, none⟩ = some (.int .u64 t.beg) ∧ w'.cell? ⟨m, 51, none⟩ = some (.int .u64 s.time))) (by kernel_rfl) ?_ (fun hHeld => ?_)
                · first | exact ⟨f3, mt⟩ | exact CK.out _ (by assumption)
                refine wpAnyH_take (i := 0) (v := ?_) rfl (by kernel_rfl) (by kernel_rfl) (by kernel_rfl) (fun _ _ _ h => h) (Or.inl ⟨by rfl, ?_⟩) (by assumption) ?_; rotate_left; (focus (intro w hSw; (try dsimp only at hSw); go_simp; try with_reducible rfl))
                try simp only [Act.put, List.getElem_toArray, List.getElem_cons_zero, List.getElem_cons_succ, List.setIfInBounds_toArray, List.set_cons_zero, List.set_cons_succ]
                refine wpAnyH_take (i := 1) (v := ?_) rfl (by kernel_rfl) (by kernel_rfl) (by kernel_rfl) (fun _ _ _ h => h) (Or.inl ⟨by rfl, ?_⟩) (by assumption) ?_; rotate_left; (focus (intro w hSw; (try dsimp only at hSw); go_simp; try with_reducible rfl))
                try simp only [Act.put, List.getElem_toArray, List.getElem_cons_zero, List.getElem_cons_succ, List.setIfInBounds_toArray, List.set_cons_zero, List.set_cons_succ]
                refine wpAnyH_take (i := 2) (v := ?_) rfl (by kernel_rfl) (by kernel_rfl) (by kernel_rfl) (fun _ _ _ h => h) (Or.inl ⟨by rfl, ?_⟩) (by assumption) ?_; rotate_left; (focus (intro w hSw; (try dsimp only at hSw); go_simp; try with_reducible rfl))
                try simp only [Act.put, List.getElem_toArray, List.getElem_cons_zero, List.getElem_cons_succ, List.setIfInBounds_toArray, List.set_cons_zero, List.set_cons_succ]
                refine wpAnyH_take (i := 3) (v := ?_) rfl (by kernel_rfl) (by kernel_rfl) (by kernel_rfl) (fun _ _ _ h => h) (Or.inl ⟨by rfl, ?_⟩) (by assumption) ?_; rotate_left; (focus (intro w hSw; (try dsimp only at hSw); go_simp; try with_reducible rfl))
                try simp only [Act.put, List.getElem_toArray, List.getElem_cons_zero, List.getElem_cons_succ, List.setIfInBounds_toArray, List.set_cons_zero, List.set_cons_succ]
                refine wpAnyH_take (i := 5) (v := ?_) rfl (by kernel_rfl) (by kernel_rfl) (by kernel_rfl) (fun _ _ _ h => h) (Or.inl ⟨by rfl, ?_⟩) (by assumption) ?_; rotate_left; (focus (intro w hSw; (try dsimp only at hSw); go_simp; try with_reducible rfl))
                try simp only [Act.put, List.getElem_toArray, List.getElem_cons_zero, List.getElem_cons_succ, List.setIfInBounds_toArray, List.set_cons_zero, List.set_cons_succ]
                refine wpAnyH_take (i := 6) (v := ?_) rfl (by kernel_rfl) (by kernel_rfl) (by kernel_rfl) (fun _ _ _ h => h) (Or.inl ⟨by rfl, ?_⟩) (by assumption) ?_; rotate_left; (focus (intro w hSw; (try dsimp only at hSw); go_simp; try with_reducible rfl))
                try simp only [Act.put, List.getElem_toArray, List.getElem_cons_zero, List.getElem_cons_succ, List.setIfInBounds_toArray, List.set_cons_zero, List.set_cons_succ]
                refine wpAnyH_take (i := 7) (v := ?_) rfl (by kernel_rfl) (by kernel_rfl) (by kernel_rfl) (fun _ _ _ h => h) (Or.inl ⟨by rfl, ?_⟩) (by assumption) ?_; rotate_left; (focus (intro w hSw; (try dsimp only at hSw); go_simp; try with_reducible rfl))
                try simp only [Act.put, List.getElem_toArray, List.getElem_cons_zero, List.getElem_cons_succ, List.setIfInBounds_toArray, List.set_cons_zero, List.set_cons_succ]
                refine wpAnyH_take (i := 8) (v := ?_) rfl (by kernel_rfl) (by kernel_rfl) (by kernel_rfl) (fun _ _ _ h => h) (Or.inl ⟨by rfl, ?_⟩) (by assumption) ?_; rotate_left; (focus (intro w hSw; (try dsimp only at hSw); go_simp; try with_reducible rfl))
                try simp only [Act.put, List.getElem_toArray, List.getElem_cons_zero, List.getElem_cons_succ, List.setIfInBounds_toArray, List.set_cons_zero, List.set_cons_succ]
                refine wpAnyH_take (i := 9) (v := ?_) rfl (by kernel_rfl) (by kernel_rfl) (by kernel_rfl) (fun _ _ _ h => h) (Or.inl ⟨by rfl, ?_⟩) (by assumption) ?_; rotate_left; (focus (intro w hSw; (try dsimp only at hSw); go_simp; try with_reducible rfl))
                try simp only [Act.put, List.getElem_toArray, List.getElem_cons_zero, List.getElem_cons_succ, List.setIfInBounds_toArray, List.set_cons_zero, List.set_cons_succ]
                refine wpAnyH_take (i := 10) (v := ?_) rfl (by kernel_rfl) (by kernel_rfl) (by kernel_rfl) (fun _ _ _ h => h) (Or.inl ⟨by rfl, ?_⟩) (by assumption) ?_; rotate_left; (focus (intro w hSw; (try dsimp only at hSw); go_simp; try with_reducible rfl))
                try simp only [Act.put, List.getElem_toArray, List.getElem_cons_zero, List.getElem_cons_succ, List.setIfInBounds_toArray, List.set_cons_zero, List.set_cons_succ]
                refine wpAnyH_ready (rs := [4]) (by kernel_rfl) (by simp) ?_
                refine AllReadyH.cons rfl (fun K hK => ?_) AllReadyH.nil
                try simp only [List.getElem_toArray, List.getElem_cons_zero, List.getElem_cons_succ]
                go_simp
                (refine (ref_there (HM3.out.only0 (Only0.refl wr).drew) (kk : Int) t.beg).mono ?_; rintro e w2 ⟨rfl, o2'⟩; have o2 : Only0 wr w2 := (Only0.refl wr).drew.trans o2')
                try go_wp2_with fail
                refine hK.out _ _ ?_ (fun hHeld => ?_)
                · first | exact ⟨f3, mt⟩ | exact CK.out _ (by assumption)
                clear hK K
                try simp only [Act.put, List.getElem_toArray, List.getElem_cons_zero, List.getElem_cons_succ, List.setIfInBounds_toArray, List.set_cons_zero, List.set_cons_succ]
                refine wpAnyH_ready (rs := [11]) (by kernel_rfl) (by simp) ?_
                refine AllReadyH.cons rfl (fun K hK => ?_) AllReadyH.nil
                try simp only [List.getElem_toArray, List.getElem_cons_zero, List.getElem_cons_succ]
                go_simp
                (refine (ref_there (HM3.out.only0 o2) (kk : Int) s.time).mono ?_; rintro e w3 ⟨rfl, o3'⟩; have o3 : Only0 wr w3 := o2.trans o3')
                try go_wp2_with fail
                refine hK.out _ _ ?_ (fun hHeld => ?_)
                · first | exact ⟨f3, mt⟩ | exact CK.out _ (by assumption)
                clear hK K
                try simp only [Act.put, List.getElem_toArray, List.getElem_cons_zero, List.getElem_cons_succ, List.setIfInBounds_toArray, List.set_cons_zero, List.set_cons_succ]
                refine wpAnyH_take (i := 12) (v := ?_) rfl (by kernel_rfl) (by kernel_rfl) (by kernel_rfl) (fun _ _ _ h => h) (Or.inl ⟨by rfl, ?_⟩) (by assumption) ?_; rotate_left; (focus (intro w hSw; (try dsimp only at hSw); go_simp; try with_reducible rfl))
                try simp only [Act.put, List.getElem_toArray, List.getElem_cons_zero, List.getElem_cons_succ, List.setIfInBounds_toArray, List.set_cons_zero, List.set_cons_succ]
                refine wpAnyH_done (by kernel_rfl) ?_ _
                have HX' := Lib.hid (HX.out.trans o3)
                clear HX CK HM3
                go_wp2_with fail
                go_roundw
                case rel => exact ⟨kk + 1, by go_num, by omega, by omega, HX', HT'⟩
                case measure => simp [intOf] <;> omega
              · have hq : (idxV (s.there kk t.beg) != idxV (s.there kk s.time)) = true := by rw [idxV_neq]; simp [he]
                have R := Lib.hid (NO.out (holdsR_no (Int.natCast_nonneg _) (k := kk) (by simp only; omega) (by simp only; omega) he))
                clear he
                go_wp2_with fail
                refine wp_region_held_drew (S := (fun w' => w'.cell? ⟨n0, 3, none⟩ = some (.int .u64 t.beg) ∧ w'.cell? ⟨m, 51, none⟩ = some (.int .u64 s.time))) (by kernel_rfl) ?_ (fun hHeld => ?_)
                · first | exact ⟨f3, mt⟩ | exact CK.out _ (by assumption)
                refine wpAnyH_take (i := 0) (v := ?_) rfl (by kernel_rfl) (by kernel_rfl) (by kernel_rfl) (fun _ _ _ h => h) (Or.inl ⟨by rfl, ?_⟩) (by assumption) ?_; rotate_left; (focus (intro w hSw; (try dsimp only at hSw); go_simp; try with_reducible rfl))
                try simp only [Act.put, List.getElem_toArray, List.getElem_cons_zero, List.getElem_cons_succ, List.setIfInBounds_toArray, List.set_cons_zero, List.set_cons_succ]
                refine wpAnyH_take (i := 1) (v := ?_) rfl (by kernel_rfl) (by kernel_rfl) (by kernel_rfl) (fun _ _ _ h => h) (Or.inl ⟨by rfl, ?_⟩) (by assumption) ?_; rotate_left; (focus (intro w hSw; (try dsimp only at hSw); go_simp; try with_reducible rfl))
                try simp only [Act.put, List.getElem_toArray, List.getElem_cons_zero, List.getElem_cons_succ, List.setIfInBounds_toArray, List.set_cons_zero, List.set_cons_succ]
                refine wpAnyH_take (i := 2) (v := ?_) rfl (by kernel_rfl) (by kernel_rfl) (by kernel_rfl) (fun _ _ _ h => h) (Or.inl ⟨by rfl, ?_⟩) (by assumption) ?_; rotate_left; (focus (intro w hSw; (try dsimp only at hSw); go_simp; try with_reducible rfl))
                try simp only [Act.put, List.getElem_toArray, List.getElem_cons_zero, List.getElem_cons_succ, List.setIfInBounds_toArray, List.set_cons_zero, List.set_cons_succ]
                refine wpAnyH_take (i := 3) (v := ?_) rfl (by kernel_rfl) (by kernel_rfl) (by kernel_rfl) (fun _ _ _ h => h) (Or.inl ⟨by rfl, ?_⟩) (by assumption) ?_; rotate_left; (focus (intro w hSw; (try dsimp only at hSw); go_simp; try with_reducible rfl))
                try simp only [Act.put, List.getElem_toArray, List.getElem_cons_zero, List.getElem_cons_succ, List.setIfInBounds_toArray, List.set_cons_zero, List.set_cons_succ]
                refine wpAnyH_take (i := 5) (v := ?_) rfl (by kernel_rfl) (by kernel_rfl) (by kernel_rfl) (fun _ _ _ h => h) (Or.inl ⟨by rfl, ?_⟩) (by assumption) ?_; rotate_left; (focus (intro w hSw; (try dsimp only at hSw); go_simp; try with_reducible rfl))
                try simp only [Act.put, List.getElem_toArray, List.getElem_cons_zero, List.getElem_cons_succ, List.setIfInBounds_toArray, List.set_cons_zero, List.set_cons_succ]
                refine wpAnyH_take (i := 6) (v := ?_) rfl (by kernel_rfl) (by kernel_rfl) (by kernel_rfl) (fun _ _ _ h => h) (Or.inl ⟨by rfl, ?_⟩) (by assumption) ?_; rotate_left; (focus (intro w hSw; (try dsimp only at hSw); go_simp; try with_reducible rfl))
                try simp only [Act.put, List.getElem_toArray, List.getElem_cons_zero, List.getElem_cons_succ, List.setIfInBounds_toArray, List.set_cons_zero, List.set_cons_succ]
                refine wpAnyH_take (i := 7) (v := ?_) rfl (by kernel_rfl) (by kernel_rfl) (by kernel_rfl) (fun _ _ _ h => h) (Or.inl ⟨by rfl, ?_⟩) (by assumption) ?_; rotate_left; (focus (intro w hSw; (try dsimp only at hSw); go_simp; try with_reducible rfl))
                try simp only [Act.put, List.getElem_toArray, List.getElem_cons_zero, List.getElem_cons_succ, List.setIfInBounds_toArray, List.set_cons_zero, List.set_cons_succ]
                refine wpAnyH_take (i := 8) (v := ?_) rfl (by kernel_rfl) (by kernel_rfl) (by kernel_rfl) (fun _ _ _ h => h) (Or.inl ⟨by rfl, ?_⟩) (by assumption) ?_; rotate_left; (focus (intro w hSw; (try dsimp only at hSw); go_simp; try with_reducible rfl))
                try simp only [Act.put, List.getElem_toArray, List.getElem_cons_zero, List.getElem_cons_succ, List.setIfInBounds_toArray, List.set_cons_zero, List.set_cons_succ]
                refine wpAnyH_take (i := 9) (v := ?_) rfl (by kernel_rfl) (by kernel_rfl) (by kernel_rfl) (fun _ _ _ h => h) (Or.inl ⟨by rfl, ?_⟩) (by assumption) ?_; rotate_left; (focus (intro w hSw; (try dsimp only at hSw); go_simp; try with_reducible rfl))
                try simp only [Act.put, List.getElem_toArray, List.getElem_cons_zero, List.getElem_cons_succ, List.setIfInBounds_toArray, List.set_cons_zero, List.set_cons_succ]
                refine wpAnyH_take (i := 10) (v := ?_) rfl (by kernel_rfl) (by kernel_rfl) (by kernel_rfl) (fun _ _ _ h => h) (Or.inl ⟨by rfl, ?_⟩) (by assumption) ?_; rotate_left; (focus (intro w hSw; (try dsimp only at hSw); go_simp; try with_reducible rfl))
                try simp only [Act.put, List.getElem_toArray, List.getElem_cons_zero, List.getElem_cons_succ, List.setIfInBounds_toArray, List.set_cons_zero, List.set_cons_succ]
                refine wpAnyH_ready (rs := [4]) (by kernel_rfl) (by simp) ?_
                refine AllReadyH.cons rfl (fun K hK => ?_) AllReadyH.nil
                try simp only [List.getElem_toArray, List.getElem_cons_zero, List.getElem_cons_succ]
                go_simp
                (refine (ref_there (HM3.out.only0 (Only0.refl wr).drew) (kk : Int) t.beg).mono ?_; rintro e w2 ⟨rfl, o2'⟩; have o2 : Only0 wr w2 := (Only0.refl wr).drew.trans o2')
                try go_wp2_with fail
                refine hK.out _ _ ?_ (fun hHeld => ?_)
                · first | exact ⟨f3, mt⟩ | exact CK.out _ (by assumption)
                clear hK K
                try simp only [Act.put, List.getElem_toArray, List.getElem_cons_zero, List.getElem_cons_succ, List.setIfInBounds_toArray, List.set_cons_zero, List.set_cons_succ]
                refine wpAnyH_ready (rs := [11]) (by kernel_rfl) (by simp) ?_
                refine AllReadyH.cons rfl (fun K hK => ?_) AllReadyH.nil
                try simp only [List.getElem_toArray, List.getElem_cons_zero, List.getElem_cons_succ]
                go_simp
                (refine (ref_there (HM3.out.only0 o2) (kk : Int) s.time).mono ?_; rintro e w3 ⟨rfl, o3'⟩; have o3 : Only0 wr w3 := o2.trans o3')
                try go_wp2_with fail
                refine hK.out _ _ ?_ (fun hHeld => ?_)
                · first | exact ⟨f3, mt⟩ | exact CK.out _ (by assumption)
                clear hK K
                try simp only [Act.put, List.getElem_toArray, List.getElem_cons_zero, List.getElem_cons_succ, List.setIfInBounds_toArray, List.set_cons_zero, List.set_cons_succ]
                refine wpAnyH_take (i := 12) (v := ?_) rfl (by kernel_rfl) (by kernel_rfl) (by kernel_rfl) (fun _ _ _ h => h) (Or.inl ⟨by rfl, ?_⟩) (by assumption) ?_; rotate_left; (focus (intro w hSw; (try dsimp only at hSw); go_simp; try with_reducible rfl))
                try simp only [Act.put, List.getElem_toArray, List.getElem_cons_zero, List.getElem_cons_succ, List.setIfInBounds_toArray, List.set_cons_zero, List.set_cons_succ]
                refine wpAnyH_done (by kernel_rfl) ?_ _
                have HX' := Lib.hid (HW.out.trans ((O2.out.trans HX.out).trans o3))
                clear HX CK HM3 YES NO
                go_wp2_with fail
                go_ret
                exact ⟨ret_bool R.out.symm, HX'.out⟩
            · have R := Lib.hid (YES.out (holdsR_yes (Int.natCast_nonneg _) (fun x h1 h2 => HT.out x (by simp only at h1; omega) (by simp only at h2; omega))))
              have OX := Lib.hid (O2.out.trans HX.out)
              clear YES NO HX HT
              go_wp2_with fail
              go_roundw
              case rel => exact ⟨k + 1, _, _, by omega, rfl, rfl, by go_num, OX, R⟩
              case measure => simp [intOf] <;> omega
    · obtain rfl : k = t.reads.length := by omega
      have R := Lib.hid (HF.out.symm.trans (all_yes (p := rHoldB s t) HN.out))
      clear HN
      go_wp2_with fail
      go_ret
      exact ⟨ret_bool R.out.symm, HW.out.trans HO.out⟩
end Go.Proofs.Ytcbhafddehipdaa
namespace Go.Proofs.Ytcbhafddehipdaa
open Go.RowKit
set_option linter.unusedVariables false
set_option linter.unusedSimpArgs false
theorem rvCells_snoc (l : List RVer) (x : RVer) : rvCells (l ++ [x]) = rvCells l ++ rvCell x := by unfold rvCells; rw [List.flatMap_append]; simp
theorem rrCells_snoc (l : List RRd) (x : RRd) : rrCells (l ++ [x]) = rrCells l ++ rrCell x := by unfold rrCells; rw [List.flatMap_append]; simp
theorem wrCells_snoc (l : List Int) (x : Int) : wrCells (l ++ [x]) = wrCells l ++ [.int .i64 x] := by unfold wrCells; rw [List.map_append]; rfl
/-- Rows of other blocks, behind an append to a row and a store into the Model's block. -/
theorem rows_far {B s : Nat} {w w' : World} {e : TypeId} {v r : Value} {n m : Nat} {xs : List Value} (h : w.ownsRow B e s v n xs) (o : Only (fun b => b = m ∨ rowOf r b) w w') (h1 : ¬ rowOf v m) (h2 : Apart (rowOf v) (rowOf r)) : w'.ownsRow B e s v n xs :=
  rows_only h o (fun b hb hS => by
    rcases hS with e | hS
    · subst e; exact h1 hb
    · exact h2 b hb hS)
theorem lies_row {w w1 : World} {v : Value} {gg H : Nat} (hat : v.ownBlock = some gg ∨ H ≤ gg) {Q : Nat → Prop} (hQ : ∀ b, Q b → b < H) (hap : Apart Q (rowOf v)) : ¬ Q gg := fun hq => by
  rcases hat with h | h
  · exact hap gg hq h
  · have := hQ gg hq; omega
theorem RIn.pushV {B m gg cap : Nat} {w w1 : World} {P : Nat → Prop} {s : RSt} {A : RAd} (h : RIn B w P m s A) (x : RVer) (hfew : (s.v.length : Int) + 1 ≤ s.slots)
    (hown : w1.ownsRow B 112 7 (.slice (some ⟨gg, 0, none⟩) (s.v.length + 1) cap) (s.v.length + 1) (rvCells s.v ++ rvCell x)) (oR : Only (rowOf (.slice A.va s.v.length A.vc)) w w1) (hat : (Value.slice A.va s.v.length A.vc).ownBlock = some gg ∨ w.heap.size ≤ gg) (hlt : gg < w1.heap.size) :
    ∃ A', RIn B (w1.setCell ⟨m, 2, none⟩ (.slice (some ⟨gg, 0, none⟩) (s.v.length + 1) cap)) (fun b => P b ∨ b = gg) m { s with v := s.v ++ [x] } A' ∧ Only (fun b => b = m ∨ rowOf (.slice A.va s.v.length A.vc) b) w (w1.setCell ⟨m, 2, none⟩ (.slice (some ⟨gg, 0, none⟩) (s.v.length + 1) cap)) := by
  have O : Only (fun b => b = m ∨ rowOf (.slice A.va s.v.length A.vc) b) w (w1.setCell ⟨m, 2, none⟩ (.slice (some ⟨gg, 0, none⟩) (s.v.length + 1) cap)) := (oR.toward (fun b hb => .inr hb)).setCell (fun _ => .inl rfl) _
  have hmr : ¬ rowOf (.slice A.va s.v.length A.vc) m := rows_ne h.row h.mod (by decide)
  have C1 := oR.blk h.mod hmr
  have hgm : gg ≠ m := fun e => rows_ne hown C1 (by decide) (rowOf_some.2 e.symm)
  have hl : (s.v ++ [x]).length = s.v.length + 1 := by simp
  refine ⟨{ A with va := some ⟨gg, 0, none⟩, vc := cap }, ⟨?_, ?_, fun j hj => rows_far (h.ws j hj) O (rows_ne (h.ws j hj) h.mod (by decide)) (rows_apart (h.ws j hj) h.row (by decide)), fun j hj => rows_far (h.rs j hj) O (rows_ne (h.rs j hj) h.mod (by decide)) (rows_apart (h.rs j hj) h.row (by decide)), h.winj, h.rinj, ?_, .inl h.pm, fun b hb => ?_, fun j hj b hb => .inl (h.pw j hj b hb), fun j hj b hb => .inl (h.pd j hj b hb), fun b hb => ?_, fun b hb => ?_⟩, O⟩
  · have := C1.set 2 (.slice (some ⟨gg, 0, none⟩) (s.v.length + 1) cap)
    have e : (rmCells A s).setIfInBounds 2 (.slice (some ⟨gg, 0, none⟩) (s.v.length + 1) cap) = rmCells { A with va := some ⟨gg, 0, none⟩, vc := cap } { s with v := s.v ++ [x] } := by
      unfold rmCells
      rw [List.setIfInBounds_toArray]
      congr 1
      unfold rmList
      simp only [hl]
      rfl
    rw [← e]; exact this
  · rw [show ({ s with v := s.v ++ [x] } : RSt).v = s.v ++ [x] from rfl, hl, rvCells_snoc]
    exact ownsRow_setCell_other hown (a := ⟨m, 2, none⟩) (fun e => hgm (by simpa [Value.ownBlock] using e)) _
  · exact ⟨h.ok.slots, h.ok.limit, h.ok.time, h.ok.made, by show ((s.v ++ [x]).length : Int) ≤ s.slots; rw [hl]; omega, h.ok.ops, h.ok.wrote, h.ok.reads, h.ok.span⟩
  · exact .inr (rowOf_some.1 hb)
  · rcases hb with hb | rfl
    · exact Nat.lt_of_lt_of_le (h.under b hb) O.size
    · have e : ∀ (p : Addr) (v : Value), (w1.setCell p v).heap.size = w1.heap.size := fun p v => by simp [World.setCell]
      rw [e]; exact hlt
  · rcases hb with hb | rfl
    · exact h.above b hb
    · exact (hown.lt b rfl).1
theorem RIn.pushR {B m gg cap j : Nat} {w w1 : World} {P : Nat → Prop} {s : RSt} {A : RAd} (h : RIn B w P m s A) (hj : j < 8) (x : RRd) (hfew : ((s.s j).reads.length : Int) + 1 ≤ (s.s j).ops) (hx : 0 ≤ x.lo ∧ x.lo ≤ 63 ∧ 0 ≤ x.hi ∧ x.hi ≤ 63)
    (hown : w1.ownsRow B 110 4 (.slice (some ⟨gg, 0, none⟩) ((s.s j).reads.length + 1) cap) ((s.s j).reads.length + 1) (rrCells (s.s j).reads ++ rrCell x)) (oR : Only (rowOf (.slice (A.ra j) (s.s j).reads.length (A.rc j))) w w1) (hat : (Value.slice (A.ra j) (s.s j).reads.length (A.rc j)).ownBlock = some gg ∨ w.heap.size ≤ gg) (hlt : gg < w1.heap.size) :
    ∃ A', RIn B (w1.setCell ⟨m, 3 + j * 6 + 5, none⟩ (.slice (some ⟨gg, 0, none⟩) ((s.s j).reads.length + 1) cap)) (fun b => P b ∨ b = gg) m (s.setS j ((s.s j).read x)) A' ∧ Only (fun b => b = m ∨ rowOf (.slice (A.ra j) (s.s j).reads.length (A.rc j)) b) w (w1.setCell ⟨m, 3 + j * 6 + 5, none⟩ (.slice (some ⟨gg, 0, none⟩) ((s.s j).reads.length + 1) cap)) := by
  have O : Only (fun b => b = m ∨ rowOf (.slice (A.ra j) (s.s j).reads.length (A.rc j)) b) w (w1.setCell ⟨m, 3 + j * 6 + 5, none⟩ (.slice (some ⟨gg, 0, none⟩) ((s.s j).reads.length + 1) cap)) := (oR.toward (fun b hb => .inr hb)).setCell (fun _ => .inl rfl) _
  have hmr : ¬ rowOf (.slice (A.ra j) (s.s j).reads.length (A.rc j)) m := rows_ne (h.rs j hj) h.mod (by decide)
  have C1 := oR.blk h.mod hmr
  have hgm : gg ≠ m := fun e => rows_ne hown C1 (by decide) (rowOf_some.2 e.symm)
  have hl : ((s.s j).read x).reads.length = (s.s j).reads.length + 1 := by simp [RTx.read]
  have sj : (s.setS j ((s.s j).read x)).s j = (s.s j).read x := upd_same _ _ _
  have si : ∀ i, i ≠ j → (s.setS j ((s.s j).read x)).s i = s.s i := fun i hi => upd_other _ _ _ hi
  obtain ⟨A', hA'⟩ : ∃ A' : RAd, A' = { A with ra := upd A.ra j (some ⟨gg, 0, none⟩), rc := upd A.rc j cap } := ⟨_, rfl⟩
  have raj : A'.ra j = some ⟨gg, 0, none⟩ := by rw [hA']; exact upd_same _ _ _
  have rcj : A'.rc j = cap := by rw [hA']; exact upd_same _ _ _
  have rai : ∀ i, i ≠ j → A'.ra i = A.ra i ∧ A'.rc i = A.rc i := fun i hi => by rw [hA']; exact ⟨upd_other _ _ _ hi, upd_other _ _ _ hi⟩
  have wai : A'.wa = A.wa ∧ A'.wc = A.wc ∧ A'.va = A.va ∧ A'.vc = A.vc := by rw [hA']; exact ⟨rfl, rfl, rfl, rfl⟩
  have wro : ∀ i, ((s.setS j ((s.s j).read x)).s i).wrote = (s.s i).wrote := fun i => by
    by_cases e : i = j
    · subst e; rw [sj]; rfl
    · rw [si i e]
  have W : ∀ i, i < 8 → (w1.setCell ⟨m, 3 + j * 6 + 5, none⟩ (.slice (some ⟨gg, 0, none⟩) ((s.s j).reads.length + 1) cap)).ownsRow B 3 1 (.slice (A'.wa i) ((s.setS j ((s.s j).read x)).s i).wrote.length (A'.wc i)) ((s.setS j ((s.s j).read x)).s i).wrote.length (wrCells ((s.setS j ((s.s j).read x)).s i).wrote) := fun i hi => by
    rw [wro, wai.1, wai.2.1]; exact rows_far (h.ws i hi) O (rows_ne (h.ws i hi) h.mod (by decide)) (rows_apart (h.ws i hi) (h.rs j hj) (by decide))
  have hnq : ∀ i, i < 8 → i ≠ j → ¬ rowOf (.slice (A.ra i) (s.s i).reads.length (A.rc i)) gg := fun i hi hne => lies_row (w := w) (w1 := w1) hat (fun b hb => rows_under (h.rs i hi) b hb) (h.rinj i j hi hj hne)
  refine ⟨A', ⟨?_, ?_, W, fun i hi => ?_, fun i k hi hk hne => ?_, fun i k hi hk hne => ?_, ?_, .inl h.pm, fun b hb => ?_, fun i hi b hb => ?_, fun i hi b hb => ?_, fun b hb => ?_, fun b hb => ?_⟩, O⟩
  · have := C1.set (3 + j * 6 + 5) (.slice (some ⟨gg, 0, none⟩) ((s.s j).reads.length + 1) cap)
    rw [← rm_set A A' s (s.setS j ((s.s j).read x)) hj 5 (by decide) _ ⟨rfl, rfl, rfl, rfl⟩ ⟨wai.2.2.1, wai.2.2.2, rfl⟩ (fun i hi => by
      unfold rtCells
      rw [si i hi, wai.1, wai.2.1, (rai i hi).1, (rai i hi).2]) (by
      unfold rtCells
      rw [sj, hl, raj, rcj, wai.1, wai.2.1]; rfl)] at this
    exact this
  · rw [wai.2.2.1, wai.2.2.2]
    exact rows_far h.row O (rows_ne h.row h.mod (by decide)) (rows_apart h.row (h.rs j hj) (by decide))
  · by_cases e : i = j
    · subst e
      rw [sj, hl, raj, rcj, show ((s.s i).read x).reads = (s.s i).reads ++ [x] from rfl, rrCells_snoc]
      exact ownsRow_setCell_other hown (a := ⟨m, 3 + i * 6 + 5, none⟩) (fun e => hgm (by simpa [Value.ownBlock] using e)) _
    · rw [si i e, (rai i e).1, (rai i e).2]
      exact rows_far (h.rs i hi) O (rows_ne (h.rs i hi) h.mod (by decide)) (h.rinj i j hi hj e)
  · rw [wro, wro, wai.1, wai.2.1]; exact h.winj i k hi hk hne
  · by_cases e : i = j
    · subst e
      have hk' : k ≠ i := fun e => hne e.symm
      rw [sj, hl, raj, rcj, si k hk', (rai k hk').1, (rai k hk').2]
      intro b hb hb'
      rw [rowOf_some.1 hb] at hb'
      exact hnq k hk hk' hb'
    · by_cases e' : k = j
      · subst e'
        rw [sj, hl, raj, rcj, si i e, (rai i e).1, (rai i e).2]
        intro b hb hb'
        rw [rowOf_some.1 hb'] at hb
        exact hnq i hi e hb
      · rw [si i e, si k e', (rai i e).1, (rai i e).2, (rai k e').1, (rai k e').2]
        exact h.rinj i k hi hk hne
  · have o := h.ok
    refine ⟨o.slots, o.limit, o.time, o.made, o.few, fun i => ?_, fun i => ?_, fun i => ?_, fun i r hr => ?_⟩
    · by_cases e : i = j
      · subst e; rw [sj]; exact o.ops i
      · rw [si i e]; exact o.ops i
    · by_cases e : i = j
      · subst e; rw [sj]; exact o.wrote i
      · rw [si i e]; exact o.wrote i
    · by_cases e : i = j
      · subst e; rw [sj, hl]; show ((_ : Nat) : Int) ≤ (s.s i).ops; omega
      · rw [si i e]; exact o.reads i
    · by_cases e : i = j
      · subst e
        rw [sj] at hr
        rcases List.mem_append.1 (show r ∈ (s.s i).reads ++ [x] from hr) with h1 | h1
        · exact o.span i r h1
        · simp at h1; subst h1; exact hx
      · rw [si i e] at hr; exact o.span i r hr
  · rw [wai.2.2.1, wai.2.2.2] at hb; exact .inl (h.pr b hb)
  · rw [wro, wai.1, wai.2.1] at hb; exact .inl (h.pw i hi b hb)
  · by_cases e : i = j
    · subst e; rw [sj, hl, raj, rcj] at hb; exact .inr (rowOf_some.1 hb)
    · rw [si i e, (rai i e).1, (rai i e).2] at hb; exact .inl (h.pd i hi b hb)
  · rcases hb with hb | rfl
    · exact Nat.lt_of_lt_of_le (h.under b hb) O.size
    · have e : ∀ (p : Addr) (v : Value), (w1.setCell p v).heap.size = w1.heap.size := fun p v => by simp [World.setCell]
      rw [e]; exact hlt
  · rcases hb with hb | rfl
    · exact h.above b hb
    · exact (hown.lt b rfl).1
theorem RIn.pushW {B m gg cap j : Nat} {w w1 : World} {P : Nat → Prop} {s : RSt} {A : RAd} (h : RIn B w P m s A) (hj : j < 8) (x : Int) (hfew : ((s.s j).wrote.length : Int) + 1 ≤ (s.s j).ops)
    (hown : w1.ownsRow B 3 1 (.slice (some ⟨gg, 0, none⟩) ((s.s j).wrote.length + 1) cap) ((s.s j).wrote.length + 1) (wrCells (s.s j).wrote ++ [.int .i64 x])) (oR : Only (rowOf (.slice (A.wa j) (s.s j).wrote.length (A.wc j))) w w1) (hat : (Value.slice (A.wa j) (s.s j).wrote.length (A.wc j)).ownBlock = some gg ∨ w.heap.size ≤ gg) (hlt : gg < w1.heap.size) :
    ∃ A', RIn B (w1.setCell ⟨m, 3 + j * 6 + 4, none⟩ (.slice (some ⟨gg, 0, none⟩) ((s.s j).wrote.length + 1) cap)) (fun b => P b ∨ b = gg) m (s.setS j ((s.s j).write x)) A' ∧ Only (fun b => b = m ∨ rowOf (.slice (A.wa j) (s.s j).wrote.length (A.wc j)) b) w (w1.setCell ⟨m, 3 + j * 6 + 4, none⟩ (.slice (some ⟨gg, 0, none⟩) ((s.s j).wrote.length + 1) cap)) := by
  have O : Only (fun b => b = m ∨ rowOf (.slice (A.wa j) (s.s j).wrote.length (A.wc j)) b) w (w1.setCell ⟨m, 3 + j * 6 + 4, none⟩ (.slice (some ⟨gg, 0, none⟩) ((s.s j).wrote.length + 1) cap)) := (oR.toward (fun b hb => .inr hb)).setCell (fun _ => .inl rfl) _
  have hmr : ¬ rowOf (.slice (A.wa j) (s.s j).wrote.length (A.wc j)) m := rows_ne (h.ws j hj) h.mod (by decide)
  have C1 := oR.blk h.mod hmr
  have hgm : gg ≠ m := fun e => rows_ne hown C1 (by decide) (rowOf_some.2 e.symm)
  have hl : ((s.s j).write x).wrote.length = (s.s j).wrote.length + 1 := by simp [RTx.write]
  have sj : (s.setS j ((s.s j).write x)).s j = (s.s j).write x := upd_same _ _ _
  have si : ∀ i, i ≠ j → (s.setS j ((s.s j).write x)).s i = s.s i := fun i hi => upd_other _ _ _ hi
  obtain ⟨A', hA'⟩ : ∃ A' : RAd, A' = { A with wa := upd A.wa j (some ⟨gg, 0, none⟩), wc := upd A.wc j cap } := ⟨_, rfl⟩
  have raj : A'.wa j = some ⟨gg, 0, none⟩ := by rw [hA']; exact upd_same _ _ _
  have rcj : A'.wc j = cap := by rw [hA']; exact upd_same _ _ _
  have rai : ∀ i, i ≠ j → A'.wa i = A.wa i ∧ A'.wc i = A.wc i := fun i hi => by rw [hA']; exact ⟨upd_other _ _ _ hi, upd_other _ _ _ hi⟩
  have wai : A'.ra = A.ra ∧ A'.rc = A.rc ∧ A'.va = A.va ∧ A'.vc = A.vc := by rw [hA']; exact ⟨rfl, rfl, rfl, rfl⟩
  have wro : ∀ i, ((s.setS j ((s.s j).write x)).s i).reads = (s.s i).reads := fun i => by
    by_cases e : i = j
    · subst e; rw [sj]; rfl
    · rw [si i e]
  have R : ∀ i, i < 8 → (w1.setCell ⟨m, 3 + j * 6 + 4, none⟩ (.slice (some ⟨gg, 0, none⟩) ((s.s j).wrote.length + 1) cap)).ownsRow B 110 4 (.slice (A'.ra i) ((s.setS j ((s.s j).write x)).s i).reads.length (A'.rc i)) ((s.setS j ((s.s j).write x)).s i).reads.length (rrCells ((s.setS j ((s.s j).write x)).s i).reads) := fun i hi => by
    rw [wro, wai.1, wai.2.1]; exact rows_far (h.rs i hi) O (rows_ne (h.rs i hi) h.mod (by decide)) (rows_apart (h.rs i hi) (h.ws j hj) (by decide))
  have hnq : ∀ i, i < 8 → i ≠ j → ¬ rowOf (.slice (A.wa i) (s.s i).wrote.length (A.wc i)) gg := fun i hi hne => lies_row (w := w) (w1 := w1) hat (fun b hb => rows_under (h.ws i hi) b hb) (h.winj i j hi hj hne)
  refine ⟨A', ⟨?_, ?_, fun i hi => ?_, R, fun i k hi hk hne => ?_, fun i k hi hk hne => ?_, ?_, .inl h.pm, fun b hb => ?_, fun i hi b hb => ?_, fun i hi b hb => ?_, fun b hb => ?_, fun b hb => ?_⟩, O⟩
  · have := C1.set (3 + j * 6 + 4) (.slice (some ⟨gg, 0, none⟩) ((s.s j).wrote.length + 1) cap)
    rw [← rm_set A A' s (s.setS j ((s.s j).write x)) hj 4 (by decide) _ ⟨rfl, rfl, rfl, rfl⟩ ⟨wai.2.2.1, wai.2.2.2, rfl⟩ (fun i hi => by
      unfold rtCells
      rw [si i hi, wai.1, wai.2.1, (rai i hi).1, (rai i hi).2]) (by
      unfold rtCells
      rw [sj, hl, raj, rcj, wai.1, wai.2.1]; rfl)] at this
    exact this
  · rw [wai.2.2.1, wai.2.2.2]
    exact rows_far h.row O (rows_ne h.row h.mod (by decide)) (rows_apart h.row (h.ws j hj) (by decide))
  · by_cases e : i = j
    · subst e
      rw [sj, hl, raj, rcj, show ((s.s i).write x).wrote = (s.s i).wrote ++ [x] from rfl, wrCells_snoc]
      exact ownsRow_setCell_other hown (a := ⟨m, 3 + i * 6 + 4, none⟩) (fun e => hgm (by simpa [Value.ownBlock] using e)) _
    · rw [si i e, (rai i e).1, (rai i e).2]
      exact rows_far (h.ws i hi) O (rows_ne (h.ws i hi) h.mod (by decide)) (h.winj i j hi hj e)
  · by_cases e : i = j
    · subst e
      have hk' : k ≠ i := fun e => hne e.symm
      rw [sj, hl, raj, rcj, si k hk', (rai k hk').1, (rai k hk').2]
      intro b hb hb'
      rw [rowOf_some.1 hb] at hb'
      exact hnq k hk hk' hb'
    · by_cases e' : k = j
      · subst e'
        rw [sj, hl, raj, rcj, si i e, (rai i e).1, (rai i e).2]
        intro b hb hb'
        rw [rowOf_some.1 hb'] at hb
        exact hnq i hi e hb
      · rw [si i e, si k e', (rai i e).1, (rai i e).2, (rai k e').1, (rai k e').2]
        exact h.winj i k hi hk hne
  · rw [wro, wro, wai.1, wai.2.1]; exact h.rinj i k hi hk hne
  · have o := h.ok
    refine ⟨o.slots, o.limit, o.time, o.made, o.few, fun i => ?_, fun i => ?_, fun i => ?_, fun i r hr => ?_⟩
    · by_cases e : i = j
      · subst e; rw [sj]; exact o.ops i
      · rw [si i e]; exact o.ops i
    · by_cases e : i = j
      · subst e; rw [sj, hl]; show ((_ : Nat) : Int) ≤ (s.s i).ops; omega
      · rw [si i e]; exact o.wrote i
    · by_cases e : i = j
      · subst e; rw [sj]; exact o.reads i
      · rw [si i e]; exact o.reads i
    · rw [wro] at hr; exact o.span i r hr
  · rw [wai.2.2.1, wai.2.2.2] at hb; exact .inl (h.pr b hb)
  · by_cases e : i = j
    · subst e; rw [sj, hl, raj, rcj] at hb; exact .inr (rowOf_some.1 hb)
    · rw [si i e, (rai i e).1, (rai i e).2] at hb; exact .inl (h.pw i hi b hb)
  · rw [wro, wai.1, wai.2.1] at hb; exact .inl (h.pd i hi b hb)
  · rcases hb with hb | rfl
    · exact Nat.lt_of_lt_of_le (h.under b hb) O.size
    · have e : ∀ (p : Addr) (v : Value), (w1.setCell p v).heap.size = w1.heap.size := fun p v => by simp [World.setCell]
      rw [e]; exact hlt
  · rcases hb with hb | rfl
    · exact h.above b hb
    · exact (hown.lt b rfl).1
end Go.Proofs.Ytcbhafddehipdaa
namespace Go.Proofs.Ytcbhafddehipdaa
open Go.RowKit
attribute [local go_sem ↓] Go.wp_at_zero Go.wp_at_succ
set_option linter.unusedVariables false
set_option linter.unusedSimpArgs false
theorem wrCells_get (l : List Int) (k : Nat) (hk : k < l.length) : (wrCells l)[k]? = some (.int .i64 (l.getD k default)) := by
  unfold wrCells
  rw [List.getElem?_map, List.getElem?_eq_getElem hk, List.getD_eq_getElem?_getD, List.getElem?_eq_getElem hk]
  rfl
/-- The row of what session j wrote, as 'has' wants it. -/
theorem RIn.wroteAt {B m : Nat} {w : World} {P : Nat → Prop} {s : RSt} {A : RAd} (h : RIn B w P m s A) {j : Nat} (hj : j < 8) : (s.s j).wrote = [] ∨ ∃ g, A.wa j = some ⟨g, 0, none⟩ ∧ ∀ k, k < (s.s j).wrote.length → w.cell? ⟨g, k, none⟩ = some (.int .i64 ((s.s j).wrote.getD k default)) := by
  have hr := h.ws j hj
  rcases hr.2 with ⟨e, h0⟩ | ⟨g, cap, cur, hv, _⟩
  · exact .inl (List.eq_nil_of_length_eq_zero h0)
  · have ha : A.wa j = some ⟨g, 0, none⟩ := by injection hv
    rw [ha] at hr
    refine .inr ⟨g, ha, fun k hk => ?_⟩
    rw [World.ownsRow.cellAt hr k (by omega), wrCells_get _ _ hk]
theorem RIn.readsAt {B m : Nat} {w : World} {P : Nat → Prop} {s : RSt} {A : RAd} (h : RIn B w P m s A) {j : Nat} (hj : j < 8) : (s.s j).reads = [] ∨ ∃ g, A.ra j = some ⟨g, 0, none⟩ ∧ ∀ k f, k < (s.s j).reads.length → f < 4 → w.cell? ⟨g, k * 4 + f, none⟩ = (rrCell ((s.s j).reads.getD k default))[f]? := by
  have hr := h.rs j hj
  rcases hr.2 with ⟨e, h0⟩ | ⟨g, cap, cur, hv, _⟩
  · exact .inl (List.eq_nil_of_length_eq_zero h0)
  · have ha : A.ra j = some ⟨g, 0, none⟩ := by injection hv
    rw [ha] at hr
    refine .inr ⟨g, ha, fun k f hk hf => ?_⟩
    rw [World.ownsRow.cellAt hr (k * 4 + f) (by omega), rrCells_get _ _ _ hk hf]
theorem RIn.few12 {B m : Nat} {w : World} {P : Nat → Prop} {s : RSt} {A : RAd} (h : RIn B w P m s A) (j : Nat) : (s.s j).wrote.length ≤ 12 ∧ (s.s j).reads.length ≤ 12 := by
  have h1 := h.ok.ops j
  have h2 := h.ok.wrote j
  have h3 := h.ok.reads j
  omega
def rTakB (s : RSt) (id key : Int) (i : Nat) : Bool := !decide ((s.s i).id = 0) && !decide ((s.s i).id = id) && hasB (s.s i).wrote key
set_option maxRecDepth 100000 in
set_option maxHeartbeats 16000000 in
theorem ref_taken {B m : Nat} {w : World} {P : Nat → Prop} {s : RSt} {A : RAd} (h : RIn B w P m s A) (id level ops beg : Int) (wa : Option Addr) (wl wc : Nat) (ra : Option Addr) (rl rc : Nat) (key : Int) :
    Calls Try.prog 77 #[.pointer (some ⟨m, 0, none⟩), .agg #[.int .i64 id, .int .i64 level, .int .i64 ops, .int .u64 beg, .slice wa wl wc, .slice ra rl rc], .int .i64 key] w fun e w' => e = .returned (.bool (s.taken id beg key)) ∧ Only0 w w' := by
  obtain ⟨W, hW⟩ : ∃ W, W = w.alloc (.cells #[.int .i64 id, .int .i64 level, .int .i64 ops, .int .u64 beg, .slice wa wl wc, .slice ra rl rc] 62) := ⟨_, rfl⟩
  have oW : Only0 w W := by rw [hW]; exact (Only0.refl w).alloc _
  have M := h.only0 oW
  obtain ⟨n0, hn0⟩ : ∃ n0, n0 = w.heap.size := ⟨_, rfl⟩
  have HB : Hid (Blk W n0 62 #[.int .i64 id, .int .i64 level, .int .i64 ops, .int .u64 beg, .slice wa wl wc, .slice ra rl rc]) := by rw [hW, hn0]; exact Blk.new _ _ _
  have HM := Lib.hid M
  have HW := Lib.hid oW
  have HN0 := Lib.hid hn0
  have HOO := Lib.hid (Only0.refl W)
  have HT : Hid (s.taken id beg key = ((List.range 8).any (rTakB s id key) || s.later key beg)) := rfl
  clear h M oW hn0
  go_enter Try.func77, Try.ntmps77
  go_upto_region 1 with (fail)
  rw [← hW, ← HN0.out]
  clear hW
  go_wp2_with fail
  go_loopw [7] (fun s7 wr => ∃ k : Nat, k ≤ 8 ∧ s7 = .int .i64 k ∧ Hid (Only0 W wr) ∧ Hid (∀ i, i < k → rTakB s id key i = false)) (fun s7 _ => 8 - (intOf s7).toNat)
  case atStart => exact ⟨0, by omega, rfl, HOO, Lib.hid (fun i hi => by omega)⟩
  case round =>
    obtain ⟨i, hi, rfl, HO, HN⟩ := hrel
    clear HOO
    have M1 := HM.out.only0 HO.out
    have b0 : wr.cell? ⟨n0, 0, none⟩ = some (.int .i64 id) := (HO.out.blk HB.out (fun h => h)).cell 0
    have b3 : wr.cell? ⟨n0, 3, none⟩ = some (.int .u64 beg) := (HO.out.blk HB.out (fun h => h)).cell 3
    by_cases hlt : i < 8
    · obtain ⟨t0, t1, t2, t3, t4, t5⟩ := M1.txCells hlt
      have hwl := (M1.few12 i).1
      have hwr := M1.wroteAt hlt
      have i8 : (i : Int) < 8 := by omega
      have HM1 := Lib.hid M1
      have YES := Lib.hid (fun hp : rTakB s id key i = true => (show s.taken id beg key = true from HT.out.trans (by rw [show (List.range 8).any (rTakB s id key) = true from List.any_eq_true.2 ⟨i, by simpa using hlt, hp⟩]; rfl)))
      have NO := Lib.hid (fun hp : rTakB s id key i = false => (show ∀ q, q < i + 1 → rTakB s id key q = false from fun q hq => by
        by_cases e : q = i
        · rw [e]; exact hp
        · exact HN.out q (by omega)))
      clear HN M1 t1 t2 t3 t5
      obtain ⟨ii, hii⟩ : ∃ ii, ii = (s.s i).id := ⟨_, rfl⟩
      rw [← hii] at t0
      have HII := Lib.hid hii
      by_cases h1 : ii = 0
      · have R := Lib.hid (NO.out (by unfold rTakB; rw [← hii, h1]; simp))
        subst h1
        clear YES NO hii
        go_wp2_with fail
        refine wp_region_held_drew (S := (fun w' => w'.cell? ⟨m, 3 + i * 6, none⟩ = some (.int .i64 0) ∧ w'.cell? ⟨m, 3 + i * 6 + 4, none⟩ = some (.slice (A.wa i) (s.s i).wrote.length (A.wc i)) ∧ w'.cell? ⟨n0, 0, none⟩ = some (.int .i64 id))) (by kernel_rfl) ?_ (fun hHeld => ?_)
        · exact ⟨t0, t4, b0⟩
        refine wpAnyH_take (i := 0) (v := ?_) rfl (by kernel_rfl) (by kernel_rfl) (by kernel_rfl) (fun _ _ _ h => h) (Or.inl ⟨by rfl, ?_⟩) (by assumption) ?_; rotate_left; (focus (intro w hSw; (try dsimp only at hSw); go_simp; try with_reducible rfl))
        try simp only [Act.put, List.getElem_toArray, List.getElem_cons_zero, List.getElem_cons_succ, List.setIfInBounds_toArray, List.set_cons_zero, List.set_cons_succ]
        refine wpAnyH_take (i := 1) (v := ?_) rfl (by kernel_rfl) (by kernel_rfl) (by kernel_rfl) (fun _ _ _ h => h) (Or.inl ⟨by rfl, ?_⟩) (by assumption) ?_; rotate_left; (focus (intro w hSw; (try dsimp only at hSw); go_simp; try with_reducible rfl))
        try simp only [Act.put, List.getElem_toArray, List.getElem_cons_zero, List.getElem_cons_succ, List.setIfInBounds_toArray, List.set_cons_zero, List.set_cons_succ]
        refine wpAnyH_take (i := 2) (v := ?_) rfl (by kernel_rfl) (by kernel_rfl) (by kernel_rfl) (fun _ _ _ h => h) (Or.inl ⟨by rfl, ?_⟩) (by assumption) ?_; rotate_left; (focus (intro w hSw; (try dsimp only at hSw); go_simp; try with_reducible rfl))
        try simp only [Act.put, List.getElem_toArray, List.getElem_cons_zero, List.getElem_cons_succ, List.setIfInBounds_toArray, List.set_cons_zero, List.set_cons_succ]
        refine wpAnyH_take (i := 3) (v := ?_) rfl (by kernel_rfl) (by kernel_rfl) (by kernel_rfl) (fun _ _ _ h => h) (Or.inl ⟨by rfl, ?_⟩) (by assumption) ?_; rotate_left; (focus (intro w hSw; (try dsimp only at hSw); go_simp; try with_reducible rfl))
        try simp only [Act.put, List.getElem_toArray, List.getElem_cons_zero, List.getElem_cons_succ, List.setIfInBounds_toArray, List.set_cons_zero, List.set_cons_succ]
        refine wpAnyH_take (i := 4) (v := ?_) rfl (by kernel_rfl) (by kernel_rfl) (by kernel_rfl) (fun _ _ _ h => h) (Or.inl ⟨by rfl, ?_⟩) (by assumption) ?_; rotate_left; (focus (intro w hSw; (try dsimp only at hSw); go_simp; try with_reducible rfl))
        try simp only [Act.put, List.getElem_toArray, List.getElem_cons_zero, List.getElem_cons_succ, List.setIfInBounds_toArray, List.set_cons_zero, List.set_cons_succ]
        refine wpAnyH_take (i := 5) (v := ?_) rfl (by kernel_rfl) (by kernel_rfl) (by kernel_rfl) (fun _ _ _ h => h) (Or.inl ⟨by rfl, ?_⟩) (by assumption) ?_; rotate_left; (focus (intro w hSw; (try dsimp only at hSw); go_simp; try with_reducible rfl))
        try simp only [Act.put, List.getElem_toArray, List.getElem_cons_zero, List.getElem_cons_succ, List.setIfInBounds_toArray, List.set_cons_zero, List.set_cons_succ]
        refine wpAnyH_take (i := 6) (v := ?_) rfl (by kernel_rfl) (by kernel_rfl) (by kernel_rfl) (fun _ _ _ h => h) (Or.inl ⟨by rfl, ?_⟩) (by assumption) ?_; rotate_left; (focus (intro w hSw; (try dsimp only at hSw); go_simp; try with_reducible rfl))
        try simp only [Act.put, List.getElem_toArray, List.getElem_cons_zero, List.getElem_cons_succ, List.setIfInBounds_toArray, List.set_cons_zero, List.set_cons_succ]
        refine wpAnyH_take (i := 7) (v := ?_) rfl (by kernel_rfl) (by kernel_rfl) (by kernel_rfl) (fun _ _ _ h => h) (Or.inl ⟨by rfl, ?_⟩) (by assumption) ?_; rotate_left; (focus (intro w hSw; (try dsimp only at hSw); go_simp; try with_reducible rfl))
        try simp only [Act.put, List.getElem_toArray, List.getElem_cons_zero, List.getElem_cons_succ, List.setIfInBounds_toArray, List.set_cons_zero, List.set_cons_succ]
        refine wpAnyH_take (i := 8) (v := ?_) rfl (by kernel_rfl) (by kernel_rfl) (by kernel_rfl) (fun _ _ _ h => h) (Or.inl ⟨by rfl, ?_⟩) (by assumption) ?_; rotate_left; (focus (intro w hSw; (try dsimp only at hSw); go_simp; try with_reducible rfl))
        try simp only [Act.put, List.getElem_toArray, List.getElem_cons_zero, List.getElem_cons_succ, List.setIfInBounds_toArray, List.set_cons_zero, List.set_cons_succ]
        first | (refine wpAnyH_take (i := 9) rfl (by kernel_rfl) (by kernel_rfl) (by kernel_rfl) (fun _ _ _ h => h) (Or.inr ⟨by rfl, rfl⟩) (by assumption) ?_) | (refine wpAnyH_take (i := 9) (v := ?_) rfl (by kernel_rfl) (by kernel_rfl) (by kernel_rfl) (fun _ _ _ h => h) (Or.inl ⟨by rfl, ?_⟩) (by assumption) ?_; rotate_left; (focus (intro w hSw; (try dsimp only at hSw); go_simp; try with_reducible rfl)))
        try simp only [Act.put, List.getElem_toArray, List.getElem_cons_zero, List.getElem_cons_succ, List.setIfInBounds_toArray, List.set_cons_zero, List.set_cons_succ]
        first | (refine wpAnyH_take (i := 10) rfl (by kernel_rfl) (by kernel_rfl) (by kernel_rfl) (fun _ _ _ h => h) (Or.inr ⟨by rfl, rfl⟩) (by assumption) ?_) | (refine wpAnyH_take (i := 10) (v := ?_) rfl (by kernel_rfl) (by kernel_rfl) (by kernel_rfl) (fun _ _ _ h => h) (Or.inl ⟨by rfl, ?_⟩) (by assumption) ?_; rotate_left; (focus (intro w hSw; (try dsimp only at hSw); go_simp; try with_reducible rfl)))
        try simp only [Act.put, List.getElem_toArray, List.getElem_cons_zero, List.getElem_cons_succ, List.setIfInBounds_toArray, List.set_cons_zero, List.set_cons_succ]
        first | (refine wpAnyH_take (i := 11) rfl (by kernel_rfl) (by kernel_rfl) (by kernel_rfl) (fun _ _ _ h => h) (Or.inr ⟨by rfl, rfl⟩) (by assumption) ?_) | (refine wpAnyH_take (i := 11) (v := ?_) rfl (by kernel_rfl) (by kernel_rfl) (by kernel_rfl) (fun _ _ _ h => h) (Or.inl ⟨by rfl, ?_⟩) (by assumption) ?_; rotate_left; (focus (intro w hSw; (try dsimp only at hSw); go_simp; try with_reducible rfl)))
        try simp only [Act.put, List.getElem_toArray, List.getElem_cons_zero, List.getElem_cons_succ, List.setIfInBounds_toArray, List.set_cons_zero, List.set_cons_succ]
        first | (refine wpAnyH_take (i := 12) rfl (by kernel_rfl) (by kernel_rfl) (by kernel_rfl) (fun _ _ _ h => h) (Or.inr ⟨by rfl, rfl⟩) (by assumption) ?_) | (refine wpAnyH_take (i := 12) (v := ?_) rfl (by kernel_rfl) (by kernel_rfl) (by kernel_rfl) (fun _ _ _ h => h) (Or.inl ⟨by rfl, ?_⟩) (by assumption) ?_; rotate_left; (focus (intro w hSw; (try dsimp only at hSw); go_simp; try with_reducible rfl)))
        try simp only [Act.put, List.getElem_toArray, List.getElem_cons_zero, List.getElem_cons_succ, List.setIfInBounds_toArray, List.set_cons_zero, List.set_cons_succ]
        first | (refine wpAnyH_take (i := 13) rfl (by kernel_rfl) (by kernel_rfl) (by kernel_rfl) (fun _ _ _ h => h) (Or.inr ⟨by rfl, rfl⟩) (by assumption) ?_) | (refine wpAnyH_take (i := 13) (v := ?_) rfl (by kernel_rfl) (by kernel_rfl) (by kernel_rfl) (fun _ _ _ h => h) (Or.inl ⟨by rfl, ?_⟩) (by assumption) ?_; rotate_left; (focus (intro w hSw; (try dsimp only at hSw); go_simp; try with_reducible rfl)))
        try simp only [Act.put, List.getElem_toArray, List.getElem_cons_zero, List.getElem_cons_succ, List.setIfInBounds_toArray, List.set_cons_zero, List.set_cons_succ]
        first | (refine wpAnyH_take (i := 14) rfl (by kernel_rfl) (by kernel_rfl) (by kernel_rfl) (fun _ _ _ h => h) (Or.inr ⟨by rfl, rfl⟩) (by assumption) ?_) | (refine wpAnyH_take (i := 14) (v := ?_) rfl (by kernel_rfl) (by kernel_rfl) (by kernel_rfl) (fun _ _ _ h => h) (Or.inl ⟨by rfl, ?_⟩) (by assumption) ?_; rotate_left; (focus (intro w hSw; (try dsimp only at hSw); go_simp; try with_reducible rfl)))
        try simp only [Act.put, List.getElem_toArray, List.getElem_cons_zero, List.getElem_cons_succ, List.setIfInBounds_toArray, List.set_cons_zero, List.set_cons_succ]
        first | (refine wpAnyH_take (i := 15) rfl (by kernel_rfl) (by kernel_rfl) (by kernel_rfl) (fun _ _ _ h => h) (Or.inr ⟨by rfl, rfl⟩) (by assumption) ?_) | (refine wpAnyH_take (i := 15) (v := ?_) rfl (by kernel_rfl) (by kernel_rfl) (by kernel_rfl) (fun _ _ _ h => h) (Or.inl ⟨by rfl, ?_⟩) (by assumption) ?_; rotate_left; (focus (intro w hSw; (try dsimp only at hSw); go_simp; try with_reducible rfl)))
        try simp only [Act.put, List.getElem_toArray, List.getElem_cons_zero, List.getElem_cons_succ, List.setIfInBounds_toArray, List.set_cons_zero, List.set_cons_succ]
        first | (refine wpAnyH_take (i := 16) rfl (by kernel_rfl) (by kernel_rfl) (by kernel_rfl) (fun _ _ _ h => h) (Or.inr ⟨by rfl, rfl⟩) (by assumption) ?_) | (refine wpAnyH_take (i := 16) (v := ?_) rfl (by kernel_rfl) (by kernel_rfl) (by kernel_rfl) (fun _ _ _ h => h) (Or.inl ⟨by rfl, ?_⟩) (by assumption) ?_; rotate_left; (focus (intro w hSw; (try dsimp only at hSw); go_simp; try with_reducible rfl)))
        try simp only [Act.put, List.getElem_toArray, List.getElem_cons_zero, List.getElem_cons_succ, List.setIfInBounds_toArray, List.set_cons_zero, List.set_cons_succ]
        first | (refine wpAnyH_take (i := 17) rfl (by kernel_rfl) (by kernel_rfl) (by kernel_rfl) (fun _ _ _ h => h) (Or.inr ⟨by rfl, rfl⟩) (by assumption) ?_) | (refine wpAnyH_take (i := 17) (v := ?_) rfl (by kernel_rfl) (by kernel_rfl) (by kernel_rfl) (fun _ _ _ h => h) (Or.inl ⟨by rfl, ?_⟩) (by assumption) ?_; rotate_left; (focus (intro w hSw; (try dsimp only at hSw); go_simp; try with_reducible rfl)))
        try simp only [Act.put, List.getElem_toArray, List.getElem_cons_zero, List.getElem_cons_succ, List.setIfInBounds_toArray, List.set_cons_zero, List.set_cons_succ]
        first | (refine wpAnyH_take (i := 18) rfl (by kernel_rfl) (by kernel_rfl) (by kernel_rfl) (fun _ _ _ h => h) (Or.inr ⟨by rfl, rfl⟩) (by assumption) ?_) | (refine wpAnyH_take (i := 18) (v := ?_) rfl (by kernel_rfl) (by kernel_rfl) (by kernel_rfl) (fun _ _ _ h => h) (Or.inl ⟨by rfl, ?_⟩) (by assumption) ?_; rotate_left; (focus (intro w hSw; (try dsimp only at hSw); go_simp; try with_reducible rfl)))
        try simp only [Act.put, List.getElem_toArray, List.getElem_cons_zero, List.getElem_cons_succ, List.setIfInBounds_toArray, List.set_cons_zero, List.set_cons_succ]
        refine wpAnyH_take (i := 19) (v := ?_) rfl (by kernel_rfl) (by kernel_rfl) (by kernel_rfl) (fun _ _ _ h => h) (Or.inl ⟨by rfl, ?_⟩) (by assumption) ?_; rotate_left; (focus (intro w hSw; (try dsimp only at hSw); go_simp; try with_reducible rfl))
        try simp only [Act.put, List.getElem_toArray, List.getElem_cons_zero, List.getElem_cons_succ, List.setIfInBounds_toArray, List.set_cons_zero, List.set_cons_succ]
        refine wpAnyH_take (i := 20) (v := ?_) rfl (by kernel_rfl) (by kernel_rfl) (by kernel_rfl) (fun _ _ _ h => h) (Or.inl ⟨by rfl, ?_⟩) (by assumption) ?_; rotate_left; (focus (intro w hSw; (try dsimp only at hSw); go_simp; try with_reducible rfl))
        try simp only [Act.put, List.getElem_toArray, List.getElem_cons_zero, List.getElem_cons_succ, List.setIfInBounds_toArray, List.set_cons_zero, List.set_cons_succ]
        first | (refine wpAnyH_take (i := 21) rfl (by kernel_rfl) (by kernel_rfl) (by kernel_rfl) (fun _ _ _ h => h) (Or.inr ⟨by rfl, rfl⟩) (by assumption) ?_) | (refine wpAnyH_take (i := 21) (v := ?_) rfl (by kernel_rfl) (by kernel_rfl) (by kernel_rfl) (fun _ _ _ h => h) (Or.inl ⟨by rfl, ?_⟩) (by assumption) ?_; rotate_left; (focus (intro w hSw; (try dsimp only at hSw); go_simp; try with_reducible rfl)))
        try simp only [Act.put, List.getElem_toArray, List.getElem_cons_zero, List.getElem_cons_succ, List.setIfInBounds_toArray, List.set_cons_zero, List.set_cons_succ]
        first | (refine wpAnyH_take (i := 22) rfl (by kernel_rfl) (by kernel_rfl) (by kernel_rfl) (fun _ _ _ h => h) (Or.inr ⟨by rfl, rfl⟩) (by assumption) ?_) | (refine wpAnyH_take (i := 22) (v := ?_) rfl (by kernel_rfl) (by kernel_rfl) (by kernel_rfl) (fun _ _ _ h => h) (Or.inl ⟨by rfl, ?_⟩) (by assumption) ?_; rotate_left; (focus (intro w hSw; (try dsimp only at hSw); go_simp; try with_reducible rfl)))
        try simp only [Act.put, List.getElem_toArray, List.getElem_cons_zero, List.getElem_cons_succ, List.setIfInBounds_toArray, List.set_cons_zero, List.set_cons_succ]
        first | (refine wpAnyH_take (i := 23) rfl (by kernel_rfl) (by kernel_rfl) (by kernel_rfl) (fun _ _ _ h => h) (Or.inr ⟨by rfl, rfl⟩) (by assumption) ?_) | (refine wpAnyH_take (i := 23) (v := ?_) rfl (by kernel_rfl) (by kernel_rfl) (by kernel_rfl) (fun _ _ _ h => h) (Or.inl ⟨by rfl, ?_⟩) (by assumption) ?_; rotate_left; (focus (intro w hSw; (try dsimp only at hSw); go_simp; try with_reducible rfl)))
        try simp only [Act.put, List.getElem_toArray, List.getElem_cons_zero, List.getElem_cons_succ, List.setIfInBounds_toArray, List.set_cons_zero, List.set_cons_succ]
        first | (refine wpAnyH_take (i := 24) rfl (by kernel_rfl) (by kernel_rfl) (by kernel_rfl) (fun _ _ _ h => h) (Or.inr ⟨by rfl, rfl⟩) (by assumption) ?_) | (refine wpAnyH_take (i := 24) (v := ?_) rfl (by kernel_rfl) (by kernel_rfl) (by kernel_rfl) (fun _ _ _ h => h) (Or.inl ⟨by rfl, ?_⟩) (by assumption) ?_; rotate_left; (focus (intro w hSw; (try dsimp only at hSw); go_simp; try with_reducible rfl)))
        try simp only [Act.put, List.getElem_toArray, List.getElem_cons_zero, List.getElem_cons_succ, List.setIfInBounds_toArray, List.set_cons_zero, List.set_cons_succ]
        first | (refine wpAnyH_take (i := 25) rfl (by kernel_rfl) (by kernel_rfl) (by kernel_rfl) (fun _ _ _ h => h) (Or.inr ⟨by rfl, rfl⟩) (by assumption) ?_) | (refine wpAnyH_take (i := 25) (v := ?_) rfl (by kernel_rfl) (by kernel_rfl) (by kernel_rfl) (fun _ _ _ h => h) (Or.inl ⟨by rfl, ?_⟩) (by assumption) ?_; rotate_left; (focus (intro w hSw; (try dsimp only at hSw); go_simp; try with_reducible rfl)))
        try simp only [Act.put, List.getElem_toArray, List.getElem_cons_zero, List.getElem_cons_succ, List.setIfInBounds_toArray, List.set_cons_zero, List.set_cons_succ]
        first | (refine wpAnyH_take (i := 26) rfl (by kernel_rfl) (by kernel_rfl) (by kernel_rfl) (fun _ _ _ h => h) (Or.inr ⟨by rfl, rfl⟩) (by assumption) ?_) | (refine wpAnyH_take (i := 26) (v := ?_) rfl (by kernel_rfl) (by kernel_rfl) (by kernel_rfl) (fun _ _ _ h => h) (Or.inl ⟨by rfl, ?_⟩) (by assumption) ?_; rotate_left; (focus (intro w hSw; (try dsimp only at hSw); go_simp; try with_reducible rfl)))
        try simp only [Act.put, List.getElem_toArray, List.getElem_cons_zero, List.getElem_cons_succ, List.setIfInBounds_toArray, List.set_cons_zero, List.set_cons_succ]
        first | (refine wpAnyH_take (i := 27) rfl (by kernel_rfl) (by kernel_rfl) (by kernel_rfl) (fun _ _ _ h => h) (Or.inr ⟨by rfl, rfl⟩) (by assumption) ?_) | (refine wpAnyH_take (i := 27) (v := ?_) rfl (by kernel_rfl) (by kernel_rfl) (by kernel_rfl) (fun _ _ _ h => h) (Or.inl ⟨by rfl, ?_⟩) (by assumption) ?_; rotate_left; (focus (intro w hSw; (try dsimp only at hSw); go_simp; try with_reducible rfl)))
        try simp only [Act.put, List.getElem_toArray, List.getElem_cons_zero, List.getElem_cons_succ, List.setIfInBounds_toArray, List.set_cons_zero, List.set_cons_succ]
        first | (refine wpAnyH_take (i := 28) rfl (by kernel_rfl) (by kernel_rfl) (by kernel_rfl) (fun _ _ _ h => h) (Or.inr ⟨by rfl, rfl⟩) (by assumption) ?_) | (refine wpAnyH_take (i := 28) (v := ?_) rfl (by kernel_rfl) (by kernel_rfl) (by kernel_rfl) (fun _ _ _ h => h) (Or.inl ⟨by rfl, ?_⟩) (by assumption) ?_; rotate_left; (focus (intro w hSw; (try dsimp only at hSw); go_simp; try with_reducible rfl)))
        try simp only [Act.put, List.getElem_toArray, List.getElem_cons_zero, List.getElem_cons_succ, List.setIfInBounds_toArray, List.set_cons_zero, List.set_cons_succ]
        refine wpAnyH_ready (rs := [29]) (by kernel_rfl) (by simp) ?_
        refine AllReadyH.cons rfl (fun K hK => ?_) AllReadyH.nil
        try simp only [List.getElem_toArray, List.getElem_cons_zero, List.getElem_cons_succ]
        rw [if_neg (by simp [Region.wanted, yielded])]
        refine hK.out _ _ ?_ (fun hHeld => ?_)
        · exact ⟨t0, t4, b0⟩
        clear hK K
        try simp only [Act.put, List.getElem_toArray, List.getElem_cons_zero, List.getElem_cons_succ, List.setIfInBounds_toArray, List.set_cons_zero, List.set_cons_succ]
        refine wpAnyH_take (i := 30) (v := ?_) rfl (by kernel_rfl) (by kernel_rfl) (by kernel_rfl) (fun _ _ _ h => h) (Or.inl ⟨by rfl, ?_⟩) (by assumption) ?_; rotate_left; (focus (intro w hSw; (try dsimp only at hSw); go_simp; try with_reducible rfl))
        try simp only [Act.put, List.getElem_toArray, List.getElem_cons_zero, List.getElem_cons_succ, List.setIfInBounds_toArray, List.set_cons_zero, List.set_cons_succ]
        refine wpAnyH_done (by kernel_rfl) ?_ _
        have HO' := Lib.hid (HO.out.trans (Only0.refl wr).drew)
        go_wp2_with fail
        go_roundw
        case rel => exact ⟨i + 1, by omega, by go_num, HO', R⟩
        case measure => simp [intOf] <;> omega
      · have h1b : (ii != 0) = true := by simpa using h1
        by_cases h2 : ii = id
        · have R := Lib.hid (NO.out (by unfold rTakB; rw [← hii, h2]; simp))
          have h2b : (ii != id) = false := by simpa using h2
          clear YES NO hii h2 h1
          go_wp2_with fail
          refine wp_region_held_drew (S := (fun w' => w'.cell? ⟨m, 3 + i * 6, none⟩ = some (.int .i64 ii) ∧ w'.cell? ⟨m, 3 + i * 6 + 4, none⟩ = some (.slice (A.wa i) (s.s i).wrote.length (A.wc i)) ∧ w'.cell? ⟨n0, 0, none⟩ = some (.int .i64 id))) (by kernel_rfl) ?_ (fun hHeld => ?_)
          · exact ⟨t0, t4, b0⟩
          refine wpAnyH_take (i := 0) (v := ?_) rfl (by kernel_rfl) (by kernel_rfl) (by kernel_rfl) (fun _ _ _ h => h) (Or.inl ⟨by rfl, ?_⟩) (by assumption) ?_; rotate_left; (focus (intro w hSw; (try dsimp only at hSw); go_simp; try with_reducible rfl))
          try simp only [Act.put, List.getElem_toArray, List.getElem_cons_zero, List.getElem_cons_succ, List.setIfInBounds_toArray, List.set_cons_zero, List.set_cons_succ]
          refine wpAnyH_take (i := 1) (v := ?_) rfl (by kernel_rfl) (by kernel_rfl) (by kernel_rfl) (fun _ _ _ h => h) (Or.inl ⟨by rfl, ?_⟩) (by assumption) ?_; rotate_left; (focus (intro w hSw; (try dsimp only at hSw); go_simp; try with_reducible rfl))
          try simp only [Act.put, List.getElem_toArray, List.getElem_cons_zero, List.getElem_cons_succ, List.setIfInBounds_toArray, List.set_cons_zero, List.set_cons_succ]
          refine wpAnyH_take (i := 2) (v := ?_) rfl (by kernel_rfl) (by kernel_rfl) (by kernel_rfl) (fun _ _ _ h => h) (Or.inl ⟨by rfl, ?_⟩) (by assumption) ?_; rotate_left; (focus (intro w hSw; (try dsimp only at hSw); go_simp; try with_reducible rfl))
          try simp only [Act.put, List.getElem_toArray, List.getElem_cons_zero, List.getElem_cons_succ, List.setIfInBounds_toArray, List.set_cons_zero, List.set_cons_succ]
          refine wpAnyH_take (i := 3) (v := ?_) rfl (by kernel_rfl) (by kernel_rfl) (by kernel_rfl) (fun _ _ _ h => h) (Or.inl ⟨by rfl, ?_⟩) (by assumption) ?_; rotate_left; (focus (intro w hSw; (try dsimp only at hSw); go_simp; try with_reducible rfl))
          try simp only [Act.put, List.getElem_toArray, List.getElem_cons_zero, List.getElem_cons_succ, List.setIfInBounds_toArray, List.set_cons_zero, List.set_cons_succ]
          refine wpAnyH_take (i := 4) (v := ?_) rfl (by kernel_rfl) (by kernel_rfl) (by kernel_rfl) (fun _ _ _ h => h) (Or.inl ⟨by rfl, ?_⟩) (by assumption) ?_; rotate_left; (focus (intro w hSw; (try dsimp only at hSw); go_simp; try with_reducible rfl))
          try simp only [Act.put, List.getElem_toArray, List.getElem_cons_zero, List.getElem_cons_succ, List.setIfInBounds_toArray, List.set_cons_zero, List.set_cons_succ]
          refine wpAnyH_take (i := 5) (v := ?_) rfl (by kernel_rfl) (by kernel_rfl) (by kernel_rfl) (fun _ _ _ h => h) (Or.inl ⟨by rfl, ?_⟩) (by assumption) ?_; rotate_left; (focus (intro w hSw; (try dsimp only at hSw); go_simp; try with_reducible rfl))
          try simp only [Act.put, List.getElem_toArray, List.getElem_cons_zero, List.getElem_cons_succ, List.setIfInBounds_toArray, List.set_cons_zero, List.set_cons_succ]
          refine wpAnyH_take (i := 6) (v := ?_) rfl (by kernel_rfl) (by kernel_rfl) (by kernel_rfl) (fun _ _ _ h => h) (Or.inl ⟨by rfl, ?_⟩) (by assumption) ?_; rotate_left; (focus (intro w hSw; (try dsimp only at hSw); go_simp; try with_reducible rfl))
          try simp only [Act.put, List.getElem_toArray, List.getElem_cons_zero, List.getElem_cons_succ, List.setIfInBounds_toArray, List.set_cons_zero, List.set_cons_succ]
          refine wpAnyH_take (i := 7) (v := ?_) rfl (by kernel_rfl) (by kernel_rfl) (by kernel_rfl) (fun _ _ _ h => h) (Or.inl ⟨by rfl, ?_⟩) (by assumption) ?_; rotate_left; (focus (intro w hSw; (try dsimp only at hSw); go_simp; try with_reducible rfl))
          try simp only [Act.put, List.getElem_toArray, List.getElem_cons_zero, List.getElem_cons_succ, List.setIfInBounds_toArray, List.set_cons_zero, List.set_cons_succ]
          refine wpAnyH_take (i := 8) (v := ?_) rfl (by kernel_rfl) (by kernel_rfl) (by kernel_rfl) (fun _ _ _ h => h) (Or.inl ⟨by rfl, ?_⟩) (by assumption) ?_; rotate_left; (focus (intro w hSw; (try dsimp only at hSw); go_simp; try with_reducible rfl))
          try simp only [Act.put, List.getElem_toArray, List.getElem_cons_zero, List.getElem_cons_succ, List.setIfInBounds_toArray, List.set_cons_zero, List.set_cons_succ]
          first | (refine wpAnyH_take (i := 9) rfl (by kernel_rfl) (by kernel_rfl) (by kernel_rfl) (fun _ _ _ h => h) (Or.inr ⟨by rfl, rfl⟩) (by assumption) ?_) | (refine wpAnyH_take (i := 9) (v := ?_) rfl (by kernel_rfl) (by kernel_rfl) (by kernel_rfl) (fun _ _ _ h => h) (Or.inl ⟨by rfl, ?_⟩) (by assumption) ?_; rotate_left; (focus (intro w hSw; (try dsimp only at hSw); go_simp; try with_reducible rfl)))
          try simp only [Act.put, List.getElem_toArray, List.getElem_cons_zero, List.getElem_cons_succ, List.setIfInBounds_toArray, List.set_cons_zero, List.set_cons_succ]
          first | (refine wpAnyH_take (i := 10) rfl (by kernel_rfl) (by kernel_rfl) (by kernel_rfl) (fun _ _ _ h => h) (Or.inr ⟨by rfl, rfl⟩) (by assumption) ?_) | (refine wpAnyH_take (i := 10) (v := ?_) rfl (by kernel_rfl) (by kernel_rfl) (by kernel_rfl) (fun _ _ _ h => h) (Or.inl ⟨by rfl, ?_⟩) (by assumption) ?_; rotate_left; (focus (intro w hSw; (try dsimp only at hSw); go_simp; try with_reducible rfl)))
          try simp only [Act.put, List.getElem_toArray, List.getElem_cons_zero, List.getElem_cons_succ, List.setIfInBounds_toArray, List.set_cons_zero, List.set_cons_succ]
          first | (refine wpAnyH_take (i := 11) rfl (by kernel_rfl) (by kernel_rfl) (by kernel_rfl) (fun _ _ _ h => h) (Or.inr ⟨by rfl, rfl⟩) (by assumption) ?_) | (refine wpAnyH_take (i := 11) (v := ?_) rfl (by kernel_rfl) (by kernel_rfl) (by kernel_rfl) (fun _ _ _ h => h) (Or.inl ⟨by rfl, ?_⟩) (by assumption) ?_; rotate_left; (focus (intro w hSw; (try dsimp only at hSw); go_simp; try with_reducible rfl)))
          try simp only [Act.put, List.getElem_toArray, List.getElem_cons_zero, List.getElem_cons_succ, List.setIfInBounds_toArray, List.set_cons_zero, List.set_cons_succ]
          first | (refine wpAnyH_take (i := 12) rfl (by kernel_rfl) (by kernel_rfl) (by kernel_rfl) (fun _ _ _ h => h) (Or.inr ⟨by rfl, rfl⟩) (by assumption) ?_) | (refine wpAnyH_take (i := 12) (v := ?_) rfl (by kernel_rfl) (by kernel_rfl) (by kernel_rfl) (fun _ _ _ h => h) (Or.inl ⟨by rfl, ?_⟩) (by assumption) ?_; rotate_left; (focus (intro w hSw; (try dsimp only at hSw); go_simp; try with_reducible rfl)))
          try simp only [Act.put, List.getElem_toArray, List.getElem_cons_zero, List.getElem_cons_succ, List.setIfInBounds_toArray, List.set_cons_zero, List.set_cons_succ]
          first | (refine wpAnyH_take (i := 13) rfl (by kernel_rfl) (by kernel_rfl) (by kernel_rfl) (fun _ _ _ h => h) (Or.inr ⟨by rfl, rfl⟩) (by assumption) ?_) | (refine wpAnyH_take (i := 13) (v := ?_) rfl (by kernel_rfl) (by kernel_rfl) (by kernel_rfl) (fun _ _ _ h => h) (Or.inl ⟨by rfl, ?_⟩) (by assumption) ?_; rotate_left; (focus (intro w hSw; (try dsimp only at hSw); go_simp; try with_reducible rfl)))
          try simp only [Act.put, List.getElem_toArray, List.getElem_cons_zero, List.getElem_cons_succ, List.setIfInBounds_toArray, List.set_cons_zero, List.set_cons_succ]
          first | (refine wpAnyH_take (i := 14) rfl (by kernel_rfl) (by kernel_rfl) (by kernel_rfl) (fun _ _ _ h => h) (Or.inr ⟨by rfl, rfl⟩) (by assumption) ?_) | (refine wpAnyH_take (i := 14) (v := ?_) rfl (by kernel_rfl) (by kernel_rfl) (by kernel_rfl) (fun _ _ _ h => h) (Or.inl ⟨by rfl, ?_⟩) (by assumption) ?_; rotate_left; (focus (intro w hSw; (try dsimp only at hSw); go_simp; try with_reducible rfl)))
          try simp only [Act.put, List.getElem_toArray, List.getElem_cons_zero, List.getElem_cons_succ, List.setIfInBounds_toArray, List.set_cons_zero, List.set_cons_succ]
          first | (refine wpAnyH_take (i := 15) rfl (by kernel_rfl) (by kernel_rfl) (by kernel_rfl) (fun _ _ _ h => h) (Or.inr ⟨by rfl, rfl⟩) (by assumption) ?_) | (refine wpAnyH_take (i := 15) (v := ?_) rfl (by kernel_rfl) (by kernel_rfl) (by kernel_rfl) (fun _ _ _ h => h) (Or.inl ⟨by rfl, ?_⟩) (by assumption) ?_; rotate_left; (focus (intro w hSw; (try dsimp only at hSw); go_simp; try with_reducible rfl)))
          try simp only [Act.put, List.getElem_toArray, List.getElem_cons_zero, List.getElem_cons_succ, List.setIfInBounds_toArray, List.set_cons_zero, List.set_cons_succ]
          first | (refine wpAnyH_take (i := 16) rfl (by kernel_rfl) (by kernel_rfl) (by kernel_rfl) (fun _ _ _ h => h) (Or.inr ⟨by rfl, rfl⟩) (by assumption) ?_) | (refine wpAnyH_take (i := 16) (v := ?_) rfl (by kernel_rfl) (by kernel_rfl) (by kernel_rfl) (fun _ _ _ h => h) (Or.inl ⟨by rfl, ?_⟩) (by assumption) ?_; rotate_left; (focus (intro w hSw; (try dsimp only at hSw); go_simp; try with_reducible rfl)))
          try simp only [Act.put, List.getElem_toArray, List.getElem_cons_zero, List.getElem_cons_succ, List.setIfInBounds_toArray, List.set_cons_zero, List.set_cons_succ]
          first | (refine wpAnyH_take (i := 17) rfl (by kernel_rfl) (by kernel_rfl) (by kernel_rfl) (fun _ _ _ h => h) (Or.inr ⟨by rfl, rfl⟩) (by assumption) ?_) | (refine wpAnyH_take (i := 17) (v := ?_) rfl (by kernel_rfl) (by kernel_rfl) (by kernel_rfl) (fun _ _ _ h => h) (Or.inl ⟨by rfl, ?_⟩) (by assumption) ?_; rotate_left; (focus (intro w hSw; (try dsimp only at hSw); go_simp; try with_reducible rfl)))
          try simp only [Act.put, List.getElem_toArray, List.getElem_cons_zero, List.getElem_cons_succ, List.setIfInBounds_toArray, List.set_cons_zero, List.set_cons_succ]
          first | (refine wpAnyH_take (i := 18) rfl (by kernel_rfl) (by kernel_rfl) (by kernel_rfl) (fun _ _ _ h => h) (Or.inr ⟨by rfl, rfl⟩) (by assumption) ?_) | (refine wpAnyH_take (i := 18) (v := ?_) rfl (by kernel_rfl) (by kernel_rfl) (by kernel_rfl) (fun _ _ _ h => h) (Or.inl ⟨by rfl, ?_⟩) (by assumption) ?_; rotate_left; (focus (intro w hSw; (try dsimp only at hSw); go_simp; try with_reducible rfl)))
          try simp only [Act.put, List.getElem_toArray, List.getElem_cons_zero, List.getElem_cons_succ, List.setIfInBounds_toArray, List.set_cons_zero, List.set_cons_succ]
          refine wpAnyH_take (i := 19) (v := ?_) rfl (by kernel_rfl) (by kernel_rfl) (by kernel_rfl) (fun _ _ _ h => h) (Or.inl ⟨by rfl, ?_⟩) (by assumption) ?_; rotate_left; (focus (intro w hSw; (try dsimp only at hSw); go_simp; try with_reducible rfl))
          try simp only [Act.put, List.getElem_toArray, List.getElem_cons_zero, List.getElem_cons_succ, List.setIfInBounds_toArray, List.set_cons_zero, List.set_cons_succ]
          refine wpAnyH_take (i := 20) (v := ?_) rfl (by kernel_rfl) (by kernel_rfl) (by kernel_rfl) (fun _ _ _ h => h) (Or.inl ⟨by rfl, ?_⟩) (by assumption) ?_; rotate_left; (focus (intro w hSw; (try dsimp only at hSw); go_simp; try with_reducible rfl))
          try simp only [Act.put, List.getElem_toArray, List.getElem_cons_zero, List.getElem_cons_succ, List.setIfInBounds_toArray, List.set_cons_zero, List.set_cons_succ]
          first | (refine wpAnyH_take (i := 21) rfl (by kernel_rfl) (by kernel_rfl) (by kernel_rfl) (fun _ _ _ h => h) (Or.inr ⟨by rfl, rfl⟩) (by assumption) ?_) | (refine wpAnyH_take (i := 21) (v := ?_) rfl (by kernel_rfl) (by kernel_rfl) (by kernel_rfl) (fun _ _ _ h => h) (Or.inl ⟨by rfl, ?_⟩) (by assumption) ?_; rotate_left; (focus (intro w hSw; (try dsimp only at hSw); go_simp; try with_reducible rfl)))
          try simp only [Act.put, List.getElem_toArray, List.getElem_cons_zero, List.getElem_cons_succ, List.setIfInBounds_toArray, List.set_cons_zero, List.set_cons_succ]
          first | (refine wpAnyH_take (i := 22) rfl (by kernel_rfl) (by kernel_rfl) (by kernel_rfl) (fun _ _ _ h => h) (Or.inr ⟨by rfl, rfl⟩) (by assumption) ?_) | (refine wpAnyH_take (i := 22) (v := ?_) rfl (by kernel_rfl) (by kernel_rfl) (by kernel_rfl) (fun _ _ _ h => h) (Or.inl ⟨by rfl, ?_⟩) (by assumption) ?_; rotate_left; (focus (intro w hSw; (try dsimp only at hSw); go_simp; try with_reducible rfl)))
          try simp only [Act.put, List.getElem_toArray, List.getElem_cons_zero, List.getElem_cons_succ, List.setIfInBounds_toArray, List.set_cons_zero, List.set_cons_succ]
          first | (refine wpAnyH_take (i := 23) rfl (by kernel_rfl) (by kernel_rfl) (by kernel_rfl) (fun _ _ _ h => h) (Or.inr ⟨by rfl, rfl⟩) (by assumption) ?_) | (refine wpAnyH_take (i := 23) (v := ?_) rfl (by kernel_rfl) (by kernel_rfl) (by kernel_rfl) (fun _ _ _ h => h) (Or.inl ⟨by rfl, ?_⟩) (by assumption) ?_; rotate_left; (focus (intro w hSw; (try dsimp only at hSw); go_simp; try with_reducible rfl)))
          try simp only [Act.put, List.getElem_toArray, List.getElem_cons_zero, List.getElem_cons_succ, List.setIfInBounds_toArray, List.set_cons_zero, List.set_cons_succ]
          first | (refine wpAnyH_take (i := 24) rfl (by kernel_rfl) (by kernel_rfl) (by kernel_rfl) (fun _ _ _ h => h) (Or.inr ⟨by rfl, rfl⟩) (by assumption) ?_) | (refine wpAnyH_take (i := 24) (v := ?_) rfl (by kernel_rfl) (by kernel_rfl) (by kernel_rfl) (fun _ _ _ h => h) (Or.inl ⟨by rfl, ?_⟩) (by assumption) ?_; rotate_left; (focus (intro w hSw; (try dsimp only at hSw); go_simp; try with_reducible rfl)))
          try simp only [Act.put, List.getElem_toArray, List.getElem_cons_zero, List.getElem_cons_succ, List.setIfInBounds_toArray, List.set_cons_zero, List.set_cons_succ]
          first | (refine wpAnyH_take (i := 25) rfl (by kernel_rfl) (by kernel_rfl) (by kernel_rfl) (fun _ _ _ h => h) (Or.inr ⟨by rfl, rfl⟩) (by assumption) ?_) | (refine wpAnyH_take (i := 25) (v := ?_) rfl (by kernel_rfl) (by kernel_rfl) (by kernel_rfl) (fun _ _ _ h => h) (Or.inl ⟨by rfl, ?_⟩) (by assumption) ?_; rotate_left; (focus (intro w hSw; (try dsimp only at hSw); go_simp; try with_reducible rfl)))
          try simp only [Act.put, List.getElem_toArray, List.getElem_cons_zero, List.getElem_cons_succ, List.setIfInBounds_toArray, List.set_cons_zero, List.set_cons_succ]
          first | (refine wpAnyH_take (i := 26) rfl (by kernel_rfl) (by kernel_rfl) (by kernel_rfl) (fun _ _ _ h => h) (Or.inr ⟨by rfl, rfl⟩) (by assumption) ?_) | (refine wpAnyH_take (i := 26) (v := ?_) rfl (by kernel_rfl) (by kernel_rfl) (by kernel_rfl) (fun _ _ _ h => h) (Or.inl ⟨by rfl, ?_⟩) (by assumption) ?_; rotate_left; (focus (intro w hSw; (try dsimp only at hSw); go_simp; try with_reducible rfl)))
          try simp only [Act.put, List.getElem_toArray, List.getElem_cons_zero, List.getElem_cons_succ, List.setIfInBounds_toArray, List.set_cons_zero, List.set_cons_succ]
          first | (refine wpAnyH_take (i := 27) rfl (by kernel_rfl) (by kernel_rfl) (by kernel_rfl) (fun _ _ _ h => h) (Or.inr ⟨by rfl, rfl⟩) (by assumption) ?_) | (refine wpAnyH_take (i := 27) (v := ?_) rfl (by kernel_rfl) (by kernel_rfl) (by kernel_rfl) (fun _ _ _ h => h) (Or.inl ⟨by rfl, ?_⟩) (by assumption) ?_; rotate_left; (focus (intro w hSw; (try dsimp only at hSw); go_simp; try with_reducible rfl)))
          try simp only [Act.put, List.getElem_toArray, List.getElem_cons_zero, List.getElem_cons_succ, List.setIfInBounds_toArray, List.set_cons_zero, List.set_cons_succ]
          first | (refine wpAnyH_take (i := 28) rfl (by kernel_rfl) (by kernel_rfl) (by kernel_rfl) (fun _ _ _ h => h) (Or.inr ⟨by rfl, rfl⟩) (by assumption) ?_) | (refine wpAnyH_take (i := 28) (v := ?_) rfl (by kernel_rfl) (by kernel_rfl) (by kernel_rfl) (fun _ _ _ h => h) (Or.inl ⟨by rfl, ?_⟩) (by assumption) ?_; rotate_left; (focus (intro w hSw; (try dsimp only at hSw); go_simp; try with_reducible rfl)))
          try simp only [Act.put, List.getElem_toArray, List.getElem_cons_zero, List.getElem_cons_succ, List.setIfInBounds_toArray, List.set_cons_zero, List.set_cons_succ]
          refine wpAnyH_ready (rs := [29]) (by kernel_rfl) (by simp) ?_
          refine AllReadyH.cons rfl (fun K hK => ?_) AllReadyH.nil
          try simp only [List.getElem_toArray, List.getElem_cons_zero, List.getElem_cons_succ]
          rw [if_neg (by simp [Region.wanted, yielded])]
          refine hK.out _ _ ?_ (fun hHeld => ?_)
          · exact ⟨t0, t4, b0⟩
          clear hK K
          try simp only [Act.put, List.getElem_toArray, List.getElem_cons_zero, List.getElem_cons_succ, List.setIfInBounds_toArray, List.set_cons_zero, List.set_cons_succ]
          refine wpAnyH_take (i := 30) (v := ?_) rfl (by kernel_rfl) (by kernel_rfl) (by kernel_rfl) (fun _ _ _ h => h) (Or.inl ⟨by rfl, ?_⟩) (by assumption) ?_; rotate_left; (focus (intro w hSw; (try dsimp only at hSw); go_simp; try with_reducible rfl))
          try simp only [Act.put, List.getElem_toArray, List.getElem_cons_zero, List.getElem_cons_succ, List.setIfInBounds_toArray, List.set_cons_zero, List.set_cons_succ]
          refine wpAnyH_done (by kernel_rfl) ?_ _
          have HO' := Lib.hid (HO.out.trans (Only0.refl wr).drew)
          go_wp2_with fail
          go_roundw
          case rel => exact ⟨i + 1, by omega, by go_num, HO', R⟩
          case measure => simp [intOf] <;> omega
        · have h2b : (ii != id) = true := by simpa using h2
          have C := ref_has (A.wa i) (A.wc i) (s.s i).wrote key wr.drew (by omega) hwr
          cases hb : hasB (s.s i).wrote key with
          | true =>
            have R := Lib.hid (YES.out (by unfold rTakB; rw [← hii, hb]; simp [h1, h2]))
            rw [hb] at C
            clear YES NO hii h2 h1 hb
            go_wp2_with fail
            refine wp_region_held_drew (S := (fun w' => w'.cell? ⟨m, 3 + i * 6, none⟩ = some (.int .i64 ii) ∧ w'.cell? ⟨m, 3 + i * 6 + 4, none⟩ = some (.slice (A.wa i) (s.s i).wrote.length (A.wc i)) ∧ w'.cell? ⟨n0, 0, none⟩ = some (.int .i64 id))) (by kernel_rfl) ?_ (fun hHeld => ?_)
            · exact ⟨t0, t4, b0⟩
            refine wpAnyH_take (i := 0) (v := ?_) rfl (by kernel_rfl) (by kernel_rfl) (by kernel_rfl) (fun _ _ _ h => h) (Or.inl ⟨by rfl, ?_⟩) (by assumption) ?_; rotate_left; (focus (intro w hSw; (try dsimp only at hSw); go_simp; try with_reducible rfl))
            try simp only [Act.put, List.getElem_toArray, List.getElem_cons_zero, List.getElem_cons_succ, List.setIfInBounds_toArray, List.set_cons_zero, List.set_cons_succ]
            refine wpAnyH_take (i := 1) (v := ?_) rfl (by kernel_rfl) (by kernel_rfl) (by kernel_rfl) (fun _ _ _ h => h) (Or.inl ⟨by rfl, ?_⟩) (by assumption) ?_; rotate_left; (focus (intro w hSw; (try dsimp only at hSw); go_simp; try with_reducible rfl))
            try simp only [Act.put, List.getElem_toArray, List.getElem_cons_zero, List.getElem_cons_succ, List.setIfInBounds_toArray, List.set_cons_zero, List.set_cons_succ]
            refine wpAnyH_take (i := 2) (v := ?_) rfl (by kernel_rfl) (by kernel_rfl) (by kernel_rfl) (fun _ _ _ h => h) (Or.inl ⟨by rfl, ?_⟩) (by assumption) ?_; rotate_left; (focus (intro w hSw; (try dsimp only at hSw); go_simp; try with_reducible rfl))
            try simp only [Act.put, List.getElem_toArray, List.getElem_cons_zero, List.getElem_cons_succ, List.setIfInBounds_toArray, List.set_cons_zero, List.set_cons_succ]
            refine wpAnyH_take (i := 3) (v := ?_) rfl (by kernel_rfl) (by kernel_rfl) (by kernel_rfl) (fun _ _ _ h => h) (Or.inl ⟨by rfl, ?_⟩) (by assumption) ?_; rotate_left; (focus (intro w hSw; (try dsimp only at hSw); go_simp; try with_reducible rfl))
            try simp only [Act.put, List.getElem_toArray, List.getElem_cons_zero, List.getElem_cons_succ, List.setIfInBounds_toArray, List.set_cons_zero, List.set_cons_succ]
            refine wpAnyH_take (i := 4) (v := ?_) rfl (by kernel_rfl) (by kernel_rfl) (by kernel_rfl) (fun _ _ _ h => h) (Or.inl ⟨by rfl, ?_⟩) (by assumption) ?_; rotate_left; (focus (intro w hSw; (try dsimp only at hSw); go_simp; try with_reducible rfl))
            try simp only [Act.put, List.getElem_toArray, List.getElem_cons_zero, List.getElem_cons_succ, List.setIfInBounds_toArray, List.set_cons_zero, List.set_cons_succ]
            refine wpAnyH_take (i := 5) (v := ?_) rfl (by kernel_rfl) (by kernel_rfl) (by kernel_rfl) (fun _ _ _ h => h) (Or.inl ⟨by rfl, ?_⟩) (by assumption) ?_; rotate_left; (focus (intro w hSw; (try dsimp only at hSw); go_simp; try with_reducible rfl))
            try simp only [Act.put, List.getElem_toArray, List.getElem_cons_zero, List.getElem_cons_succ, List.setIfInBounds_toArray, List.set_cons_zero, List.set_cons_succ]
            refine wpAnyH_take (i := 6) (v := ?_) rfl (by kernel_rfl) (by kernel_rfl) (by kernel_rfl) (fun _ _ _ h => h) (Or.inl ⟨by rfl, ?_⟩) (by assumption) ?_; rotate_left; (focus (intro w hSw; (try dsimp only at hSw); go_simp; try with_reducible rfl))
            try simp only [Act.put, List.getElem_toArray, List.getElem_cons_zero, List.getElem_cons_succ, List.setIfInBounds_toArray, List.set_cons_zero, List.set_cons_succ]
            refine wpAnyH_take (i := 7) (v := ?_) rfl (by kernel_rfl) (by kernel_rfl) (by kernel_rfl) (fun _ _ _ h => h) (Or.inl ⟨by rfl, ?_⟩) (by assumption) ?_; rotate_left; (focus (intro w hSw; (try dsimp only at hSw); go_simp; try with_reducible rfl))
            try simp only [Act.put, List.getElem_toArray, List.getElem_cons_zero, List.getElem_cons_succ, List.setIfInBounds_toArray, List.set_cons_zero, List.set_cons_succ]
            refine wpAnyH_take (i := 8) (v := ?_) rfl (by kernel_rfl) (by kernel_rfl) (by kernel_rfl) (fun _ _ _ h => h) (Or.inl ⟨by rfl, ?_⟩) (by assumption) ?_; rotate_left; (focus (intro w hSw; (try dsimp only at hSw); go_simp; try with_reducible rfl))
            try simp only [Act.put, List.getElem_toArray, List.getElem_cons_zero, List.getElem_cons_succ, List.setIfInBounds_toArray, List.set_cons_zero, List.set_cons_succ]
            first | (refine wpAnyH_take (i := 9) rfl (by kernel_rfl) (by kernel_rfl) (by kernel_rfl) (fun _ _ _ h => h) (Or.inr ⟨by rfl, rfl⟩) (by assumption) ?_) | (refine wpAnyH_take (i := 9) (v := ?_) rfl (by kernel_rfl) (by kernel_rfl) (by kernel_rfl) (fun _ _ _ h => h) (Or.inl ⟨by rfl, ?_⟩) (by assumption) ?_; rotate_left; (focus (intro w hSw; (try dsimp only at hSw); go_simp; try with_reducible rfl)))
            try simp only [Act.put, List.getElem_toArray, List.getElem_cons_zero, List.getElem_cons_succ, List.setIfInBounds_toArray, List.set_cons_zero, List.set_cons_succ]
            first | (refine wpAnyH_take (i := 10) rfl (by kernel_rfl) (by kernel_rfl) (by kernel_rfl) (fun _ _ _ h => h) (Or.inr ⟨by rfl, rfl⟩) (by assumption) ?_) | (refine wpAnyH_take (i := 10) (v := ?_) rfl (by kernel_rfl) (by kernel_rfl) (by kernel_rfl) (fun _ _ _ h => h) (Or.inl ⟨by rfl, ?_⟩) (by assumption) ?_; rotate_left; (focus (intro w hSw; (try dsimp only at hSw); go_simp; try with_reducible rfl)))
            try simp only [Act.put, List.getElem_toArray, List.getElem_cons_zero, List.getElem_cons_succ, List.setIfInBounds_toArray, List.set_cons_zero, List.set_cons_succ]
            first | (refine wpAnyH_take (i := 11) rfl (by kernel_rfl) (by kernel_rfl) (by kernel_rfl) (fun _ _ _ h => h) (Or.inr ⟨by rfl, rfl⟩) (by assumption) ?_) | (refine wpAnyH_take (i := 11) (v := ?_) rfl (by kernel_rfl) (by kernel_rfl) (by kernel_rfl) (fun _ _ _ h => h) (Or.inl ⟨by rfl, ?_⟩) (by assumption) ?_; rotate_left; (focus (intro w hSw; (try dsimp only at hSw); go_simp; try with_reducible rfl)))
            try simp only [Act.put, List.getElem_toArray, List.getElem_cons_zero, List.getElem_cons_succ, List.setIfInBounds_toArray, List.set_cons_zero, List.set_cons_succ]
            first | (refine wpAnyH_take (i := 12) rfl (by kernel_rfl) (by kernel_rfl) (by kernel_rfl) (fun _ _ _ h => h) (Or.inr ⟨by rfl, rfl⟩) (by assumption) ?_) | (refine wpAnyH_take (i := 12) (v := ?_) rfl (by kernel_rfl) (by kernel_rfl) (by kernel_rfl) (fun _ _ _ h => h) (Or.inl ⟨by rfl, ?_⟩) (by assumption) ?_; rotate_left; (focus (intro w hSw; (try dsimp only at hSw); go_simp; try with_reducible rfl)))
            try simp only [Act.put, List.getElem_toArray, List.getElem_cons_zero, List.getElem_cons_succ, List.setIfInBounds_toArray, List.set_cons_zero, List.set_cons_succ]
            first | (refine wpAnyH_take (i := 13) rfl (by kernel_rfl) (by kernel_rfl) (by kernel_rfl) (fun _ _ _ h => h) (Or.inr ⟨by rfl, rfl⟩) (by assumption) ?_) | (refine wpAnyH_take (i := 13) (v := ?_) rfl (by kernel_rfl) (by kernel_rfl) (by kernel_rfl) (fun _ _ _ h => h) (Or.inl ⟨by rfl, ?_⟩) (by assumption) ?_; rotate_left; (focus (intro w hSw; (try dsimp only at hSw); go_simp; try with_reducible rfl)))
            try simp only [Act.put, List.getElem_toArray, List.getElem_cons_zero, List.getElem_cons_succ, List.setIfInBounds_toArray, List.set_cons_zero, List.set_cons_succ]
            first | (refine wpAnyH_take (i := 14) rfl (by kernel_rfl) (by kernel_rfl) (by kernel_rfl) (fun _ _ _ h => h) (Or.inr ⟨by rfl, rfl⟩) (by assumption) ?_) | (refine wpAnyH_take (i := 14) (v := ?_) rfl (by kernel_rfl) (by kernel_rfl) (by kernel_rfl) (fun _ _ _ h => h) (Or.inl ⟨by rfl, ?_⟩) (by assumption) ?_; rotate_left; (focus (intro w hSw; (try dsimp only at hSw); go_simp; try with_reducible rfl)))
            try simp only [Act.put, List.getElem_toArray, List.getElem_cons_zero, List.getElem_cons_succ, List.setIfInBounds_toArray, List.set_cons_zero, List.set_cons_succ]
            first | (refine wpAnyH_take (i := 15) rfl (by kernel_rfl) (by kernel_rfl) (by kernel_rfl) (fun _ _ _ h => h) (Or.inr ⟨by rfl, rfl⟩) (by assumption) ?_) | (refine wpAnyH_take (i := 15) (v := ?_) rfl (by kernel_rfl) (by kernel_rfl) (by kernel_rfl) (fun _ _ _ h => h) (Or.inl ⟨by rfl, ?_⟩) (by assumption) ?_; rotate_left; (focus (intro w hSw; (try dsimp only at hSw); go_simp; try with_reducible rfl)))
            try simp only [Act.put, List.getElem_toArray, List.getElem_cons_zero, List.getElem_cons_succ, List.setIfInBounds_toArray, List.set_cons_zero, List.set_cons_succ]
            first | (refine wpAnyH_take (i := 16) rfl (by kernel_rfl) (by kernel_rfl) (by kernel_rfl) (fun _ _ _ h => h) (Or.inr ⟨by rfl, rfl⟩) (by assumption) ?_) | (refine wpAnyH_take (i := 16) (v := ?_) rfl (by kernel_rfl) (by kernel_rfl) (by kernel_rfl) (fun _ _ _ h => h) (Or.inl ⟨by rfl, ?_⟩) (by assumption) ?_; rotate_left; (focus (intro w hSw; (try dsimp only at hSw); go_simp; try with_reducible rfl)))
            try simp only [Act.put, List.getElem_toArray, List.getElem_cons_zero, List.getElem_cons_succ, List.setIfInBounds_toArray, List.set_cons_zero, List.set_cons_succ]
            first | (refine wpAnyH_take (i := 17) rfl (by kernel_rfl) (by kernel_rfl) (by kernel_rfl) (fun _ _ _ h => h) (Or.inr ⟨by rfl, rfl⟩) (by assumption) ?_) | (refine wpAnyH_take (i := 17) (v := ?_) rfl (by kernel_rfl) (by kernel_rfl) (by kernel_rfl) (fun _ _ _ h => h) (Or.inl ⟨by rfl, ?_⟩) (by assumption) ?_; rotate_left; (focus (intro w hSw; (try dsimp only at hSw); go_simp; try with_reducible rfl)))
            try simp only [Act.put, List.getElem_toArray, List.getElem_cons_zero, List.getElem_cons_succ, List.setIfInBounds_toArray, List.set_cons_zero, List.set_cons_succ]
            first | (refine wpAnyH_take (i := 18) rfl (by kernel_rfl) (by kernel_rfl) (by kernel_rfl) (fun _ _ _ h => h) (Or.inr ⟨by rfl, rfl⟩) (by assumption) ?_) | (refine wpAnyH_take (i := 18) (v := ?_) rfl (by kernel_rfl) (by kernel_rfl) (by kernel_rfl) (fun _ _ _ h => h) (Or.inl ⟨by rfl, ?_⟩) (by assumption) ?_; rotate_left; (focus (intro w hSw; (try dsimp only at hSw); go_simp; try with_reducible rfl)))
            try simp only [Act.put, List.getElem_toArray, List.getElem_cons_zero, List.getElem_cons_succ, List.setIfInBounds_toArray, List.set_cons_zero, List.set_cons_succ]
            refine wpAnyH_take (i := 19) (v := ?_) rfl (by kernel_rfl) (by kernel_rfl) (by kernel_rfl) (fun _ _ _ h => h) (Or.inl ⟨by rfl, ?_⟩) (by assumption) ?_; rotate_left; (focus (intro w hSw; (try dsimp only at hSw); go_simp; try with_reducible rfl))
            try simp only [Act.put, List.getElem_toArray, List.getElem_cons_zero, List.getElem_cons_succ, List.setIfInBounds_toArray, List.set_cons_zero, List.set_cons_succ]
            refine wpAnyH_take (i := 20) (v := ?_) rfl (by kernel_rfl) (by kernel_rfl) (by kernel_rfl) (fun _ _ _ h => h) (Or.inl ⟨by rfl, ?_⟩) (by assumption) ?_; rotate_left; (focus (intro w hSw; (try dsimp only at hSw); go_simp; try with_reducible rfl))
            try simp only [Act.put, List.getElem_toArray, List.getElem_cons_zero, List.getElem_cons_succ, List.setIfInBounds_toArray, List.set_cons_zero, List.set_cons_succ]
            first | (refine wpAnyH_take (i := 21) rfl (by kernel_rfl) (by kernel_rfl) (by kernel_rfl) (fun _ _ _ h => h) (Or.inr ⟨by rfl, rfl⟩) (by assumption) ?_) | (refine wpAnyH_take (i := 21) (v := ?_) rfl (by kernel_rfl) (by kernel_rfl) (by kernel_rfl) (fun _ _ _ h => h) (Or.inl ⟨by rfl, ?_⟩) (by assumption) ?_; rotate_left; (focus (intro w hSw; (try dsimp only at hSw); go_simp; try with_reducible rfl)))
            try simp only [Act.put, List.getElem_toArray, List.getElem_cons_zero, List.getElem_cons_succ, List.setIfInBounds_toArray, List.set_cons_zero, List.set_cons_succ]
            first | (refine wpAnyH_take (i := 22) rfl (by kernel_rfl) (by kernel_rfl) (by kernel_rfl) (fun _ _ _ h => h) (Or.inr ⟨by rfl, rfl⟩) (by assumption) ?_) | (refine wpAnyH_take (i := 22) (v := ?_) rfl (by kernel_rfl) (by kernel_rfl) (by kernel_rfl) (fun _ _ _ h => h) (Or.inl ⟨by rfl, ?_⟩) (by assumption) ?_; rotate_left; (focus (intro w hSw; (try dsimp only at hSw); go_simp; try with_reducible rfl)))
            try simp only [Act.put, List.getElem_toArray, List.getElem_cons_zero, List.getElem_cons_succ, List.setIfInBounds_toArray, List.set_cons_zero, List.set_cons_succ]
            first | (refine wpAnyH_take (i := 23) rfl (by kernel_rfl) (by kernel_rfl) (by kernel_rfl) (fun _ _ _ h => h) (Or.inr ⟨by rfl, rfl⟩) (by assumption) ?_) | (refine wpAnyH_take (i := 23) (v := ?_) rfl (by kernel_rfl) (by kernel_rfl) (by kernel_rfl) (fun _ _ _ h => h) (Or.inl ⟨by rfl, ?_⟩) (by assumption) ?_; rotate_left; (focus (intro w hSw; (try dsimp only at hSw); go_simp; try with_reducible rfl)))
            try simp only [Act.put, List.getElem_toArray, List.getElem_cons_zero, List.getElem_cons_succ, List.setIfInBounds_toArray, List.set_cons_zero, List.set_cons_succ]
            first | (refine wpAnyH_take (i := 24) rfl (by kernel_rfl) (by kernel_rfl) (by kernel_rfl) (fun _ _ _ h => h) (Or.inr ⟨by rfl, rfl⟩) (by assumption) ?_) | (refine wpAnyH_take (i := 24) (v := ?_) rfl (by kernel_rfl) (by kernel_rfl) (by kernel_rfl) (fun _ _ _ h => h) (Or.inl ⟨by rfl, ?_⟩) (by assumption) ?_; rotate_left; (focus (intro w hSw; (try dsimp only at hSw); go_simp; try with_reducible rfl)))
            try simp only [Act.put, List.getElem_toArray, List.getElem_cons_zero, List.getElem_cons_succ, List.setIfInBounds_toArray, List.set_cons_zero, List.set_cons_succ]
            first | (refine wpAnyH_take (i := 25) rfl (by kernel_rfl) (by kernel_rfl) (by kernel_rfl) (fun _ _ _ h => h) (Or.inr ⟨by rfl, rfl⟩) (by assumption) ?_) | (refine wpAnyH_take (i := 25) (v := ?_) rfl (by kernel_rfl) (by kernel_rfl) (by kernel_rfl) (fun _ _ _ h => h) (Or.inl ⟨by rfl, ?_⟩) (by assumption) ?_; rotate_left; (focus (intro w hSw; (try dsimp only at hSw); go_simp; try with_reducible rfl)))
            try simp only [Act.put, List.getElem_toArray, List.getElem_cons_zero, List.getElem_cons_succ, List.setIfInBounds_toArray, List.set_cons_zero, List.set_cons_succ]
            first | (refine wpAnyH_take (i := 26) rfl (by kernel_rfl) (by kernel_rfl) (by kernel_rfl) (fun _ _ _ h => h) (Or.inr ⟨by rfl, rfl⟩) (by assumption) ?_) | (refine wpAnyH_take (i := 26) (v := ?_) rfl (by kernel_rfl) (by kernel_rfl) (by kernel_rfl) (fun _ _ _ h => h) (Or.inl ⟨by rfl, ?_⟩) (by assumption) ?_; rotate_left; (focus (intro w hSw; (try dsimp only at hSw); go_simp; try with_reducible rfl)))
            try simp only [Act.put, List.getElem_toArray, List.getElem_cons_zero, List.getElem_cons_succ, List.setIfInBounds_toArray, List.set_cons_zero, List.set_cons_succ]
            first | (refine wpAnyH_take (i := 27) rfl (by kernel_rfl) (by kernel_rfl) (by kernel_rfl) (fun _ _ _ h => h) (Or.inr ⟨by rfl, rfl⟩) (by assumption) ?_) | (refine wpAnyH_take (i := 27) (v := ?_) rfl (by kernel_rfl) (by kernel_rfl) (by kernel_rfl) (fun _ _ _ h => h) (Or.inl ⟨by rfl, ?_⟩) (by assumption) ?_; rotate_left; (focus (intro w hSw; (try dsimp only at hSw); go_simp; try with_reducible rfl)))
            try simp only [Act.put, List.getElem_toArray, List.getElem_cons_zero, List.getElem_cons_succ, List.setIfInBounds_toArray, List.set_cons_zero, List.set_cons_succ]
            first | (refine wpAnyH_take (i := 28) rfl (by kernel_rfl) (by kernel_rfl) (by kernel_rfl) (fun _ _ _ h => h) (Or.inr ⟨by rfl, rfl⟩) (by assumption) ?_) | (refine wpAnyH_take (i := 28) (v := ?_) rfl (by kernel_rfl) (by kernel_rfl) (by kernel_rfl) (fun _ _ _ h => h) (Or.inl ⟨by rfl, ?_⟩) (by assumption) ?_; rotate_left; (focus (intro w hSw; (try dsimp only at hSw); go_simp; try with_reducible rfl)))
            try simp only [Act.put, List.getElem_toArray, List.getElem_cons_zero, List.getElem_cons_succ, List.setIfInBounds_toArray, List.set_cons_zero, List.set_cons_succ]
            refine wpAnyH_ready (rs := [29]) (by kernel_rfl) (by simp) ?_
            refine AllReadyH.cons rfl (fun K hK => ?_) AllReadyH.nil
            try simp only [List.getElem_toArray, List.getElem_cons_zero, List.getElem_cons_succ]
            go_simp
            (refine C.mono ?_; rintro e w2 ⟨rfl, rfl⟩)
            try go_wp2_with fail
            refine hK.out _ _ ?_ (fun hHeld => ?_)
            · exact ⟨t0, t4, b0⟩
            clear hK K
            try simp only [Act.put, List.getElem_toArray, List.getElem_cons_zero, List.getElem_cons_succ, List.setIfInBounds_toArray, List.set_cons_zero, List.set_cons_succ]
            refine wpAnyH_take (i := 30) (v := ?_) rfl (by kernel_rfl) (by kernel_rfl) (by kernel_rfl) (fun _ _ _ h => h) (Or.inl ⟨by rfl, ?_⟩) (by assumption) ?_; rotate_left; (focus (intro w hSw; (try dsimp only at hSw); go_simp; try with_reducible rfl))
            try simp only [Act.put, List.getElem_toArray, List.getElem_cons_zero, List.getElem_cons_succ, List.setIfInBounds_toArray, List.set_cons_zero, List.set_cons_succ]
            refine wpAnyH_done (by kernel_rfl) ?_ _
            have HO' := Lib.hid (HW.out.trans (HO.out.trans (Only0.refl wr).drew))
            go_wp2_with fail
            go_ret
            exact ⟨ret_bool R.out.symm, HO'.out⟩
          | false =>
            have R := Lib.hid (NO.out (by unfold rTakB; rw [← hii, hb]; simp))
            rw [hb] at C
            clear YES NO hii h2 h1 hb
            go_wp2_with fail
            refine wp_region_held_drew (S := (fun w' => w'.cell? ⟨m, 3 + i * 6, none⟩ = some (.int .i64 ii) ∧ w'.cell? ⟨m, 3 + i * 6 + 4, none⟩ = some (.slice (A.wa i) (s.s i).wrote.length (A.wc i)) ∧ w'.cell? ⟨n0, 0, none⟩ = some (.int .i64 id))) (by kernel_rfl) ?_ (fun hHeld => ?_)
            · exact ⟨t0, t4, b0⟩
            refine wpAnyH_take (i := 0) (v := ?_) rfl (by kernel_rfl) (by kernel_rfl) (by kernel_rfl) (fun _ _ _ h => h) (Or.inl ⟨by rfl, ?_⟩) (by assumption) ?_; rotate_left; (focus (intro w hSw; (try dsimp only at hSw); go_simp; try with_reducible rfl))
            try simp only [Act.put, List.getElem_toArray, List.getElem_cons_zero, List.getElem_cons_succ, List.setIfInBounds_toArray, List.set_cons_zero, List.set_cons_succ]
            refine wpAnyH_take (i := 1) (v := ?_) rfl (by kernel_rfl) (by kernel_rfl) (by kernel_rfl) (fun _ _ _ h => h) (Or.inl ⟨by rfl, ?_⟩) (by assumption) ?_; rotate_left; (focus (intro w hSw; (try dsimp only at hSw); go_simp; try with_reducible rfl))
            try simp only [Act.put, List.getElem_toArray, List.getElem_cons_zero, List.getElem_cons_succ, List.setIfInBounds_toArray, List.set_cons_zero, List.set_cons_succ]
            refine wpAnyH_take (i := 2) (v := ?_) rfl (by kernel_rfl) (by kernel_rfl) (by kernel_rfl) (fun _ _ _ h => h) (Or.inl ⟨by rfl, ?_⟩) (by assumption) ?_; rotate_left; (focus (intro w hSw; (try dsimp only at hSw); go_simp; try with_reducible rfl))
            try simp only [Act.put, List.getElem_toArray, List.getElem_cons_zero, List.getElem_cons_succ, List.setIfInBounds_toArray, List.set_cons_zero, List.set_cons_succ]
            refine wpAnyH_take (i := 3) (v := ?_) rfl (by kernel_rfl) (by kernel_rfl) (by kernel_rfl) (fun _ _ _ h => h) (Or.inl ⟨by rfl, ?_⟩) (by assumption) ?_; rotate_left; (focus (intro w hSw; (try dsimp only at hSw); go_simp; try with_reducible rfl))
            try simp only [Act.put, List.getElem_toArray, List.getElem_cons_zero, List.getElem_cons_succ, List.setIfInBounds_toArray, List.set_cons_zero, List.set_cons_succ]
            refine wpAnyH_take (i := 4) (v := ?_) rfl (by kernel_rfl) (by kernel_rfl) (by kernel_rfl) (fun _ _ _ h => h) (Or.inl ⟨by rfl, ?_⟩) (by assumption) ?_; rotate_left; (focus (intro w hSw; (try dsimp only at hSw); go_simp; try with_reducible rfl))
            try simp only [Act.put, List.getElem_toArray, List.getElem_cons_zero, List.getElem_cons_succ, List.setIfInBounds_toArray, List.set_cons_zero, List.set_cons_succ]
            refine wpAnyH_take (i := 5) (v := ?_) rfl (by kernel_rfl) (by kernel_rfl) (by kernel_rfl) (fun _ _ _ h => h) (Or.inl ⟨by rfl, ?_⟩) (by assumption) ?_; rotate_left; (focus (intro w hSw; (try dsimp only at hSw); go_simp; try with_reducible rfl))
            try simp only [Act.put, List.getElem_toArray, List.getElem_cons_zero, List.getElem_cons_succ, List.setIfInBounds_toArray, List.set_cons_zero, List.set_cons_succ]
            refine wpAnyH_take (i := 6) (v := ?_) rfl (by kernel_rfl) (by kernel_rfl) (by kernel_rfl) (fun _ _ _ h => h) (Or.inl ⟨by rfl, ?_⟩) (by assumption) ?_; rotate_left; (focus (intro w hSw; (try dsimp only at hSw); go_simp; try with_reducible rfl))
            try simp only [Act.put, List.getElem_toArray, List.getElem_cons_zero, List.getElem_cons_succ, List.setIfInBounds_toArray, List.set_cons_zero, List.set_cons_succ]
            refine wpAnyH_take (i := 7) (v := ?_) rfl (by kernel_rfl) (by kernel_rfl) (by kernel_rfl) (fun _ _ _ h => h) (Or.inl ⟨by rfl, ?_⟩) (by assumption) ?_; rotate_left; (focus (intro w hSw; (try dsimp only at hSw); go_simp; try with_reducible rfl))
            try simp only [Act.put, List.getElem_toArray, List.getElem_cons_zero, List.getElem_cons_succ, List.setIfInBounds_toArray, List.set_cons_zero, List.set_cons_succ]
            refine wpAnyH_take (i := 8) (v := ?_) rfl (by kernel_rfl) (by kernel_rfl) (by kernel_rfl) (fun _ _ _ h => h) (Or.inl ⟨by rfl, ?_⟩) (by assumption) ?_; rotate_left; (focus (intro w hSw; (try dsimp only at hSw); go_simp; try with_reducible rfl))
            try simp only [Act.put, List.getElem_toArray, List.getElem_cons_zero, List.getElem_cons_succ, List.setIfInBounds_toArray, List.set_cons_zero, List.set_cons_succ]
            first | (refine wpAnyH_take (i := 9) rfl (by kernel_rfl) (by kernel_rfl) (by kernel_rfl) (fun _ _ _ h => h) (Or.inr ⟨by rfl, rfl⟩) (by assumption) ?_) | (refine wpAnyH_take (i := 9) (v := ?_) rfl (by kernel_rfl) (by kernel_rfl) (by kernel_rfl) (fun _ _ _ h => h) (Or.inl ⟨by rfl, ?_⟩) (by assumption) ?_; rotate_left; (focus (intro w hSw; (try dsimp only at hSw); go_simp; try with_reducible rfl)))
            try simp only [Act.put, List.getElem_toArray, List.getElem_cons_zero, List.getElem_cons_succ, List.setIfInBounds_toArray, List.set_cons_zero, List.set_cons_succ]
            first | (refine wpAnyH_take (i := 10) rfl (by kernel_rfl) (by kernel_rfl) (by kernel_rfl) (fun _ _ _ h => h) (Or.inr ⟨by rfl, rfl⟩) (by assumption) ?_) | (refine wpAnyH_take (i := 10) (v := ?_) rfl (by kernel_rfl) (by kernel_rfl) (by kernel_rfl) (fun _ _ _ h => h) (Or.inl ⟨by rfl, ?_⟩) (by assumption) ?_; rotate_left; (focus (intro w hSw; (try dsimp only at hSw); go_simp; try with_reducible rfl)))
            try simp only [Act.put, List.getElem_toArray, List.getElem_cons_zero, List.getElem_cons_succ, List.setIfInBounds_toArray, List.set_cons_zero, List.set_cons_succ]
            first | (refine wpAnyH_take (i := 11) rfl (by kernel_rfl) (by kernel_rfl) (by kernel_rfl) (fun _ _ _ h => h) (Or.inr ⟨by rfl, rfl⟩) (by assumption) ?_) | (refine wpAnyH_take (i := 11) (v := ?_) rfl (by kernel_rfl) (by kernel_rfl) (by kernel_rfl) (fun _ _ _ h => h) (Or.inl ⟨by rfl, ?_⟩) (by assumption) ?_; rotate_left; (focus (intro w hSw; (try dsimp only at hSw); go_simp; try with_reducible rfl)))
            try simp only [Act.put, List.getElem_toArray, List.getElem_cons_zero, List.getElem_cons_succ, List.setIfInBounds_toArray, List.set_cons_zero, List.set_cons_succ]
            first | (refine wpAnyH_take (i := 12) rfl (by kernel_rfl) (by kernel_rfl) (by kernel_rfl) (fun _ _ _ h => h) (Or.inr ⟨by rfl, rfl⟩) (by assumption) ?_) | (refine wpAnyH_take (i := 12) (v := ?_) rfl (by kernel_rfl) (by kernel_rfl) (by kernel_rfl) (fun _ _ _ h => h) (Or.inl ⟨by rfl, ?_⟩) (by assumption) ?_; rotate_left; (focus (intro w hSw; (try dsimp only at hSw); go_simp; try with_reducible rfl)))
            try simp only [Act.put, List.getElem_toArray, List.getElem_cons_zero, List.getElem_cons_succ, List.setIfInBounds_toArray, List.set_cons_zero, List.set_cons_succ]
            first | (refine wpAnyH_take (i := 13) rfl (by kernel_rfl) (by kernel_rfl) (by kernel_rfl) (fun _ _ _ h => h) (Or.inr ⟨by rfl, rfl⟩) (by assumption) ?_) | (refine wpAnyH_take (i := 13) (v := ?_) rfl (by kernel_rfl) (by kernel_rfl) (by kernel_rfl) (fun _ _ _ h => h) (Or.inl ⟨by rfl, ?_⟩) (by assumption) ?_; rotate_left; (focus (intro w hSw; (try dsimp only at hSw); go_simp; try with_reducible rfl)))
            try simp only [Act.put, List.getElem_toArray, List.getElem_cons_zero, List.getElem_cons_succ, List.setIfInBounds_toArray, List.set_cons_zero, List.set_cons_succ]
            first | (refine wpAnyH_take (i := 14) rfl (by kernel_rfl) (by kernel_rfl) (by kernel_rfl) (fun _ _ _ h => h) (Or.inr ⟨by rfl, rfl⟩) (by assumption) ?_) | (refine wpAnyH_take (i := 14) (v := ?_) rfl (by kernel_rfl) (by kernel_rfl) (by kernel_rfl) (fun _ _ _ h => h) (Or.inl ⟨by rfl, ?_⟩) (by assumption) ?_; rotate_left; (focus (intro w hSw; (try dsimp only at hSw); go_simp; try with_reducible rfl)))
            try simp only [Act.put, List.getElem_toArray, List.getElem_cons_zero, List.getElem_cons_succ, List.setIfInBounds_toArray, List.set_cons_zero, List.set_cons_succ]
            first | (refine wpAnyH_take (i := 15) rfl (by kernel_rfl) (by kernel_rfl) (by kernel_rfl) (fun _ _ _ h => h) (Or.inr ⟨by rfl, rfl⟩) (by assumption) ?_) | (refine wpAnyH_take (i := 15) (v := ?_) rfl (by kernel_rfl) (by kernel_rfl) (by kernel_rfl) (fun _ _ _ h => h) (Or.inl ⟨by rfl, ?_⟩) (by assumption) ?_; rotate_left; (focus (intro w hSw; (try dsimp only at hSw); go_simp; try with_reducible rfl)))
            try simp only [Act.put, List.getElem_toArray, List.getElem_cons_zero, List.getElem_cons_succ, List.setIfInBounds_toArray, List.set_cons_zero, List.set_cons_succ]
            first | (refine wpAnyH_take (i := 16) rfl (by kernel_rfl) (by kernel_rfl) (by kernel_rfl) (fun _ _ _ h => h) (Or.inr ⟨by rfl, rfl⟩) (by assumption) ?_) | (refine wpAnyH_take (i := 16) (v := ?_) rfl (by kernel_rfl) (by kernel_rfl) (by kernel_rfl) (fun _ _ _ h => h) (Or.inl ⟨by rfl, ?_⟩) (by assumption) ?_; rotate_left; (focus (intro w hSw; (try dsimp only at hSw); go_simp; try with_reducible rfl)))
            try simp only [Act.put, List.getElem_toArray, List.getElem_cons_zero, List.getElem_cons_succ, List.setIfInBounds_toArray, List.set_cons_zero, List.set_cons_succ]
            first | (refine wpAnyH_take (i := 17) rfl (by kernel_rfl) (by kernel_rfl) (by kernel_rfl) (fun _ _ _ h => h) (Or.inr ⟨by rfl, rfl⟩) (by assumption) ?_) | (refine wpAnyH_take (i := 17) (v := ?_) rfl (by kernel_rfl) (by kernel_rfl) (by kernel_rfl) (fun _ _ _ h => h) (Or.inl ⟨by rfl, ?_⟩) (by assumption) ?_; rotate_left; (focus (intro w hSw; (try dsimp only at hSw); go_simp; try with_reducible rfl)))
            try simp only [Act.put, List.getElem_toArray, List.getElem_cons_zero, List.getElem_cons_succ, List.setIfInBounds_toArray, List.set_cons_zero, List.set_cons_succ]
            first | (refine wpAnyH_take (i := 18) rfl (by kernel_rfl) (by kernel_rfl) (by kernel_rfl) (fun _ _ _ h => h) (Or.inr ⟨by rfl, rfl⟩) (by assumption) ?_) | (refine wpAnyH_take (i := 18) (v := ?_) rfl (by kernel_rfl) (by kernel_rfl) (by kernel_rfl) (fun _ _ _ h => h) (Or.inl ⟨by rfl, ?_⟩) (by assumption) ?_; rotate_left; (focus (intro w hSw; (try dsimp only at hSw); go_simp; try with_reducible rfl)))
            try simp only [Act.put, List.getElem_toArray, List.getElem_cons_zero, List.getElem_cons_succ, List.setIfInBounds_toArray, List.set_cons_zero, List.set_cons_succ]
            refine wpAnyH_take (i := 19) (v := ?_) rfl (by kernel_rfl) (by kernel_rfl) (by kernel_rfl) (fun _ _ _ h => h) (Or.inl ⟨by rfl, ?_⟩) (by assumption) ?_; rotate_left; (focus (intro w hSw; (try dsimp only at hSw); go_simp; try with_reducible rfl))
            try simp only [Act.put, List.getElem_toArray, List.getElem_cons_zero, List.getElem_cons_succ, List.setIfInBounds_toArray, List.set_cons_zero, List.set_cons_succ]
            refine wpAnyH_take (i := 20) (v := ?_) rfl (by kernel_rfl) (by kernel_rfl) (by kernel_rfl) (fun _ _ _ h => h) (Or.inl ⟨by rfl, ?_⟩) (by assumption) ?_; rotate_left; (focus (intro w hSw; (try dsimp only at hSw); go_simp; try with_reducible rfl))
            try simp only [Act.put, List.getElem_toArray, List.getElem_cons_zero, List.getElem_cons_succ, List.setIfInBounds_toArray, List.set_cons_zero, List.set_cons_succ]
            first | (refine wpAnyH_take (i := 21) rfl (by kernel_rfl) (by kernel_rfl) (by kernel_rfl) (fun _ _ _ h => h) (Or.inr ⟨by rfl, rfl⟩) (by assumption) ?_) | (refine wpAnyH_take (i := 21) (v := ?_) rfl (by kernel_rfl) (by kernel_rfl) (by kernel_rfl) (fun _ _ _ h => h) (Or.inl ⟨by rfl, ?_⟩) (by assumption) ?_; rotate_left; (focus (intro w hSw; (try dsimp only at hSw); go_simp; try with_reducible rfl)))
            try simp only [Act.put, List.getElem_toArray, List.getElem_cons_zero, List.getElem_cons_succ, List.setIfInBounds_toArray, List.set_cons_zero, List.set_cons_succ]
            first | (refine wpAnyH_take (i := 22) rfl (by kernel_rfl) (by kernel_rfl) (by kernel_rfl) (fun _ _ _ h => h) (Or.inr ⟨by rfl, rfl⟩) (by assumption) ?_) | (refine wpAnyH_take (i := 22) (v := ?_) rfl (by kernel_rfl) (by kernel_rfl) (by kernel_rfl) (fun _ _ _ h => h) (Or.inl ⟨by rfl, ?_⟩) (by assumption) ?_; rotate_left; (focus (intro w hSw; (try dsimp only at hSw); go_simp; try with_reducible rfl)))
            try simp only [Act.put, List.getElem_toArray, List.getElem_cons_zero, List.getElem_cons_succ, List.setIfInBounds_toArray, List.set_cons_zero, List.set_cons_succ]
            first | (refine wpAnyH_take (i := 23) rfl (by kernel_rfl) (by kernel_rfl) (by kernel_rfl) (fun _ _ _ h => h) (Or.inr ⟨by rfl, rfl⟩) (by assumption) ?_) | (refine wpAnyH_take (i := 23) (v := ?_) rfl (by kernel_rfl) (by kernel_rfl) (by kernel_rfl) (fun _ _ _ h => h) (Or.inl ⟨by rfl, ?_⟩) (by assumption) ?_; rotate_left; (focus (intro w hSw; (try dsimp only at hSw); go_simp; try with_reducible rfl)))
            try simp only [Act.put, List.getElem_toArray, List.getElem_cons_zero, List.getElem_cons_succ, List.setIfInBounds_toArray, List.set_cons_zero, List.set_cons_succ]
            first | (refine wpAnyH_take (i := 24) rfl (by kernel_rfl) (by kernel_rfl) (by kernel_rfl) (fun _ _ _ h => h) (Or.inr ⟨by rfl, rfl⟩) (by assumption) ?_) | (refine wpAnyH_take (i := 24) (v := ?_) rfl (by kernel_rfl) (by kernel_rfl) (by kernel_rfl) (fun _ _ _ h => h) (Or.inl ⟨by rfl, ?_⟩) (by assumption) ?_; rotate_left; (focus (intro w hSw; (try dsimp only at hSw); go_simp; try with_reducible rfl)))
            try simp only [Act.put, List.getElem_toArray, List.getElem_cons_zero, List.getElem_cons_succ, List.setIfInBounds_toArray, List.set_cons_zero, List.set_cons_succ]
            first | (refine wpAnyH_take (i := 25) rfl (by kernel_rfl) (by kernel_rfl) (by kernel_rfl) (fun _ _ _ h => h) (Or.inr ⟨by rfl, rfl⟩) (by assumption) ?_) | (refine wpAnyH_take (i := 25) (v := ?_) rfl (by kernel_rfl) (by kernel_rfl) (by kernel_rfl) (fun _ _ _ h => h) (Or.inl ⟨by rfl, ?_⟩) (by assumption) ?_; rotate_left; (focus (intro w hSw; (try dsimp only at hSw); go_simp; try with_reducible rfl)))
            try simp only [Act.put, List.getElem_toArray, List.getElem_cons_zero, List.getElem_cons_succ, List.setIfInBounds_toArray, List.set_cons_zero, List.set_cons_succ]
            first | (refine wpAnyH_take (i := 26) rfl (by kernel_rfl) (by kernel_rfl) (by kernel_rfl) (fun _ _ _ h => h) (Or.inr ⟨by rfl, rfl⟩) (by assumption) ?_) | (refine wpAnyH_take (i := 26) (v := ?_) rfl (by kernel_rfl) (by kernel_rfl) (by kernel_rfl) (fun _ _ _ h => h) (Or.inl ⟨by rfl, ?_⟩) (by assumption) ?_; rotate_left; (focus (intro w hSw; (try dsimp only at hSw); go_simp; try with_reducible rfl)))
            try simp only [Act.put, List.getElem_toArray, List.getElem_cons_zero, List.getElem_cons_succ, List.setIfInBounds_toArray, List.set_cons_zero, List.set_cons_succ]
            first | (refine wpAnyH_take (i := 27) rfl (by kernel_rfl) (by kernel_rfl) (by kernel_rfl) (fun _ _ _ h => h) (Or.inr ⟨by rfl, rfl⟩) (by assumption) ?_) | (refine wpAnyH_take (i := 27) (v := ?_) rfl (by kernel_rfl) (by kernel_rfl) (by kernel_rfl) (fun _ _ _ h => h) (Or.inl ⟨by rfl, ?_⟩) (by assumption) ?_; rotate_left; (focus (intro w hSw; (try dsimp only at hSw); go_simp; try with_reducible rfl)))
            try simp only [Act.put, List.getElem_toArray, List.getElem_cons_zero, List.getElem_cons_succ, List.setIfInBounds_toArray, List.set_cons_zero, List.set_cons_succ]
            first | (refine wpAnyH_take (i := 28) rfl (by kernel_rfl) (by kernel_rfl) (by kernel_rfl) (fun _ _ _ h => h) (Or.inr ⟨by rfl, rfl⟩) (by assumption) ?_) | (refine wpAnyH_take (i := 28) (v := ?_) rfl (by kernel_rfl) (by kernel_rfl) (by kernel_rfl) (fun _ _ _ h => h) (Or.inl ⟨by rfl, ?_⟩) (by assumption) ?_; rotate_left; (focus (intro w hSw; (try dsimp only at hSw); go_simp; try with_reducible rfl)))
            try simp only [Act.put, List.getElem_toArray, List.getElem_cons_zero, List.getElem_cons_succ, List.setIfInBounds_toArray, List.set_cons_zero, List.set_cons_succ]
            refine wpAnyH_ready (rs := [29]) (by kernel_rfl) (by simp) ?_
            refine AllReadyH.cons rfl (fun K hK => ?_) AllReadyH.nil
            try simp only [List.getElem_toArray, List.getElem_cons_zero, List.getElem_cons_succ]
            go_simp
            (refine C.mono ?_; rintro e w2 ⟨rfl, rfl⟩)
            try go_wp2_with fail
            refine hK.out _ _ ?_ (fun hHeld => ?_)
            · exact ⟨t0, t4, b0⟩
            clear hK K
            try simp only [Act.put, List.getElem_toArray, List.getElem_cons_zero, List.getElem_cons_succ, List.setIfInBounds_toArray, List.set_cons_zero, List.set_cons_succ]
            refine wpAnyH_take (i := 30) (v := ?_) rfl (by kernel_rfl) (by kernel_rfl) (by kernel_rfl) (fun _ _ _ h => h) (Or.inl ⟨by rfl, ?_⟩) (by assumption) ?_; rotate_left; (focus (intro w hSw; (try dsimp only at hSw); go_simp; try with_reducible rfl))
            try simp only [Act.put, List.getElem_toArray, List.getElem_cons_zero, List.getElem_cons_succ, List.setIfInBounds_toArray, List.set_cons_zero, List.set_cons_succ]
            refine wpAnyH_done (by kernel_rfl) ?_ _
            have HO' := Lib.hid (HO.out.trans (Only0.refl wr).drew)
            go_wp2_with fail
            go_roundw
            case rel => exact ⟨i + 1, by omega, by go_num, HO', R⟩
            case measure => simp [intOf] <;> omega
    · obtain rfl : i = 8 := by omega
      have R : Hid (s.taken id beg key = s.later key beg) := HT.out.trans (by
        rw [show (List.range 8).any (rTakB s id key) = false from List.any_eq_false.2 (fun q hq => by rw [HN.out q (by simpa using hq)]; decide)]; rfl)
      have C := ref_later M1 key beg
      have HO' := Lib.hid (HW.out.trans HO.out)
      clear HN M1
      go_wp2_with fail
      refine C.mono ?_
      rintro e w2 ⟨rfl, o2⟩
      have HO2 := Lib.hid (HO'.out.trans o2)
      clear o2
      go_wp2_with fail
      go_ret
      exact ⟨ret_bool R.out.symm, HO2.out⟩
structure RwI (B : Nat) (w : World) (P0 : Nat → Prop) (m n0 ob : Nat) (oc : Array Value) (s : RSt) (P : Nat → Prop) (A : RAd) (wr : World) : Prop where
  mod : RIn B wr P m s A
  box : Blk wr n0 27 #[.int .i64 0, .int .i64 0, .slice none 0 0, .int .i64 0, .int .i64 0]
  op : Blk wr ob 31 oc
  only : Only P0 w wr
  grew : Grew w.heap.size P0 P
  nn : ¬ P n0
  no : ¬ P ob
  hn : w.heap.size ≤ n0
theorem RwI.only0 {B : Nat} {w : World} {P0 : Nat → Prop} {m n0 ob : Nat} {oc : Array Value} {s : RSt} {P : Nat → Prop} {A : RAd} {wr wr' : World} (h : RwI B w P0 m n0 ob oc s P A wr) (o : Only0 wr wr') : RwI B w P0 m n0 ob oc s P A wr' :=
  ⟨h.mod.only0 o, o.blk h.box (fun h => h), o.blk h.op (fun h => h), h.only.trans (o.any P0), h.grew, h.nn, h.no, h.hn⟩
theorem RwI.step {B : Nat} {w : World} {P0 : Nat → Prop} {m n0 ob : Nat} {oc : Array Value} {s s' : RSt} {P P' : Nat → Prop} {A A' : RAd} {wr wr' : World} (h : RwI B w P0 m n0 ob oc s P A wr) (M : RIn B wr' P' m s' A') (o : Only P wr wr') (g : Grew wr.heap.size P P') : RwI B w P0 m n0 ob oc s' P' A' wr' :=
  ⟨M, o.blk h.box h.nn, o.blk h.op h.no, h.only.grewTrans h.grew o, h.grew.trans g h.only.size, fun hp => by
    rcases g _ hp with h1 | h1
    · exact h.nn h1
    · have := h.box.lt; omega, fun hp => by
    rcases g _ hp with h1 | h1
    · exact h.no h1
    · have := h.op.lt; omega, h.hn⟩
theorem RwI.app {B : Nat} {w : World} {P0 : Nat → Prop} {m n0 ob gg : Nat} {oc : Array Value} {s s' : RSt} {P : Nat → Prop} {A A' : RAd} {wr W6 W7 : World} {v : Value} (h : RwI B w P0 m n0 ob oc s P A wr) (o6 : Only0 wr W6) (hv : ∀ b, rowOf v b → P b) (hat : v.ownBlock = some gg ∨ W6.heap.size ≤ gg)
    (M : RIn B W7 (fun b => P b ∨ b = gg) m s' A') (O : Only (fun b => b = m ∨ rowOf v b) W6 W7) : RwI B w P0 m n0 ob oc s' (fun b => P b ∨ b = gg) A' W7 := by
  refine h.step M ((o6.any P).trans (O.toward (fun b hb => ?_))) (fun b hb => ?_)
  · rcases hb with rfl | hb
    · exact h.mod.pm
    · exact hv b hb
  · rcases hb with hb | rfl
    · exact .inl hb
    · rcases hat with h1 | h1
      · exact .inl (hv b h1)
      · exact .inr (by have := o6.size; omega)
end Go.Proofs.Ytcbhafddehipdaa
namespace Go.Proofs.Ytcbhafddehipdaa
open Go.RowKit
set_option linter.unusedVariables false
set_option linter.unusedSimpArgs false
set_option maxRecDepth 100000 in
theorem info_read : (Try.prog.info? 110).map (fun i => (i.zero, i.size, i.bytes)) = some (some (.agg #[.int .i64 0, .int .i64 0, .bool false, .bool false]), 4, 24) := by kernel_rfl
set_option maxRecDepth 100000 in
theorem info_int : (Try.prog.info? 3).map (fun i => (i.zero, i.size, i.bytes)) = some (some (.int .i64 0), 1, 8) := by kernel_rfl
set_option maxRecDepth 100000 in
theorem info_rver : (Try.prog.info? 112).map (fun i => (i.zero, i.size, i.bytes)) = some (some (.agg #[.int .i64 0, .int .i64 0, .int .i64 0, .int .i64 0, .int .u64 0, .int .u64 0, .bool false]), 7, 56) := by kernel_rfl
/-- The result is laid, and handed back. -/
theorem put1_v (s : RSt) (j : Nat) (key : Int) : (s.put1 j key).v = s.v ∧ (s.put1 j key).slots = s.slots ∧ ((s.put1 j key).s j).id = (s.s j).id := by
  unfold RSt.put1
  split
  · exact ⟨rfl, rfl, rfl⟩
  · refine ⟨rfl, rfl, ?_⟩
    rw [show (s.setS j ((s.s j).write key)).s j = (s.s j).write key from upd_same _ _ _]
    rfl
theorem RwI.done {B : Nat} {w : World} {P0 : Nat → Prop} {m n0 ob : Nat} {oc : Array Value} {s : RSt} {P : Nat → Prop} {A : RAd} {wr w9 : World} {v : Value} (h : RwI B w P0 m n0 ob oc s P A wr) (o9 : Only (fun c => c = n0) wr w9) : RRes B m w P0 v s (.returned v) w9 :=
  ⟨P, rfl, ⟨A, h.mod.only o9 (fun b hb e => by subst e; exact h.nn hb)⟩, h.only.grewTrans (P2 := fun b => P b ∨ b = n0) (fun b hb => by
    rcases hb with hb | rfl
    · exact h.grew b hb
    · exact .inr h.hn) (o9.toward (fun b hb => .inr hb)), h.grew⟩
theorem own_lt {s : RSt} {id key : Int} {i : Nat} (h : s.own id key = some i) : i < s.v.length := by
  obtain ⟨h, _⟩ := List.findIdx?_eq_some_iff_getElem.1 h
  exact h
theorem sees_lt {s : RSt} {id beg key : Int} {i : Nat} (h : s.sees id beg key = some i) : i < s.v.length := by
  unfold RSt.sees at h
  split at h
  · rename_i e
    injection h with h
    subst h
    exact (List.findIdx?_eq_some_iff_getElem.1 e).1
  · exact (List.findIdx?_eq_some_iff_getElem.1 h).1
theorem put3_two {s : RSt} {k : Nat} {id kind key x : Int} (hk : k < s.v.length) (h : ¬ kind = 4) : s.put3 (some k) id kind key x = (s.setV k (fun v => { v with ended := 0 })).setV k (fun v => { v with value := x }) := by
  unfold RSt.put3
  simp only [h, if_false]
  unfold RSt.setV
  simp only [List.set_set]
  rw [getD_set_same _ _ _ hk]
/-- One cell of one version is set. -/
theorem RwI.setV {B : Nat} {w : World} {P0 : Nat → Prop} {m n0 ob : Nat} {oc : Array Value} {s : RSt} {P : Nat → Prop} {A : RAd} {wr : World} (h : RwI B w P0 m n0 ob oc s P A wr) {k : Nat} (hk : k < s.v.length) (f : Nat) (hf : f < 7) (u : Value) (F : RVer → RVer) (hF : ∀ v, rvCell (F v) = (rvCell v).set f u) :
    ∃ g, A.va = some ⟨g, 0, none⟩ ∧ (∃ c, wr.cell? ⟨g, k * 7 + f, none⟩ = some c) ∧ (∀ i, wr.frozen? ⟨g, i, none⟩ = false) ∧ RwI B w P0 m n0 ob oc (s.setV k F) P A (wr.setCell ⟨g, k * 7 + f, none⟩ u) := by
  have MM := h.mod
  rcases MM.rowAt with ⟨_, e, _⟩ | ⟨g, hg, hp, hc⟩
  · omega
  · obtain ⟨M1, o1⟩ := MM.setVer hg hk hf (v' := F (s.v.getD k default)) (u := u) (hF _)
    refine ⟨g, hg, ?_, fun i => ?_, h.step M1 o1 (Grew.refl _ _)⟩
    · rw [hc k f hk hf]
      exact ⟨(rvCell (s.v.getD k default))[f]'(by simpa [rvCell] using hf), List.getElem?_eq_getElem _⟩
    · have hr := MM.row
      rw [hg] at hr
      exact hr.frozenAt i
end Go.Proofs.Ytcbhafddehipdaa
namespace Go.Proofs.Ytcbhafddehipdaa
open Go.RowKit
attribute [local go_sem ↓] Go.wp_at_zero Go.wp_at_succ
set_option linter.unusedVariables false
set_option linter.unusedSimpArgs false
/-- A block of the call's own. -/
structure OwnB where
  b : Nat
  t : TypeId
  cs : Array Value
/-- A call under way: the Model, and blocks of the call's own. -/
structure RcI (B : Nat) (w : World) (P0 : Nat → Prop) (m : Nat) (bs : List OwnB) (s : RSt) (P : Nat → Prop) (A : RAd) (wr : World) : Prop where
  mod : RIn B wr P m s A
  own : ∀ x ∈ bs, Blk wr x.b x.t x.cs ∧ ¬ P x.b ∧ w.heap.size ≤ x.b
  only : Only P0 w wr
  grew : Grew w.heap.size P0 P
theorem RcI.start {B m : Nat} {w : World} {P : Nat → Prop} {s : RSt} {A : RAd} (h : RIn B w P m s A) : RcI B w P m [] s P A w := ⟨h, fun x hx => (by cases hx), Only.refl _ _, Grew.refl _ _⟩
theorem RcI.only0 {B : Nat} {w : World} {P0 : Nat → Prop} {m : Nat} {bs : List OwnB} {s : RSt} {P : Nat → Prop} {A : RAd} {wr wr' : World} (h : RcI B w P0 m bs s P A wr) (o : Only0 wr wr') : RcI B w P0 m bs s P A wr' :=
  ⟨h.mod.only0 o, fun x hx => ⟨o.blk (h.own x hx).1 (fun h => h), (h.own x hx).2⟩, h.only.trans (o.any P0), h.grew⟩
theorem RcI.alloc {B : Nat} {w : World} {P0 : Nat → Prop} {m : Nat} {bs : List OwnB} {s : RSt} {P : Nat → Prop} {A : RAd} {wr : World} (h : RcI B w P0 m bs s P A wr) (t : TypeId) (cs : Array Value) : RcI B w P0 m (⟨wr.heap.size, t, cs⟩ :: bs) s P A (wr.alloc (.cells cs t)) := by
  have h' := h.only0 ((Only0.refl wr).alloc (.cells cs t))
  refine ⟨h'.mod, fun x hx => ?_, h'.only, h'.grew⟩
  rcases List.mem_cons.1 hx with rfl | hx
  · exact ⟨Blk.new _ _ _, fun hp => by have := h.mod.under _ hp; simp at this, h.only.size⟩
  · exact h'.own x hx
theorem RcI.step {B : Nat} {w : World} {P0 : Nat → Prop} {m : Nat} {bs : List OwnB} {s s' : RSt} {P P' : Nat → Prop} {A A' : RAd} {wr wr' : World} (h : RcI B w P0 m bs s P A wr) (M : RIn B wr' P' m s' A') (o : Only P wr wr') (g : Grew wr.heap.size P P') : RcI B w P0 m bs s' P' A' wr' :=
  ⟨M, fun x hx => ⟨o.blk (h.own x hx).1 (h.own x hx).2.1, fun hp => by
    rcases g _ hp with h1 | h1
    · exact (h.own x hx).2.1 h1
    · have := (h.own x hx).1.lt; omega, (h.own x hx).2.2⟩, h.only.grewTrans h.grew o, h.grew.trans g h.only.size⟩
theorem RcI.done {B : Nat} {w : World} {P0 : Nat → Prop} {m n0 : Nat} {bs : List OwnB} {s : RSt} {P : Nat → Prop} {A : RAd} {wr w9 : World} {v : Value} {t : TypeId} {cs : Array Value} (h : RcI B w P0 m bs s P A wr) (hm : ⟨n0, t, cs⟩ ∈ bs) (o9 : Only (fun c => c = n0) wr w9) : RRes B m w P0 v s (.returned v) w9 :=
  ⟨P, rfl, ⟨A, h.mod.only o9 (fun b hb e => by subst e; exact (h.own _ hm).2.1 hb)⟩, h.only.grewTrans (P2 := fun b => P b ∨ b = n0) (fun b hb => by
    rcases hb with hb | rfl
    · exact h.grew b hb
    · exact .inr (h.own _ hm).2.2) (o9.toward (fun b hb => .inr hb)), h.grew⟩
theorem RIn.tick {B m : Nat} {w : World} {P : Nat → Prop} {s : RSt} {A : RAd} (h : RIn B w P m s A) (hl : s.time < s.limit) : RIn B (w.setCell ⟨m, 51, none⟩ (.int .u64 (s.time + 1))) P m s.tick A ∧ Only P w (w.setCell ⟨m, 51, none⟩ (.int .u64 (s.time + 1))) := by
  have hb := h.mod.set 51 (.int .u64 (s.time + 1))
  have e : (rmCells A s).setIfInBounds 51 (.int .u64 (s.time + 1)) = rmCells A s.tick := by unfold rmCells; rw [List.setIfInBounds_toArray]; rfl
  rw [e] at hb
  have h0 := h.ok
  refine ⟨h.setMod (Only.set1 w m 51 _) hb ⟨rfl, rfl, rfl⟩ (fun j hj => .inl ⟨rfl, rfl, rfl, rfl, rfl, rfl⟩) ⟨h0.slots, h0.limit, by have := h0.time; show 0 ≤ s.time + 1 ∧ s.time + 1 ≤ s.limit; omega, h0.made, h0.few, h0.ops, h0.wrote, h0.reads, h0.span⟩, (Only.set1 w m 51 _).toward (fun b hb => by subst hb; exact h.pm)⟩
/-- Two cells of one version are set. -/
theorem RIn.setVer2 {B m g : Nat} {w : World} {P : Nat → Prop} {s : RSt} {A : RAd} (h : RIn B w P m s A) (hg : A.va = some ⟨g, 0, none⟩) {k f f2 : Nat} (hk : k < s.v.length) (hf : f < 7) (hf2 : f2 < 7) (v1 v2 : RVer) (u u2 : Value) (hv : rvCell v1 = (rvCell (s.v.getD k default)).set f u) (hv2 : rvCell v2 = (rvCell v1).set f2 u2) :
    RIn B ((w.setCell ⟨g, k * 7 + f, none⟩ u).setCell ⟨g, k * 7 + f2, none⟩ u2) P m { s with v := s.v.set k v2 } A ∧ Only P w ((w.setCell ⟨g, k * 7 + f, none⟩ u).setCell ⟨g, k * 7 + f2, none⟩ u2) := by
  obtain ⟨M1, o1⟩ := h.setVer hg hk hf hv
  obtain ⟨M2, o2⟩ := M1.setVer hg (k := k) (f := f2) (by simpa using hk) hf2 (v' := v2) (u := u2) (by
    rw [show ({ s with v := s.v.set k v1 } : RSt).v.getD k default = v1 from getD_set_same _ _ _ hk]; exact hv2)
  refine ⟨?_, o1.trans o2⟩
  have := M2
  simp only [set_set_same] at this
  exact this
/-- The cells of version k. -/
theorem RIn.verCells {B m g : Nat} {w : World} {P : Nat → Prop} {s : RSt} {A : RAd} (h : RIn B w P m s A) (hg : A.va = some ⟨g, 0, none⟩) {k : Nat} (hk : k < s.v.length) :
    (∀ f, f < 7 → w.cell? ⟨g, k * 7 + f, none⟩ = (rvCell (s.v.getD k default))[f]?) ∧ ∀ i, w.frozen? ⟨g, i, none⟩ = false := by
  have hr := h.row
  rw [hg] at hr
  refine ⟨fun f hf => ?_, fun i => hr.frozenAt i⟩
  rcases h.rowAt with ⟨e, _⟩ | ⟨g', e, _, hc⟩
  · rw [hg] at e; cases e
  · rw [hg] at e; injection e with e; injection e with e; subst e
    exact hc k f hk hf
end Go.Proofs.Ytcbhafddehipdaa

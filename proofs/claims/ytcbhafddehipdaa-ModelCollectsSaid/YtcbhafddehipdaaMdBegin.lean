/-
  model: New, Begin.
-/
import Derived.Test.YtcbhafddehipdaaMdDo
namespace Go.Proofs.Ytcbhafddehipdaa
open Go.RowKit
set_option linter.unusedVariables false
set_option linter.unusedSimpArgs false

theorem MAt.only {B m : Nat} {w w' : World} {P S : Nat → Prop} {s : St} (h : MAt B w P m s) (o : Only S w w') (ap : Apart P S) : MAt B w' P m s := by obtain ⟨A, h⟩ := h; exact ⟨A, h.only o ap⟩
theorem MAt.only0 {B m : Nat} {w w' : World} {P : Nat → Prop} {s : St} (h : MAt B w P m s) (o : Only0 w w') : MAt B w' P m s := by obtain ⟨A, h⟩ := h; exact ⟨A, h.only0 o⟩
theorem MAt.under {B m : Nat} {w : World} {P : Nat → Prop} {s : St} (h : MAt B w P m s) : Under P w.heap.size := by obtain ⟨A, h⟩ := h; exact h.under
theorem MAt.above {B m : Nat} {w : World} {P : Nat → Prop} {s : St} (h : MAt B w P m s) : Above P B := by obtain ⟨A, h⟩ := h; exact h.above
theorem MAt.ok {B m : Nat} {w : World} {P : Nat → Prop} {s : St} (h : MAt B w P m s) : Ok s := by obtain ⟨A, h⟩ := h; exact h.ok
theorem IMap.empty {P : Program} {K : TypeId} {R : MR} {w : World} {b : Nat} (h : w.heap[b]? = some (.map #[] 0)) : IMap P K R w b (fun _ => none) (.map []) :=
  ⟨⟨#[], 0, h, ⟨by simp, MapKept.stamped_empty 0, by simp⟩, by simp, rfl⟩, fun l hl => by simp [Maps.has] at hl, fun k _ z => rfl⟩
theorem CMap.empty {w : World} {b : Nat} (h : w.heap[b]? = some (.map #[] 0)) (ca : Nat → Nat) : CMap w b ca (fun _ => none) := ⟨.map [], IMap.empty h⟩
theorem BMap.empty {w : World} {b : Nat} (h : w.heap[b]? = some (.map #[] 0)) : BMap w b (fun _ => false) := ⟨.map [], IMap.empty h⟩

theorem newSt_ok {slots limit : Int} (h : confB slots limit = true) : Ok (newSt slots limit) := by
  simp [confB] at h
  exact ⟨by simp [newSt]; omega, by simp [newSt]; omega, by simp [newSt]; omega, by simp [newSt], by simp [newSt]; omega, by simp [newSt], fun j t ht => by simp [newSt] at ht, fun j t k c ht => by simp [newSt] at ht⟩
set_option maxRecDepth 100000 in
set_option maxHeartbeats 4000000 in
theorem md_new (slots limit : Int) (w : World) (h : confB slots limit = true) :
    Calls Try.prog 22 #[.agg #[.int .i64 slots, .int .u64 limit]] w fun e w' => ∃ m, e = .returned (.tuple #[.pointer (some ⟨m, 0, none⟩), .int .i64 0]) ∧ MAt w.heap.size w' (fun b => b = m) m (newSt slots limit) ∧ Only0 w w' ∧ w.heap.size ≤ m := by
  obtain ⟨W, hW⟩ : ∃ W, W = w.alloc (.cells #[.int .i64 slots, .int .u64 limit] 41) := ⟨_, rfl⟩
  have oW : Only0 w W := by rw [hW]; exact (Only0.refl w).alloc _
  have BX : Blk W w.heap.size 41 #[.int .i64 slots, .int .u64 limit] := by rw [hW]; exact Blk.new _ _ _
  have C := md_conf slots limit W
  rw [h] at C
  have HO := Lib.hid oW
  have HB := Lib.hid BX
  have c0 : W.cell? ⟨w.heap.size, 0, none⟩ = some (.int .i64 slots) := BX.cell 0
  have c1 : W.cell? ⟨w.heap.size, 1, none⟩ = some (.int .u64 limit) := BX.cell 1
  have HH := Lib.hid h
  clear oW BX h
  go_enter Try.func22, Try.ntmps22
  go_upto_region 1 with (fail)
  rw [← hW]
  clear hW
  go_wp2_with fail
  refine C.mono ?_
  rintro e w1 ⟨rfl, o1⟩
  have B1 := o1.blk HB.out (fun h => h)
  have d0 : w1.cell? ⟨w.heap.size, 0, none⟩ = some (.int .i64 slots) := B1.cell 0
  have d1 : w1.cell? ⟨w.heap.size, 1, none⟩ = some (.int .u64 limit) := B1.cell 1
  have HO1 := Lib.hid (HO.out.trans o1)
  clear C c0 c1 o1 B1
  go_wp2_with fail
  go_ret2
  have o2 : Only0 w (w1.alloc (.cells (modCells ⟨none, 0, fun _ => 0, fun _ => 0, fun _ _ => 0, fun _ _ => 0⟩ (newSt slots limit)) 96)) := HO1.out.alloc _
  have hs := HO1.out.size
  refine ⟨w1.heap.size, rfl, ⟨⟨none, 0, fun _ => 0, fun _ => 0, fun _ _ => 0, fun _ _ => 0⟩, Blk.new w1 _ _, World.ownsRow_nil _ _ _ _, ⟨fun i hi => by simp [newSt] at hi, fun i j hi => by simp [newSt] at hi⟩, ⟨fun j t ht => by simp [newSt] at ht, fun i j t u ht => by simp [newSt] at ht, fun i j t u p q ht => by simp [newSt] at ht, fun i j t u k l c d ht => by simp [newSt] at ht⟩, newSt_ok HH.out, rfl, fun b hb => (rowOf_none _ _ _ hb).elim, fun b hb => by subst hb; simp, fun b hb => by subst hb; exact hs⟩, o2, hs⟩
set_option maxRecDepth 100000 in
set_option maxHeartbeats 4000000 in
theorem md_new_no (slots limit : Int) (w : World) (h : confB slots limit = false) :
    Calls Try.prog 22 #[.agg #[.int .i64 slots, .int .u64 limit]] w fun e w' => e = .returned (.tuple #[.pointer none, .int .i64 1]) ∧ Only0 w w' := by
  obtain ⟨W, hW⟩ : ∃ W, W = w.alloc (.cells #[.int .i64 slots, .int .u64 limit] 41) := ⟨_, rfl⟩
  have oW : Only0 w W := by rw [hW]; exact (Only0.refl w).alloc _
  have BX : Blk W w.heap.size 41 #[.int .i64 slots, .int .u64 limit] := by rw [hW]; exact Blk.new _ _ _
  have C := md_conf slots limit W
  rw [h] at C
  have HO := Lib.hid oW
  have c0 : W.cell? ⟨w.heap.size, 0, none⟩ = some (.int .i64 slots) := BX.cell 0
  have c1 : W.cell? ⟨w.heap.size, 1, none⟩ = some (.int .u64 limit) := BX.cell 1
  clear oW BX h
  go_enter Try.func22, Try.ntmps22
  go_upto_region 1 with (fail)
  rw [← hW]
  clear hW
  go_wp2_with fail
  refine C.mono ?_
  rintro e w1 ⟨rfl, o1⟩
  have HO1 := Lib.hid (HO.out.trans o1)
  clear C c0 c1 o1
  go_wp2_with fail
  go_ret2
  exact ⟨rfl, HO1.out⟩

/-! ### Begin -/
theorem modCells_new (A : Ad) (s : St) (j n : Nat) (mj : Nat → Nat) (t : Tx) (hj : j < 8) : modCells { A with tb := upd A.tb j n, mb := upd A.mb j mj } (s.setTx j (some t)) = (modCells A s).setIfInBounds (5 + j) (.pointer (some ⟨n, 0, none⟩)) := by
  have e : ∀ i, txPtr { A with tb := upd A.tb j n, mb := upd A.mb j mj } (upd s.tx j (some t)) i = if i = j then .pointer (some ⟨n, 0, none⟩) else txPtr A s.tx i := fun i => by
    unfold txPtr
    by_cases e : i = j
    · subst e; simp [upd_same]
    · simp [upd_other _ _ _ e, e]
  unfold modCells St.setTx
  simp only [e]
  match j, hj with
  | 0, _ => rfl
  | 1, _ => rfl
  | 2, _ => rfl
  | 3, _ => rfl
  | 4, _ => rfl
  | 5, _ => rfl
  | 6, _ => rfl
  | 7, _ => rfl
/-- A transaction that is new. -/
theorem MIn.beginTx {B m : Nat} {w w' : World} {P : Nat → Prop} {s : St} {A : Ad} (h : MIn B w P m s A) {j n : Nat} {mj : Nat → Nat} (hj : j < 8) (id level beg : Int) (o : Only (fun b => b = m) w w') (hn : w.heap.size ≤ n) (hn' : n < w'.heap.size) (hm : ∀ q, q < 3 → w.heap.size ≤ mj q ∧ w'.heap[mj q]? = some (.map #[] 0)) (hinj : ∀ p q, p < 3 → q < 3 → mj p = mj q → p = q)
    (hb : Blk w' n 100 #[.int .i64 id, .int .i64 level, .int .u64 beg, .int .i64 0, .map (some (mj 0)), .map (some (mj 1)), .map (some (mj 2))]) (hmod : Blk w' m 96 ((modCells A s).setIfInBounds (5 + j) (.pointer (some ⟨n, 0, none⟩)))) :
    MIn B w' (fun b => P b ∨ b = n ∨ ∃ q, q < 3 ∧ b = mj q) m (s.setTx j (some (newTx id level beg))) { A with tb := upd A.tb j n, mb := upd A.mb j mj } := by
  have hB : B ≤ w.heap.size := by have := h.above m h.pm; have := h.mod.lt; omega
  have T := h.txs.only o (h.txs.blkNe h.mod (by decide) (by decide))
  have hcase : ∀ i u, (s.setTx j (some (newTx id level beg))).tx i = some u → (i = j ∧ u = newTx id level beg) ∨ (i ≠ j ∧ s.tx i = some u) := fun i u hu => by
    by_cases e : i = j
    · subst e; simp only [St.setTx, upd_same] at hu; cases hu; exact .inl ⟨rfl, rfl⟩
    · simp only [St.setTx, upd_other _ _ _ e] at hu; exact .inr ⟨e, hu⟩
  have oldT : ∀ i u, s.tx i = some u → A.tb i < w.heap.size ∧ (∀ q, q < 3 → A.mb i q < w.heap.size) := fun i u hu => ⟨h.under _ (h.txs.one i u hu).2.pt, fun q hq => h.under _ ((h.txs.one i u hu).2.pm q hq)⟩
  refine ⟨by rw [modCells_new A s j n mj _ hj]; exact hmod, rows_only h.row o (fun b hb' e => by subst e; exact rows_ne h.row h.mod (by decide) hb'), (h.vers.only o (h.vers.blkNe h.mod (by decide))).toward (fun b hb => .inl hb), ?_, ?_, .inl h.pm, fun b hb => .inl (h.pr b hb), ?_, ?_⟩
  · refine ⟨fun i u hu => ?_, fun i k a b ha hb e => ?_, fun i k a b p q ha hb hp hq e => ?_, fun i k a b p q c d ha hb hc hd e => ?_⟩
    · rcases hcase i u hu with ⟨rfl, rfl⟩ | ⟨e, hu'⟩
      · refine ⟨hj, ?_, ?_, ?_, ?_, fun k c hk => by simp [newTx] at hk, .inr (.inl ?_), fun q hq => .inr (.inr ⟨q, hq, ?_⟩)⟩
        · show Blk w' (upd A.tb i n i) _ #[.int .i64 id, .int .i64 level, .int .u64 beg, .int .i64 0, .map (some (upd A.mb i mj i 0)), .map (some (upd A.mb i mj i 1)), .map (some (upd A.mb i mj i 2))]
          rw [upd_same, upd_same]; exact hb
        · show CMap w' (upd A.mb i mj i 0) _ _
          rw [upd_same]; exact CMap.empty (hm 0 (by omega)).2 _
        · show BMap w' (upd A.mb i mj i 1) _
          rw [upd_same]; exact BMap.empty (hm 1 (by omega)).2
        · show BMap w' (upd A.mb i mj i 2) _
          rw [upd_same]; exact BMap.empty (hm 2 (by omega)).2
        · exact upd_same _ _ _
        · show upd A.mb i mj i q = mj q
          rw [upd_same]
      · exact ⟨(T.one i u hu').1, ((T.one i u hu').2.toward (fun b hb => .inl hb)).congrA (upd_other _ _ _ e) (upd_other _ _ _ e) rfl⟩
    · change upd A.tb j n i = upd A.tb j n k at e
      rcases hcase i a ha with ⟨rfl, _⟩ | ⟨e1, ha'⟩
      · rcases hcase k b hb with ⟨rfl, _⟩ | ⟨e2, hb'⟩
        · rfl
        · rw [upd_same, upd_other _ _ _ e2] at e
          have := (oldT k b hb').1; omega
      · rcases hcase k b hb with ⟨rfl, _⟩ | ⟨e2, hb'⟩
        · rw [upd_same, upd_other _ _ _ e1] at e
          have := (oldT i a ha').1; omega
        · rw [upd_other _ _ _ e1, upd_other _ _ _ e2] at e
          exact h.txs.tinj i k a b ha' hb' e
    · change upd A.mb j mj i p = upd A.mb j mj k q at e
      rcases hcase i a ha with ⟨rfl, _⟩ | ⟨e1, ha'⟩
      · rcases hcase k b hb with ⟨rfl, _⟩ | ⟨e2, hb'⟩
        · rw [upd_same] at e; exact ⟨rfl, hinj p q hp hq e⟩
        · rw [upd_same, upd_other _ _ _ e2] at e
          have := (oldT k b hb').2 q hq; have := (hm p hp).1; omega
      · rcases hcase k b hb with ⟨rfl, _⟩ | ⟨e2, hb'⟩
        · rw [upd_same, upd_other _ _ _ e1] at e
          have := (oldT i a ha').2 p hp; have := (hm q hq).1; omega
        · rw [upd_other _ _ _ e1, upd_other _ _ _ e2] at e
          exact h.txs.minj i k a b p q ha' hb' hp hq e
    · rcases hcase i a ha with ⟨rfl, rfl⟩ | ⟨e1, ha'⟩
      · simp [newTx] at hc
      · rcases hcase k b hb with ⟨rfl, rfl⟩ | ⟨e2, hb'⟩
        · simp [newTx] at hd
        · exact h.txs.cinj i k a b p q c d ha' hb' hc hd e
  · exact h.ok.setTx (by simp [newTx]) (fun k c hc => by simp [newTx] at hc)
  · rintro b (hb | rfl | ⟨q, hq, rfl⟩)
    · exact Nat.lt_of_lt_of_le (h.under b hb) o.size
    · exact hn'
    · exact (Array.getElem?_eq_some_iff.1 (hm q hq).2).1
  · rintro b (hb | rfl | ⟨q, hq, rfl⟩)
    · exact h.above b hb
    · omega
    · have := (hm q hq).1; omega
/-- What Begin leaves. -/
def BeRes (B m : Nat) (w : World) (P : Nat → Prop) (x : Int × Int × St) (e : Ending) (w' : World) : Prop :=
  ∃ P' : Nat → Prop, e = .returned (.tuple #[.int .i64 x.1, .int .i64 x.2.1]) ∧ MAt B w' P' m x.2.2 ∧ Only P w w' ∧ Grew w.heap.size P P'
end Go.Proofs.Ytcbhafddehipdaa

/-
  model.Model: abort.
-/
import Derived.Test.YtcbhafddehipdaaMdWrite
import Derived.Deep.Cut
import Derived.Outline
namespace Go.Proofs.Ytcbhafddehipdaa
open Go.RowKit
set_option linter.unusedVariables false
set_option linter.unusedSimpArgs false

/-- The cells of those keys that are no longer to come. -/
def doneC (left : Nat → Bool) (f : Nat → Option Cel) : Nat → Option Cel := fun k => if left k then none else f k
theorem anyC_true {f : Nat → Option Cel} {p : Cel → Bool} {k : Nat} {c : Cel} (hk : k < 64) (hc : f k = some c) (hp : p c = true) : anyC f p = true := List.any_eq_true.2 ⟨k, List.mem_range.2 hk, by rw [hc]; exact hp⟩
theorem anyC_false {f : Nat → Option Cel} {p : Cel → Bool} (h : ∀ k c, k < 64 → f k = some c → p c = false) : anyC f p = false := List.any_eq_false.2 (fun k hk => by
  cases hc : f k with
  | none => simp
  | some c => simp [h k c (List.mem_range.1 hk) hc])
theorem anyC_inv {f : Nat → Option Cel} {p : Cel → Bool} (h : anyC f p = true) : ∃ k c, k < 64 ∧ f k = some c ∧ p c = true := by
  obtain ⟨k, hk, h2⟩ := List.any_eq_true.1 h
  cases hc : f k with
  | none => rw [hc] at h2; cases h2
  | some c => rw [hc] at h2; exact ⟨k, c, List.mem_range.1 hk, hc, h2⟩
theorem anyC_start (f : Nat → Option Cel) (p : Cel → Bool) : anyC (doneC (fun k => (f k).isSome) f) p = false := anyC_false (fun k c _ hc => by
  unfold doneC at hc
  cases hf : f k <;> simp [hf] at hc)
theorem anyC_end {left : Nat → Bool} {f : Nat → Option Cel} (h : ∀ k, k < 64 → left k = false) (p : Cel → Bool) : anyC (doneC left f) p = anyC f p := by
  rw [Bool.eq_iff_iff]
  constructor
  · intro e
    obtain ⟨k, c, hk, hc, hp⟩ := anyC_inv e
    simp [doneC, h k hk] at hc
    exact anyC_true hk hc hp
  · intro e
    obtain ⟨k, c, hk, hc, hp⟩ := anyC_inv e
    exact anyC_true (f := doneC left f) hk (by simp [doneC, h k hk, hc]) hp
theorem anyC_step {left : Nat → Bool} {f : Nat → Option Cel} {k : Nat} {c : Cel} (hk : k < 64) (hl : left k = true) (hc : f k = some c) (p : Cel → Bool) : anyC (doneC (fun j => left j && !decide (j = k)) f) p = (anyC (doneC left f) p || p c) := by
  rw [Bool.eq_iff_iff, Bool.or_eq_true]
  constructor
  · intro e
    obtain ⟨q, d, hq, hd, hp⟩ := anyC_inv e
    by_cases e1 : q = k
    · subst e1
      simp [doneC, hc] at hd; subst hd; exact .inr hp
    · simp [doneC, e1] at hd
      exact .inl (anyC_true (f := doneC left f) hq (by simp [doneC, hd.1, hd.2]) hp)
  · rintro (e | e)
    · obtain ⟨q, d, hq, hd, hp⟩ := anyC_inv e
      by_cases e1 : q = k
      · subst e1; simp [doneC, hl] at hd
      · simp [doneC] at hd
        exact anyC_true (f := doneC (fun j => left j && !decide (j = k)) f) hq (by simp [doneC, hd.1, hd.2]) hp
    · exact anyC_true (f := doneC (fun j => left j && !decide (j = k)) f) hk (by simp [doneC, hc]) e
def killD (left : Nat → Bool) (f : Nat → Option Cel) (vs : List Ver) : List Ver := vs.mapIdx (killV (doneC left f))
theorem killD_len (left : Nat → Bool) (f : Nat → Option Cel) (vs : List Ver) : (killD left f vs).length = vs.length := by simp [killD]
theorem killD_start (f : Nat → Option Cel) (vs : List Ver) : killD (fun k => (f k).isSome) f vs = vs := by
  unfold killD
  apply List.ext_getElem (by simp)
  intro i h1 h2
  simp [killV, anyC_start]
theorem killD_end {left : Nat → Bool} {f : Nat → Option Cel} (h : ∀ k, k < 64 → left k = false) (vs : List Ver) : killD left f vs = vs.mapIdx (killV f) := by
  unfold killD
  apply List.ext_getElem (by simp)
  intro i h1 h2
  simp [killV, anyC_end h]
theorem killD_none {left : Nat → Bool} {f : Nat → Option Cel} {k : Nat} {c : Cel} (hk : k < 64) (hl : left k = true) (hc : f k = some c) (ho : c.own = none) (vs : List Ver) : killD (fun j => left j && !decide (j = k)) f vs = killD left f vs := by
  unfold killD
  apply List.ext_getElem (by simp)
  intro i h1 h2
  simp [killV, anyC_step hk hl hc, isOwn, ho]
theorem killD_some {left : Nat → Bool} {f : Nat → Option Cel} {k i : Nat} {c : Cel} (hk : k < 64) (hl : left k = true) (hc : f k = some c) (ho : c.own = some i) (vs : List Ver) : killD (fun j => left j && !decide (j = k)) f vs = (killD left f vs).set i { (killD left f vs).getD i default with dead := true } := by
  unfold killD
  apply List.ext_getElem (by simp)
  intro q h1 h2
  have hq : q < vs.length := by simpa using h1
  rw [List.getElem_mapIdx]
  by_cases e : q = i
  · subst e
    rw [List.getElem_set_self]
    have : (List.mapIdx (killV (doneC left f)) vs).getD q default = killV (doneC left f) q vs[q] := by
      rw [List.getD_eq_getElem?_getD, List.getElem?_eq_getElem (by simpa using hq), List.getElem_mapIdx]; rfl
    rw [this]
    simp only [killV, anyC_step hk hl hc, isOwn, ho, decide_true, Bool.or_true, if_true]
    split <;> rfl
  · rw [List.getElem_set_ne (Ne.symm e), List.getElem_mapIdx]
    have : isOwn q c = false := by simp [isOwn, ho]; exact fun h => e h.symm
    simp [killV, anyC_step hk hl hc, this]

/-- A session's transaction is let go. -/
theorem txPtr_none (A : Ad) (tx : Nat → Option Tx) (j i : Nat) : txPtr A (upd tx j none) i = if i = j then .pointer none else txPtr A tx i := by
  unfold txPtr
  by_cases e : i = j
  · subst e; simp [upd_same]
  · simp [upd_other _ _ _ e, e]
theorem modCells_drop (A : Ad) (s : St) (j : Nat) (hj : j < 8) : modCells A (s.setTx j none) = (modCells A s).setIfInBounds (5 + j) (.pointer none) := by
  unfold modCells St.setTx
  simp only [txPtr_none]
  match j, hj with
  | 0, _ => rfl
  | 1, _ => rfl
  | 2, _ => rfl
  | 3, _ => rfl
  | 4, _ => rfl
  | 5, _ => rfl
  | 6, _ => rfl
  | 7, _ => rfl
theorem Ok.drop {s : St} (h : Ok s) (j : Nat) : Ok (s.setTx j none) := by
  refine ⟨h.slots, h.limit, h.now, h.made, h.few, h.lin, fun i u hu => ?_, fun i u k c hu hc => ?_⟩
  · by_cases e : i = j
    · subst e; simp [St.setTx, upd_same] at hu
    · simp only [St.setTx, upd_other _ _ _ e] at hu; exact h.ops i u hu
  · by_cases e : i = j
    · subst e; simp [St.setTx, upd_same] at hu
    · simp only [St.setTx, upd_other _ _ _ e] at hu; exact h.refs i u k c hu hc
theorem upd_none_inv {tx : Nat → Option Tx} {j i : Nat} {u : Tx} (h : upd tx j none i = some u) : i ≠ j ∧ tx i = some u := by
  by_cases e : i = j
  · subst e; simp [upd_same] at h
  · rw [upd_other _ _ _ e] at h; exact ⟨e, h⟩
theorem MIn.drop {B m : Nat} {w : World} {P : Nat → Prop} {s : St} {A : Ad} (h : MIn B w P m s A) (j : Nat) (hj : j < 8) : MIn B (w.setCell ⟨m, 5 + j, none⟩ (.pointer none)) P m (s.setTx j none) A := by
  have o := Only.set1 w m (5 + j) (.pointer none)
  refine ⟨by rw [modCells_drop A s j hj]; exact h.mod.set _ _, rows_only h.row o (fun b hb' e => by subst e; exact rows_ne h.row h.mod (by decide) hb'), h.vers.only o (h.vers.blkNe h.mod (by decide)), ?_, h.ok.drop j, h.pm, h.pr, h.under.mono o.size, h.above⟩
  have T := h.txs.only o (h.txs.blkNe h.mod (by decide) (by decide))
  exact ⟨fun i u hu => T.one i u (upd_none_inv hu).2, fun i k a b ha hb => T.tinj i k a b (upd_none_inv ha).2 (upd_none_inv hb).2, fun i k a b p q ha hb => T.minj i k a b p q (upd_none_inv ha).2 (upd_none_inv hb).2, fun i k a b p q c d ha hb => T.cinj i k a b p q c d (upd_none_inv ha).2 (upd_none_inv hb).2⟩

/-- The loop over a transaction's cells, under way. -/
structure AbRel (B m : Nat) (w : World) (P : Nat → Prop) (s : St) (A : Ad) (j : Nat) (t : Tx) (r n0 : Nat) (left : Nat → Bool) (cnt : Nat) (vs : List Ver) (wr : World) : Prop where
  rng : ∃ D, IRange Try.prog kInt ptrElem wr (A.mb j 0) r (cMap (A.ca j) t.cells) D left cnt
  mod : MIn B wr P m { s with vs := vs } A
  box : Blk wr n0 27 #[.int .i64 0, .int .i64 0, .slice none 0 0, .int .i64 0, .int .i64 0]
  only : Only P w wr
  nr : ¬ P r ∧ ¬ P n0 ∧ w.heap.size ≤ r ∧ w.heap.size ≤ n0
/-- A round begins: a key comes. -/
theorem AbRel.next {B m : Nat} {w : World} {P : Nat → Prop} {s : St} {A : Ad} {j : Nat} {t : Tx} {r n0 : Nat} {left : Nat → Bool} {cnt : Nat} {vs : List Ver} {wr : World} (h : AbRel B m w P s A j t r n0 left cnt vs wr) (ht : s.tx j = some t) (ty : TypeId) :
    (cnt = 0 ∧ (∀ k, k < 64 → left k = false) ∧ (Instr.next (.pointer (some ⟨r, 0, none⟩)) false ty).run Try.prog wr = .ok (.tuple #[.bool false]) wr) ∨
    ∃ (k : Nat) (c : Cel) (w' : World) (cnt' : Nat), k < 64 ∧ left k = true ∧ t.cells k = some c ∧ (Instr.next (.pointer (some ⟨r, 0, none⟩)) false ty).run Try.prog wr = .ok (.tuple #[.bool true, .int .i64 k, .pointer (some ⟨A.ca j k, 0, none⟩)]) w' ∧
      AbRel B m w P s A j t r n0 (fun q => left q && !decide (q = k)) cnt' vs w' ∧ cnt' < cnt ∧ (Instr.entry (.pointer (some ⟨r, 0, none⟩))).run Try.prog w' = .ok (.tuple #[.int .i64 k, .pointer (some ⟨A.ca j k, 0, none⟩)]) w' ∧ Blk w' (A.ca j k) 133 (celCells A.va c) ∧ P (A.ca j k) := by
  obtain ⟨D, hr⟩ := h.rng
  rcases hr.next keyed Try.underlying3 ty with h0 | ⟨k, v, d, ps, w', cnt', hk, hl, hf, hv, hrun, hr', hlt, ho, hen⟩
  · exact .inl h0
  · have hcell : ∃ c, t.cells k = some c ∧ v = .pointer (some ⟨A.ca j k, 0, none⟩) := by
      unfold cMap at hf
      cases hc : t.cells k with
      | none => rw [hc] at hf; simp at hf
      | some c =>
        rw [hc] at hf
        simp at hf
        refine ⟨c, rfl, ?_⟩
        rcases ptrElem_inv hv with ⟨_, e⟩ | ⟨b, e, e2⟩
        · rw [← hf] at e; cases e
        · rw [← hf] at e2
          injection e2 with e2
          injection e2 with _ e3
          rw [e]
          have : A.ca j k = b := by omega
          rw [this]
    obtain ⟨c, hc, rfl⟩ := hcell
    have ap : Apart P (fun b => b = r) := fun b hb e => h.nr.1 (e ▸ hb)
    have M := h.mod.only ho ap
    have X := (M.txs.one j t ht).2
    have hne : r ≠ n0 := by
      obtain ⟨L, hr2, _⟩ := hr.rng
      rintro rfl
      obtain ⟨es, clock, since, seen, c0, _, _, _, _, h2, _⟩ := hr2
      have := h.box
      unfold Blk at this
      rw [h2] at this; cases this
    refine .inr ⟨k, c, w', cnt', hk, hl, hc, hrun, ⟨⟨D, hr'⟩, M, ho.blk h.box (Ne.symm hne), ?_, h.nr⟩, hlt, hen, (X.cel k c hc).2⟩
    refine ⟨ho.os.trans h.only.os, ho.tape.trans h.only.tape, ho.output.trans h.only.output, Nat.le_trans h.only.size ho.size, fun q hq hn => ?_⟩
    rw [ho.block q (Nat.lt_of_lt_of_le hq h.only.size) (by have := h.nr.2.2.1; omega)]
    exact h.only.block q hq hn
/-- A version has turned in a round. -/
theorem AbRel.set {B m : Nat} {w : World} {P : Nat → Prop} {s : St} {A : Ad} {j : Nat} {t : Tx} {r n0 : Nat} {left : Nat → Bool} {cnt : Nat} {vs : List Ver} {wr w' : World} (h : AbRel B m w P s A j t r n0 left cnt vs wr) (ht : s.tx j = some t) {i : Nat} (hi : i < vs.length) {v : Ver}
    (o : Only (fun b => b = A.va i) wr w') (hb : Blk w' (A.va i) 117 (verCells v)) : AbRel B m w P s A j t r n0 left cnt (vs.set i v) w' := by
  have hv := h.mod.vers.blk i hi
  obtain ⟨D, hr⟩ := h.rng
  have X := (h.mod.txs.one j t ht).2
  refine ⟨⟨D, hr.only o (X.cm.ne hv.1) (fun e => h.nr.1 (e ▸ hv.2))⟩, h.mod.setVer hi o hb, o.blk h.box (fun e => h.nr.2.1 (e ▸ hv.2)), h.only.trans (o.toward (fun b hb => by subst hb; exact hv.2)), h.nr⟩

theorem MIn.sess {B m : Nat} {w : World} {P : Nat → Prop} {s : St} {A : Ad} (h : MIn B w P m s A) (j : Nat) (hj : j < 8) : w.cell? ⟨m, 5 + j, none⟩ = some (txPtr A s.tx j) := by rw [h.mod.cell, modCells_tx A s j hj]
set_option maxRecDepth 100000 in
theorem info_res : (Try.prog.info? 27).map (·.size) = some 5 := by kernel_rfl
theorem set5 {w : World} {n : Nat} {t : TypeId} {a b c d e : Value} (h : Blk w n t #[a, b, c, d, e]) (a' b' c' d' e' : Value) :
    Blk (((((w.setCell ⟨n, 0, none⟩ a').setCell ⟨n, 1, none⟩ b').setCell ⟨n, 2, none⟩ c').setCell ⟨n, 3, none⟩ d').setCell ⟨n, 4, none⟩ e') n t #[a', b', c', d', e'] ∧ Only (fun c => c = n) w (((((w.setCell ⟨n, 0, none⟩ a').setCell ⟨n, 1, none⟩ b').setCell ⟨n, 2, none⟩ c').setCell ⟨n, 3, none⟩ d').setCell ⟨n, 4, none⟩ e') :=
  ⟨((((h.set 0 a').set 1 b').set 2 c').set 3 d').set 4 e', ((((Only.set1 w n 0 a').trans (Only.set1 _ n 1 b')).trans (Only.set1 _ n 2 c')).trans (Only.set1 _ n 3 d')).trans (Only.set1 _ n 4 e')⟩
set_option maxRecDepth 100000 in
set_option maxHeartbeats 8000000 in
theorem md_abort {B m : Nat} {w : World} {P : Nat → Prop} {s : St} {A : Ad} (h : MIn B w P m s A) {j : Nat} {t : Tx} (ht : s.tx j = some t) (er reason : Int) :
    Calls Try.prog 51 #[.pointer (some ⟨m, 0, none⟩), .int .i64 j, .int .i64 er, .int .i64 reason] w (StRes B m w P A (.agg #[.int .i64 er, .int .i64 0, .slice none 0 0, .int .i64 4, .int .i64 reason]) (s.kill j t)) := by
  obtain ⟨W, hW⟩ : ∃ W, W = w.alloc (.cells #[.int .i64 0, .int .i64 0, .slice none 0 0, .int .i64 0, .int .i64 0] 27) := ⟨_, rfl⟩
  have oW : Only0 w W := by rw [hW]; exact (Only0.refl w).alloc _
  have M0 := h.only0 oW
  have X0 := (M0.txs.one j t ht).2
  have hj := (M0.txs.one j t ht).1
  have BX : Blk W w.heap.size 27 #[.int .i64 0, .int .i64 0, .slice none 0 0, .int .i64 0, .int .i64 0] := by rw [hW]; exact Blk.new _ _ _
  have zW : W.heap.size = w.heap.size + 1 := by rw [hW]; simp
  have cj : W.cell? ⟨m, 5 + j, none⟩ = some (.pointer (some ⟨A.tb j, 0, none⟩)) := by rw [M0.sess j hj]; simp [txPtr, ht]
  have c4 := X0.cells.2.1
  obtain ⟨D, hD⟩ := X0.cm
  obtain ⟨w0, cnt0, hrun, hR, o0, z0⟩ := hD.range (T := 97) keyed Try.underlying97
  obtain ⟨r, hr⟩ : ∃ r, r = W.heap.size := ⟨_, rfl⟩
  rw [← hr] at hrun hR
  have hnr : ¬ P r := fun hp => by have := h.under _ hp; omega
  have hnn : ¬ P w.heap.size := fun hp => by have := h.under _ hp; omega
  have R0 : AbRel B m w P s A j t r w.heap.size (fun k => (t.cells k).isSome) cnt0 (killD (fun k => (t.cells k).isSome) t.cells s.vs) w0 := by
    rw [killD_start]
    refine ⟨⟨D, ?_⟩, M0.only0 o0, o0.blk BX (fun h => h), (oW.trans o0).any P, hnr, hnn, by omega, by omega⟩
    have : (fun k => (cMap (A.ca j) t.cells k).isSome) = fun k => (t.cells k).isSome := by funext k; simp [cMap]
    rw [this] at hR
    exact hR
  have HT := Lib.hid ht
  have HR0 := Lib.hid R0
  have j8 : (j : Int) < 8 := by omega
  have j0 : (0 : Int) ≤ (j : Int) := by omega
  obtain ⟨n0, hn0⟩ : ∃ n0, n0 = w.heap.size := ⟨_, rfl⟩
  have HN := Lib.hid hn0
  clear h M0 X0 BX zW oW hD hR o0 z0 ht hnr hnn R0 hr hn0
  rw [← HN.out] at HR0
  go_enter Try.func51, Try.ntmps51
  go_upto_region 1 with (fail)
  rw [← hW, ← HN.out]
  clear hW
  go_wp2_with fail
  go_loopw [10] (fun _ wr => ∃ (left : Nat → Bool) (cnt : Nat), AbRel B m w P s A j t r n0 left cnt (killD left t.cells s.vs) wr) (fun _ wr => wr.rangeLeft (A.mb j 0) r)
  case atStart => exact ⟨_, _, HR0.out⟩
  case round =>
    obtain ⟨left, cnt, hA⟩ := hrel
    rcases hA.next HT.out 0 with ⟨hc0, hl0, hnx⟩ | ⟨k, c, w1, cnt1, hk, hl, hc, hnx, hA1, hlt, hen, hcb, hcp⟩
    · have M := hA.mod
      rw [killD_end hl0] at M
      have cjr : wr.cell? ⟨m, 5 + j, none⟩ = some (.pointer (some ⟨A.tb j, 0, none⟩)) := by rw [M.sess j hj]; simp [txPtr, HT.out]
      have fjr := M.mod.free (5 + j)
      obtain ⟨W8, hW8⟩ : ∃ W8, W8 = wr.setCell ⟨m, 5 + j, none⟩ (.pointer none) := ⟨_, rfl⟩
      have M8 : MIn B W8 P m (s.kill j t) A := by rw [hW8]; exact M.drop j hj
      have hnm : n0 ≠ m := fun e => hA.nr.2.1 (e ▸ M.pm)
      have B8 : Blk W8 n0 27 #[.int .i64 0, .int .i64 0, .slice none 0 0, .int .i64 0, .int .i64 0] := by rw [hW8]; exact hA.box.other ⟨m, 5 + j, none⟩ _ hnm
      have O8 : Only P w W8 := by rw [hW8]; exact hA.only.trans ((Only.set1 wr m (5 + j) _).toward (fun b hb => by subst hb; exact M.pm))
      have HM8 := Lib.hid M8
      have HB8 := Lib.hid B8
      have HO8 := Lib.hid O8
      have hnP := Lib.hid hA.nr.2.1
      have b0 : W8.cell? ⟨n0, 0, none⟩ = some (.int .i64 0) := B8.cell 0
      have b1 : W8.cell? ⟨n0, 1, none⟩ = some (.int .i64 0) := B8.cell 1
      have b2 : W8.cell? ⟨n0, 2, none⟩ = some (.slice none 0 0) := B8.cell 2
      have b3 : W8.cell? ⟨n0, 3, none⟩ = some (.int .i64 0) := B8.cell 3
      have b4 : W8.cell? ⟨n0, 4, none⟩ = some (.int .i64 0) := B8.cell 4
      have bf := fun i => B8.free i
      clear hA M M8 B8 O8 hl0 hc0 hnm
      go_upto_region 7 with (fail)
      rw [← hW8]
      clear hW8
      go_wp2_with fail
      obtain ⟨B9, o9⟩ := set5 HB8.out (.int .i64 er) (.int .i64 0) (.slice none 0 0) (.int .i64 4) (.int .i64 reason)
      have hn := HN.out
      refine bodyPost_ret (v := .agg #[.int .i64 er, .int .i64 0, .slice none 0 0, .int .i64 4, .int .i64 reason]) (results_cell_row Try.results51 _ _ n0 _ _ _ _ rfl B9 Try.underlying27 rfl info_res) rfl ?_
      exact ⟨A, P, rfl, HM8.out.only o9 (fun b hb e => by subst e; exact hnP.out hb), rfl, rfl, HO8.out.grewTrans (P2 := fun b => P b ∨ b = n0) (fun b hb => hb.imp id (fun e => by omega)) (o9.toward (fun b hb => .inr hb)), Grew.refl _ _⟩
    · cases ho : c.own with
      | none =>
        have e0 := killD_none hk hl hc ho s.vs
        have q0 : w1.cell? ⟨A.ca j k, 0, none⟩ = some (.pointer none) := by rw [hcb.cell 0]; simp only [celCells, ho]; rfl
        rw [← e0] at hA1
        have H1 := Lib.hid hA1
        have H2 := Lib.hid (show w1.rangeLeft (A.mb j 0) r < wr.rangeLeft (A.mb j 0) r by
          obtain ⟨D1, r1⟩ := hA1.rng
          obtain ⟨D2, r2⟩ := hA.rng
          rw [r1.left_eq, r2.left_eq]; exact hlt)
        clear hA hA1 hc ho e0 hcb hcp hl hlt
        go_wp2_with fail
        go_roundw
        case rel => exact ⟨_, _, H1.out⟩
        case measure => exact H2.out
      | some i =>
        have e0 := killD_some hk hl hc ho s.vs
        have hi : i < s.vs.length := (hA1.mod.ok.refs j t k c HT.out hc).1 i ho |> fun h => by rw [killD_len] at h; exact h
        have q0 : w1.cell? ⟨A.ca j k, 0, none⟩ = some (.pointer (some ⟨A.va i, 0, none⟩)) := by rw [hcb.cell 0]; simp only [celCells, ho]; rfl
        have hi' : i < (killD left t.cells s.vs).length := by rw [killD_len]; exact hi
        have v := hA1.mod.vers.blk i hi'
        have q5 : w1.cell? ⟨A.va i, 5, none⟩ = some (.bool ((killD left t.cells s.vs).getD i default).dead) := v.1.cell 5
        have f5 := v.1.free 5
        have hA2 := hA1.set HT.out hi' (v := { (killD left t.cells s.vs).getD i default with dead := true }) (Only.set1 w1 (A.va i) 5 (.bool true)) (by
          have := v.1.set 5 (.bool true)
          have e : (verCells ((killD left t.cells s.vs).getD i default)).setIfInBounds 5 (.bool true) = verCells { (killD left t.cells s.vs).getD i default with dead := true } := by simp [verCells]
          rw [← e]; exact this)
        rw [← e0] at hA2
        have H1 := Lib.hid hA2
        have H2 := Lib.hid (show (w1.setCell ⟨A.va i, 5, none⟩ (.bool true)).rangeLeft (A.mb j 0) r < wr.rangeLeft (A.mb j 0) r by
          obtain ⟨D1, r1⟩ := hA2.rng
          obtain ⟨D2, r2⟩ := hA.rng
          rw [r1.left_eq, r2.left_eq]; exact hlt)
        clear hA hA1 hA2 hc ho e0 hcb hcp hl hlt v hi hi'
        go_wp2_with fail
        go_roundw
        case rel => exact ⟨_, _, H1.out⟩
        case measure => exact H2.out
end Go.Proofs.Ytcbhafddehipdaa

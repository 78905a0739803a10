/-
  model.Model: commit.
-/
import Derived.Test.YtcbhafddehipdaaMdHolds
import Derived.Deep.DeepCutAuto
namespace Go.Proofs.Ytcbhafddehipdaa
open Go.RowKit
set_option linter.unusedVariables false
set_option linter.unusedSimpArgs false

def setFin (vs : List Ver) (i : Nat) (x : Int) : List Ver := vs.set i { vs.getD i default with fin := x }
def setBeg (vs : List Ver) (i : Nat) (x : Int) : List Ver := vs.set i { vs.getD i default with beg := x }
theorem setFin_len (vs : List Ver) (i : Nat) (x : Int) : (setFin vs i x).length = vs.length := by simp [setFin]
theorem setBeg_len (vs : List Ver) (i : Nat) (x : Int) : (setBeg vs i x).length = vs.length := by simp [setBeg]
theorem getD_set (vs : List Ver) (i q : Nat) (v : Ver) (hq : q < vs.length) : (vs.set i v).getD q default = if q = i then v else vs.getD q default := by
  by_cases e : q = i
  · subst e; simp [List.getD_eq_getElem?_getD, hq]
  · simp [List.getD_eq_getElem?_getD, List.getElem?_set_ne (Ne.symm e), e]
theorem getD_fin (vs : List Ver) (i q : Nat) (x : Int) (hq : q < vs.length) : (setFin vs i x).getD q default = if q = i then { vs.getD q default with fin := x } else vs.getD q default := by
  unfold setFin; rw [getD_set _ _ _ _ hq]; by_cases e : q = i <;> simp [e]
theorem getD_beg (vs : List Ver) (i q : Nat) (x : Int) (hq : q < vs.length) : (setBeg vs i x).getD q default = if q = i then { vs.getD q default with beg := x } else vs.getD q default := by
  unfold setBeg; rw [getD_set _ _ _ _ hq]; by_cases e : q = i <;> simp [e]
def oldV (c : Cel) (now : Int) (vs : List Ver) : List Ver := match c.old with
  | none => vs
  | some o => setFin vs o now
def ownV (c : Cel) (now : Int) (vs : List Ver) : List Ver := match c.own with
  | none => vs
  | some i => if c.there then setBeg vs i now else setFin (setBeg vs i now) i now
theorem oldV_len (c : Cel) (now : Int) (vs : List Ver) : (oldV c now vs).length = vs.length := by unfold oldV; split <;> simp [setFin_len]
theorem ownV_len (c : Cel) (now : Int) (vs : List Ver) : (ownV c now vs).length = vs.length := by unfold ownV; split <;> (try split) <;> simp [setFin_len, setBeg_len]
def doneD (left : Nat → Bool) (f : Nat → Option Cel) (now : Int) (vs : List Ver) : List Ver := vs.mapIdx (doneV (doneC left f) now)
theorem doneD_len (left : Nat → Bool) (f : Nat → Option Cel) (now : Int) (vs : List Ver) : (doneD left f now vs).length = vs.length := by simp [doneD]
theorem doneD_start (f : Nat → Option Cel) (now : Int) (vs : List Ver) : doneD (fun k => (f k).isSome) f now vs = vs := by
  unfold doneD
  apply List.ext_getElem (by simp)
  intro i h1 h2
  simp [doneV, anyC_start]
theorem doneD_end {left : Nat → Bool} {f : Nat → Option Cel} (h : ∀ k, k < 64 → left k = false) (now : Int) (vs : List Ver) : doneD left f now vs = vs.mapIdx (doneV f now) := by
  unfold doneD
  apply List.ext_getElem (by simp)
  intro i h1 h2
  simp [doneV, anyC_end h]
theorem doneD_getD (left : Nat → Bool) (f : Nat → Option Cel) (now : Int) (vs : List Ver) (q : Nat) (hq : q < vs.length) : (doneD left f now vs).getD q default = doneV (doneC left f) now q (vs.getD q default) := by
  unfold doneD
  rw [List.getD_eq_getElem?_getD, List.getElem?_eq_getElem (by simpa using hq), List.getElem_mapIdx]
  simp [List.getD_eq_getElem?_getD, hq]
theorem ext_getD {a b : List Ver} (hl : a.length = b.length) (h : ∀ q, q < a.length → a.getD q default = b.getD q default) : a = b := by
  apply List.ext_getElem hl
  intro q h1 h2
  have := h q h1
  simpa [List.getD_eq_getElem?_getD, h1, h2] using this
theorem doneD_step {left : Nat → Bool} {f : Nat → Option Cel} {k : Nat} {c : Cel} (hk : k < 64) (hl : left k = true) (hc : f k = some c) (now : Int) (vs : List Ver) : doneD (fun j => left j && !decide (j = k)) f now vs = ownV c now (oldV c now (doneD left f now vs)) := by
  refine ext_getD (by rw [ownV_len, oldV_len, doneD_len, doneD_len]) (fun q hq => ?_)
  have hq' : q < vs.length := by rw [doneD_len] at hq; exact hq
  rw [doneD_getD _ _ _ _ _ hq']
  simp only [doneV, anyC_step hk hl hc]
  have h1 : ∀ x, (oldV c now (doneD left f now vs)).getD q x = (oldV c now (doneD left f now vs)).getD q default := fun x => by
    rw [List.getD_eq_getElem?_getD, List.getD_eq_getElem?_getD, List.getElem?_eq_getElem (by rw [oldV_len, doneD_len]; exact hq')]; rfl
  have eo : (oldV c now (doneD left f now vs)).getD q default = if isOld q c then { (doneD left f now vs).getD q default with fin := now } else (doneD left f now vs).getD q default := by
    unfold oldV isOld
    cases ho : c.old with
    | none => simp
    | some o =>
      simp only [Option.some.injEq]
      rw [getD_fin _ _ _ _ (by rw [doneD_len]; exact hq')]
      by_cases e : q = o
      · simp [e]
      · simp [e, Ne.symm e]
  have ew : (ownV c now (oldV c now (doneD left f now vs))).getD q default = { (oldV c now (doneD left f now vs)).getD q default with beg := if isOwn q c then now else ((oldV c now (doneD left f now vs)).getD q default).beg, fin := if isGone q c then now else ((oldV c now (doneD left f now vs)).getD q default).fin } := by
    unfold ownV isOwn isGone
    cases ho : c.own with
    | none => simp
    | some i =>
      simp only [Option.some.injEq]
      have hq2 : q < (oldV c now (doneD left f now vs)).length := by rw [oldV_len, doneD_len]; exact hq'
      cases ht : c.there
      · simp only [Bool.false_eq_true, if_false]
        rw [getD_fin _ _ _ _ (by rw [setBeg_len]; exact hq2), getD_beg _ _ _ _ hq2]
        by_cases e : q = i
        · subst e; simp
        · simp [e, Ne.symm e]
      · simp only [if_true]
        rw [getD_beg _ _ _ _ hq2]
        by_cases e : q = i
        · subst e; simp
        · simp [e, Ne.symm e]
  rw [ew, eo, doneD_getD _ _ _ _ _ hq']
  cases isOld q c <;> cases isOwn q c <;> cases isGone q c <;> simp [doneV]
theorem verCells_fin (v : Ver) (x : Int) : (verCells v).setIfInBounds 4 (.int .u64 x) = verCells { v with fin := x } := by simp [verCells]
theorem verCells_beg (v : Ver) (x : Int) : (verCells v).setIfInBounds 3 (.int .u64 x) = verCells { v with beg := x } := by simp [verCells]
theorem AbRel.drewN {B m : Nat} {w : World} {P : Nat → Prop} {s : St} {A : Ad} {j : Nat} {t : Tx} {r n0 : Nat} {left : Nat → Bool} {cnt : Nat} {vs : List Ver} {wr : World} (h : AbRel B m w P s A j t r n0 left cnt vs wr) (n : Nat) : AbRel B m w P s A j t r n0 left cnt vs (wr.drewN n) := by
  obtain ⟨D, hr⟩ := h.rng
  exact ⟨⟨D, hr.congr rfl rfl⟩, h.mod.drewN n, h.box, h.only.drewN n, h.nr⟩
theorem AbRel.fin {B m : Nat} {w : World} {P : Nat → Prop} {s : St} {A : Ad} {j : Nat} {t : Tx} {r n0 : Nat} {left : Nat → Bool} {cnt : Nat} {vs : List Ver} {wr : World} (h : AbRel B m w P s A j t r n0 left cnt vs wr) (ht : s.tx j = some t) {i : Nat} (hi : i < vs.length) (x : Int) : AbRel B m w P s A j t r n0 left cnt (setFin vs i x) (wr.setCell ⟨A.va i, 4, none⟩ (.int .u64 x)) :=
  h.set ht hi (Only.set1 wr (A.va i) 4 _) (by rw [← verCells_fin]; exact (h.mod.vers.blk i hi).1.set 4 _)
theorem AbRel.beg {B m : Nat} {w : World} {P : Nat → Prop} {s : St} {A : Ad} {j : Nat} {t : Tx} {r n0 : Nat} {left : Nat → Bool} {cnt : Nat} {vs : List Ver} {wr : World} (h : AbRel B m w P s A j t r n0 left cnt vs wr) (ht : s.tx j = some t) {i : Nat} (hi : i < vs.length) (x : Int) : AbRel B m w P s A j t r n0 left cnt (setBeg vs i x) (wr.setCell ⟨A.va i, 3, none⟩ (.int .u64 x)) :=
  h.set ht hi (Only.set1 wr (A.va i) 3 _) (by rw [← verCells_beg]; exact (h.mod.vers.blk i hi).1.set 3 _)
theorem AbRel.less {B m : Nat} {w : World} {P : Nat → Prop} {s : St} {A : Ad} {j : Nat} {t : Tx} {r n0 : Nat} {left left' : Nat → Bool} {cnt cnt' : Nat} {vs vs' : List Ver} {wr w' : World} (h : AbRel B m w P s A j t r n0 left cnt vs wr) (h' : AbRel B m w P s A j t r n0 left' cnt' vs' w') (hlt : cnt' < cnt) : w'.rangeLeft (A.mb j 0) r < wr.rangeLeft (A.mb j 0) r := by
  obtain ⟨D1, r1⟩ := h'.rng
  obtain ⟨D2, r2⟩ := h.rng
  rw [r1.left_eq, r2.left_eq]; exact hlt
/-- What a cell, a version and the clock hold in a round. -/
theorem AbRel.see {B m : Nat} {w : World} {P : Nat → Prop} {s : St} {A : Ad} {j : Nat} {t : Tx} {r n0 : Nat} {left : Nat → Bool} {cnt : Nat} {vs : List Ver} {wr : World} (h : AbRel B m w P s A j t r n0 left cnt vs wr) (ht : s.tx j = some t) {k : Nat} {c : Cel} (hc : t.cells k = some c) :
    wr.cell? ⟨A.ca j k, 0, none⟩ = some (ptrOf A.va c.own) ∧ wr.cell? ⟨A.ca j k, 1, none⟩ = some (ptrOf A.va c.old) ∧ wr.cell? ⟨A.ca j k, 2, none⟩ = some (.bool c.there) ∧ wr.cell? ⟨m, 2, none⟩ = some (.int .u64 s.now) := by
  have q := ((h.mod.txs.one j t ht).2.cel k c hc).2.1
  exact ⟨q.cell 0, q.cell 1, q.cell 2, h.mod.mod.cell 2⟩
theorem AbRel.ver {B m : Nat} {w : World} {P : Nat → Prop} {s : St} {A : Ad} {j : Nat} {t : Tx} {r n0 : Nat} {left : Nat → Bool} {cnt : Nat} {vs : List Ver} {wr : World} (h : AbRel B m w P s A j t r n0 left cnt vs wr) {i : Nat} (hi : i < vs.length) :
    wr.cell? ⟨A.va i, 3, none⟩ = some (.int .u64 (vs.getD i default).beg) ∧ wr.cell? ⟨A.va i, 4, none⟩ = some (.int .u64 (vs.getD i default).fin) ∧ (∀ q, wr.frozen? ⟨A.va i, q, none⟩ = false) := by
  have q := (h.mod.vers.blk i hi).1
  exact ⟨q.cell 3, q.cell 4, fun o => q.free o⟩

def resV (r : Res) : Value := .agg #[.int .i64 r.e, .int .i64 r.value, .slice none 0 0, .int .i64 r.over, .int .i64 r.reason]
theorem MIn.tick {B m : Nat} {w : World} {P : Nat → Prop} {s : St} {A : Ad} (h : MIn B w P m s A) (hl : s.now < s.limit) : MIn B (w.setCell ⟨m, 2, none⟩ (.int .u64 (s.now + 1))) P m s.tick A := by
  have hb := h.mod.set 2 (.int .u64 (s.now + 1))
  have e : (modCells A s).setIfInBounds 2 (.int .u64 (s.now + 1)) = modCells A s.tick := by simp [modCells, St.tick]
  rw [e] at hb
  exact h.setMod (slots := s.slots) (limit := s.limit) (now := s.now + 1) (made := s.made) (Only.set1 w m 2 _) hb ⟨h.ok.slots, h.ok.limit, by have := h.ok.now; simp; omega, h.ok.made, h.ok.few, h.ok.lin, h.ok.ops, h.ok.refs⟩

set_option maxRecDepth 100000 in
set_option maxHeartbeats 16000000 in
theorem md_commit {B m : Nat} {w : World} {P : Nat → Prop} {s : St} {A : Ad} (h : MIn B w P m s A) {j : Nat} {t : Tx} (ht : s.tx j = some t) :
    Calls Try.prog 50 #[.pointer (some ⟨m, 0, none⟩), .int .i64 j] w (StRes B m w P A (resV (s.commit j t).1) (s.commit j t).2) := by
  obtain ⟨W, hW⟩ : ∃ W, W = w.alloc (.cells #[.int .i64 0, .int .i64 0, .slice none 0 0, .int .i64 0, .int .i64 0] 27) := ⟨_, rfl⟩
  have oW : Only0 w W := by rw [hW]; exact (Only0.refl w).alloc _
  have M0 := h.only0 oW
  have X0 := (M0.txs.one j t ht).2
  have hj := (M0.txs.one j t ht).1
  have BX : Blk W w.heap.size 27 #[.int .i64 0, .int .i64 0, .slice none 0 0, .int .i64 0, .int .i64 0] := by rw [hW]; exact Blk.new _ _ _
  have cj : W.cell? ⟨m, 5 + j, none⟩ = some (.pointer (some ⟨A.tb j, 0, none⟩)) := by rw [M0.sess j hj]; simp [txPtr, ht]
  have m1 : W.cell? ⟨m, 1, none⟩ = some (.int .u64 s.limit) := M0.mod.cell 1
  have m2 : W.cell? ⟨m, 2, none⟩ = some (.int .u64 s.now) := M0.mod.cell 2
  have hnn : ¬ P w.heap.size := fun hp => by have := h.under _ hp; omega
  have HT := Lib.hid ht
  have HM0 := Lib.hid M0
  have HB := Lib.hid BX
  have HO := Lib.hid oW
  have HNN := Lib.hid hnn
  have j8 : (j : Int) < 8 := by omega
  have j0 : (0 : Int) ≤ (j : Int) := by omega
  have hlim := M0.ok.limit
  have hnow := M0.ok.now
  obtain ⟨l1, l2⟩ := hlim
  obtain ⟨n1, n2⟩ := hnow
  obtain ⟨n0, hn0⟩ : ∃ n0, n0 = w.heap.size := ⟨_, rfl⟩
  have HN := Lib.hid hn0
  rw [← hn0] at HB HNN
  clear h M0 X0 BX oW ht hnn hn0
  -- what a way leaves that stores a result behind an abort
  have KILL : ∀ (er re : Int) (s1 : St) (W1 w2 : World), s1.tx j = some t → Only P W W1 → StRes B m W1 P A (.agg #[.int .i64 er, .int .i64 0, .slice none 0 0, .int .i64 4, .int .i64 re]) (s1.kill j t) (.returned (.agg #[.int .i64 er, .int .i64 0, .slice none 0 0, .int .i64 4, .int .i64 re])) w2 →
      Blk w2 n0 27 #[.int .i64 0, .int .i64 0, .slice none 0 0, .int .i64 0, .int .i64 0] ∧ ∀ w9, Blk w9 n0 27 #[.int .i64 er, .int .i64 0, .slice none 0 0, .int .i64 4, .int .i64 re] → Only (fun c => c = n0) w2 w9 → ∀ v, StRes B m w P A v (s1.kill j t) (.returned v) w9 := by
    intro er re s1 W1 w2 hs1 o1 ⟨A', P', _, h2, a1, a2, o2, g2⟩
    have nP : ¬ P n0 := HNN.out
    have nlt : n0 < W.heap.size := HB.out.lt
    have nP' : ¬ P' n0 := fun hp => by
      rcases g2 n0 hp with h1 | h1
      · exact nP h1
      · have := o1.size; omega
    refine ⟨o2.blk (o1.blk HB.out nP) nP, fun w9 b9 o9 v => ⟨A', P', rfl, h2.only o9 (fun b hb e => by subst e; exact nP' hb), a1, a2, ?_, g2.base (Nat.le_trans HO.out.size o1.size)⟩⟩
    have e1 : Only P w w2 := ((HO.out.any P).trans o1).trans o2
    have hn := HN.out
    exact e1.grewTrans (P2 := fun b => P b ∨ b = n0) (fun b hb => hb.imp id (fun e => by omega)) (o9.toward (fun b hb => .inr hb))
  have HK := Lib.hid KILL
  clear KILL
  by_cases hov : s.limit ≤ s.now
  · rw [show s.commit j t = (abortRes 14 6, s.kill j t) by simp [St.commit, hov]]
    have C := fun n => md_abort (HM0.out.drewN n) HT.out 14 6
    have HC := Lib.hid C
    clear C
    go_enter Try.func50, Try.ntmps50
    go_upto_region 1 with (fail)
    rw [← hW, ← HN.out]
    clear hW
    go_wp2_with fail
    go_quiet (fail)
    go_wp2_with fail
    refine (HC.out _).mono ?_
    intro e w2 h2
    have he : e = .returned (.agg #[.int .i64 14, .int .i64 0, .slice none 0 0, .int .i64 4, .int .i64 6]) := by obtain ⟨_, _, h, _⟩ := h2; exact h
    subst he
    obtain ⟨B2, R⟩ := HK.out 14 6 s (W.drewN nq) w2 HT.out ((Only.refl P W).drewN nq) h2
    have HR := Lib.hid R
    have b0 : w2.cell? ⟨n0, 0, none⟩ = some (.int .i64 0) := B2.cell 0
    have b1 : w2.cell? ⟨n0, 1, none⟩ = some (.int .i64 0) := B2.cell 1
    have b2 : w2.cell? ⟨n0, 2, none⟩ = some (.slice none 0 0) := B2.cell 2
    have b3 : w2.cell? ⟨n0, 3, none⟩ = some (.int .i64 0) := B2.cell 3
    have b4 : w2.cell? ⟨n0, 4, none⟩ = some (.int .i64 0) := B2.cell 4
    have bf := fun i => B2.free i
    have HB2 := Lib.hid B2
    clear h2 R B2
    go_wp2_with fail
    obtain ⟨B9, o9⟩ := set5 HB2.out (.int .i64 14) (.int .i64 0) (.slice none 0 0) (.int .i64 4) (.int .i64 6)
    exact bodyPost_ret (v := .agg #[.int .i64 14, .int .i64 0, .slice none 0 0, .int .i64 4, .int .i64 6]) (results_cell_row Try.results50 _ _ n0 _ _ _ _ rfl B9 Try.underlying27 rfl info_res) rfl (HR.out _ B9 o9 _)
  · have hov' : s.now < s.limit := by omega
    clear hov
    have TICK : s.tick.tx j = some t := HT.out
    have HTK := Lib.hid TICK
    clear TICK
    cases hh : s.tick.holds t (s.now + 1) with
    | false =>
      rw [show s.commit j t = (abortRes 14 3, s.tick.kill j t) by simp [St.commit, hh]; omega]
      go_enter Try.func50, Try.ntmps50
      go_upto_region 1 with (fail)
      rw [← hW, ← HN.out]
      clear hW
      go_wp2_with fail
      go_quiet (fail)
      have M1 := HM0.out.drewN nq
      have B1 : Blk (W.drewN nq) n0 _ _ := HB.out
      have O1 : Only P W (W.drewN nq) := (Only.refl P W).drewN nq
      replace m2 : (W.drewN nq).cell? ⟨m, 2, none⟩ = some (.int .u64 s.now) := M1.mod.cell 2
      replace cj : (W.drewN nq).cell? ⟨m, 5 + j, none⟩ = some (.pointer (some ⟨A.tb j, 0, none⟩)) := cj
      clear m1
      generalize W.drewN nq = W1 at *
      have fm := M1.mod.free 2
      obtain ⟨W2, hW2⟩ : ∃ W2, W2 = W1.setCell ⟨m, 2, none⟩ (.int .u64 (s.now + 1)) := ⟨_, rfl⟩
      have M2 : MIn B W2 P m s.tick A := by rw [hW2]; exact M1.tick hov'
      have O2 : Only P W W2 := by rw [hW2]; exact O1.trans ((Only.set1 W1 m 2 _).toward (fun b hb => by subst hb; exact M1.pm))
      have C := md_holds M2 HTK.out (s.now + 1)
      have p2 : W2.cell? ⟨m, 2, none⟩ = some (.int .u64 (s.now + 1)) := M2.mod.cell 2
      have HO2 := Lib.hid O2
      clear M1 B1 O1 M2 O2
      go_upto_region 5 with (fail)
      rw [← hW2]
      clear hW2 m2 fm
      go_wp2_with fail
      refine C.mono ?_
      rintro e w3 ⟨rfl, M3, o3⟩
      rw [hh]
      have C2 := md_abort M3 HTK.out 14 3
      have HO3 := Lib.hid (HO2.out.trans (o3.any P))
      clear C p2 M3 o3
      go_wp2_with fail
      refine C2.mono ?_
      intro e w2 h2
      have he : e = .returned (.agg #[.int .i64 14, .int .i64 0, .slice none 0 0, .int .i64 4, .int .i64 3]) := by obtain ⟨_, _, h, _⟩ := h2; exact h
      subst he
      obtain ⟨B2, R⟩ := HK.out 14 3 s.tick w3 w2 HTK.out HO3.out h2
      have HR := Lib.hid R
      have b0 : w2.cell? ⟨n0, 0, none⟩ = some (.int .i64 0) := B2.cell 0
      have b1 : w2.cell? ⟨n0, 1, none⟩ = some (.int .i64 0) := B2.cell 1
      have b2 : w2.cell? ⟨n0, 2, none⟩ = some (.slice none 0 0) := B2.cell 2
      have b3 : w2.cell? ⟨n0, 3, none⟩ = some (.int .i64 0) := B2.cell 3
      have b4 : w2.cell? ⟨n0, 4, none⟩ = some (.int .i64 0) := B2.cell 4
      have bf := fun i => B2.free i
      have HB2 := Lib.hid B2
      clear h2 R B2 C2
      go_wp2_with fail
      obtain ⟨B9, o9⟩ := set5 HB2.out (.int .i64 14) (.int .i64 0) (.slice none 0 0) (.int .i64 4) (.int .i64 3)
      exact bodyPost_ret (v := .agg #[.int .i64 14, .int .i64 0, .slice none 0 0, .int .i64 4, .int .i64 3]) (results_cell_row Try.results50 _ _ n0 _ _ _ _ rfl B9 Try.underlying27 rfl info_res) rfl (HR.out _ B9 o9 _)
    | true =>
      rw [show s.commit j t = (⟨0, 0, [], 3, 0⟩, s.tick.done j t) by simp [St.commit, hh]; omega]
      go_enter Try.func50, Try.ntmps50
      go_upto_region 1 with (fail)
      rw [← hW, ← HN.out]
      clear hW
      go_wp2_with fail
      go_quiet (fail)
      have M1 := HM0.out.drewN nq
      have B1 : Blk (W.drewN nq) n0 _ _ := HB.out
      have O1 : Only P W (W.drewN nq) := (Only.refl P W).drewN nq
      replace m2 : (W.drewN nq).cell? ⟨m, 2, none⟩ = some (.int .u64 s.now) := M1.mod.cell 2
      replace cj : (W.drewN nq).cell? ⟨m, 5 + j, none⟩ = some (.pointer (some ⟨A.tb j, 0, none⟩)) := cj
      clear m1
      generalize W.drewN nq = W1 at *
      have fm := M1.mod.free 2
      obtain ⟨W2, hW2⟩ : ∃ W2, W2 = W1.setCell ⟨m, 2, none⟩ (.int .u64 (s.now + 1)) := ⟨_, rfl⟩
      have M2 : MIn B W2 P m s.tick A := by rw [hW2]; exact M1.tick hov'
      have O2 : Only P W W2 := by rw [hW2]; exact O1.trans ((Only.set1 W1 m 2 _).toward (fun b hb => by subst hb; exact M1.pm))
      have C := md_holds M2 HTK.out (s.now + 1)
      have p2 : W2.cell? ⟨m, 2, none⟩ = some (.int .u64 (s.now + 1)) := M2.mod.cell 2
      have HO2 := Lib.hid O2
      clear M1 B1 O1 M2 O2
      go_upto_region 5 with (fail)
      rw [← hW2]
      clear hW2 m2 fm
      go_wp2_with fail
      refine C.mono ?_
      rintro e w3 ⟨rfl, M3, o3⟩
      rw [hh]
      have O3 := HO2.out.trans (o3.any P)
      have B3 := O3.blk HB.out HNN.out
      have X3 := (M3.txs.one j t HTK.out).2
      have c4 := X3.cells.2.1
      obtain ⟨D, hD⟩ := X3.cm
      obtain ⟨w0, cnt0, hrun, hR, o0, z0⟩ := hD.range (T := 97) keyed Try.underlying97
      obtain ⟨r, hr⟩ : ∃ r, r = w3.heap.size := ⟨_, rfl⟩
      rw [← hr] at hrun hR
      have hnr : ¬ P r := fun hp => by have := M3.under _ hp; omega
      have R0 : AbRel B m w P s.tick A j t r n0 (fun k => (t.cells k).isSome) cnt0 (doneD (fun k => (t.cells k).isSome) t.cells (s.now + 1) s.vs) w0 := by
        rw [doneD_start]
        have := HO.out.size; have := O3.size; have := HN.out
        refine ⟨⟨D, ?_⟩, M3.only0 o0, o0.blk B3 (fun h => h), (HO.out.any P).trans (O3.trans (o0.any P)), hnr, HNN.out, by omega, by omega⟩
        have : (fun k => (cMap (A.ca j) t.cells k).isSome) = fun k => (t.cells k).isSome := by funext k; simp [cMap]
        rw [this] at hR
        exact hR
      have HR0 := Lib.hid R0
      clear C p2 M3 o3 O3 B3 X3 hD hR o0 z0 hnr R0 hr cj
      go_wp2_with fail
      go_loopw [7] (fun _ wr => ∃ (left : Nat → Bool) (cnt : Nat), AbRel B m w P s.tick A j t r n0 left cnt (doneD left t.cells (s.now + 1) s.vs) wr) (fun _ wr => wr.rangeLeft (A.mb j 0) r)
      case atStart => exact ⟨_, _, HR0.out⟩
      case round =>
        obtain ⟨left, cnt, hA⟩ := hrel
        rcases hA.next HTK.out 0 with ⟨hc0, hl0, hnx⟩ | ⟨k, c, w1, cnt1, hk, hl, hc, hnx, hA1, hlt, hen, hcb, hcp⟩
        · have M := hA.mod
          rw [doneD_end hl0] at M
          have cjr : wr.cell? ⟨m, 5 + j, none⟩ = some (.pointer (some ⟨A.tb j, 0, none⟩)) := by rw [M.sess j hj]; simp [txPtr, HTK.out]
          have fjr := M.mod.free (5 + j)
          obtain ⟨W8, hW8⟩ : ∃ W8, W8 = wr.setCell ⟨m, 5 + j, none⟩ (.pointer none) := ⟨_, rfl⟩
          have M8 : MIn B W8 P m (s.tick.done j t) A := by rw [hW8]; exact M.drop j hj
          have hnm : n0 ≠ m := fun e => hA.nr.2.1 (e ▸ M.pm)
          have B8 : Blk W8 n0 27 #[.int .i64 0, .int .i64 0, .slice none 0 0, .int .i64 0, .int .i64 0] := by rw [hW8]; exact hA.box.other ⟨m, 5 + j, none⟩ _ hnm
          have O8 : Only P w W8 := by rw [hW8]; exact hA.only.trans ((Only.set1 wr m (5 + j) _).toward (fun b hb => by subst hb; exact M.pm))
          have HM8 := Lib.hid M8
          have HB8 := Lib.hid B8
          have HO8 := Lib.hid O8
          have hnP := Lib.hid hA.nr.2.1
          have b0 : W8.cell? ⟨n0, 0, none⟩ = some (.int .i64 0) := B8.cell 0
          have b1 : W8.cell? ⟨n0, 1, none⟩ = some (.int .i64 0) := B8.cell 1
          have b2 : W8.cell? ⟨n0, 2, none⟩ = some (.slice none 0 0) := B8.cell 2
          have b3 : W8.cell? ⟨n0, 3, none⟩ = some (.int .i64 0) := B8.cell 3
          have b4 : W8.cell? ⟨n0, 4, none⟩ = some (.int .i64 0) := B8.cell 4
          have bf := fun i => B8.free i
          clear hA M M8 B8 O8 hl0 hc0 hnm
          go_upto_region 17 with (fail)
          rw [← hW8]
          clear hW8
          go_wp2_with fail
          obtain ⟨B9, o9⟩ := set5 HB8.out (.int .i64 0) (.int .i64 0) (.slice none 0 0) (.int .i64 3) (.int .i64 0)
          have hn := HN.out
          refine bodyPost_ret (v := .agg #[.int .i64 0, .int .i64 0, .slice none 0 0, .int .i64 3, .int .i64 0]) (results_cell_row Try.results50 _ _ n0 _ _ _ _ rfl B9 Try.underlying27 rfl info_res) rfl ?_
          exact ⟨A, P, rfl, HM8.out.only o9 (fun b hb e => by subst e; exact hnP.out hb), rfl, rfl, HO8.out.grewTrans (P2 := fun b => P b ∨ b = n0) (fun b hb => hb.imp id (fun e => by omega)) (o9.toward (fun b hb => .inr hb)), Grew.refl _ _⟩
        · have S1 := Lib.hid (doneD_step hk hl hc (s.now + 1) s.vs)
          have hrf := hA1.mod.ok.refs j t k c HTK.out hc
          obtain ⟨q0, q1, q2, qm⟩ := hA1.see HTK.out hc
          have HA := Lib.hid hA
          have HC := Lib.hid hc
          have HLT := Lib.hid hlt
          cases ho : c.old with
          | none =>
            rw [ho, show ptrOf A.va none = .pointer none from rfl] at q1
            cases hw : c.own with
            | none =>
              rw [hw, show ptrOf A.va none = .pointer none from rfl] at q0
              have H1 := Lib.hid (show AbRel B m w P s.tick A j t r n0 _ cnt1 (doneD (fun q => left q && !decide (q = k)) t.cells (s.now + 1) s.vs) w1 by
                rw [S1.out]; simp only [ownV, oldV, ho, hw]; exact hA1)
              have H2 := Lib.hid (hA.less hA1 hlt)
              clear hA hA1 hc ho hw hcb hcp hl hlt hrf
              go_wp2_with fail
              go_roundw
              case rel => exact ⟨_, _, H1.out⟩
              case measure => exact H2.out
            | some i =>
              have hi' : i < (doneD left t.cells (s.now + 1) s.vs).length := by have := hrf.1 i hw; exact this
              obtain ⟨v3, v4, vf⟩ := hA1.ver hi'
              rw [hw, show ptrOf A.va (some i) = .pointer (some ⟨A.va i, 0, none⟩) from rfl] at q0
              cases hth : c.there with
              | true =>
                rw [hth] at q2
                have K1 := (hA1.beg HTK.out hi' (s.now + 1)).drewN 1
                have H1 := Lib.hid (show AbRel B m w P s.tick A j t r n0 (fun q => left q && !decide (q = k)) cnt1 (doneD (fun q => left q && !decide (q = k)) t.cells (s.now + 1) s.vs) _ by rw [S1.out]; simp only [ownV, oldV, ho, hw, hth, if_true]; exact K1)
                have H2 := Lib.hid (hA.less K1 hlt)
                clear hA hA1 hc ho hw hcb hcp hl hlt hrf K1 hth hi'
                go_wp2_with fail
                go_region
                go_wp2_with fail
                go_roundw
                case rel => exact ⟨_, _, H1.out⟩
                case measure => exact H2.out
              | false =>
                rw [hth] at q2
                have K1 := (hA1.beg HTK.out hi' (s.now + 1))
                have K2 := (K1.fin HTK.out (i := i) (by rw [setBeg_len]; exact hi') (s.now + 1)).drewN 2
                have H1 := Lib.hid (show AbRel B m w P s.tick A j t r n0 (fun q => left q && !decide (q = k)) cnt1 (doneD (fun q => left q && !decide (q = k)) t.cells (s.now + 1) s.vs) _ by rw [S1.out]; simp only [ownV, oldV, ho, hw, hth, Bool.false_eq_true, if_false]; exact K2)
                have H2 := Lib.hid (hA.less K2 hlt)
                clear hA hA1 hc ho hw hcb hcp hl hlt hrf K1 K2 hth hi'
                go_wp2_with fail
                go_region
                go_wp2_with fail
                go_region
                go_wp2_with fail
                go_roundw
                case rel => exact ⟨_, _, H1.out⟩
                case measure => exact H2.out
          | some o =>
            have ho' : o < (doneD left t.cells (s.now + 1) s.vs).length := by have := hrf.2 o ho; exact this
            obtain ⟨u3, u4, uf⟩ := hA1.ver ho'
            rw [ho, show ptrOf A.va (some o) = .pointer (some ⟨A.va o, 0, none⟩) from rfl] at q1
            have J1 := hA1.fin HTK.out ho' (s.now + 1)
            cases hw : c.own with
            | none =>
              rw [hw, show ptrOf A.va none = .pointer none from rfl] at q0
              have K1 := J1.drewN 1
              have H1 := Lib.hid (show AbRel B m w P s.tick A j t r n0 (fun q => left q && !decide (q = k)) cnt1 (doneD (fun q => left q && !decide (q = k)) t.cells (s.now + 1) s.vs) _ by rw [S1.out]; simp only [ownV, oldV, ho, hw]; exact K1)
              have H2 := Lib.hid (hA.less K1 hlt)
              clear hA hA1 hc ho hw hcb hcp hl hlt hrf K1 J1 ho'
              go_wp2_with fail
              go_region
              go_wp2_with fail
              go_roundw
              case rel => exact ⟨_, _, H1.out⟩
              case measure => exact H2.out
            | some i =>
              have hi' : i < (setFin (doneD left t.cells (s.now + 1) s.vs) o (s.now + 1)).length := by rw [setFin_len]; have := hrf.1 i hw; exact this
              obtain ⟨v3, _, vf⟩ := hA1.ver (by rw [setFin_len] at hi'; exact hi')
              obtain ⟨_, y4, _⟩ := J1.ver hi'
              change (w1.setCell ⟨A.va o, 4, none⟩ (.int .u64 s.tick.now)).cell? _ = _ at y4
              rw [hw, show ptrOf A.va (some i) = .pointer (some ⟨A.va i, 0, none⟩) from rfl] at q0
              have K1 := J1.beg HTK.out hi' (s.now + 1)
              cases hth : c.there with
              | true =>
                rw [hth] at q2
                have K2 := K1.drewN 2
                have H1 := Lib.hid (show AbRel B m w P s.tick A j t r n0 (fun q => left q && !decide (q = k)) cnt1 (doneD (fun q => left q && !decide (q = k)) t.cells (s.now + 1) s.vs) _ by rw [S1.out]; simp only [ownV, oldV, ho, hw, hth, if_true]; exact K2)
                have H2 := Lib.hid (hA.less K2 hlt)
                clear hA hA1 hc ho hw hcb hcp hl hlt hrf K1 K2 J1 hth hi' ho'
                go_wp2_with fail
                go_region
                go_wp2_with fail
                go_region
                go_wp2_with fail
                go_roundw
                case rel => exact ⟨_, _, H1.out⟩
                case measure => exact H2.out
              | false =>
                rw [hth] at q2
                have hi2 : i < (setBeg (setFin (doneD left t.cells (s.now + 1) s.vs) o (s.now + 1)) i (s.now + 1)).length := by rw [setBeg_len]; exact hi'
                have K2 := (K1.fin HTK.out hi2 (s.now + 1)).drewN 3
                have H1 := Lib.hid (show AbRel B m w P s.tick A j t r n0 (fun q => left q && !decide (q = k)) cnt1 (doneD (fun q => left q && !decide (q = k)) t.cells (s.now + 1) s.vs) _ by rw [S1.out]; simp only [ownV, oldV, ho, hw, hth, Bool.false_eq_true, if_false]; exact K2)
                have H2 := Lib.hid (hA.less K2 hlt)
                clear hA hA1 hc ho hw hcb hcp hl hlt hrf K1 K2 J1 hth hi' ho' hi2
                go_wp2_with fail
                go_region
                go_wp2_with fail
                go_region
                go_wp2_with fail
                go_region
                go_wp2_with fail
                go_roundw
                case rel => exact ⟨_, _, H1.out⟩
                case measure => exact H2.out
end Go.Proofs.Ytcbhafddehipdaa

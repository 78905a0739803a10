/-
  model.Model: get.
-/
import Derived.Test.YtcbhafddehipdaaMdCommit
namespace Go.Proofs.Ytcbhafddehipdaa
open Go.RowKit
set_option linter.unusedVariables false
set_option linter.unusedSimpArgs false

/-- A result is stored into its box behind all else. -/
theorem StRes.box {B m : Nat} {w w2 w9 : World} {P P' : Nat → Prop} {A A' : Ad} {s' : St} {n0 : Nat} {v : Value} (hn : w.heap.size ≤ n0) (hP : ¬ P' n0) (M : MIn B w2 P' m s' A') (e1 : A'.tb = A.tb) (e2 : A'.mb = A.mb) (o : Only P w w2) (g : Grew w.heap.size P P') (o9 : Only (fun c => c = n0) w2 w9) : StRes B m w P A v s' (.returned v) w9 :=
  ⟨A', P', rfl, M.only o9 (fun b hb e => by subst e; exact hP hb), e1, e2, o.grewTrans (P2 := fun b => P b ∨ b = n0) (fun b hb => hb.imp id (fun e => by omega)) (o9.toward (fun b hb => .inr hb)), g⟩
theorem look_cells (t : Tx) (k : Nat) : (t.look k).cells = t.cells := by unfold Tx.look; split <;> rfl
def zeroRes : Array Value := #[.int .i64 0, .int .i64 0, .slice none 0 0, .int .i64 0, .int .i64 0]

set_option maxRecDepth 100000 in
set_option maxHeartbeats 8000000 in
theorem md_get {B m : Nat} {w : World} {P : Nat → Prop} {s : St} {A : Ad} (h : MIn B w P m s A) {j : Nat} {t : Tx} (ht : s.tx j = some t) (k : Nat) (hk : k < 64) :
    Calls Try.prog 52 #[.pointer (some ⟨m, 0, none⟩), .pointer (some ⟨A.tb j, 0, none⟩), .int .i64 k] w (StRes B m w P A (resV (s.get j t k).1) (s.get j t k).2) := by
  obtain ⟨W, hW⟩ : ∃ W, W = w.alloc (.cells #[.int .i64 0, .int .i64 0, .slice none 0 0, .int .i64 0, .int .i64 0] 27) := ⟨_, rfl⟩
  have oW : Only0 w W := by rw [hW]; exact (Only0.refl w).alloc _
  have M0 := h.only0 oW
  have BX : Blk W w.heap.size 27 #[.int .i64 0, .int .i64 0, .slice none 0 0, .int .i64 0, .int .i64 0] := by rw [hW]; exact Blk.new _ _ _
  have hnn : ¬ P w.heap.size := fun hp => by have := h.under _ hp; omega
  have C := md_look M0 ht k hk
  have HRES := Lib.hid (at_lt M0 (key := k) (at_ := t.beg))
  have HREF := Lib.hid (fun c hc => M0.ok.refs j t k c ht hc)
  have HT := Lib.hid ht
  have HO := Lib.hid oW
  have HB := Lib.hid BX
  have HNN := Lib.hid hnn
  obtain ⟨n0, hn0⟩ : ∃ n0, n0 = w.heap.size := ⟨_, rfl⟩
  have HN := Lib.hid hn0
  rw [← hn0] at HB HNN
  clear h M0 BX oW ht hnn hn0
  have BOX : ∀ w1, Only P W w1 → (Blk w1 n0 27 #[.int .i64 0, .int .i64 0, .slice none 0 0, .int .i64 0, .int .i64 0]) := fun w1 o1 => o1.blk HB.out HNN.out
  have HBOX := Lib.hid BOX
  clear BOX
  cases hs : s.sees t k with
  | none =>
    rw [show s.get j t k = (.err 11, s.setTx j (some (t.look k))) by simp [St.get, hs]]
    rw [hs, show ptrOf A.va none = .pointer none from rfl] at C
    go_enter Try.func52, Try.ntmps52
    go_upto_region 1 with (fail)
    rw [← hW, ← HN.out]
    clear hW
    go_wp2_with fail
    refine C.mono ?_
    rintro e w2 ⟨rfl, M2, o2⟩
    have B2 := HBOX.out w2 o2
    have HM := Lib.hid M2
    have HO2 := Lib.hid o2
    have b0 : w2.cell? ⟨n0, 0, none⟩ = some (.int .i64 0) := B2.cell 0
    have b1 : w2.cell? ⟨n0, 1, none⟩ = some (.int .i64 0) := B2.cell 1
    have b2 : w2.cell? ⟨n0, 2, none⟩ = some (.slice none 0 0) := B2.cell 2
    have b3 : w2.cell? ⟨n0, 3, none⟩ = some (.int .i64 0) := B2.cell 3
    have b4 : w2.cell? ⟨n0, 4, none⟩ = some (.int .i64 0) := B2.cell 4
    have bf := fun i => B2.free i
    have HB2 := Lib.hid B2
    clear C M2 o2 B2
    go_wp2_with fail
    obtain ⟨B9, o9⟩ := set5 HB2.out (.int .i64 11) (.int .i64 0) (.slice none 0 0) (.int .i64 0) (.int .i64 0)
    exact bodyPost_ret (v := .agg #[.int .i64 11, .int .i64 0, .slice none 0 0, .int .i64 0, .int .i64 0]) (results_cell_row Try.results52 _ _ n0 _ _ _ _ rfl B9 Try.underlying27 rfl info_res) rfl
      (StRes.box (by rw [HN.out]; exact Nat.le_refl _) HNN.out HM.out rfl rfl ((HO.out.any P).trans HO2.out) (Grew.refl _ _) o9)
  | some i =>
    rw [show s.get j t k = (⟨0, (s.ver i).value, [], 0, 0⟩, s.setTx j (some ((t.look k).mark k))) by simp [St.get, hs]]
    rw [hs, show ptrOf A.va (some i) = .pointer (some ⟨A.va i, 0, none⟩) from rfl] at C
    have hi : i < s.vs.length := by
      unfold St.sees at hs
      cases hc : t.cells k with
      | none => rw [hc] at hs; exact HRES.out i hs
      | some c =>
        rw [hc] at hs
        simp only at hs
        split at hs
        · exact (HREF.out c hc).1 i hs
        · cases hs
    cases hc : t.cells k with
    | some c =>
      have EQ := Lib.hid (show (t.look k).mark k = t.look k by simp [Tx.mark, look_cells, hc])
      rw [EQ.out]
      go_enter Try.func52, Try.ntmps52
      go_upto_region 1 with (fail)
      rw [← hW, ← HN.out]
      clear hW
      go_wp2_with fail
      refine C.mono ?_
      rintro e w2 ⟨rfl, M2, o2⟩
      have T2 : (s.setTx j (some (t.look k))).tx j = some (t.look k) := by simp [St.setTx, upd_same]
      have X2 := (M2.txs.one j _ T2).2
      have c4 := X2.cells.2.1
      have hrun := X2.cm.look k hk
      rw [show celPtr A j (t.look k) k = .pointer (some ⟨A.ca j k, 0, none⟩) by simp [celPtr, look_cells, hc]] at hrun
      have v1 : w2.cell? ⟨A.va i, 1, none⟩ = some (.int .i64 (s.ver i).value) := (M2.vers.blk i hi).1.cell 1
      have B2 := HBOX.out w2 o2
      have HM := Lib.hid M2
      have HO2 := Lib.hid o2
      have b0 : w2.cell? ⟨n0, 0, none⟩ = some (.int .i64 0) := B2.cell 0
      have b1 : w2.cell? ⟨n0, 1, none⟩ = some (.int .i64 0) := B2.cell 1
      have b2 : w2.cell? ⟨n0, 2, none⟩ = some (.slice none 0 0) := B2.cell 2
      have b3 : w2.cell? ⟨n0, 3, none⟩ = some (.int .i64 0) := B2.cell 3
      have b4 : w2.cell? ⟨n0, 4, none⟩ = some (.int .i64 0) := B2.cell 4
      have bf := fun i => B2.free i
      have HB2 := Lib.hid B2
      clear C M2 o2 B2 hc hs T2 X2
      generalize (s.ver i).value = x at *
      go_wp2_with fail
      obtain ⟨B9, o9⟩ := set5 HB2.out (.int .i64 0) (.int .i64 x) (.slice none 0 0) (.int .i64 0) (.int .i64 0)
      exact bodyPost_ret (v := .agg #[.int .i64 0, .int .i64 x, .slice none 0 0, .int .i64 0, .int .i64 0]) (results_cell_row Try.results52 _ _ n0 _ _ _ _ rfl B9 Try.underlying27 rfl info_res) rfl
        (StRes.box (by rw [HN.out]; exact Nat.le_refl _) HNN.out HM.out rfl rfl ((HO.out.any P).trans HO2.out) (Grew.refl _ _) o9)
    | none =>
      go_enter Try.func52, Try.ntmps52
      go_upto_region 1 with (fail)
      rw [← hW, ← HN.out]
      clear hW
      go_wp2_with fail
      refine C.mono ?_
      rintro e w2 ⟨rfl, M2, o2⟩
      have T2 : (s.setTx j (some (t.look k))).tx j = some (t.look k) := by simp [St.setTx, upd_same]
      have X2 := (M2.txs.one j _ T2).2
      have c4 := X2.cells.2.1
      have c5 := X2.cells.2.2.1
      have hrun := X2.cm.look k hk
      rw [show celPtr A j (t.look k) k = .pointer none by simp [celPtr, look_cells, hc]] at hrun
      obtain ⟨w3, hst, hb3, ho3⟩ := X2.gm.store k hk
      have M3 := M2.setGot T2 ho3 hb3
      rw [setTx_setTx] at M3
      have EQ : ({ t.look k with got := upd (t.look k).got k true } : Tx) = (t.look k).mark k := by simp [Tx.mark, look_cells, hc]
      rw [EQ] at M3
      have o3 : Only P W w3 := o2.trans (ho3.toward (fun b hb => by subst hb; exact X2.pm 1 (by omega)))
      have v1 : w3.cell? ⟨A.va i, 1, none⟩ = some (.int .i64 (s.ver i).value) := (M3.vers.blk i hi).1.cell 1
      have B2 := HBOX.out w3 o3
      have HM := Lib.hid M3
      have HO2 := Lib.hid o3
      have b0 : w3.cell? ⟨n0, 0, none⟩ = some (.int .i64 0) := B2.cell 0
      have b1 : w3.cell? ⟨n0, 1, none⟩ = some (.int .i64 0) := B2.cell 1
      have b2 : w3.cell? ⟨n0, 2, none⟩ = some (.slice none 0 0) := B2.cell 2
      have b3 : w3.cell? ⟨n0, 3, none⟩ = some (.int .i64 0) := B2.cell 3
      have b4 : w3.cell? ⟨n0, 4, none⟩ = some (.int .i64 0) := B2.cell 4
      have bf := fun i => B2.free i
      have HB2 := Lib.hid B2
      clear C M2 o2 B2 hc hs T2 X2 M3 EQ o3 ho3 hb3
      generalize (s.ver i).value = x at *
      go_wp2_with fail
      obtain ⟨B9, o9⟩ := set5 HB2.out (.int .i64 0) (.int .i64 x) (.slice none 0 0) (.int .i64 0) (.int .i64 0)
      exact bodyPost_ret (v := .agg #[.int .i64 0, .int .i64 x, .slice none 0 0, .int .i64 0, .int .i64 0]) (results_cell_row Try.results52 _ _ n0 _ _ _ _ rfl B9 Try.underlying27 rfl info_res) rfl
        (StRes.box (by rw [HN.out]; exact Nat.le_refl _) HNN.out HM.out rfl rfl ((HO.out.any P).trans HO2.out) (Grew.refl _ _) o9)
end Go.Proofs.Ytcbhafddehipdaa

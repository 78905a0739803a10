/-
  model.Model: Status.
-/
import Derived.Test.YtcbhafddehipdaaMdLive
import Derived.Deep.Cut
namespace Go.Proofs.Ytcbhafddehipdaa
open Go.RowKit
set_option linter.unusedVariables false
set_option linter.unusedSimpArgs false

def statV : Option Tx → Array Value
  | none => #[.bool false, .bool false, .bool false, .int .i64 0, .int .i64 0, .int .i64 0, .int .u64 0, .int .u64 0, .int .i64 0]
  | some t => #[.bool true, .bool false, .bool false, .int .i64 t.id, .int .i64 t.level, .int .i64 1, .int .u64 t.beg, .int .u64 0, .int .i64 t.ops]
theorem info_stat : (Try.prog.info? 53).map (·.size) = some 9 := by kernel_rfl
theorem set9 {w : World} {n : Nat} {t : TypeId} {a b c d e f g h i : Value} (B : Blk w n t #[a, b, c, d, e, f, g, h, i]) (a' b' c' d' e' f' g' h' i' : Value) :
    Blk (((((((((w.setCell ⟨n, 0, none⟩ a').setCell ⟨n, 1, none⟩ b').setCell ⟨n, 2, none⟩ c').setCell ⟨n, 3, none⟩ d').setCell ⟨n, 4, none⟩ e').setCell ⟨n, 5, none⟩ f').setCell ⟨n, 6, none⟩ g').setCell ⟨n, 7, none⟩ h').setCell ⟨n, 8, none⟩ i') n t #[a', b', c', d', e', f', g', h', i'] ∧ Only (fun c => c = n) w (((((((((w.setCell ⟨n, 0, none⟩ a').setCell ⟨n, 1, none⟩ b').setCell ⟨n, 2, none⟩ c').setCell ⟨n, 3, none⟩ d').setCell ⟨n, 4, none⟩ e').setCell ⟨n, 5, none⟩ f').setCell ⟨n, 6, none⟩ g').setCell ⟨n, 7, none⟩ h').setCell ⟨n, 8, none⟩ i') := by
  have B0 : Blk _ n t #[a', b, c, d, e, f, g, h, i] := B.set 0 a'
  have B1 : Blk _ n t #[a', b', c, d, e, f, g, h, i] := B0.set 1 b'
  have B2 : Blk _ n t #[a', b', c', d, e, f, g, h, i] := B1.set 2 c'
  have B3 : Blk _ n t #[a', b', c', d', e, f, g, h, i] := B2.set 3 d'
  have B4 : Blk _ n t #[a', b', c', d', e', f, g, h, i] := B3.set 4 e'
  have B5 : Blk _ n t #[a', b', c', d', e', f', g, h, i] := B4.set 5 f'
  have B6 : Blk _ n t #[a', b', c', d', e', f', g', h, i] := B5.set 6 g'
  have B7 : Blk _ n t #[a', b', c', d', e', f', g', h', i] := B6.set 7 h'
  have B8 : Blk _ n t #[a', b', c', d', e', f', g', h', i'] := B7.set 8 i'
  exact ⟨B8, ((((((((Only.set1 w n 0 a').trans (Only.set1 _ n 1 b')).trans (Only.set1 _ n 2 c')).trans (Only.set1 _ n 3 d')).trans (Only.set1 _ n 4 e')).trans (Only.set1 _ n 5 f')).trans (Only.set1 _ n 6 g')).trans (Only.set1 _ n 7 h')).trans (Only.set1 _ n 8 i')⟩
theorem Only0.box {w W w9 : World} {n0 : Nat} (oW : Only0 w W) (hn : w.heap.size ≤ n0) (o9 : Only (fun c => c = n0) W w9) : Only0 w w9 :=
  ⟨o9.os.trans oW.os, o9.tape.trans oW.tape, o9.output.trans oW.output, Nat.le_trans oW.size o9.size, fun k hk hk' => by
    rw [o9.block k (Nat.lt_of_lt_of_le hk oW.size) (fun e => by omega)]
    exact oW.block k hk hk'⟩

set_option maxRecDepth 100000 in
set_option maxHeartbeats 8000000 in
theorem md_status {B m : Nat} {w : World} {P : Nat → Prop} {s : St} (h : MAt B w P m s) (j : Nat) (hj : j < 8) :
    Calls Try.prog 26 #[.pointer (some ⟨m, 0, none⟩), .int .i64 j] w fun e w' => e = .returned (.agg (statV (s.tx j))) ∧ Only0 w w' := by
  obtain ⟨A, h⟩ := h
  obtain ⟨W, hW⟩ : ∃ W, W = w.alloc (.cells #[.bool false, .bool false, .bool false, .int .i64 0, .int .i64 0, .int .i64 0, .int .u64 0, .int .u64 0, .int .i64 0] 53) := ⟨_, rfl⟩
  have oW : Only0 w W := by rw [hW]; exact (Only0.refl w).alloc _
  have M0 := h.only0 oW
  have BX : Blk W w.heap.size 53 #[.bool false, .bool false, .bool false, .int .i64 0, .int .i64 0, .int .i64 0, .int .u64 0, .int .u64 0, .int .i64 0] := by rw [hW]; exact Blk.new _ _ _
  obtain ⟨n0, hn0⟩ : ∃ n0, n0 = w.heap.size := ⟨_, rfl⟩
  have HN := Lib.hid hn0
  have HO := Lib.hid oW
  rw [← hn0] at BX
  have CS := md_sess (j : Int) W
  rw [show sessB (j : Int) = true by simp [sessB]; omega] at CS
  have j8 : (j : Int) < 8 := by omega
  have j0 : (0 : Int) ≤ (j : Int) := by omega
  have cj := M0.sess j hj
  have b0 : W.cell? ⟨n0, 0, none⟩ = some (.bool false) := BX.cell 0
  have b1 : W.cell? ⟨n0, 1, none⟩ = some (.bool false) := BX.cell 1
  have b2 : W.cell? ⟨n0, 2, none⟩ = some (.bool false) := BX.cell 2
  have b3 : W.cell? ⟨n0, 3, none⟩ = some (.int .i64 0) := BX.cell 3
  have b4 : W.cell? ⟨n0, 4, none⟩ = some (.int .i64 0) := BX.cell 4
  have b5 : W.cell? ⟨n0, 5, none⟩ = some (.int .i64 0) := BX.cell 5
  have b6 : W.cell? ⟨n0, 6, none⟩ = some (.int .u64 0) := BX.cell 6
  have b7 : W.cell? ⟨n0, 7, none⟩ = some (.int .u64 0) := BX.cell 7
  have b8 : W.cell? ⟨n0, 8, none⟩ = some (.int .i64 0) := BX.cell 8
  have bf := fun i => BX.free i
  have HBX := Lib.hid BX
  clear BX hn0
  cases hu : s.tx j with
  | none =>
    rw [show txPtr A s.tx j = .pointer none by simp [txPtr, hu]] at cj
    clear hu h M0 oW
    go_enter Try.func26, Try.ntmps26
    go_upto_region 1 with (fail)
    rw [← hW, ← HN.out]
    clear hW
    go_wp2_with fail
    refine CS.mono ?_
    rintro e w1 ⟨rfl, rfl⟩
    go_wp2_with fail
    obtain ⟨B9, o9⟩ := set9 HBX.out (.bool false) (.bool false) (.bool false) (.int .i64 0) (.int .i64 0) (.int .i64 0) (.int .u64 0) (.int .u64 0) (.int .i64 0)
    exact bodyPost_ret (v := .agg (statV none)) (results_cell_row Try.results26 _ _ n0 _ _ _ _ rfl B9 Try.underlying53 rfl info_stat) rfl ⟨rfl, HO.out.box (by rw [HN.out]; exact Nat.le_refl _) o9⟩
  | some t =>
    have X0 := (M0.txs.one j t hu).2.blk
    have t0 : W.cell? ⟨A.tb j, 0, none⟩ = some (.int .i64 t.id) := X0.cell 0
    have t1 : W.cell? ⟨A.tb j, 1, none⟩ = some (.int .i64 t.level) := X0.cell 1
    have t2 : W.cell? ⟨A.tb j, 2, none⟩ = some (.int .u64 t.beg) := X0.cell 2
    have t3 : W.cell? ⟨A.tb j, 3, none⟩ = some (.int .i64 t.ops) := X0.cell 3
    rw [show txPtr A s.tx j = .pointer (some ⟨A.tb j, 0, none⟩) by simp [txPtr, hu]] at cj
    clear hu h M0 oW X0
    go_enter Try.func26, Try.ntmps26
    go_upto_region 1 with (fail)
    rw [← hW, ← HN.out]
    clear hW
    go_wp2_with fail
    refine CS.mono ?_
    rintro e w1 ⟨rfl, rfl⟩
    go_wp2_with fail
    go_region
    go_wp2_with fail
    obtain ⟨B9, o9⟩ := set9 HBX.out (.bool true) (.bool false) (.bool false) (.int .i64 t.id) (.int .i64 t.level) (.int .i64 1) (.int .u64 t.beg) (.int .u64 0) (.int .i64 t.ops)
    exact bodyPost_ret (v := .agg (statV (some t))) (results_cell_row Try.results26 _ _ n0 _ _ _ _ rfl B9.drew Try.underlying53 rfl info_stat) rfl ⟨rfl, (HO.out.box (by rw [HN.out]; exact Nat.le_refl _) o9).drew⟩
end Go.Proofs.Ytcbhafddehipdaa

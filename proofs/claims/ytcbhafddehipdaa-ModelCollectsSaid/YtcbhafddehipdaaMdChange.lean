/-
  model.Model: change.
-/
import Derived.Test.YtcbhafddehipdaaMdGet
namespace Go.Proofs.Ytcbhafddehipdaa
open Go.RowKit
set_option linter.unusedVariables false
set_option linter.unusedSimpArgs false

theorem write_tx {s : St} {j k : Nat} {t : Tx} {kind value : Int} (ht : s.tx j = some t) : ∃ t1, (s.write j t kind k value).2.tx j = some t1 := by
  unfold St.write
  split
  · exact ⟨t, ht⟩
  · split
    · exact ⟨_, upd_same _ _ _⟩
    · split
      · split
        · exact ⟨_, upd_same _ _ _⟩
        · exact ⟨_, upd_same _ _ _⟩
      · exact ⟨_, upd_same _ _ _⟩
theorem write_r {s : St} {j k : Nat} {t : Tx} {kind value : Int} : (s.write j t kind k value).1 = 0 ∨ (s.write j t kind k value).1 = 2 ∨ (s.write j t kind k value).1 = 5 := by
  unfold St.write
  split
  · exact .inr (.inl rfl)
  · split
    · exact .inl rfl
    · split
      · split
        · exact .inr (.inr rfl)
        · exact .inl rfl
      · exact .inl rfl

set_option maxRecDepth 100000 in
set_option maxHeartbeats 16000000 in
theorem md_change {B m : Nat} {w : World} {P : Nat → Prop} {s : St} {A : Ad} (h : MIn B w P m s A) {j : Nat} {t : Tx} (ht : s.tx j = some t) (k : Nat) (hk : k < 64) (kind hi value : Int) :
    Calls Try.prog 54 #[.pointer (some ⟨m, 0, none⟩), .int .i64 j, .agg #[.int .i64 kind, .int .i64 k, .int .i64 hi, .int .i64 value]] w (StRes B m w P A (resV (s.change j t kind k value).1) (s.change j t kind k value).2) := by
  obtain ⟨W, hW⟩ : ∃ W, W = (w.alloc (.cells #[.int .i64 kind, .int .i64 k, .int .i64 hi, .int .i64 value] 31)).alloc (.cells #[.int .i64 0, .int .i64 0, .slice none 0 0, .int .i64 0, .int .i64 0] 27) := ⟨_, rfl⟩
  have oW : Only0 w W := by rw [hW]; exact ((Only0.refl w).alloc _).alloc _
  have M0 := h.only0 oW
  have BO : Blk W w.heap.size 31 #[.int .i64 kind, .int .i64 k, .int .i64 hi, .int .i64 value] := by rw [hW]; exact (Blk.new _ _ _).alloc _
  have BX : Blk W (w.heap.size + 1) 27 #[.int .i64 0, .int .i64 0, .slice none 0 0, .int .i64 0, .int .i64 0] := by rw [hW]; exact Blk.new' _ _ _ _ (by simp)
  have hn0 : ¬ P w.heap.size := fun hp => by have := h.under _ hp; omega
  have hn1 : ¬ P (w.heap.size + 1) := fun hp => by have := h.under _ hp; omega
  have hj := (M0.txs.one j t ht).1
  have j8 : (j : Int) < 8 := by omega
  have j0 : (0 : Int) ≤ (j : Int) := by omega
  have cj : W.cell? ⟨m, 5 + j, none⟩ = some (.pointer (some ⟨A.tb j, 0, none⟩)) := by rw [M0.sess j hj]; simp [txPtr, ht]
  have C := md_sees M0 ht k hk
  have o0 : W.cell? ⟨w.heap.size, 0, none⟩ = some (.int .i64 kind) := BO.cell 0
  have o1 : W.cell? ⟨w.heap.size, 1, none⟩ = some (.int .i64 k) := BO.cell 1
  have HM0 := Lib.hid M0
  have HT := Lib.hid ht
  have HO := Lib.hid oW
  have HB := Lib.hid BX
  have HBO := Lib.hid BO
  have H0 := Lib.hid hn0
  have H1 := Lib.hid hn1
  have hWs : w.heap.size + 1 < W.heap.size := BX.lt
  obtain ⟨n0, hn0'⟩ : ∃ n0, n0 = w.heap.size := ⟨_, rfl⟩
  have HN := Lib.hid hn0'
  rw [← hn0'] at HB HBO H0 H1 o0 o1
  obtain ⟨n1, hn1'⟩ : ∃ n1, n1 = n0 + 1 := ⟨_, rfl⟩
  have HN1 := Lib.hid hn1'
  rw [← hn1'] at HB H1
  clear h M0 BX BO oW ht hn0 hn1 hn0' hn1'
  by_cases hb : (s.sees t k).isSome = decide (kind = 2)
  · rw [show s.change j t kind k value = (.err (if (s.sees t k).isSome then 12 else 11), s.setTx j (some (t.look k))) by simp [St.change, hb]]
    have C2 := md_look HM0.out HT.out k hk
    cases hs : s.sees t k with
    | none =>
      rw [hs] at hb C C2
      have hk2 : (kind == 2) = false := by simpa using hb.symm
      rw [show ptrOf A.va none = .pointer none from rfl] at C C2
      clear hb
      go_enter Try.func54, Try.ntmps54
      go_upto_region 1 with (fail)
      rw [← hW, ← HN.out, ← HN1.out]
      clear hW
      go_wp2_with fail
      refine C.mono ?_
      rintro e w1 ⟨rfl, rfl⟩
      go_wp2_with fail
      refine C2.mono ?_
      rintro e w2 ⟨rfl, M2, o2⟩
      have B2 := o2.blk HB.out H1.out
      have HM := Lib.hid M2
      have HO2 := Lib.hid o2
      have b0 : w2.cell? ⟨n1, 0, none⟩ = some (.int .i64 0) := B2.cell 0
      have b1 : w2.cell? ⟨n1, 1, none⟩ = some (.int .i64 0) := B2.cell 1
      have b2 : w2.cell? ⟨n1, 2, none⟩ = some (.slice none 0 0) := B2.cell 2
      have b3 : w2.cell? ⟨n1, 3, none⟩ = some (.int .i64 0) := B2.cell 3
      have b4 : w2.cell? ⟨n1, 4, none⟩ = some (.int .i64 0) := B2.cell 4
      have bf := fun i => B2.free i
      have HB2 := Lib.hid B2
      clear C C2 M2 o2 B2 hs
      go_wp2_with fail
      obtain ⟨B9, o9⟩ := set5 HB2.out (.int .i64 11) (.int .i64 0) (.slice none 0 0) (.int .i64 0) (.int .i64 0)
      exact bodyPost_ret (v := .agg #[.int .i64 11, .int .i64 0, .slice none 0 0, .int .i64 0, .int .i64 0]) (results_cell_row Try.results54 _ _ n1 _ _ _ _ rfl B9 Try.underlying27 rfl info_res) rfl
        (StRes.box (by have := HN.out; have := HN1.out; omega) H1.out HM.out rfl rfl ((HO.out.any P).trans HO2.out) (Grew.refl _ _) o9)
    | some i =>
      rw [hs] at hb C C2
      have hk2 : kind = 2 := by simpa using hb.symm
      subst hk2
      rw [show ptrOf A.va (some i) = .pointer (some ⟨A.va i, 0, none⟩) from rfl] at C C2
      clear hb
      go_enter Try.func54, Try.ntmps54
      go_upto_region 1 with (fail)
      rw [← hW, ← HN.out, ← HN1.out]
      clear hW
      go_wp2_with fail
      refine C.mono ?_
      rintro e w1 ⟨rfl, rfl⟩
      go_wp2_with fail
      refine C2.mono ?_
      rintro e w2 ⟨rfl, M2, o2⟩
      have B2 := o2.blk HB.out H1.out
      have HM := Lib.hid M2
      have HO2 := Lib.hid o2
      have b0 : w2.cell? ⟨n1, 0, none⟩ = some (.int .i64 0) := B2.cell 0
      have b1 : w2.cell? ⟨n1, 1, none⟩ = some (.int .i64 0) := B2.cell 1
      have b2 : w2.cell? ⟨n1, 2, none⟩ = some (.slice none 0 0) := B2.cell 2
      have b3 : w2.cell? ⟨n1, 3, none⟩ = some (.int .i64 0) := B2.cell 3
      have b4 : w2.cell? ⟨n1, 4, none⟩ = some (.int .i64 0) := B2.cell 4
      have bf := fun i => B2.free i
      have HB2 := Lib.hid B2
      clear C C2 M2 o2 B2 hs
      go_wp2_with fail
      obtain ⟨B9, o9⟩ := set5 HB2.out (.int .i64 12) (.int .i64 0) (.slice none 0 0) (.int .i64 0) (.int .i64 0)
      exact bodyPost_ret (v := .agg #[.int .i64 12, .int .i64 0, .slice none 0 0, .int .i64 0, .int .i64 0]) (results_cell_row Try.results54 _ _ n1 _ _ _ _ rfl B9 Try.underlying27 rfl info_res) rfl
        (StRes.box (by have := HN.out; have := HN1.out; omega) H1.out HM.out rfl rfl ((HO.out.any P).trans HO2.out) (Grew.refl _ _) o9)
  · have C2 := md_write HM0.out HT.out k hk kind hi value
    obtain ⟨t1, ht1⟩ := write_tx (s := s) (j := j) (k := k) (t := t) (kind := kind) (value := value) HT.out
    have hr := write_r (s := s) (j := j) (k := k) (t := t) (kind := kind) (value := value)
    have e0 : s.change j t kind k value = if (s.write j t kind k value).1 = 0 then (.zero, (s.write j t kind k value).2) else (abortRes 14 (s.write j t kind k value).1, (s.write j t kind k value).2.kill j t1) := by
      simp only [St.change, if_neg hb, ht1]
    rw [e0]
    clear e0
    have o2 : W.cell? ⟨n0, 2, none⟩ = some (.int .i64 hi) := HBO.out.cell 2
    have o3 : W.cell? ⟨n0, 3, none⟩ = some (.int .i64 value) := HBO.out.cell 3
    -- the test's own words, whichever way
    obtain ⟨p, hp, hcmp⟩ : ∃ p : Option Addr, ptrOf A.va (s.sees t k) = .pointer p ∧ ((p = none ∧ kind = 2) ∨ ((∃ a, p = some a) ∧ (kind == 2) = false)) := by
      cases hs : s.sees t k with
      | none => exact ⟨none, rfl, .inl ⟨rfl, by rw [hs] at hb; simpa using hb⟩⟩
      | some i => exact ⟨_, rfl, .inr ⟨⟨_, rfl⟩, by rw [hs] at hb; simpa using hb⟩⟩
    rw [hp] at C
    generalize s.write j t kind k value = r at *
    obtain ⟨r, s1⟩ := r
    dsimp only at *
    have HT1 := Lib.hid ht1
    clear ht1 hb hp
    rcases hr with rfl | hr
    · rw [if_pos rfl]
      rcases hcmp with ⟨rfl, rfl⟩ | ⟨⟨a, rfl⟩, hk2⟩
      all_goals
        go_enter Try.func54, Try.ntmps54
        go_upto_region 1 with (fail)
        rw [← hW, ← HN.out, ← HN1.out]
        clear hW
        go_wp2_with fail
        refine C.mono ?_
        rintro e w1 ⟨rfl, rfl⟩
        go_wp2_with fail
        refine C2.mono ?_
        rintro e w2 ⟨A', P', rfl, M2, a1, a2, o4, g4⟩
        have nP' : ¬ P' n1 := fun hp => by
          rcases g4 n1 hp with h1 | h1
          · exact H1.out h1
          · have := HN.out; have := HN1.out; omega
        have B2 := o4.blk HB.out H1.out
        have HM := Lib.hid (show MIn B w2 P' m s1 A' ∧ A'.tb = A.tb ∧ A'.mb = A.mb ∧ Only P W w2 ∧ Grew W.heap.size P P' ∧ ¬ P' n1 from ⟨M2, a1, a2, o4, g4, nP'⟩)
        have b0 : w2.cell? ⟨n1, 0, none⟩ = some (.int .i64 0) := B2.cell 0
        have b1 : w2.cell? ⟨n1, 1, none⟩ = some (.int .i64 0) := B2.cell 1
        have b2 : w2.cell? ⟨n1, 2, none⟩ = some (.slice none 0 0) := B2.cell 2
        have b3 : w2.cell? ⟨n1, 3, none⟩ = some (.int .i64 0) := B2.cell 3
        have b4 : w2.cell? ⟨n1, 4, none⟩ = some (.int .i64 0) := B2.cell 4
        have bf := fun i => B2.free i
        have HB2 := Lib.hid B2
        clear C C2 M2 o4 B2 a1 a2 g4 nP'
        go_wp2_with fail
        obtain ⟨B9, o9⟩ := set5 HB2.out (.int .i64 0) (.int .i64 0) (.slice none 0 0) (.int .i64 0) (.int .i64 0)
        exact bodyPost_ret (v := .agg #[.int .i64 0, .int .i64 0, .slice none 0 0, .int .i64 0, .int .i64 0]) (results_cell_row Try.results54 _ _ n1 _ _ _ _ rfl B9 Try.underlying27 rfl info_res) rfl
          (StRes.box (by have := HN.out; have := HN1.out; omega) HM.out.2.2.2.2.2 HM.out.1 HM.out.2.1 HM.out.2.2.1 ((HO.out.any P).trans HM.out.2.2.2.1) (HM.out.2.2.2.2.1.base HO.out.size) o9)
    · have hr0 : r ≠ 0 := by omega
      rw [if_neg hr0]
      have hrb : (r != 0) = true := by simpa using hr0
      clear hr hr0
      rcases hcmp with ⟨rfl, rfl⟩ | ⟨⟨a, rfl⟩, hk2⟩
      all_goals
        go_enter Try.func54, Try.ntmps54
        go_upto_region 1 with (fail)
        rw [← hW, ← HN.out, ← HN1.out]
        clear hW
        go_wp2_with fail
        refine C.mono ?_
        rintro e w1 ⟨rfl, rfl⟩
        go_wp2_with fail
        refine C2.mono ?_
        rintro e w2 ⟨A', P', rfl, M2, a1, a2, o4, g4⟩
        have nP' : ¬ P' n1 := fun hp => by
          rcases g4 n1 hp with h1 | h1
          · exact H1.out h1
          · have := HN.out; have := HN1.out; omega
        have B2 := o4.blk HB.out H1.out
        have C3 := md_abort M2 HT1.out 14 r
        have HM := Lib.hid (show A'.tb = A.tb ∧ A'.mb = A.mb ∧ Only P W w2 ∧ Grew W.heap.size P P' ∧ ¬ P' n1 from ⟨a1, a2, o4, g4, nP'⟩)
        have HB2 := Lib.hid B2
        clear C C2 M2 o4 B2 a1 a2 g4 nP'
        go_wp2_with fail
        refine C3.mono ?_
        rintro e w3 ⟨A2, P2, rfl, M3, a1, a2, o5, g5⟩
        have nP2 : ¬ P2 n1 := fun hp => by
          rcases g5 n1 hp with h1 | h1
          · exact HM.out.2.2.2.2 h1
          · have := HN.out; have := HN1.out; have := HM.out.2.2.1.size; omega
        have B3 := o5.blk HB2.out HM.out.2.2.2.2
        have HM3 := Lib.hid (show MIn B w3 P2 m (s1.kill j t1) A2 ∧ A2.tb = A.tb ∧ A2.mb = A.mb ∧ Only P W w3 ∧ Grew W.heap.size P P2 ∧ ¬ P2 n1 from ⟨M3, a1.trans HM.out.1, a2.trans HM.out.2.1, HM.out.2.2.1.grewTrans HM.out.2.2.2.1 o5, HM.out.2.2.2.1.trans g5 HM.out.2.2.1.size, nP2⟩)
        have b0 : w3.cell? ⟨n1, 0, none⟩ = some (.int .i64 0) := B3.cell 0
        have b1 : w3.cell? ⟨n1, 1, none⟩ = some (.int .i64 0) := B3.cell 1
        have b2 : w3.cell? ⟨n1, 2, none⟩ = some (.slice none 0 0) := B3.cell 2
        have b3 : w3.cell? ⟨n1, 3, none⟩ = some (.int .i64 0) := B3.cell 3
        have b4 : w3.cell? ⟨n1, 4, none⟩ = some (.int .i64 0) := B3.cell 4
        have bf := fun i => B3.free i
        have HB3 := Lib.hid B3
        clear C3 M3 o5 B3 a1 a2 g5 nP2
        go_wp2_with fail
        obtain ⟨B9, o9⟩ := set5 HB3.out (.int .i64 14) (.int .i64 0) (.slice none 0 0) (.int .i64 4) (.int .i64 r)
        exact bodyPost_ret (v := .agg #[.int .i64 14, .int .i64 0, .slice none 0 0, .int .i64 4, .int .i64 r]) (results_cell_row Try.results54 _ _ n1 _ _ _ _ rfl B9 Try.underlying27 rfl info_res) rfl
          (StRes.box (by have := HN.out; have := HN1.out; omega) HM3.out.2.2.2.2.2 HM3.out.1 HM3.out.2.1 HM3.out.2.2.1 ((HO.out.any P).trans HM3.out.2.2.2.1) (HM3.out.2.2.2.2.1.base HO.out.size) o9)
end Go.Proofs.Ytcbhafddehipdaa

/-
  ModelAborted: the walk.
-/
import Derived.Test.YtcbhafddehipdaaMdAbP
import Derived.Test.YtcbhafddehipdaaMdArg
import Derived.Test.YtcbhafddehipdaaMdRdP
import Derived.StillTailTactics
import Derived.Deep.Cut
namespace Go.Proofs.Ytcbhafddehipdaa
open Go.RowKit
set_option linter.unusedVariables false
set_option linter.unusedSimpArgs false

theorem LW.old' {w0 w : World} {P : Nat → Prop} {m : Nat} {s : St} (h : LW w0 w P m s) {p : Addr} {v : Value} (hc : w0.cell? p = some v) : w.cell? p = some v := by
  rw [h.o.below.cell (block_lt_of_cell hc)]; exact hc
theorem and255 (x : Int) : ∃ j : Nat, bits .and .i64 x 255 = (j : Int) ∧ j < 256 := by
  have h := i64_and255 x
  exact ⟨(x % 256).toNat, by rw [h]; omega, by omega⟩
theorem setTx_other (s : St) {i j : Nat} (t : Option Tx) (h : i ≠ j) : (s.setTx j t).tx i = s.tx i := upd_other _ _ _ h
theorem write_other (s : St) {i j : Nat} (t : Tx) (kind : Int) (k : Nat) (v : Int) (h : i ≠ j) : (s.write j t kind k v).2.tx i = s.tx i := by
  unfold St.write
  split
  · rfl
  · split
    · exact setTx_other _ _ h
    · split
      · split
        · exact setTx_other _ _ h
        · exact setTx_other _ _ h
      · exact setTx_other _ _ h
theorem change_other (s : St) {i j : Nat} (t : Tx) (kind : Int) (k : Nat) (v : Int) (h : i ≠ j) : (s.change j t kind k v).2.tx i = s.tx i := by
  have hw := write_other s t kind k v h
  unfold St.change
  split
  · exact setTx_other _ _ h
  · split
    rename_i r s1 hr
    rw [hr] at hw
    split
    · exact hw
    · show (match s1.tx j with | some t1 => s1.kill j t1 | none => s1).tx i = _
      split
      · exact (upd_other _ _ _ h).trans hw
      · exact hw
theorem call_other (s : St) {i j : Nat} (t : Tx) (o : MOp) (h : i ≠ j) : (s.call j t o).2.tx i = s.tx i := by
  unfold St.call
  split
  · unfold St.commit
    split
    · exact upd_other _ _ _ h
    · split
      · exact upd_other _ _ _ h
      · exact upd_other _ _ _ h
  · split
    · exact upd_other _ _ _ h
    · split
      · unfold St.get
        split
        · exact setTx_other _ _ h
        · exact setTx_other _ _ h
      · split
        · exact setTx_other _ _ h
        · exact (change_other _ _ _ _ _ h).trans (setTx_other _ _ h)
theorem do_other (s : St) {i : Nat} {j : Int} (o : MOp) (h : i ≠ j.toNat) : (s.do_ j o).2.2.tx i = s.tx i := by
  unfold St.do_
  split
  · split
    · rfl
    · split
      · split
        · rfl
        · exact call_other _ _ _ h
      · rfl
  · rfl
theorem begin_other (s : St) {i : Nat} {j : Int} (l : Int) (h : i ≠ j.toNat) : (s.begin j l).2.2.tx i = s.tx i := by
  unfold St.begin
  split
  · split
    · rfl
    · split
      · rfl
      · split
        · rfl
        · exact upd_other _ _ _ h
  · rfl
theorem abStart_tx (L : Nat) (hL : L < 3) (j : Nat) (hj : 2 ≤ j) : (pairSt 0 L).tx j = none := by
  unfold pairSt
  rw [begin_other _ _ (by omega)]
  unfold pr5
  rw [begin_other _ _ (by omega)]
  by_cases h7 : j = 7
  · subst h7; rfl
  · unfold pr4 pr3 pr2 pr1
    rw [do_other _ _ (by omega), do_other _ _ (by omega), do_other _ _ (by omega), begin_other _ _ (by omega)]
    rfl
theorem AbI.start (L : Nat) (hL : L < 3) : AbI L 0 0 (pairSt 0 L) := by
  match L, hL with
  | 0, _ => exact ⟨⟨rfl, rfl, rfl, rfl, rfl, rfl, rfl, fun x h1 h2 => by omega⟩, by decide, ⟨newTx 2 1 3, rfl, rfl, rfl, ⟨fun k c hc => (by cases hc), fun x h1 h2 => by omega⟩⟩, rfl, fun j hj => abStart_tx 0 (by decide) j hj⟩
  | 1, _ => exact ⟨⟨rfl, rfl, rfl, rfl, rfl, rfl, rfl, fun x h1 h2 => by omega⟩, by decide, ⟨newTx 2 1 3, rfl, rfl, rfl, ⟨fun k c hc => (by cases hc), fun x h1 h2 => by omega⟩⟩, rfl, fun j hj => abStart_tx 1 (by decide) j hj⟩
  | 2, _ => exact ⟨⟨rfl, rfl, rfl, rfl, rfl, rfl, rfl, fun x h1 h2 => by omega⟩, by decide, ⟨newTx 2 1 3, rfl, rfl, rfl, ⟨fun k c hc => (by cases hc), fun x h1 h2 => by omega⟩⟩, rfl, fun j hj => abStart_tx 2 (by decide) j hj⟩
theorem abWants (w : World) (t : TypeId) {q : Nat} (hq : q < 8) : (w.alloc (.cells #[.int .i64 (-1), .int .i64 10, .int .i64 20, .int .i64 (-1), .int .i64 (-1), .int .i64 (-1), .int .i64 (-1), .int .i64 (-1)] t)).cell? ⟨w.heap.size, q, none⟩ = some (.int .i64 (abWant q)) := by
  have h := Blk.new w t #[.int .i64 (-1), .int .i64 10, .int .i64 20, .int .i64 (-1), .int .i64 (-1), .int .i64 (-1), .int .i64 (-1), .int .i64 (-1)]
  match q, hq with
  | 0, _ => exact h.cell 0
  | 1, _ => exact h.cell 1
  | 2, _ => exact h.cell 2
  | 3, _ => exact h.cell 3
  | 4, _ => exact h.cell 4
  | 5, _ => exact h.cell 5
  | 6, _ => exact h.cell 6
  | 7, _ => exact h.cell 7
set_option maxRecDepth 100000 in
set_option maxHeartbeats 16000000 in
theorem modelAborted_walk (lv : Int) (a2 : Option Addr) (cc : Nat) (rows : List (List Int)) (w : World) (_w0 : (Lit.int .i64 lv).wf = true)
    (i2 : Recs opKinds w a2 rows ∧ ∀ r ∈ rows, r.length = opKinds.length ∧ wfs opKinds r) (s2 : rows.length * 32 ≤ 140737488351232) (_l2 : rows.length ≤ cc) (_m2 : cc ≤ 9223372036854775807) :
    Calls Try.prog 12 #[.int .i64 lv, .slice a2 rows.length cc] w fun e w' => e = .returned (.bool true) ∧ Below w.heap.size w w' := by
  have hrl : rows.length ≤ 17592186044000 := by omega
  have HR := Lib.hid i2
  clear i2 s2
  obtain ⟨q0, r, e0, hq0, f0, hr⟩ := lev3 lv
  go_enter Try.func12, Try.ntmps12
  go_wp2_with fail
  refine (pair19 0 r (by decide) hr _ _ rfl rfl w w (Only0.refl _)).mono ?_
  rintro e w1 ⟨m, P1, rfl, L1⟩
  have HI := Lib.hid (And.intro L1 (AbI.start r hr))
  clear L1
  go_wp2_with fail
  go_loopw [6, 7, 8, 9] (fun s6 s7 s8 s9 wr => ∃ (q : Nat) (v7 v8 v9 : Value) (P : Nat → Prop) (s : St) (n : Nat), s7 = v7 ∧ s8 = v8 ∧ s9 = v9 ∧ s6 = .int .i64 q ∧ q ≤ 12 ∧ q ≤ rows.length ∧ Hid (LW w wr P m s ∧ AbI r n q s)) (fun s6 _ _ _ _ => 100 - (intOf s6).toNat)
  case atStart => exact ⟨0, _, _, _, _, _, _, rfl, rfl, rfl, rfl, by omega, by omega, HI⟩
  case round =>
    obtain ⟨q, v7, v8, v9, P, s, n, rfl, rfl, rfl, rfl, hq, hql, HL⟩ := hrel
    clear HI
    by_cases hlr : q < rows.length
    · by_cases hlt : q < 12
      · obtain ⟨b, off, K, k, hh, v, rfl, d0, d1, d2, d3⟩ := Recs.op HR.out hlr
        have x0 := HL.out.1.old' d0
        have x1 := HL.out.1.old' d1
        have x2 := HL.out.1.old' d2
        have x3 := HL.out.1.old' d3
        obtain ⟨qK, rK, eK, hqK, fK, hrK⟩ := lev3 K
        obtain ⟨j, ej, hj⟩ := and7 k
        obtain ⟨vv, ev, hvv⟩ := and255 v
        match rK, hrK with
        | 0, _ =>
          obtain ⟨re, s', n', hd, I1⟩ := HL.out.2.write hlt (K := 2) (v := (vv : Int)) (k := j) (by decide) hj (by omega) (fun h => by cases h)
          have HD := Lib.hid hd
          have I1 := Lib.hid I1
          clear hd d0 d1 d2 d3
          have HX := Lib.hid (HL.out.1.alloc (.cells #[.int .i64 2, .int .i64 j, .int .i64 0, .int .i64 (vv : Int)] 31))
          clear HL
          go_wp2_with fail
          refine (lw_do HX.out 0 2 (j : Int) 0 (vv : Int) HD.out).mono ?_
          rintro e w3 ⟨P3, a3, c3, rfl, L3, -, -⟩
          have HL3 := Lib.hid (And.intro (L3.alloc (.cells #[.int .i64 re, .int .i64 0, .slice a3 0 c3, .int .i64 0, .int .i64 0] 27)) I1.out)
          clear L3 HD HX I1
          go_wp2_with fail
          go_roundw
          case rel => exact ⟨q + 1, _, _, _, _, _, _, rfl, rfl, rfl, by go_num, by omega, by omega, HL3⟩
          case measure => simp [intOf] <;> omega
        | 1, _ =>
          obtain ⟨re, s', n', hd, I1⟩ := HL.out.2.write hlt (K := 3) (v := (vv : Int)) (k := j) (by decide) hj (by omega) (fun h => by cases h)
          have HD := Lib.hid hd
          have I1 := Lib.hid I1
          clear hd d0 d1 d2 d3
          have HX := Lib.hid (HL.out.1.alloc (.cells #[.int .i64 3, .int .i64 j, .int .i64 0, .int .i64 (vv : Int)] 31))
          clear HL
          go_wp2_with fail
          refine (lw_do HX.out 0 3 (j : Int) 0 (vv : Int) HD.out).mono ?_
          rintro e w3 ⟨P3, a3, c3, rfl, L3, -, -⟩
          have HL3 := Lib.hid (And.intro (L3.alloc (.cells #[.int .i64 re, .int .i64 0, .slice a3 0 c3, .int .i64 0, .int .i64 0] 27)) I1.out)
          clear L3 HD HX I1
          go_wp2_with fail
          go_roundw
          case rel => exact ⟨q + 1, _, _, _, _, _, _, rfl, rfl, rfl, by go_num, by omega, by omega, HL3⟩
          case measure => simp [intOf] <;> omega
        | 2, _ =>
          obtain ⟨re, s', n', hd, I1⟩ := HL.out.2.write hlt (K := 4) (v := 0) (k := j) (by decide) hj (by omega) (fun _ => rfl)
          have HD := Lib.hid hd
          have I1 := Lib.hid I1
          clear hd d0 d1 d2 d3
          have HX := Lib.hid (HL.out.1.alloc (.cells #[.int .i64 4, .int .i64 j, .int .i64 0, .int .i64 0] 31))
          clear HL
          go_wp2_with fail
          refine (lw_do HX.out 0 4 (j : Int) 0 0 HD.out).mono ?_
          rintro e w3 ⟨P3, a3, c3, rfl, L3, -, -⟩
          have HL3 := Lib.hid (And.intro (L3.alloc (.cells #[.int .i64 re, .int .i64 0, .slice a3 0 c3, .int .i64 0, .int .i64 0] 27)) I1.out)
          clear L3 HD HX I1
          go_wp2_with fail
          go_roundw
          case rel => exact ⟨q + 1, _, _, _, _, _, _, rfl, rfl, rfl, by go_num, by omega, by omega, HL3⟩
          case measure => simp [intOf] <;> omega
      · obtain rfl : q = 12 := by omega
        obtain ⟨s', hd, C1, hl1⟩ := HL.out.2.abort (by omega)
        have hu : s'.l.length = s.l.length := by rw [hl1]
        have HD := Lib.hid hd
        have C1 := Lib.hid C1
        have HL1 := Lib.hid HL.out.1
        clear hd hl1 HL
        go_wp2_with fail
        refine (md_used HL1.out.mat).mono ?_
        rintro e w2 ⟨rfl, rfl⟩
        have HX := Lib.hid (HL1.out.alloc (.cells #[.int .i64 7, .int .i64 0, .int .i64 0, .int .i64 0] 31))
        go_wp2_with fail
        refine (lw_do HL1.out 0 7 0 0 0 HD.out).mono ?_
        rintro e w3 ⟨P3, a3, c3, rfl, L3, -, -⟩
        have HL3 := Lib.hid (L3.alloc (.cells #[.int .i64 0, .int .i64 0, .slice a3 0 c3, .int .i64 4, .int .i64 1] 27))
        clear L3 HD HL1 HX
        go_wp2_with fail
        refine (md_used HL3.out.mat).mono ?_
        rintro e w4 ⟨rfl, rfl⟩
        rw [hu]
        have HI := Lib.hid (And.intro HL3.out C1.out)
        clear HL3 C1 hu
        go_wp2_with fail
        go_loopw [13, 14] (fun s13 s14 wr => ∃ (p : Nat) (v14 : Value) (P : Nat → Prop) (s : St), s14 = v14 ∧ s13 = .int .i64 p ∧ p ≤ 8 ∧ Hid (LW w wr P m s ∧ AcI n p s)) (fun s13 _ _ => 100 - (intOf s13).toNat)
        case atStart => exact ⟨0, _, _, _, rfl, rfl, by omega, HI⟩
        case round =>
          obtain ⟨p, v14, P, s, rfl, rfl, hp, HM⟩ := hrel
          clear HI
          by_cases hlp : p < 8
          · obtain ⟨re, rv, s', hd, hw, I1⟩ := HM.out.2.get (by omega) hlp
            have HD := Lib.hid hd
            have I1 := Lib.hid I1
            have hwc := abWants wr 3 hlp
            clear hd
            have HX := Lib.hid (HM.out.1.alloc (.cells #[.int .i64 (-1), .int .i64 10, .int .i64 20, .int .i64 (-1), .int .i64 (-1), .int .i64 (-1), .int .i64 (-1), .int .i64 (-1)] 3))
            clear HM
            go_wp2_with fail
            refine (get19 HX.out 1 (p : Int) HD.out).mono ?_
            rintro e w3 ⟨P3, rfl, L3, -, -⟩
            rw [hw]
            have HL3 := Lib.hid (And.intro L3 I1.out)
            clear L3 HD HX I1
            go_wp2_with fail
            go_roundw
            case rel => exact ⟨p + 1, _, _, _, rfl, by go_num, by omega, HL3⟩
            case measure => simp [intOf] <;> omega
          · obtain rfl : p = 8 := by omega
            obtain ⟨s1, hd1, D1⟩ := HM.out.2.change1
            obtain ⟨s2, hd2, D2⟩ := D1.ins
            obtain ⟨s3, hd3, D3⟩ := D2.commit
            have hk : s3.collect.l.length = 3 := by show s3.kept.length = 3; rw [D3.kept]; rfl
            have hp3 := D3.pairs
            have HP := Lib.hid (show s3.collect.pairs s3.collect.now = [(1, 77), (2, 20), (5, 78)] from hp3)
            have H1 := Lib.hid hd1
            have H2 := Lib.hid hd2
            have H3 := Lib.hid hd3
            have HL := Lib.hid HM.out.1
            clear hd1 hd2 hd3 D1 D2 D3 hp3 HM
            go_wp2_with fail
            refine (lw_do HL.out 1 3 1 0 77 H1.out).mono ?_
            rintro e w3 ⟨P3, a3, c3, rfl, L3, -, -⟩
            have Y3 := L3.box 27 #[.int .i64 0, .int .i64 0, .slice a3 0 c3, .int .i64 0, .int .i64 0]
            have L3' := L3.alloc (.cells #[.int .i64 0, .int .i64 0, .slice a3 0 c3, .int .i64 0, .int .i64 0] 27)
            obtain ⟨b3, hb3⟩ : ∃ b, b = w3.heap.size := ⟨_, rfl⟩
            rw [← hb3] at Y3
            have HB3 := Lib.hid hb3
            clear HL L3 hb3
            go_wp2_with fail
            refine (lw_do L3' 1 2 5 0 78 H2.out).mono ?_
            rintro e w4 ⟨P4, a4, c4, rfl, L4, o4, g4⟩
            have Y4 := L4.box 27 #[.int .i64 0, .int .i64 0, .slice a4 0 c4, .int .i64 0, .int .i64 0]
            have Y34 := (Y3.step o4 g4).alloc (.cells #[.int .i64 0, .int .i64 0, .slice a4 0 c4, .int .i64 0, .int .i64 0] 27)
            have L4' := L4.alloc (.cells #[.int .i64 0, .int .i64 0, .slice a4 0 c4, .int .i64 0, .int .i64 0] 27)
            obtain ⟨b4, hb4⟩ : ∃ b, b = w4.heap.size := ⟨_, rfl⟩
            rw [← hb4] at Y4
            have HB4 := Lib.hid hb4
            clear L3' L4 Y3 o4 g4 hb4
            go_wp2_with fail
            refine (lw_do L4' 1 6 0 0 0 H3.out).mono ?_
            rintro e w5 ⟨P5, a5, c5, rfl, L5, o5, g5⟩
            have Y5 := (Y4.step o5 g5).alloc (.cells #[.int .i64 0, .int .i64 0, .slice a5 0 c5, .int .i64 3, .int .i64 0] 27)
            have Y35 := (Y34.step o5 g5).alloc (.cells #[.int .i64 0, .int .i64 0, .slice a5 0 c5, .int .i64 3, .int .i64 0] 27)
            have L5' := L5.alloc (.cells #[.int .i64 0, .int .i64 0, .slice a5 0 c5, .int .i64 3, .int .i64 0] 27)
            have r3 : (w5.alloc (.cells #[.int .i64 0, .int .i64 0, .slice a5 0 c5, .int .i64 3, .int .i64 0] 27)).cell? ⟨b3, 0, none⟩ = some (.int .i64 0) := Y35.1.cell 0
            have r4 : (w5.alloc (.cells #[.int .i64 0, .int .i64 0, .slice a5 0 c5, .int .i64 3, .int .i64 0] 27)).cell? ⟨b4, 0, none⟩ = some (.int .i64 0) := Y5.1.cell 0
            rw [← HB3.out, ← HB4.out]
            clear L4' L5 Y4 Y34 Y5 Y35 o5 g5 HB3 HB4
            go_wp2_with fail
            refine (lw_collect L5').mono ?_
            rintro e w6 ⟨rfl, L6, -⟩
            clear L5' r3 r4
            go_wp2_with fail
            refine (md_used L6.mat).mono ?_
            rintro e w7 ⟨rfl, rfl⟩
            rw [hk]
            go_wp2_with fail
            refine (md_now L6.mat).mono ?_
            rintro e w8 ⟨rfl, rfl⟩
            go_wp2_with fail
            refine (md_pairs L6.mat _).mono ?_
            rintro e w9 ⟨⟨a9, c9, rfl, hp9, -⟩, o9⟩
            rw [HP.out] at hp9 ⊢
            have L9 := L6.only0 o9
            clear L6 o9
            go_wp2_with fail
            refine (samePairs_any a9 (some ⟨w9.heap.size, 0, none⟩) c9 3 [(1, 77), (2, 20), (5, 78)] [(1, 77), (2, 20), (5, 78)] _ (hp9.only (S := fun _ => False) ((Only0.refl w9).alloc _) (fun _ _ h => h)) (PairsIn.lit w9 _) (by simp) (by simp)).mono ?_
            rintro e w10 ⟨rfl, n10, rfl⟩
            have HO := Lib.hid ((L9.alloc (.cells #[.int .i64 1, .int .i64 77, .int .i64 2, .int .i64 20, .int .i64 5, .int .i64 78] 48)).only0 ((Only0.refl _).drewN n10)).o
            clear L9 hp9
            go_wp2_with fail
            refine (awake19_any _).mono ?_
            rintro e w11 ⟨rfl, o11⟩
            have HO8 := Lib.hid (HO.out.trans o11)
            clear o11
            go_wp2_with fail
            go_ret
            exact ⟨rfl, HO8.out.below⟩
    · obtain rfl : q = rows.length := by omega
      obtain ⟨s', hd, C1, hl1⟩ := HL.out.2.abort (by omega)
      have hu : s'.l.length = s.l.length := by rw [hl1]
      have HD := Lib.hid hd
      have C1 := Lib.hid C1
      have HL1 := Lib.hid HL.out.1
      clear hd hl1 HL
      go_wp2_with fail
      refine (md_used HL1.out.mat).mono ?_
      rintro e w2 ⟨rfl, rfl⟩
      have HX := Lib.hid (HL1.out.alloc (.cells #[.int .i64 7, .int .i64 0, .int .i64 0, .int .i64 0] 31))
      go_wp2_with fail
      refine (lw_do HL1.out 0 7 0 0 0 HD.out).mono ?_
      rintro e w3 ⟨P3, a3, c3, rfl, L3, -, -⟩
      have HL3 := Lib.hid (L3.alloc (.cells #[.int .i64 0, .int .i64 0, .slice a3 0 c3, .int .i64 4, .int .i64 1] 27))
      clear L3 HD HL1 HX
      go_wp2_with fail
      refine (md_used HL3.out.mat).mono ?_
      rintro e w4 ⟨rfl, rfl⟩
      rw [hu]
      have HI := Lib.hid (And.intro HL3.out C1.out)
      clear HL3 C1 hu
      go_wp2_with fail
      go_loopw [13, 14] (fun s13 s14 wr => ∃ (p : Nat) (v14 : Value) (P : Nat → Prop) (s : St), s14 = v14 ∧ s13 = .int .i64 p ∧ p ≤ 8 ∧ Hid (LW w wr P m s ∧ AcI n p s)) (fun s13 _ _ => 100 - (intOf s13).toNat)
      case atStart => exact ⟨0, _, _, _, rfl, rfl, by omega, HI⟩
      case round =>
        obtain ⟨p, v14, P, s, rfl, rfl, hp, HM⟩ := hrel
        clear HI
        by_cases hlp : p < 8
        · obtain ⟨re, rv, s', hd, hw, I1⟩ := HM.out.2.get (by omega) hlp
          have HD := Lib.hid hd
          have I1 := Lib.hid I1
          have hwc := abWants wr 3 hlp
          clear hd
          have HX := Lib.hid (HM.out.1.alloc (.cells #[.int .i64 (-1), .int .i64 10, .int .i64 20, .int .i64 (-1), .int .i64 (-1), .int .i64 (-1), .int .i64 (-1), .int .i64 (-1)] 3))
          clear HM
          go_wp2_with fail
          refine (get19 HX.out 1 (p : Int) HD.out).mono ?_
          rintro e w3 ⟨P3, rfl, L3, -, -⟩
          rw [hw]
          have HL3 := Lib.hid (And.intro L3 I1.out)
          clear L3 HD HX I1
          go_wp2_with fail
          go_roundw
          case rel => exact ⟨p + 1, _, _, _, rfl, by go_num, by omega, HL3⟩
          case measure => simp [intOf] <;> omega
        · obtain rfl : p = 8 := by omega
          obtain ⟨s1, hd1, D1⟩ := HM.out.2.change1
          obtain ⟨s2, hd2, D2⟩ := D1.ins
          obtain ⟨s3, hd3, D3⟩ := D2.commit
          have hk : s3.collect.l.length = 3 := by show s3.kept.length = 3; rw [D3.kept]; rfl
          have hp3 := D3.pairs
          have HP := Lib.hid (show s3.collect.pairs s3.collect.now = [(1, 77), (2, 20), (5, 78)] from hp3)
          have H1 := Lib.hid hd1
          have H2 := Lib.hid hd2
          have H3 := Lib.hid hd3
          have HL := Lib.hid HM.out.1
          clear hd1 hd2 hd3 D1 D2 D3 hp3 HM
          go_wp2_with fail
          refine (lw_do HL.out 1 3 1 0 77 H1.out).mono ?_
          rintro e w3 ⟨P3, a3, c3, rfl, L3, -, -⟩
          have Y3 := L3.box 27 #[.int .i64 0, .int .i64 0, .slice a3 0 c3, .int .i64 0, .int .i64 0]
          have L3' := L3.alloc (.cells #[.int .i64 0, .int .i64 0, .slice a3 0 c3, .int .i64 0, .int .i64 0] 27)
          obtain ⟨b3, hb3⟩ : ∃ b, b = w3.heap.size := ⟨_, rfl⟩
          rw [← hb3] at Y3
          have HB3 := Lib.hid hb3
          clear HL L3 hb3
          go_wp2_with fail
          refine (lw_do L3' 1 2 5 0 78 H2.out).mono ?_
          rintro e w4 ⟨P4, a4, c4, rfl, L4, o4, g4⟩
          have Y4 := L4.box 27 #[.int .i64 0, .int .i64 0, .slice a4 0 c4, .int .i64 0, .int .i64 0]
          have Y34 := (Y3.step o4 g4).alloc (.cells #[.int .i64 0, .int .i64 0, .slice a4 0 c4, .int .i64 0, .int .i64 0] 27)
          have L4' := L4.alloc (.cells #[.int .i64 0, .int .i64 0, .slice a4 0 c4, .int .i64 0, .int .i64 0] 27)
          obtain ⟨b4, hb4⟩ : ∃ b, b = w4.heap.size := ⟨_, rfl⟩
          rw [← hb4] at Y4
          have HB4 := Lib.hid hb4
          clear L3' L4 Y3 o4 g4 hb4
          go_wp2_with fail
          refine (lw_do L4' 1 6 0 0 0 H3.out).mono ?_
          rintro e w5 ⟨P5, a5, c5, rfl, L5, o5, g5⟩
          have Y5 := (Y4.step o5 g5).alloc (.cells #[.int .i64 0, .int .i64 0, .slice a5 0 c5, .int .i64 3, .int .i64 0] 27)
          have Y35 := (Y34.step o5 g5).alloc (.cells #[.int .i64 0, .int .i64 0, .slice a5 0 c5, .int .i64 3, .int .i64 0] 27)
          have L5' := L5.alloc (.cells #[.int .i64 0, .int .i64 0, .slice a5 0 c5, .int .i64 3, .int .i64 0] 27)
          have r3 : (w5.alloc (.cells #[.int .i64 0, .int .i64 0, .slice a5 0 c5, .int .i64 3, .int .i64 0] 27)).cell? ⟨b3, 0, none⟩ = some (.int .i64 0) := Y35.1.cell 0
          have r4 : (w5.alloc (.cells #[.int .i64 0, .int .i64 0, .slice a5 0 c5, .int .i64 3, .int .i64 0] 27)).cell? ⟨b4, 0, none⟩ = some (.int .i64 0) := Y5.1.cell 0
          rw [← HB3.out, ← HB4.out]
          clear L4' L5 Y4 Y34 Y5 Y35 o5 g5 HB3 HB4
          go_wp2_with fail
          refine (lw_collect L5').mono ?_
          rintro e w6 ⟨rfl, L6, -⟩
          clear L5' r3 r4
          go_wp2_with fail
          refine (md_used L6.mat).mono ?_
          rintro e w7 ⟨rfl, rfl⟩
          rw [hk]
          go_wp2_with fail
          refine (md_now L6.mat).mono ?_
          rintro e w8 ⟨rfl, rfl⟩
          go_wp2_with fail
          refine (md_pairs L6.mat _).mono ?_
          rintro e w9 ⟨⟨a9, c9, rfl, hp9, -⟩, o9⟩
          rw [HP.out] at hp9 ⊢
          have L9 := L6.only0 o9
          clear L6 o9
          go_wp2_with fail
          refine (samePairs_any a9 (some ⟨w9.heap.size, 0, none⟩) c9 3 [(1, 77), (2, 20), (5, 78)] [(1, 77), (2, 20), (5, 78)] _ (hp9.only (S := fun _ => False) ((Only0.refl w9).alloc _) (fun _ _ h => h)) (PairsIn.lit w9 _) (by simp) (by simp)).mono ?_
          rintro e w10 ⟨rfl, n10, rfl⟩
          have HO := Lib.hid ((L9.alloc (.cells #[.int .i64 1, .int .i64 77, .int .i64 2, .int .i64 20, .int .i64 5, .int .i64 78] 48)).only0 ((Only0.refl _).drewN n10)).o
          clear L9 hp9
          go_wp2_with fail
          refine (awake19_any _).mono ?_
          rintro e w11 ⟨rfl, o11⟩
          have HO8 := Lib.hid (HO.out.trans o11)
          clear o11
          go_wp2_with fail
          go_ret
          exact ⟨rfl, HO8.out.below⟩
end Go.Proofs.Ytcbhafddehipdaa

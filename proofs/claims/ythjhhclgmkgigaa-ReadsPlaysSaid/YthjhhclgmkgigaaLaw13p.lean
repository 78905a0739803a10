/-
  The walk of ReadsPlays.
-/
import Derived.Test.YthjhhclgmkgigaaRPl2
import Derived.Deep.QuietTactic
import Derived.BigQuiet
import Derived.Deep.RegionHeld3
import Derived.Deep.DrawnRows
import Derived.Deep.Cut
import Derived.Deep.DeepCutAuto
import Derived.Deep.CutBlock
namespace Go.Proofs.Ythjhhclgmkgigaa
open Go.RowKit
set_option linter.unusedVariables false
set_option linter.unusedSimpArgs false
attribute [local go_sem ↓] Go.wp_at_zero Go.wp_at_succ

/-- What a round of the law holds, with its own struct variable. -/
def QX (w0 w : World) (s ob : Nat) (oc : Array Value) (ka : Option Addr) (kn kc : Nat) (ya : Option Addr) (yc : Nat) (sa : Option Addr) (sn sc : Nat) : Prop :=
  ∃ ks lk rs ss, QS w0 w s ob oc (.slice ka kn kc) (.slice ya kn yc) (.slice sa sn sc) ks lk rs ss ∧ ks.length = kn ∧ ss.length = sn
/-- What the law holds between rounds. -/
def PX (w0 w : World) (s : Nat) (ka : Option Addr) (kn kc : Nat) (ya : Option Addr) (yc : Nat) (sa : Option Addr) (sn sc : Nat) : Prop :=
  ∃ P ks lk rs ss, PR w0 w P s (.slice ka kn kc) (.slice ya kn yc) (.slice sa sn sc) ks lk rs ss ∧ ks.length = kn ∧ ss.length = sn

set_option maxRecDepth 100000 in
set_option maxHeartbeats 64000000 in
theorem readsPlays_walk (a : Option Addr) (c : Nat) (rows : List (List Value)) (key : Int) (w : World)
    (i0 : RowsAt opQs.length w a rows ∧ ∀ r ∈ rows, r.length = opQs.length ∧ RowQ w opQs r) (s0 : rows.length * 56 ≤ 140737488351232) (l0' : rows.length ≤ c) (m0' : c ≤ 9223372036854775807) (wk : (Lit.int .i64 key).wf = true) :
    Calls Try.prog 6 #[.slice a rows.length c, .int .i64 key] w fun e w' => e = .returned (.bool true) ∧ Below w.heap.size w w' := by
  obtain ⟨j0, hj0, hj1, hj2, hj3⟩ := info_parts info_int
  obtain ⟨l0, hl0, hl1, hl2, hl3⟩ := info_parts info_u64r
  obtain ⟨m0, hm0, hm1, hm2, hm3⟩ := info_parts info_scan
  have H0 := Lib.hid i0
  clear i0 wk
  have NW := set_new w
  obtain ⟨s, hs⟩ : ∃ s, s = w.heap.size := ⟨_, rfl⟩
  rw [← hs] at NW
  have HS := Lib.hid hs
  clear hs
  go_enter Try.func6, Try.ntmps6
  go_wp2_with fail
  refine NW.mono ?_
  rintro e w1 ⟨rfl, h1, o1, -⟩
  have H1 := Lib.hid (show SW w w1 (fun b => b = s) s [] (fun _ => 0) [] by have hs := HS.out; subst hs; exact SW.new (Below.refl _ w) h1 o1)
  clear NW h1 o1
  go_wp2_with fail
  refine (awake13_any _).mono ?_
  rintro e w2 ⟨rfl, b2⟩
  have HF : Hid (PX w w2 s none 0 0 none 0 none 0 0) := Lib.hid ⟨_, [], (fun _ => 0), [], [], ⟨H1.out.bel0 b2, World.ownsRow_nil _ _ _ _, World.ownsRow_nil _ _ _ _, World.ownsRow_nil _ _ _ _, rfl, fun i hi => by simp at hi, fun b _ hb => rowOf_none _ _ _ hb, fun b _ hb => rowOf_none _ _ _ hb, fun b _ hb => rowOf_none _ _ _ hb⟩, rfl, rfl⟩
  clear H1 b2
  go_wp2_with fail
  go_loopw [6, 7, 8, 9, 10, 11, 12, 13, 14, 15, 16, 17, 18, 19, 20, 21] (fun s6 s7 s8 s9 s10 s11 s12 s13 s14 s15 s16 s17 s18 s19 s20 s21 wr => ∃ (k : Nat) (ka : Option Addr) (kn kc : Nat) (ya : Option Addr) (yc : Nat) (sa : Option Addr) (sn sc : Nat) (v10 v11 v12 v13 v14 v15 v16 v17 v18 v19 v20 v21 : Value), s6 = .slice ka kn kc ∧ s7 = .slice ya kn yc ∧ s8 = .slice sa sn sc ∧ s10 = v10 ∧ s11 = v11 ∧ s12 = v12 ∧ s13 = v13 ∧ s14 = v14 ∧ s15 = v15 ∧ s16 = v16 ∧ s17 = v17 ∧ s18 = v18 ∧ s19 = v19 ∧ s20 = v20 ∧ s21 = v21 ∧ k ≤ rows.length ∧ k ≤ 120 ∧ s9 = .int .i64 k ∧ kn ≤ 64 ∧ sn ≤ 64 ∧ Hid (PX w wr s ka kn kc ya yc sa sn sc)) (fun _ _ _ s9 _ _ _ _ _ _ _ _ _ _ _ _ _ => 120 - (intOf s9).toNat)
  case atStart => exact ⟨0, none, 0, 0, none, 0, none, 0, 0, _, _, _, _, _, _, _, _, _, _, _, _, rfl, rfl, rfl, rfl, rfl, rfl, rfl, rfl, rfl, rfl, rfl, rfl, rfl, rfl, rfl, by omega, by omega, rfl, by omega, by omega, HF⟩
  case round =>
    clear HF
    obtain ⟨k, ka, kn, kc, ya, yc, sa, sn, sc, v10, v11, v12, v13, v14, v15, v16, v17, v18, v19, v20, v21, rfl, rfl, rfl, rfl, rfl, rfl, rfl, rfl, rfl, rfl, rfl, rfl, rfl, rfl, rfl, hk, hk2, rfl, hkn64, hsn64, HF⟩ := hrel
    by_cases hgo : k < rows.length ∧ k < 120
    · obtain ⟨g1, g2⟩ := hgo
      obtain ⟨P, ks, lk, rs, ss, hP, hkn, hsn⟩ := HF.out
      have hbel := hP.set.bel
      obtain ⟨hcells, hall⟩ := H0.out
      rcases hcells with h0 | ⟨b, off, rfl, hc⟩
      · rw [h0] at g1; simp at g1
      have hmem : rows.getD k [] ∈ rows := by rw [List.getD_eq_getElem?_getD, List.getElem?_eq_getElem g1]; exact List.getElem_mem _
      obtain ⟨K, LO, HI, LK, la, ls, lc, hrow, wlo, whi, wlk, hI, hwf, hlc, hcc, hno⟩ := op_row (hall _ hmem).1 (hall _ hmem).2
      have hbw : b < w.heap.size := by
        have := hc k 0 g1 (by decide)
        rw [hrow] at this
        exact block_lt_of_cell this
      have q0 := (hbel.cell (p := ⟨b, off + k * 5 + 0, none⟩) hbw).trans (hc k 0 g1 (by decide))
      have q1 := (hbel.cell (p := ⟨b, off + k * 5 + 1, none⟩) hbw).trans (hc k 1 g1 (by decide))
      have q2 := (hbel.cell (p := ⟨b, off + k * 5 + 2, none⟩) hbw).trans (hc k 2 g1 (by decide))
      have q3 := (hbel.cell (p := ⟨b, off + k * 5 + 3, none⟩) hbw).trans (hc k 3 g1 (by decide))
      have q4 := (hbel.cell (p := ⟨b, off + k * 5 + 4, none⟩) hbw).trans (hc k 4 g1 (by decide))
      rw [hrow] at q0 q1 q2 q3 q4
      simp only [List.getElem?_cons_zero, List.getElem?_cons_succ, Nat.add_zero] at q0 q1 q2 q3 q4
      have HIn := Lib.hid hI
      have HNU := Lib.hid (show la = none → ls = [] from fun e => List.eq_nil_of_length_eq_zero (by have := hno e; omega))
      have HKN := Lib.hid hkn
      have HSN := Lib.hid hsn
      obtain ⟨W, hW⟩ : ∃ W, W = wr.alloc (.cells #[.int .i64 K, .int .i64 LO, .int .i64 HI, .int .u64 LK, .slice la ls.length lc] 45) := ⟨_, rfl⟩
      obtain ⟨ob, hob⟩ : ∃ ob, ob = wr.heap.size := ⟨_, rfl⟩
      have HQ : Hid (QS w W s ob #[.int .i64 K, .int .i64 LO, .int .i64 HI, .int .u64 LK, .slice la ls.length lc] (.slice ka kn kc) (.slice ya kn yc) (.slice sa sn sc) ks lk rs ss) := by rw [hW, hob]; exact Lib.hid (QS.begin hP)
      have k0 : (0 : Int) ≤ (k : Int) := by omega
      have k1 : (k : Int) < (rows.length : Int) := by omega
      have k2 : (k : Int) < 120 := by omega
      clear hall hc hmem hrow hI hno hwf hbel hP HF hkn hsn hlc hcc wlo whi wlk
      go_upto_region 11 with (fail)
      rw [← hW, ← hob]
      clear hW hob q0 q1 q2 q3 q4
      have x4 : W.cell? ⟨ob, 4, none⟩ = some (.slice la ls.length lc) := HQ.out.blk.cell 4
      by_cases h100 : 100 < ls.length
      · have h100' : (100 : Int) < (ls.length : Int) := by omega
        have HB := Lib.hid HQ.out.bel
        clear HQ
        go_wp2_with fail
        go_ret
        exact ⟨rfl, HB.out⟩
      · have h100' : ¬ (100 : Int) < (ls.length : Int) := by omega
        have x1 : W.cell? ⟨ob, 1, none⟩ = some (.int .i64 LO) := HQ.out.blk.cell 1
        go_upto_region 13 with (fail)
        clear x4
        go_cut [11] (fun s11 wx => s11 = .bool (isKey LO) ∧ wx = W)
        case first => as_aux_lemma =>
          have h3 : LO < 0 ∨ (0 ≤ LO ∧ LO ≤ 63) ∨ (0 ≤ LO ∧ 63 < LO) := by omega
          rcases h3 with h | ⟨h, h'⟩ | ⟨h, h'⟩
          · have e : isKey LO = false := by simp [isKey]; omega
            go_wp2_with fail
            go_meet
            case rel => exact ⟨by rw [e]; first | done | rfl | exact congrArg Value.bool (by simp; omega), rfl⟩
          · have e : isKey LO = true := by simp [isKey]; omega
            go_wp2_with fail
            go_meet
            case rel => exact ⟨by rw [e]; first | done | rfl | exact congrArg Value.bool (by simp; omega), rfl⟩
          · have e : isKey LO = false := by simp [isKey]; omega
            go_wp2_with fail
            go_meet
            case rel => exact ⟨by rw [e]; first | done | rfl | exact congrArg Value.bool (by simp; omega), rfl⟩
        case rest => as_aux_lemma =>
          obtain ⟨rfl, hwx⟩ := hcut
          obtain rfl : W = _ := hwx.symm
          have x0 : W.cell? ⟨ob, 0, none⟩ = some (.int .i64 K) := HQ.out.blk.cell 0
          go_upto_block 2 with (fail)
          clear x0 x1
          go_cut [6, 7, 8, 10, 11] (fun s6 s7 s8 s10 s11 wx => ∃ (ka : Option Addr) (kn kc : Nat) (ya : Option Addr) (yc : Nat) (sa : Option Addr) (sn sc : Nat), s6 = .slice ka kn kc ∧ s7 = .slice ya kn yc ∧ s8 = .slice sa sn sc ∧ s10 = .pointer (some ⟨ob, 0, none⟩) ∧ s11 = .bool (isKey LO) ∧ kn ≤ 64 ∧ sn ≤ 64 ∧ Hid (QX w wx s ob #[.int .i64 K, .int .i64 LO, .int .i64 HI, .int .u64 LK, .slice la ls.length lc] ka kn kc ya yc sa sn sc))
          case first => as_aux_lemma =>
            by_cases hK0 : K = 0
            · have hb0 : (K == 0) = true := by simpa using hK0
              clear hK0
              cases hik : isKey LO with
              | false =>
                have A := HQ.out.c_add_bad LO hik LK
                have x0 : W.cell? ⟨ob, 0, none⟩ = some (.int .i64 K) := HQ.out.blk.cell 0
                have x1 : W.cell? ⟨ob, 1, none⟩ = some (.int .i64 LO) := HQ.out.blk.cell 1
                have x2 : W.cell? ⟨ob, 2, none⟩ = some (.int .i64 HI) := HQ.out.blk.cell 2
                have x3 : W.cell? ⟨ob, 3, none⟩ = some (.int .u64 LK) := HQ.out.blk.cell 3
                have x4 : W.cell? ⟨ob, 4, none⟩ = some (.slice la ls.length lc) := HQ.out.blk.cell 4
                clear HQ
                go_wp2_with fail
                refine A.mono ?_
                rintro e w5 ⟨rfl, h5⟩
                have HQ5 := Lib.hid h5
                have hkr5 := h5.krow
                have HKC : Hid (∀ j, j < kn → ∃ g, ka = some ⟨g, 0, none⟩ ∧ w5.cell? ⟨g, j, none⟩ = some (.int .i64 (ks.getD j 0))) := Lib.hid (fun j hj => krow_at hkr5 HKN.out j hj)
                clear A h5 hkr5 x0 x1 x2 x3 x4
                have x0 : w5.cell? ⟨ob, 0, none⟩ = some (.int .i64 K) := HQ5.out.blk.cell 0
                have x1 : w5.cell? ⟨ob, 1, none⟩ = some (.int .i64 LO) := HQ5.out.blk.cell 1
                have x2 : w5.cell? ⟨ob, 2, none⟩ = some (.int .i64 HI) := HQ5.out.blk.cell 2
                have x3 : w5.cell? ⟨ob, 3, none⟩ = some (.int .u64 LK) := HQ5.out.blk.cell 3
                have x4 : w5.cell? ⟨ob, 4, none⟩ = some (.slice la ls.length lc) := HQ5.out.blk.cell 4
                go_wp2_with fail
                go_loopw [12, 13] (fun s12 s13 wr2 => ∃ (j m : Nat), j ≤ kn ∧ s13 = .int .i64 j ∧ s12 = .bool (anyI ks LO j) ∧ wr2 = w5.drewN m) (fun _ s13 _ => kn - (intOf s13).toNat)
                case atStart => exact ⟨0, 0, by omega, rfl, by simp [anyI], rfl⟩
                case round =>
                  obtain ⟨j, m, hj, rfl, rfl, rfl⟩ := hrel
                  by_cases hjn : j < kn
                  · obtain ⟨gk, hgk, qk⟩ := HKC.out j hjn
                    subst hgk
                    have hS := anyI_succ (x := LO) (show j < ks.length by have := HKN.out; omega)
                    obtain ⟨y, hy⟩ : ∃ y, y = ks.getD j 0 := ⟨_, rfl⟩
                    rw [← hy] at hS qk
                    have HS2 := Lib.hid hS
                    have j0' : (0 : Int) ≤ (j : Int) := by omega
                    have j1' : (j : Int) < (kn : Int) := by omega
                    have x1d : (w5.drewN m).cell? ⟨ob, 1, none⟩ = some (.int .i64 LO) := x1
                    have qkd : (w5.drewN m).cell? ⟨gk, j, none⟩ = some (.int .i64 y) := qk
                    generalize hd : anyI ks LO j = d at *
                    clear hS hd hy
                    cases d
                    · by_cases hye : y = LO
                      · have hyb : (y == LO) = true := by simpa using hye
                        clear hye
                        go_wp2_with fail
                        go_quiet (fail)
                        go_wp2_with fail
                        go_roundw
                        case rel => exact ⟨j + 1, _, by omega, by go_num, by rw [HS2.out, hyb]; simp, rfl⟩
                        case measure => simp [intOf]; omega
                      · have hyb : (y == LO) = false := by simpa using hye
                        clear hye
                        go_wp2_with fail
                        go_quiet (fail)
                        go_wp2_with fail
                        go_roundw
                        case rel => exact ⟨j + 1, _, by omega, by go_num, by rw [HS2.out, hyb]; simp, rfl⟩
                        case measure => simp [intOf]; omega
                    · go_wp2_with fail
                      go_quiet (fail)
                      go_wp2_with fail
                      go_roundw
                      case rel => exact ⟨j + 1, _, by omega, by go_num, by rw [HS2.out]; simp, rfl⟩
                      case measure => simp [intOf]; omega
                  · obtain rfl : kn = j := by omega
                    have hall : anyI ks LO kn = decide (LO ∈ ks) := by rw [← HKN.out]; exact anyI_all _ _
                    rw [hall]
                    clear hall hjn
                    have HF : Hid (QX w (w5.drewN m) s ob #[.int .i64 K, .int .i64 LO, .int .i64 HI, .int .u64 LK, .slice la ls.length lc] ka kn kc ya yc sa sn sc) := Lib.hid ⟨ks, lk, rs, ss, HQ5.out.only0 ((Only0.refl w5).drewN m), HKN.out, HSN.out⟩
                    clear HQ5 HKC x0 x1 x2 x3 x4
                    generalize decide (LO ∈ ks) = d
                    cases d
                    all_goals
                      go_wp2_with fail
                      go_meet
                      case rel => exact ⟨_, _, _, _, _, _, _, _, rfl, rfl, rfl, rfl, by rw [hik], by omega, by omega, HF⟩
              | true =>
                obtain ⟨p, rfl, hp⟩ : ∃ p : Nat, LO = (p : Int) ∧ p < 64 := by
                  have h := hik
                  simp [isKey] at h
                  exact ⟨LO.toNat, by omega, by omega⟩
                by_cases hm : (p : Int) ∈ ks
                · have HMM := Lib.hid hm
                  have A := HQ.out.c_add_old p hp hm LK
                  have x0 : W.cell? ⟨ob, 0, none⟩ = some (.int .i64 K) := HQ.out.blk.cell 0
                  have x1 : W.cell? ⟨ob, 1, none⟩ = some (.int .i64 (p : Int)) := HQ.out.blk.cell 1
                  have x2 : W.cell? ⟨ob, 2, none⟩ = some (.int .i64 HI) := HQ.out.blk.cell 2
                  have x3 : W.cell? ⟨ob, 3, none⟩ = some (.int .u64 LK) := HQ.out.blk.cell 3
                  have x4 : W.cell? ⟨ob, 4, none⟩ = some (.slice la ls.length lc) := HQ.out.blk.cell 4
                  clear HQ
                  go_wp2_with fail
                  refine A.mono ?_
                  rintro e w5 ⟨rfl, h5⟩
                  have HQ5 := Lib.hid h5
                  have hkr5 := h5.krow
                  have HKC : Hid (∀ j, j < kn → ∃ g, ka = some ⟨g, 0, none⟩ ∧ w5.cell? ⟨g, j, none⟩ = some (.int .i64 (ks.getD j 0))) := Lib.hid (fun j hj => krow_at hkr5 HKN.out j hj)
                  clear A h5 hkr5 x0 x1 x2 x3 x4
                  have x0 : w5.cell? ⟨ob, 0, none⟩ = some (.int .i64 K) := HQ5.out.blk.cell 0
                  have x1 : w5.cell? ⟨ob, 1, none⟩ = some (.int .i64 (p : Int)) := HQ5.out.blk.cell 1
                  have x2 : w5.cell? ⟨ob, 2, none⟩ = some (.int .i64 HI) := HQ5.out.blk.cell 2
                  have x3 : w5.cell? ⟨ob, 3, none⟩ = some (.int .u64 LK) := HQ5.out.blk.cell 3
                  have x4 : w5.cell? ⟨ob, 4, none⟩ = some (.slice la ls.length lc) := HQ5.out.blk.cell 4
                  clear hm
                  go_wp2_with fail
                  go_loopw [12, 13] (fun s12 s13 wr2 => ∃ (j m : Nat), j ≤ kn ∧ s13 = .int .i64 j ∧ s12 = .bool (anyI ks (p : Int) j) ∧ wr2 = w5.drewN m) (fun _ s13 _ => kn - (intOf s13).toNat)
                  case atStart => exact ⟨0, 0, by omega, rfl, by simp [anyI], rfl⟩
                  case round =>
                    obtain ⟨j, m, hj, rfl, rfl, rfl⟩ := hrel
                    by_cases hjn : j < kn
                    · obtain ⟨gk, hgk, qk⟩ := HKC.out j hjn
                      subst hgk
                      have hS := anyI_succ (x := (p : Int)) (show j < ks.length by have := HKN.out; omega)
                      obtain ⟨y, hy⟩ : ∃ y, y = ks.getD j 0 := ⟨_, rfl⟩
                      rw [← hy] at hS qk
                      have HS2 := Lib.hid hS
                      have j0' : (0 : Int) ≤ (j : Int) := by omega
                      have j1' : (j : Int) < (kn : Int) := by omega
                      have x1d : (w5.drewN m).cell? ⟨ob, 1, none⟩ = some (.int .i64 (p : Int)) := x1
                      have qkd : (w5.drewN m).cell? ⟨gk, j, none⟩ = some (.int .i64 y) := qk
                      generalize hd : anyI ks (p : Int) j = d at *
                      clear hS hd hy
                      cases d
                      · by_cases hye : y = (p : Int)
                        · have hyb : (y == (p : Int)) = true := by simpa using hye
                          clear hye
                          go_wp2_with fail
                          go_quiet (fail)
                          go_wp2_with fail
                          go_roundw
                          case rel => exact ⟨j + 1, _, by omega, by go_num, by rw [HS2.out, hyb]; simp, rfl⟩
                          case measure => simp [intOf]; omega
                        · have hyb : (y == (p : Int)) = false := by simpa using hye
                          clear hye
                          go_wp2_with fail
                          go_quiet (fail)
                          go_wp2_with fail
                          go_roundw
                          case rel => exact ⟨j + 1, _, by omega, by go_num, by rw [HS2.out, hyb]; simp, rfl⟩
                          case measure => simp [intOf]; omega
                      · go_wp2_with fail
                        go_quiet (fail)
                        go_wp2_with fail
                        go_roundw
                        case rel => exact ⟨j + 1, _, by omega, by go_num, by rw [HS2.out]; simp, rfl⟩
                        case measure => simp [intOf]; omega
                    · obtain rfl : kn = j := by omega
                      have hall : anyI ks (p : Int) kn = decide ((p : Int) ∈ ks) := by rw [← HKN.out]; exact anyI_all _ _
                      rw [hall]
                      clear hall hjn
                      have HF : Hid (QX w (w5.drewN m) s ob #[.int .i64 K, .int .i64 (p : Int), .int .i64 HI, .int .u64 LK, .slice la ls.length lc] ka kn kc ya yc sa sn sc) := Lib.hid ⟨ks, lk, rs, ss, HQ5.out.only0 ((Only0.refl w5).drewN m), HKN.out, HSN.out⟩
                      clear HQ5 HKC x0 x1 x2 x3 x4
                      rw [decide_eq_true HMM.out]
                      go_wp2_with fail
                      go_meet
                      case rel => exact ⟨_, _, _, _, _, _, _, _, rfl, rfl, rfl, rfl, by rw [hik], by omega, by omega, HF⟩
                · have HMM := Lib.hid hm
                  have HLR := Lib.hid (HQ.out.links p LK hm)
                  have A := HQ.out.c_add_new p hp hm LK
                  have x0 : W.cell? ⟨ob, 0, none⟩ = some (.int .i64 K) := HQ.out.blk.cell 0
                  have x1 : W.cell? ⟨ob, 1, none⟩ = some (.int .i64 (p : Int)) := HQ.out.blk.cell 1
                  have x2 : W.cell? ⟨ob, 2, none⟩ = some (.int .i64 HI) := HQ.out.blk.cell 2
                  have x3 : W.cell? ⟨ob, 3, none⟩ = some (.int .u64 LK) := HQ.out.blk.cell 3
                  have x4 : W.cell? ⟨ob, 4, none⟩ = some (.slice la ls.length lc) := HQ.out.blk.cell 4
                  clear HQ
                  go_wp2_with fail
                  refine A.mono ?_
                  rintro e w5 ⟨rfl, h5⟩
                  have HQ5 := Lib.hid h5
                  have hkr5 := h5.krow
                  have HKC : Hid (∀ j, j < kn → ∃ g, ka = some ⟨g, 0, none⟩ ∧ w5.cell? ⟨g, j, none⟩ = some (.int .i64 (ks.getD j 0))) := Lib.hid (fun j hj => krow_at hkr5 HKN.out j hj)
                  clear A h5 hkr5 x0 x1 x2 x3 x4
                  have x0 : w5.cell? ⟨ob, 0, none⟩ = some (.int .i64 K) := HQ5.out.blk.cell 0
                  have x1 : w5.cell? ⟨ob, 1, none⟩ = some (.int .i64 (p : Int)) := HQ5.out.blk.cell 1
                  have x2 : w5.cell? ⟨ob, 2, none⟩ = some (.int .i64 HI) := HQ5.out.blk.cell 2
                  have x3 : w5.cell? ⟨ob, 3, none⟩ = some (.int .u64 LK) := HQ5.out.blk.cell 3
                  have x4 : w5.cell? ⟨ob, 4, none⟩ = some (.slice la ls.length lc) := HQ5.out.blk.cell 4
                  clear hm
                  go_wp2_with fail
                  go_loopw [12, 13] (fun s12 s13 wr2 => ∃ (j m : Nat), j ≤ kn ∧ s13 = .int .i64 j ∧ s12 = .bool (anyI ks (p : Int) j) ∧ wr2 = w5.drewN m) (fun _ s13 _ => kn - (intOf s13).toNat)
                  case atStart => exact ⟨0, 0, by omega, rfl, by simp [anyI], rfl⟩
                  case round =>
                    obtain ⟨j, m, hj, rfl, rfl, rfl⟩ := hrel
                    by_cases hjn : j < kn
                    · obtain ⟨gk, hgk, qk⟩ := HKC.out j hjn
                      subst hgk
                      have hS := anyI_succ (x := (p : Int)) (show j < ks.length by have := HKN.out; omega)
                      obtain ⟨y, hy⟩ : ∃ y, y = ks.getD j 0 := ⟨_, rfl⟩
                      rw [← hy] at hS qk
                      have HS2 := Lib.hid hS
                      have j0' : (0 : Int) ≤ (j : Int) := by omega
                      have j1' : (j : Int) < (kn : Int) := by omega
                      have x1d : (w5.drewN m).cell? ⟨ob, 1, none⟩ = some (.int .i64 (p : Int)) := x1
                      have qkd : (w5.drewN m).cell? ⟨gk, j, none⟩ = some (.int .i64 y) := qk
                      generalize hd : anyI ks (p : Int) j = d at *
                      clear hS hd hy
                      cases d
                      · by_cases hye : y = (p : Int)
                        · have hyb : (y == (p : Int)) = true := by simpa using hye
                          clear hye
                          go_wp2_with fail
                          go_quiet (fail)
                          go_wp2_with fail
                          go_roundw
                          case rel => exact ⟨j + 1, _, by omega, by go_num, by rw [HS2.out, hyb]; simp, rfl⟩
                          case measure => simp [intOf]; omega
                        · have hyb : (y == (p : Int)) = false := by simpa using hye
                          clear hye
                          go_wp2_with fail
                          go_quiet (fail)
                          go_wp2_with fail
                          go_roundw
                          case rel => exact ⟨j + 1, _, by omega, by go_num, by rw [HS2.out, hyb]; simp, rfl⟩
                          case measure => simp [intOf]; omega
                      · go_wp2_with fail
                        go_quiet (fail)
                        go_wp2_with fail
                        go_roundw
                        case rel => exact ⟨j + 1, _, by omega, by go_num, by rw [HS2.out]; simp, rfl⟩
                        case measure => simp [intOf]; omega
                    · obtain rfl : kn = j := by omega
                      have hall : anyI ks (p : Int) kn = decide ((p : Int) ∈ ks) := by rw [← HKN.out]; exact anyI_all _ _
                      rw [hall]
                      clear hall hjn
                      rw [decide_eq_false HMM.out]
                      have A5 := HQ5.out.only0 ((Only0.refl w5).drewN m)
                      have hfew := A5.few
                      rw [List.length_append, HKN.out] at hfew
                      have hkn63 : kn + 1 ≤ 64 := by simpa using hfew.1
                      obtain ⟨w6, hw6⟩ : ∃ x, x = w5.drewN m := ⟨_, rfl⟩
                      rw [← hw6] at A5 ⊢
                      have HA5 := Lib.hid A5
                      have hown := A5.krow
                      rw [HKN.out] at hown
                      have hkz : w.heap.size ≤ w6.heap.size := A5.bel.size
                      have y1 : w6.cell? ⟨ob, 1, none⟩ = some (.int .i64 (p : Int)) := A5.blk.cell 1
                      have NEXT := Lib.hid (fun (g cap : Nat) (w2 : World) (o : Obj) (h1 : w2.ownsRow w.heap.size 3 1 (.slice (some ⟨g, 0, none⟩) (kn + 1) cap) (kn + 1) (ks.map (Value.int .i64) ++ [.int .i64 (p : Int)])) (h2 : (w6.alloc o).grownBy w2 (Value.slice ka kn kc).ownBlock) (h3 : (Value.slice ka kn kc).ownBlock = some g ∨ g = w6.heap.size + 1) =>
                        (show QA w w2 s ob #[.int .i64 K, .int .i64 (p : Int), .int .i64 HI, .int .u64 LK, .slice la ls.length lc] (.slice (some ⟨g, 0, none⟩) (kn + 1) cap) (.slice ya kn yc) (.slice sa sn sc) (ks ++ [(p : Int)]) (lkRow ks lk) (ks ++ [(p : Int)]) (addL ks lk p LK) rs ss by
                          have := HKN.out
                          subst this
                          exact HA5.out.appK h1 h2 h3))
                      have hmx : (ks.map (Value.int .i64)).length = kn := by rw [List.length_map]; exact HKN.out
                      generalize ks.map (Value.int .i64) = KR at hown NEXT hmx
                      clear A5 HA5 HQ5 HKC hw6 hfew x0 x1 x2 x3 x4 hmx
                      go_wp2_with (at_builtin; refine wpList_append_lies _ rfl _ _ 23 rfl w.heap.size 3 j0 (.int .i64 0) 1 8 Try.underlying23 hj0 hj1 hj2 hj3 rfl (by decide) (.slice ka kn kc) kn KR rfl (hown.alloc _) ⟨w6.heap.size, 0, none⟩ 1 1 [.int .i64 (p : Int)] rfl rfl ?c1 ?c2 (by decide) ?c3 ?c4 ?c5 (w6.heap.size + 1) ?c6 ?_)
                      try (case c1 => exact news_one)
                      try (case c2 => first | rfl | (intro u hu; simp at hu; subst hu; rfl))
                      try (case c3 => unfold maxLen; omega)
                      try (case c4 => omega)
                      try (case c5 => simp; omega)
                      try (case c6 => simp)
                      intro g7 cap7 w7 hown7 hgrow7 hat7 hg7
                      have K7 := Lib.hid (NEXT.out g7 cap7 w7 _ hown7 hgrow7 hat7)
                      clear NEXT hown hown7 hgrow7 hat7 hg7 y1
                      have lown := K7.out.lrow
                      have hll : (lkRow ks lk).length = kn := by rw [lkRow_len]; exact HKN.out
                      rw [hll] at lown
                      have y3 : w7.cell? ⟨ob, 3, none⟩ = some (.int .u64 LK) := K7.out.blk.cell 3
                      have hwz7 : w.heap.size ≤ w7.heap.size := K7.out.bel.size
                      have NEXT := Lib.hid (fun (g cap : Nat) (w2 : World) (o : Obj) (h1 : w2.ownsRow w.heap.size 22 1 (.slice (some ⟨g, 0, none⟩) (kn + 1) cap) (kn + 1) ((lkRow ks lk).map (Value.int .u64) ++ [.int .u64 LK])) (h2 : (w7.alloc o).grownBy w2 (Value.slice ya kn yc).ownBlock) (h3 : (Value.slice ya kn yc).ownBlock = some g ∨ g = w7.heap.size + 1) =>
                        (show QX w w2 s ob #[.int .i64 K, .int .i64 (p : Int), .int .i64 HI, .int .u64 LK, .slice la ls.length lc] (some ⟨g7, 0, none⟩) (kn + 1) cap7 (some ⟨g, 0, none⟩) cap sa sn sc by
                          have e := hll
                          subst e
                          have R := K7.out.appL h1 h2 h3
                          exact ⟨_, _, _, _, R.done HLR.out.symm, by rw [List.length_append, HKN.out]; rfl, HSN.out⟩))
                      generalize (lkRow ks lk).map (Value.int .u64) = LR at lown NEXT
                      clear K7 hll
                      go_wp2_with (at_builtin; refine wpList_append_lies _ rfl _ _ 32 rfl w.heap.size 22 l0 (.int .u64 0) 1 8 Try.underlying32 hl0 hl1 hl2 hl3 rfl (by decide) (.slice ya kn yc) kn LR rfl (lown.alloc _) ⟨w7.heap.size, 0, none⟩ 1 1 [.int .u64 LK] rfl rfl ?c1 ?c2 (by decide) ?c3 ?c4 ?c5 (w7.heap.size + 1) ?c6 ?_)
                      try (case c1 => exact news_one)
                      try (case c2 => first | rfl | (intro u hu; simp at hu; subst hu; rfl))
                      try (case c3 => unfold maxLen; omega)
                      try (case c4 => omega)
                      try (case c5 => simp; omega)
                      try (case c6 => simp)
                      intro g8 cap8 w8 hown8 hgrow8 hat8 hg8
                      have HF := Lib.hid (NEXT.out g8 cap8 w8 _ hown8 hgrow8 hat8)
                      clear NEXT lown hown8 hgrow8 hat8 hg8 y3
                      go_wp2_with fail
                      go_meet
                      case rel => exact ⟨_, _, _, _, _, _, _, _, rfl, rfl, rfl, rfl, by rw [hik], by omega, by omega, HF⟩
            · by_cases hK1 : K = 1
              · have hb0 : (K == 0) = false := by simpa using hK0
                have hb1 : (K == 1) = true := by simpa using hK1
                clear hK0 hK1
                have hrl : rs.length = sn := by rw [← HSN.out]; exact HQ.out.few.2.2.symm
                have HRL := Lib.hid hrl
                clear hrl
                cases hik : isKey LO with
                | false =>
                  have hlo : LO < 0 ∨ 63 < LO := by simp [isKey] at hik; omega
                  have hbad : spanBad LO HI = true := by simp [spanBad]; omega
                  have hres : spanRes rs LO HI = 1 := by unfold spanRes; rw [hbad]; rfl
                  have hrs : spanRs rs LO HI ls = rs := by unfold spanRs; rw [hbad]; rfl
                  clear hbad
                  clear hlo
                  have C := HQ.out.c_span_bad LO HI la lc ls HIn.out HNU.out (by omega) 1 hres hrs
                  have x0 : W.cell? ⟨ob, 0, none⟩ = some (.int .i64 K) := HQ.out.blk.cell 0
                  have x1 : W.cell? ⟨ob, 1, none⟩ = some (.int .i64 LO) := HQ.out.blk.cell 1
                  have x2 : W.cell? ⟨ob, 2, none⟩ = some (.int .i64 HI) := HQ.out.blk.cell 2
                  have x3 : W.cell? ⟨ob, 3, none⟩ = some (.int .u64 LK) := HQ.out.blk.cell 3
                  have x4 : W.cell? ⟨ob, 4, none⟩ = some (.slice la ls.length lc) := HQ.out.blk.cell 4
                  clear HQ hres hrs
                  go_wp2_with fail
                  refine C.mono ?_
                  rintro e w5 ⟨rfl, h5⟩
                  have HF : Hid (QX w w5 s ob #[.int .i64 K, .int .i64 LO, .int .i64 HI, .int .u64 LK, .slice la ls.length lc] ka kn kc ya yc sa sn sc) := Lib.hid ⟨ks, lk, rs, ss, h5, HKN.out, HSN.out⟩
                  clear C h5 x0 x1 x2 x3 x4
                  go_wp2_with fail
                  go_meet
                  case rel => exact ⟨_, _, _, _, _, _, _, _, rfl, rfl, rfl, rfl, by rw [hik], by omega, by omega, HF⟩
                | true =>
                  obtain ⟨lo0, lo63⟩ : 0 ≤ LO ∧ LO ≤ 63 := by have h := hik; simp [isKey] at h; omega
                  by_cases h1 : HI < LO
                  · have hbad : spanBad LO HI = true := by simp [spanBad]; omega
                    have hres : spanRes rs LO HI = 1 := by unfold spanRes; rw [hbad]; rfl
                    have hrs : spanRs rs LO HI ls = rs := by unfold spanRs; rw [hbad]; rfl
                    clear hbad
                    have C := HQ.out.c_span_bad LO HI la lc ls HIn.out HNU.out (by omega) 1 hres hrs
                    have x0 : W.cell? ⟨ob, 0, none⟩ = some (.int .i64 K) := HQ.out.blk.cell 0
                    have x1 : W.cell? ⟨ob, 1, none⟩ = some (.int .i64 LO) := HQ.out.blk.cell 1
                    have x2 : W.cell? ⟨ob, 2, none⟩ = some (.int .i64 HI) := HQ.out.blk.cell 2
                    have x3 : W.cell? ⟨ob, 3, none⟩ = some (.int .u64 LK) := HQ.out.blk.cell 3
                    have x4 : W.cell? ⟨ob, 4, none⟩ = some (.slice la ls.length lc) := HQ.out.blk.cell 4
                    clear HQ hres hrs
                    go_wp2_with fail
                    refine C.mono ?_
                    rintro e w5 ⟨rfl, h5⟩
                    have HF : Hid (QX w w5 s ob #[.int .i64 K, .int .i64 LO, .int .i64 HI, .int .u64 LK, .slice la ls.length lc] ka kn kc ya yc sa sn sc) := Lib.hid ⟨ks, lk, rs, ss, h5, HKN.out, HSN.out⟩
                    clear C h5 x0 x1 x2 x3 x4
                    go_wp2_with fail
                    go_meet
                    case rel => exact ⟨_, _, _, _, _, _, _, _, rfl, rfl, rfl, rfl, by rw [hik], by omega, by omega, HF⟩
                  · by_cases h2 : 63 < HI
                    · have hbad : spanBad LO HI = true := by simp [spanBad]; omega
                      have hres : spanRes rs LO HI = 1 := by unfold spanRes; rw [hbad]; rfl
                      have hrs : spanRs rs LO HI ls = rs := by unfold spanRs; rw [hbad]; rfl
                      clear hbad
                      have C := HQ.out.c_span_bad LO HI la lc ls HIn.out HNU.out (by omega) 1 hres hrs
                      have x0 : W.cell? ⟨ob, 0, none⟩ = some (.int .i64 K) := HQ.out.blk.cell 0
                      have x1 : W.cell? ⟨ob, 1, none⟩ = some (.int .i64 LO) := HQ.out.blk.cell 1
                      have x2 : W.cell? ⟨ob, 2, none⟩ = some (.int .i64 HI) := HQ.out.blk.cell 2
                      have x3 : W.cell? ⟨ob, 3, none⟩ = some (.int .u64 LK) := HQ.out.blk.cell 3
                      have x4 : W.cell? ⟨ob, 4, none⟩ = some (.slice la ls.length lc) := HQ.out.blk.cell 4
                      clear HQ hres hrs
                      go_wp2_with fail
                      refine C.mono ?_
                      rintro e w5 ⟨rfl, h5⟩
                      have HF : Hid (QX w w5 s ob #[.int .i64 K, .int .i64 LO, .int .i64 HI, .int .u64 LK, .slice la ls.length lc] ka kn kc ya yc sa sn sc) := Lib.hid ⟨ks, lk, rs, ss, h5, HKN.out, HSN.out⟩
                      clear C h5 x0 x1 x2 x3 x4
                      go_wp2_with fail
                      go_meet
                      case rel => exact ⟨_, _, _, _, _, _, _, _, rfl, rfl, rfl, rfl, by rw [hik], by omega, by omega, HF⟩
                    · have hgood : spanBad LO HI = false := by simp [spanBad]; omega
                      by_cases h3 : 64 ≤ sn
                      · have hres : spanRes rs LO HI = 65 := by unfold spanRes; rw [hgood, HRL.out, if_pos h3]; rfl
                        have hrs : spanRs rs LO HI ls = rs := by unfold spanRs; rw [hgood, HRL.out, if_pos h3]; rfl
                        have h3' : (64 : Int) ≤ (sn : Int) := by omega
                        clear hgood
                        have C := HQ.out.c_span_bad LO HI la lc ls HIn.out HNU.out (by omega) 65 hres hrs
                        have x0 : W.cell? ⟨ob, 0, none⟩ = some (.int .i64 K) := HQ.out.blk.cell 0
                        have x1 : W.cell? ⟨ob, 1, none⟩ = some (.int .i64 LO) := HQ.out.blk.cell 1
                        have x2 : W.cell? ⟨ob, 2, none⟩ = some (.int .i64 HI) := HQ.out.blk.cell 2
                        have x3 : W.cell? ⟨ob, 3, none⟩ = some (.int .u64 LK) := HQ.out.blk.cell 3
                        have x4 : W.cell? ⟨ob, 4, none⟩ = some (.slice la ls.length lc) := HQ.out.blk.cell 4
                        clear HQ hres hrs
                        go_wp2_with fail
                        refine C.mono ?_
                        rintro e w5 ⟨rfl, h5⟩
                        have HF : Hid (QX w w5 s ob #[.int .i64 K, .int .i64 LO, .int .i64 HI, .int .u64 LK, .slice la ls.length lc] ka kn kc ya yc sa sn sc) := Lib.hid ⟨ks, lk, rs, ss, h5, HKN.out, HSN.out⟩
                        clear C h5 x0 x1 x2 x3 x4
                        go_wp2_with fail
                        go_meet
                        case rel => exact ⟨_, _, _, _, _, _, _, _, rfl, rfl, rfl, rfl, by rw [hik], by omega, by omega, HF⟩
                      · have hres : spanRes rs LO HI = 0 := by unfold spanRes; rw [hgood, HRL.out, if_neg h3]; rfl
                        have hrs : spanRs rs LO HI ls = rs ++ [⟨LO, HI, ls⟩] := by unfold spanRs; rw [hgood, HRL.out, if_neg h3]; rfl
                        have h3' : ¬ (64 : Int) ≤ (sn : Int) := by omega
                        have C := HQ.out.c_span_ok LO HI la lc ls HIn.out HNU.out (by omega) hres hrs
                        have hwz : w.heap.size ≤ W.heap.size := HQ.out.bel.size
                        clear hgood hres hrs
                        have x0 : W.cell? ⟨ob, 0, none⟩ = some (.int .i64 K) := HQ.out.blk.cell 0
                        have x1 : W.cell? ⟨ob, 1, none⟩ = some (.int .i64 LO) := HQ.out.blk.cell 1
                        have x2 : W.cell? ⟨ob, 2, none⟩ = some (.int .i64 HI) := HQ.out.blk.cell 2
                        have x3 : W.cell? ⟨ob, 3, none⟩ = some (.int .u64 LK) := HQ.out.blk.cell 3
                        have x4 : W.cell? ⟨ob, 4, none⟩ = some (.slice la ls.length lc) := HQ.out.blk.cell 4
                        clear HQ
                        go_wp2_with fail
                        refine C.mono ?_
                        rintro e w5 ⟨rfl, hb5, hs5, hz5, hnx⟩
                        rw [HSN.out] at hs5
                        have HB5 := Lib.hid hb5
                        have NEXT := Lib.hid (fun (g cap : Nat) (w2 : World) (o : Obj) (h1 : w2.ownsRow w.heap.size 37 3 (.slice (some ⟨g, 0, none⟩) (sn + 1) cap) (sn + 1) (spRow ss ++ [.int .i64 LO, .int .i64 HI, .slice la ls.length lc])) (h2 : (w5.alloc o).grownBy w2 (Value.slice sa sn sc).ownBlock) (h3 : (Value.slice sa sn sc).ownBlock = some g ∨ g = w5.heap.size + 1) =>
                          (show QX w w2 s ob #[.int .i64 K, .int .i64 LO, .int .i64 HI, .int .u64 LK, .slice la ls.length lc] ka kn kc ya yc (some ⟨g, 0, none⟩) (sn + 1) cap by
                            have e := HSN.out
                            subst e
                            exact ⟨_, _, _, _, hnx w2 g cap o h1 h2 h3, HKN.out, by simp⟩))
                        have hkn := HKN.out
                        generalize spRow ss = SR at hs5 NEXT
                        clear C hb5 hnx x0 x1 x2 x3 x4
                        have x0 : w5.cell? ⟨ob, 0, none⟩ = some (.int .i64 K) := HB5.out.cell 0
                        have x1 : w5.cell? ⟨ob, 1, none⟩ = some (.int .i64 LO) := HB5.out.cell 1
                        have x2 : w5.cell? ⟨ob, 2, none⟩ = some (.int .i64 HI) := HB5.out.cell 2
                        have x3 : w5.cell? ⟨ob, 3, none⟩ = some (.int .u64 LK) := HB5.out.cell 3
                        have x4 : w5.cell? ⟨ob, 4, none⟩ = some (.slice la ls.length lc) := HB5.out.cell 4
                        go_wp2_with (at_builtin; refine wpList_append_lies _ rfl _ _ 33 rfl w.heap.size 37 m0 (.agg #[.int .i64 0, .int .i64 0, .slice none 0 0]) 3 40 Try.underlying33 hm0 hm1 hm2 hm3 rfl (by decide) (.slice sa sn sc) sn SR rfl (hs5.alloc _) ⟨w5.heap.size, 0, none⟩ 1 1 [.int .i64 LO, .int .i64 HI, .slice la ls.length lc] rfl rfl ?c1 ?c2 (by decide) ?c3 ?c4 ?c5 (w5.heap.size + 1) ?c6 ?_)
                        try (case c1 => exact World.news_of_block (cs := #[.int .i64 LO, .int .i64 HI, .slice la ls.length lc]) (t := 37) (fr := (0, 0)) (heap_alloc_new w5 _))
                        try (case c2 => first | rfl | (refine ⟨rfl, rfl, rfl⟩; done) | (intro u hu; simp at hu; rcases hu with rfl | rfl | rfl <;> rfl))
                        try (case c3 => unfold maxLen; omega)
                        try (case c4 => omega)
                        try (case c5 => simp; omega)
                        try (case c6 => simp)
                        intro g8 cap8 w8 hown8 hgrow8 hat8 hg8
                        have HF := Lib.hid (NEXT.out g8 cap8 w8 _ hown8 hgrow8 hat8)
                        clear NEXT hs5 hown8 hgrow8 hat8 hg8 x0 x1 x2 x3 x4 HB5 hz5 hkn
                        go_wp2_with fail
                        go_meet
                        case rel => exact ⟨_, _, _, _, _, _, _, _, rfl, rfl, rfl, rfl, by rw [hik], by omega, by omega, HF⟩
              · have hb0 : (K == 0) = false := by simpa using hK0
                have hb1 : (K == 1) = false := by simpa using hK1
                have HF : Hid (QX w W s ob #[.int .i64 K, .int .i64 LO, .int .i64 HI, .int .u64 LK, .slice la ls.length lc] ka kn kc ya yc sa sn sc) := Lib.hid ⟨ks, lk, rs, ss, HQ.out, HKN.out, HSN.out⟩
                have x0 : W.cell? ⟨ob, 0, none⟩ = some (.int .i64 K) := HQ.out.blk.cell 0
                clear hK0 hK1 HQ
                go_wp2_with fail
                go_meet
                case rel => exact ⟨_, _, _, _, _, _, _, _, rfl, rfl, rfl, rfl, rfl, by omega, by omega, HF⟩
          case rest => as_aux_lemma =>
            clear HQ HKN HSN hkn64 hsn64
            obtain ⟨ka, kn, kc, ya, yc, sa, sn, sc, rfl, rfl, rfl, rfl, rfl, hkn64, hsn64, HX0⟩ := hcut
            obtain ⟨ks, lk, rs, ss, hQ, hkn, hsn⟩ := HX0.out
            have HQ := Lib.hid hQ
            have HKN := Lib.hid hkn
            have HSN := Lib.hid hsn
            have hkr5 := hQ.krow
            have HKC : Hid (∀ j, j < kn → ∃ g, ka = some ⟨g, 0, none⟩ ∧ wc.cell? ⟨g, j, none⟩ = some (.int .i64 (ks.getD j 0))) := Lib.hid (fun j hj => krow_at hkr5 HKN.out j hj)
            clear HX0 hQ hkn hsn hkr5
            go_wp2_with fail
            go_loopw [15, 16, 17] (fun s15 s16 s17 wr3 => ∃ (j : Nat) (a : Int) (d : Bool), j ≤ kn ∧ s17 = .int .i64 j ∧ s16 = .int .i64 a ∧ s15 = .bool d ∧ Hid (d = anyI ks key j ∧ AtI ks key j a) ∧ wr3 = wc) (fun _ _ s17 _ => kn - (intOf s17).toNat)
            case atStart => exact ⟨0, -1, false, by omega, rfl, rfl, rfl, Lib.hid ⟨by simp [anyI], AtI.start _ _⟩, rfl⟩
            case round =>
              obtain ⟨j, a, d, hj, rfl, rfl, rfl, HD, hwr3⟩ := hrel
              obtain rfl : wc = _ := hwr3.symm
              by_cases hjn : j < kn
              · obtain ⟨gk, hgk, qk⟩ := HKC.out j hjn
                subst hgk
                have hS := anyI_succ (x := key) (show j < ks.length by have := HKN.out; omega)
                have hAm := HD.out.2.miss
                have hAh := AtI.hit (ks := ks) (x := key) (k := j)
                obtain ⟨y, hy⟩ : ∃ y, y = ks.getD j 0 := ⟨_, rfl⟩
                rw [← hy] at hS qk hAm hAh
                have j0' : (0 : Int) ≤ (j : Int) := by omega
                have j1' : (j : Int) < (kn : Int) := by omega
                by_cases hye : y = key
                · have hyb : (y == key) = true := by simpa using hye
                  have HF : Hid (true = anyI ks key (j + 1) ∧ AtI ks key (j + 1) (j : Int)) := Lib.hid ⟨by rw [hS, hyb]; simp, hAh hye⟩
                  clear hS hAm hAh hy hye HD
                  go_wp2_with fail
                  go_roundw
                  case rel => exact ⟨j + 1, (j : Int), true, by omega, by go_num, rfl, rfl, HF, by first | rfl | trivial⟩
                  case measure => simp [intOf]; omega
                · have hyb : (y == key) = false := by simpa using hye
                  have HF : Hid (d = anyI ks key (j + 1) ∧ AtI ks key (j + 1) a) := Lib.hid ⟨by rw [hS, hyb, ← HD.out.1]; simp, hAm hye⟩
                  clear hS hAm hAh hy hye HD
                  go_wp2_with fail
                  go_roundw
                  case rel => exact ⟨j + 1, a, d, by omega, by go_num, rfl, rfl, HF, by first | rfl | trivial⟩
                  case measure => simp [intOf]; omega
              · obtain rfl : kn = j := by omega
                obtain ⟨hd1, hat1⟩ := HD.out
                have hmem : d = decide (key ∈ ks) := by rw [hd1, ← HKN.out]; exact anyI_all _ _
                rw [← HKN.out] at hat1
                have HAT := Lib.hid hat1.fin
                have HME := Lib.hid hmem
                have C := HQ.out.c_spans
                rw [HSN.out] at C
                clear hd1 hat1 hmem HD hjn
                go_wp2_with fail
                refine C.mono ?_
                rintro e w6 ⟨⟨xa, ss2, rfl, hx, hxl, hxa⟩, o6⟩
                have HX := Lib.hid (And.intro hx (And.intro hxl hxa))
                have HQ6 := Lib.hid (HQ.out.only0 o6)
                have HRL := Lib.hid (show rs.length = sn by rw [← HSN.out]; exact HQ.out.few.2.2.symm)
                clear C hx hxl hxa o6 HQ HKC
                go_wp2_with fail
                go_loopw [15, 19] (fun s15 s19 wr4 => ∃ (j : Nat) (e : Bool), j ≤ sn ∧ s19 = .int .i64 j ∧ s15 = .bool e ∧ Hid (e = (d || anyR rs key j) ∧ Only0 w6 wr4)) (fun _ s19 _ => sn - (intOf s19).toNat)
                case atStart => exact ⟨0, d, by omega, rfl, rfl, Lib.hid ⟨by simp [anyR], Only0.refl _⟩⟩
                case round =>
                  obtain ⟨j, e4, hj, rfl, rfl, HE⟩ := hrel
                  by_cases hjn : j < sn
                  · obtain ⟨hx, hxl, hxa⟩ := HX.out
                    have hjx : j < ss2.length := by omega
                    have hjs : j < ss.length := by have := HSN.out; omega
                    obtain ⟨xlo, xhi, xn, xi⟩ := hxa j hjx
                    obtain ⟨slo, shi, sn_, si, s100⟩ := HQ6.out.at_ j hjs
                    rcases hx with hx0 | ⟨xb, xo, rfl, hxc⟩
                    · rw [hx0] at hjx; simp at hjx
                    obtain ⟨z0, z1, z2⟩ := hxc j hjx
                    have hsr := HQ6.out.srow
                    obtain ⟨gs, hgs, p0, p1, p2⟩ := srow_at hsr HSN.out j hjn
                    subst hgs
                    have hSR := anyR_succ (x := key) (show j < rs.length by have := HRL.out; omega)
                    have siw : Ints .u64 w6 (ss.getD j default).la (rs.getD j default).ls := si.below HQ6.out.bel
                    rw [xlo] at z0
                    rw [xhi] at z1
                    rw [xn] at z2
                    rw [slo] at p0
                    rw [shi] at p1
                    rw [sn_] at p2
                    generalize (ss2.getD j default).la = la2 at z2 xi
                    generalize (ss2.getD j default).lc = lc2 at z2
                    generalize (ss.getD j default).la = la1 at p2 siw
                    generalize (ss.getD j default).lc = lc1 at p2
                    generalize (rs.getD j default).lo = rlo at z0 p0 hSR
                    generalize (rs.getD j default).hi = rhi at z1 p1 hSR
                    generalize (rs.getD j default).ls = rl at z2 p2 xi siw s100
                    obtain ⟨rn, hrn⟩ : ∃ rn, rn = rl.length := ⟨_, rfl⟩
                    rw [← hrn] at z2 p2
                    have o4 := HE.out.2
                    have c2 : ∀ b i v, w6.cell? ⟨b, i, none⟩ = some v → wr.cell? ⟨b, i, none⟩ = some v := fun b i v hc => (World.cell?_of_block (o4.block b (block_lt_of_cell hc) (fun h => h))).trans hc
                    have z0 := c2 _ _ _ z0
                    have z1 := c2 _ _ _ z1
                    have z2 := c2 _ _ _ z2
                    have p0 := c2 _ _ _ p0
                    have p1 := c2 _ _ _ p1
                    have p2 := c2 _ _ _ p2
                    have KP : Hid (∀ w', Only0 wr w' → w'.cell? ⟨xb, xo + j * 3, none⟩ = some (.int .i64 rlo) ∧ w'.cell? ⟨xb, xo + j * 3 + 1, none⟩ = some (.int .i64 rhi) ∧ w'.cell? ⟨xb, xo + j * 3 + 2, none⟩ = some (.slice la2 rn lc2) ∧ w'.cell? ⟨gs, j * 3, none⟩ = some (.int .i64 rlo) ∧ w'.cell? ⟨gs, j * 3 + 1, none⟩ = some (.int .i64 rhi) ∧ w'.cell? ⟨gs, j * 3 + 2, none⟩ = some (.slice la1 rn lc1)) := Lib.hid (fun w' o => by
                      have c3 : ∀ b i v, wr.cell? ⟨b, i, none⟩ = some v → w'.cell? ⟨b, i, none⟩ = some v := fun b i v hc => (World.cell?_of_block (o.block b (block_lt_of_cell hc) (fun h => h))).trans hc
                      exact ⟨c3 _ _ _ z0, c3 _ _ _ z1, c3 _ _ _ z2, c3 _ _ _ p0, c3 _ _ _ p1, c3 _ _ _ p2⟩)
                    have CS := Lib.hid (fun w' (o : Only0 wr w') => u64_self la2 la1 lc2 lc1 rn rl w' hrn (xi.only (o4.trans o) (fun _ _ h => h)) (siw.only (o4.trans o) (fun _ _ h => h)) (by omega))
                    have j0' : (0 : Int) ≤ (j : Int) := by omega
                    have j1' : (j : Int) < (sn : Int) := by omega
                    have HSR := Lib.hid (And.intro hSR HE.out.1)
                    have HO4 := Lib.hid o4
                    clear hxl hxa xlo xhi xn xi slo shi sn_ si s100 hxc hsr siw c2 o4 HE hSR hrn
                    go_upto_region 50 with (fail)
                    go_cut [15] (fun s15 wx => s15 = .bool (e4 || inSpan key rlo rhi) ∧ wx = wr)
                    case first => as_aux_lemma =>
                      cases e4 with
                      | true =>
                        go_wp2_with fail
                        go_meet
                        case rel => exact ⟨by simp, rfl⟩
                      | false =>
                        have h3 : key < rlo ∨ (rlo ≤ key ∧ key ≤ rhi) ∨ (rlo ≤ key ∧ rhi < key) := by omega
                        rcases h3 with h | ⟨h, h'⟩ | ⟨h, h'⟩
                        · go_wp2_with fail
                          go_meet
                          case rel => exact ⟨congrArg Value.bool (by simp [inSpan]; omega), rfl⟩
                        · go_wp2_with fail
                          go_meet
                          case rel => exact ⟨congrArg Value.bool (by simp [inSpan]; omega), rfl⟩
                        · go_wp2_with fail
                          go_meet
                          case rel => exact ⟨congrArg Value.bool (by simp [inSpan]; omega), rfl⟩
                    case rest => as_aux_lemma =>
                      obtain ⟨rfl, hwx⟩ := hcut
                      obtain rfl : wr = _ := hwx.symm
                      have q0 : Only0 wr wr.drew := (Only0.refl wr).drew
                      obtain ⟨e5, he5⟩ : ∃ e5, e5 = (e4 || inSpan key rlo rhi) := ⟨_, rfl⟩
                      have HE5 := Lib.hid he5
                      rw [← he5]
                      go_upto_region 51 with (fail)
                      refine wp_region_held_drew (S := (fun w' => w'.cell? ⟨xb, xo + j * 3, none⟩ = some (.int .i64 rlo) ∧ w'.cell? ⟨xb, xo + j * 3 + 1, none⟩ = some (.int .i64 rhi) ∧ w'.cell? ⟨xb, xo + j * 3 + 2, none⟩ = some (.slice la2 rn lc2) ∧ w'.cell? ⟨gs, j * 3, none⟩ = some (.int .i64 rlo) ∧ w'.cell? ⟨gs, j * 3 + 1, none⟩ = some (.int .i64 rhi) ∧ w'.cell? ⟨gs, j * 3 + 2, none⟩ = some (.slice la1 rn lc1))) (by kernel_rfl) ?_ (fun hHeld => ?_)
                      · first | exact KP.out _ (Only0.refl _).drew | exact KP.out _ (by assumption)
                      refine wpAnyH_take (i := 0) (v := ?_) rfl (by kernel_rfl) (by kernel_rfl) (by kernel_rfl) (fun _ _ _ h => h) (Or.inl ⟨by rfl, ?_⟩) (by assumption) ?_; rotate_left; (focus (intro w hSw; (try dsimp only at hSw); go_simp; try with_reducible rfl))
                      try simp only [Act.put, List.getElem_toArray, List.getElem_cons_zero, List.getElem_cons_succ, List.setIfInBounds_toArray, List.set_cons_zero, List.set_cons_succ]
                      refine wpAnyH_take (i := 1) (v := ?_) rfl (by kernel_rfl) (by kernel_rfl) (by kernel_rfl) (fun _ _ _ h => h) (Or.inl ⟨by rfl, ?_⟩) (by assumption) ?_; rotate_left; (focus (intro w hSw; (try dsimp only at hSw); go_simp; try with_reducible rfl))
                      try simp only [Act.put, List.getElem_toArray, List.getElem_cons_zero, List.getElem_cons_succ, List.setIfInBounds_toArray, List.set_cons_zero, List.set_cons_succ]
                      refine wpAnyH_take (i := 2) (v := ?_) rfl (by kernel_rfl) (by kernel_rfl) (by kernel_rfl) (fun _ _ _ h => h) (Or.inl ⟨by rfl, ?_⟩) (by assumption) ?_; rotate_left; (focus (intro w hSw; (try dsimp only at hSw); go_simp; try with_reducible rfl))
                      try simp only [Act.put, List.getElem_toArray, List.getElem_cons_zero, List.getElem_cons_succ, List.setIfInBounds_toArray, List.set_cons_zero, List.set_cons_succ]
                      refine wpAnyH_take (i := 3) (v := ?_) rfl (by kernel_rfl) (by kernel_rfl) (by kernel_rfl) (fun _ _ _ h => h) (Or.inl ⟨by rfl, ?_⟩) (by assumption) ?_; rotate_left; (focus (intro w hSw; (try dsimp only at hSw); go_simp; try with_reducible rfl))
                      try simp only [Act.put, List.getElem_toArray, List.getElem_cons_zero, List.getElem_cons_succ, List.setIfInBounds_toArray, List.set_cons_zero, List.set_cons_succ]
                      refine wpAnyH_take (i := 4) (v := ?_) rfl (by kernel_rfl) (by kernel_rfl) (by kernel_rfl) (fun _ _ _ h => h) (Or.inl ⟨by rfl, ?_⟩) (by assumption) ?_; rotate_left; (focus (intro w hSw; (try dsimp only at hSw); go_simp; try with_reducible rfl))
                      try simp only [Act.put, List.getElem_toArray, List.getElem_cons_zero, List.getElem_cons_succ, List.setIfInBounds_toArray, List.set_cons_zero, List.set_cons_succ]
                      refine wpAnyH_take (i := 5) (v := ?_) rfl (by kernel_rfl) (by kernel_rfl) (by kernel_rfl) (fun _ _ _ h => h) (Or.inl ⟨by rfl, ?_⟩) (by assumption) ?_; rotate_left; (focus (intro w hSw; (try dsimp only at hSw); go_simp; try with_reducible rfl))
                      try simp only [Act.put, List.getElem_toArray, List.getElem_cons_zero, List.getElem_cons_succ, List.setIfInBounds_toArray, List.set_cons_zero, List.set_cons_succ]
                      refine wpAnyH_take (i := 6) (v := ?_) rfl (by kernel_rfl) (by kernel_rfl) (by kernel_rfl) (fun _ _ _ h => h) (Or.inl ⟨by rfl, ?_⟩) (by assumption) ?_; rotate_left; (focus (intro w hSw; (try dsimp only at hSw); go_simp; try with_reducible rfl))
                      try simp only [Act.put, List.getElem_toArray, List.getElem_cons_zero, List.getElem_cons_succ, List.setIfInBounds_toArray, List.set_cons_zero, List.set_cons_succ]
                      refine wpAnyH_take (i := 7) (v := ?_) rfl (by kernel_rfl) (by kernel_rfl) (by kernel_rfl) (fun _ _ _ h => h) (Or.inl ⟨by rfl, ?_⟩) (by assumption) ?_; rotate_left; (focus (intro w hSw; (try dsimp only at hSw); go_simp; try with_reducible rfl))
                      try simp only [Act.put, List.getElem_toArray, List.getElem_cons_zero, List.getElem_cons_succ, List.setIfInBounds_toArray, List.set_cons_zero, List.set_cons_succ]
                      refine wpAnyH_take (i := 8) (v := ?_) rfl (by kernel_rfl) (by kernel_rfl) (by kernel_rfl) (fun _ _ _ h => h) (Or.inl ⟨by rfl, ?_⟩) (by assumption) ?_; rotate_left; (focus (intro w hSw; (try dsimp only at hSw); go_simp; try with_reducible rfl))
                      try simp only [Act.put, List.getElem_toArray, List.getElem_cons_zero, List.getElem_cons_succ, List.setIfInBounds_toArray, List.set_cons_zero, List.set_cons_succ]
                      refine wpAnyH_take (i := 9) (v := ?_) rfl (by kernel_rfl) (by kernel_rfl) (by kernel_rfl) (fun _ _ _ h => h) (Or.inl ⟨by rfl, ?_⟩) (by assumption) ?_; rotate_left; (focus (intro w hSw; (try dsimp only at hSw); go_simp; try with_reducible rfl))
                      try simp only [Act.put, List.getElem_toArray, List.getElem_cons_zero, List.getElem_cons_succ, List.setIfInBounds_toArray, List.set_cons_zero, List.set_cons_succ]
                      refine wpAnyH_take (i := 10) (v := ?_) rfl (by kernel_rfl) (by kernel_rfl) (by kernel_rfl) (fun _ _ _ h => h) (Or.inl ⟨by rfl, ?_⟩) (by assumption) ?_; rotate_left; (focus (intro w hSw; (try dsimp only at hSw); go_simp; try with_reducible rfl))
                      try simp only [Act.put, List.getElem_toArray, List.getElem_cons_zero, List.getElem_cons_succ, List.setIfInBounds_toArray, List.set_cons_zero, List.set_cons_succ]
                      refine wpAnyH_take (i := 11) (v := ?_) rfl (by kernel_rfl) (by kernel_rfl) (by kernel_rfl) (fun _ _ _ h => h) (Or.inl ⟨by rfl, ?_⟩) (by assumption) ?_; rotate_left; (focus (intro w hSw; (try dsimp only at hSw); go_simp; try with_reducible rfl))
                      try simp only [Act.put, List.getElem_toArray, List.getElem_cons_zero, List.getElem_cons_succ, List.setIfInBounds_toArray, List.set_cons_zero, List.set_cons_succ]
                      first | (refine wpAnyH_take (i := 12) rfl (by kernel_rfl) (by kernel_rfl) (by kernel_rfl) (fun _ _ _ h => h) (Or.inr ⟨by rfl, rfl⟩) (by assumption) ?_) | (refine wpAnyH_take (i := 12) (v := ?_) rfl (by kernel_rfl) (by kernel_rfl) (by kernel_rfl) (fun _ _ _ h => h) (Or.inl ⟨by rfl, ?_⟩) (by assumption) ?_; rotate_left; (focus (intro w hSw; (try dsimp only at hSw); go_simp; try with_reducible rfl)))
                      try simp only [Act.put, List.getElem_toArray, List.getElem_cons_zero, List.getElem_cons_succ, List.setIfInBounds_toArray, List.set_cons_zero, List.set_cons_succ]
                      first | (refine wpAnyH_take (i := 13) rfl (by kernel_rfl) (by kernel_rfl) (by kernel_rfl) (fun _ _ _ h => h) (Or.inr ⟨by rfl, rfl⟩) (by assumption) ?_) | (refine wpAnyH_take (i := 13) (v := ?_) rfl (by kernel_rfl) (by kernel_rfl) (by kernel_rfl) (fun _ _ _ h => h) (Or.inl ⟨by rfl, ?_⟩) (by assumption) ?_; rotate_left; (focus (intro w hSw; (try dsimp only at hSw); go_simp; try with_reducible rfl)))
                      try simp only [Act.put, List.getElem_toArray, List.getElem_cons_zero, List.getElem_cons_succ, List.setIfInBounds_toArray, List.set_cons_zero, List.set_cons_succ]
                      first | (refine wpAnyH_take (i := 14) rfl (by kernel_rfl) (by kernel_rfl) (by kernel_rfl) (fun _ _ _ h => h) (Or.inr ⟨by rfl, rfl⟩) (by assumption) ?_) | (refine wpAnyH_take (i := 14) (v := ?_) rfl (by kernel_rfl) (by kernel_rfl) (by kernel_rfl) (fun _ _ _ h => h) (Or.inl ⟨by rfl, ?_⟩) (by assumption) ?_; rotate_left; (focus (intro w hSw; (try dsimp only at hSw); go_simp; try with_reducible rfl)))
                      try simp only [Act.put, List.getElem_toArray, List.getElem_cons_zero, List.getElem_cons_succ, List.setIfInBounds_toArray, List.set_cons_zero, List.set_cons_succ]
                      first | (refine wpAnyH_take (i := 15) rfl (by kernel_rfl) (by kernel_rfl) (by kernel_rfl) (fun _ _ _ h => h) (Or.inr ⟨by rfl, rfl⟩) (by assumption) ?_) | (refine wpAnyH_take (i := 15) (v := ?_) rfl (by kernel_rfl) (by kernel_rfl) (by kernel_rfl) (fun _ _ _ h => h) (Or.inl ⟨by rfl, ?_⟩) (by assumption) ?_; rotate_left; (focus (intro w hSw; (try dsimp only at hSw); go_simp; try with_reducible rfl)))
                      try simp only [Act.put, List.getElem_toArray, List.getElem_cons_zero, List.getElem_cons_succ, List.setIfInBounds_toArray, List.set_cons_zero, List.set_cons_succ]
                      first | (refine wpAnyH_take (i := 16) rfl (by kernel_rfl) (by kernel_rfl) (by kernel_rfl) (fun _ _ _ h => h) (Or.inr ⟨by rfl, rfl⟩) (by assumption) ?_) | (refine wpAnyH_take (i := 16) (v := ?_) rfl (by kernel_rfl) (by kernel_rfl) (by kernel_rfl) (fun _ _ _ h => h) (Or.inl ⟨by rfl, ?_⟩) (by assumption) ?_; rotate_left; (focus (intro w hSw; (try dsimp only at hSw); go_simp; try with_reducible rfl)))
                      try simp only [Act.put, List.getElem_toArray, List.getElem_cons_zero, List.getElem_cons_succ, List.setIfInBounds_toArray, List.set_cons_zero, List.set_cons_succ]
                      first | (refine wpAnyH_take (i := 17) rfl (by kernel_rfl) (by kernel_rfl) (by kernel_rfl) (fun _ _ _ h => h) (Or.inr ⟨by rfl, rfl⟩) (by assumption) ?_) | (refine wpAnyH_take (i := 17) (v := ?_) rfl (by kernel_rfl) (by kernel_rfl) (by kernel_rfl) (fun _ _ _ h => h) (Or.inl ⟨by rfl, ?_⟩) (by assumption) ?_; rotate_left; (focus (intro w hSw; (try dsimp only at hSw); go_simp; try with_reducible rfl)))
                      try simp only [Act.put, List.getElem_toArray, List.getElem_cons_zero, List.getElem_cons_succ, List.setIfInBounds_toArray, List.set_cons_zero, List.set_cons_succ]
                      first | (refine wpAnyH_take (i := 18) rfl (by kernel_rfl) (by kernel_rfl) (by kernel_rfl) (fun _ _ _ h => h) (Or.inr ⟨by rfl, rfl⟩) (by assumption) ?_) | (refine wpAnyH_take (i := 18) (v := ?_) rfl (by kernel_rfl) (by kernel_rfl) (by kernel_rfl) (fun _ _ _ h => h) (Or.inl ⟨by rfl, ?_⟩) (by assumption) ?_; rotate_left; (focus (intro w hSw; (try dsimp only at hSw); go_simp; try with_reducible rfl)))
                      try simp only [Act.put, List.getElem_toArray, List.getElem_cons_zero, List.getElem_cons_succ, List.setIfInBounds_toArray, List.set_cons_zero, List.set_cons_succ]
                      first | (refine wpAnyH_take (i := 19) rfl (by kernel_rfl) (by kernel_rfl) (by kernel_rfl) (fun _ _ _ h => h) (Or.inr ⟨by rfl, rfl⟩) (by assumption) ?_) | (refine wpAnyH_take (i := 19) (v := ?_) rfl (by kernel_rfl) (by kernel_rfl) (by kernel_rfl) (fun _ _ _ h => h) (Or.inl ⟨by rfl, ?_⟩) (by assumption) ?_; rotate_left; (focus (intro w hSw; (try dsimp only at hSw); go_simp; try with_reducible rfl)))
                      try simp only [Act.put, List.getElem_toArray, List.getElem_cons_zero, List.getElem_cons_succ, List.setIfInBounds_toArray, List.set_cons_zero, List.set_cons_succ]
                      first | (refine wpAnyH_take (i := 20) rfl (by kernel_rfl) (by kernel_rfl) (by kernel_rfl) (fun _ _ _ h => h) (Or.inr ⟨by rfl, rfl⟩) (by assumption) ?_) | (refine wpAnyH_take (i := 20) (v := ?_) rfl (by kernel_rfl) (by kernel_rfl) (by kernel_rfl) (fun _ _ _ h => h) (Or.inl ⟨by rfl, ?_⟩) (by assumption) ?_; rotate_left; (focus (intro w hSw; (try dsimp only at hSw); go_simp; try with_reducible rfl)))
                      try simp only [Act.put, List.getElem_toArray, List.getElem_cons_zero, List.getElem_cons_succ, List.setIfInBounds_toArray, List.set_cons_zero, List.set_cons_succ]
                      first | (refine wpAnyH_take (i := 21) rfl (by kernel_rfl) (by kernel_rfl) (by kernel_rfl) (fun _ _ _ h => h) (Or.inr ⟨by rfl, rfl⟩) (by assumption) ?_) | (refine wpAnyH_take (i := 21) (v := ?_) rfl (by kernel_rfl) (by kernel_rfl) (by kernel_rfl) (fun _ _ _ h => h) (Or.inl ⟨by rfl, ?_⟩) (by assumption) ?_; rotate_left; (focus (intro w hSw; (try dsimp only at hSw); go_simp; try with_reducible rfl)))
                      try simp only [Act.put, List.getElem_toArray, List.getElem_cons_zero, List.getElem_cons_succ, List.setIfInBounds_toArray, List.set_cons_zero, List.set_cons_succ]
                      first | (refine wpAnyH_take (i := 22) rfl (by kernel_rfl) (by kernel_rfl) (by kernel_rfl) (fun _ _ _ h => h) (Or.inr ⟨by rfl, rfl⟩) (by assumption) ?_) | (refine wpAnyH_take (i := 22) (v := ?_) rfl (by kernel_rfl) (by kernel_rfl) (by kernel_rfl) (fun _ _ _ h => h) (Or.inl ⟨by rfl, ?_⟩) (by assumption) ?_; rotate_left; (focus (intro w hSw; (try dsimp only at hSw); go_simp; try with_reducible rfl)))
                      try simp only [Act.put, List.getElem_toArray, List.getElem_cons_zero, List.getElem_cons_succ, List.setIfInBounds_toArray, List.set_cons_zero, List.set_cons_succ]
                      refine wpAnyH_take (i := 23) (v := ?_) rfl (by kernel_rfl) (by kernel_rfl) (by kernel_rfl) (fun _ _ _ h => h) (Or.inl ⟨by rfl, ?_⟩) (by assumption) ?_; rotate_left; (focus (intro w hSw; (try dsimp only at hSw); go_simp; try with_reducible rfl))
                      try simp only [Act.put, List.getElem_toArray, List.getElem_cons_zero, List.getElem_cons_succ, List.setIfInBounds_toArray, List.set_cons_zero, List.set_cons_succ]
                      refine wpAnyH_take (i := 24) (v := ?_) rfl (by kernel_rfl) (by kernel_rfl) (by kernel_rfl) (fun _ _ _ h => h) (Or.inl ⟨by rfl, ?_⟩) (by assumption) ?_; rotate_left; (focus (intro w hSw; (try dsimp only at hSw); go_simp; try with_reducible rfl))
                      try simp only [Act.put, List.getElem_toArray, List.getElem_cons_zero, List.getElem_cons_succ, List.setIfInBounds_toArray, List.set_cons_zero, List.set_cons_succ]
                      first | (refine wpAnyH_take (i := 25) rfl (by kernel_rfl) (by kernel_rfl) (by kernel_rfl) (fun _ _ _ h => h) (Or.inr ⟨by rfl, rfl⟩) (by assumption) ?_) | (refine wpAnyH_take (i := 25) (v := ?_) rfl (by kernel_rfl) (by kernel_rfl) (by kernel_rfl) (fun _ _ _ h => h) (Or.inl ⟨by rfl, ?_⟩) (by assumption) ?_; rotate_left; (focus (intro w hSw; (try dsimp only at hSw); go_simp; try with_reducible rfl)))
                      try simp only [Act.put, List.getElem_toArray, List.getElem_cons_zero, List.getElem_cons_succ, List.setIfInBounds_toArray, List.set_cons_zero, List.set_cons_succ]
                      first | (refine wpAnyH_take (i := 26) rfl (by kernel_rfl) (by kernel_rfl) (by kernel_rfl) (fun _ _ _ h => h) (Or.inr ⟨by rfl, rfl⟩) (by assumption) ?_) | (refine wpAnyH_take (i := 26) (v := ?_) rfl (by kernel_rfl) (by kernel_rfl) (by kernel_rfl) (fun _ _ _ h => h) (Or.inl ⟨by rfl, ?_⟩) (by assumption) ?_; rotate_left; (focus (intro w hSw; (try dsimp only at hSw); go_simp; try with_reducible rfl)))
                      try simp only [Act.put, List.getElem_toArray, List.getElem_cons_zero, List.getElem_cons_succ, List.setIfInBounds_toArray, List.set_cons_zero, List.set_cons_succ]
                      first | (refine wpAnyH_take (i := 27) rfl (by kernel_rfl) (by kernel_rfl) (by kernel_rfl) (fun _ _ _ h => h) (Or.inr ⟨by rfl, rfl⟩) (by assumption) ?_) | (refine wpAnyH_take (i := 27) (v := ?_) rfl (by kernel_rfl) (by kernel_rfl) (by kernel_rfl) (fun _ _ _ h => h) (Or.inl ⟨by rfl, ?_⟩) (by assumption) ?_; rotate_left; (focus (intro w hSw; (try dsimp only at hSw); go_simp; try with_reducible rfl)))
                      try simp only [Act.put, List.getElem_toArray, List.getElem_cons_zero, List.getElem_cons_succ, List.setIfInBounds_toArray, List.set_cons_zero, List.set_cons_succ]
                      first | (refine wpAnyH_take (i := 28) rfl (by kernel_rfl) (by kernel_rfl) (by kernel_rfl) (fun _ _ _ h => h) (Or.inr ⟨by rfl, rfl⟩) (by assumption) ?_) | (refine wpAnyH_take (i := 28) (v := ?_) rfl (by kernel_rfl) (by kernel_rfl) (by kernel_rfl) (fun _ _ _ h => h) (Or.inl ⟨by rfl, ?_⟩) (by assumption) ?_; rotate_left; (focus (intro w hSw; (try dsimp only at hSw); go_simp; try with_reducible rfl)))
                      try simp only [Act.put, List.getElem_toArray, List.getElem_cons_zero, List.getElem_cons_succ, List.setIfInBounds_toArray, List.set_cons_zero, List.set_cons_succ]
                      first | (refine wpAnyH_take (i := 29) rfl (by kernel_rfl) (by kernel_rfl) (by kernel_rfl) (fun _ _ _ h => h) (Or.inr ⟨by rfl, rfl⟩) (by assumption) ?_) | (refine wpAnyH_take (i := 29) (v := ?_) rfl (by kernel_rfl) (by kernel_rfl) (by kernel_rfl) (fun _ _ _ h => h) (Or.inl ⟨by rfl, ?_⟩) (by assumption) ?_; rotate_left; (focus (intro w hSw; (try dsimp only at hSw); go_simp; try with_reducible rfl)))
                      try simp only [Act.put, List.getElem_toArray, List.getElem_cons_zero, List.getElem_cons_succ, List.setIfInBounds_toArray, List.set_cons_zero, List.set_cons_succ]
                      first | (refine wpAnyH_take (i := 30) rfl (by kernel_rfl) (by kernel_rfl) (by kernel_rfl) (fun _ _ _ h => h) (Or.inr ⟨by rfl, rfl⟩) (by assumption) ?_) | (refine wpAnyH_take (i := 30) (v := ?_) rfl (by kernel_rfl) (by kernel_rfl) (by kernel_rfl) (fun _ _ _ h => h) (Or.inl ⟨by rfl, ?_⟩) (by assumption) ?_; rotate_left; (focus (intro w hSw; (try dsimp only at hSw); go_simp; try with_reducible rfl)))
                      try simp only [Act.put, List.getElem_toArray, List.getElem_cons_zero, List.getElem_cons_succ, List.setIfInBounds_toArray, List.set_cons_zero, List.set_cons_succ]
                      first | (refine wpAnyH_take (i := 31) rfl (by kernel_rfl) (by kernel_rfl) (by kernel_rfl) (fun _ _ _ h => h) (Or.inr ⟨by rfl, rfl⟩) (by assumption) ?_) | (refine wpAnyH_take (i := 31) (v := ?_) rfl (by kernel_rfl) (by kernel_rfl) (by kernel_rfl) (fun _ _ _ h => h) (Or.inl ⟨by rfl, ?_⟩) (by assumption) ?_; rotate_left; (focus (intro w hSw; (try dsimp only at hSw); go_simp; try with_reducible rfl)))
                      try simp only [Act.put, List.getElem_toArray, List.getElem_cons_zero, List.getElem_cons_succ, List.setIfInBounds_toArray, List.set_cons_zero, List.set_cons_succ]
                      first | (refine wpAnyH_take (i := 32) rfl (by kernel_rfl) (by kernel_rfl) (by kernel_rfl) (fun _ _ _ h => h) (Or.inr ⟨by rfl, rfl⟩) (by assumption) ?_) | (refine wpAnyH_take (i := 32) (v := ?_) rfl (by kernel_rfl) (by kernel_rfl) (by kernel_rfl) (fun _ _ _ h => h) (Or.inl ⟨by rfl, ?_⟩) (by assumption) ?_; rotate_left; (focus (intro w hSw; (try dsimp only at hSw); go_simp; try with_reducible rfl)))
                      try simp only [Act.put, List.getElem_toArray, List.getElem_cons_zero, List.getElem_cons_succ, List.setIfInBounds_toArray, List.set_cons_zero, List.set_cons_succ]
                      first | (refine wpAnyH_take (i := 33) rfl (by kernel_rfl) (by kernel_rfl) (by kernel_rfl) (fun _ _ _ h => h) (Or.inr ⟨by rfl, rfl⟩) (by assumption) ?_) | (refine wpAnyH_take (i := 33) (v := ?_) rfl (by kernel_rfl) (by kernel_rfl) (by kernel_rfl) (fun _ _ _ h => h) (Or.inl ⟨by rfl, ?_⟩) (by assumption) ?_; rotate_left; (focus (intro w hSw; (try dsimp only at hSw); go_simp; try with_reducible rfl)))
                      try simp only [Act.put, List.getElem_toArray, List.getElem_cons_zero, List.getElem_cons_succ, List.setIfInBounds_toArray, List.set_cons_zero, List.set_cons_succ]
                      first | (refine wpAnyH_take (i := 34) rfl (by kernel_rfl) (by kernel_rfl) (by kernel_rfl) (fun _ _ _ h => h) (Or.inr ⟨by rfl, rfl⟩) (by assumption) ?_) | (refine wpAnyH_take (i := 34) (v := ?_) rfl (by kernel_rfl) (by kernel_rfl) (by kernel_rfl) (fun _ _ _ h => h) (Or.inl ⟨by rfl, ?_⟩) (by assumption) ?_; rotate_left; (focus (intro w hSw; (try dsimp only at hSw); go_simp; try with_reducible rfl)))
                      try simp only [Act.put, List.getElem_toArray, List.getElem_cons_zero, List.getElem_cons_succ, List.setIfInBounds_toArray, List.set_cons_zero, List.set_cons_succ]
                      refine wpAnyH_ready (rs := [35]) (by kernel_rfl) (by simp) ?_
                      refine AllReadyH.cons rfl (fun K hK => ?_) AllReadyH.nil
                      try simp only [List.getElem_toArray, List.getElem_cons_zero, List.getElem_cons_succ]
                      go_simp
                      (refine (CS.out _ (by assumption)).mono ?_; rintro e w9 ⟨rfl, o9⟩; have q9 := q0.trans o9)
                      try go_wp2_with fail
                      refine hK.out _ _ ?_ (fun hHeld => ?_)
                      · first | exact KP.out _ (Only0.refl _).drew | exact KP.out _ (by assumption)
                      clear hK K
                      try simp only [Act.put, List.getElem_toArray, List.getElem_cons_zero, List.getElem_cons_succ, List.setIfInBounds_toArray, List.set_cons_zero, List.set_cons_succ]
                      first | (refine wpAnyH_take (i := 36) rfl (by kernel_rfl) (by kernel_rfl) (by kernel_rfl) (fun _ _ _ h => h) (Or.inr ⟨by rfl, rfl⟩) (by assumption) ?_) | (refine wpAnyH_take (i := 36) (v := ?_) rfl (by kernel_rfl) (by kernel_rfl) (by kernel_rfl) (fun _ _ _ h => h) (Or.inl ⟨by rfl, ?_⟩) (by assumption) ?_; rotate_left; (focus (intro w hSw; (try dsimp only at hSw); go_simp; try with_reducible rfl)))
                      try simp only [Act.put, List.getElem_toArray, List.getElem_cons_zero, List.getElem_cons_succ, List.setIfInBounds_toArray, List.set_cons_zero, List.set_cons_succ]
                      refine wpAnyH_take (i := 37) (v := ?_) rfl (by kernel_rfl) (by kernel_rfl) (by kernel_rfl) (fun _ _ _ h => h) (Or.inl ⟨by rfl, ?_⟩) (by assumption) ?_; rotate_left; (focus (intro w hSw; (try dsimp only at hSw); go_simp; try with_reducible rfl))
                      try simp only [Act.put, List.getElem_toArray, List.getElem_cons_zero, List.getElem_cons_succ, List.setIfInBounds_toArray, List.set_cons_zero, List.set_cons_succ]
                      refine wpAnyH_done (by kernel_rfl) ?_ _
                      have HF : Hid (e5 = (d || anyR rs key (j + 1)) ∧ Only0 w6 w9) := Lib.hid ⟨by rw [he5, HSR.out.1, HSR.out.2, Bool.or_assoc], HO4.out.trans q9⟩
                      clear he5 HSR HO4 KP CS q0 q9 z0 z1 z2 p0 p1 p2
                      go_wp2_with fail
                      go_roundw
                      case rel => exact ⟨j + 1, e5, by omega, by go_num, by first | rfl | exact congrArg Value.bool HE5.out.symm, HF⟩
                      case measure => simp [intOf]; omega
                  · obtain rfl : sn = j := by omega
                    have HQ7 := Lib.hid (HQ6.out.only0 HE.out.2)
                    have hcov : e4 = (d || anyRg rs key) := by rw [HE.out.1, ← HRL.out, anyR_all]
                    have HCV := Lib.hid (show e4 = (decide (key ∈ ks) || anyRg rs key) by rw [hcov, HME.out])
                    have C1 := HQ7.out.c_link key
                    clear HE HQ6 HX hcov hjn
                    rcases HAT.out with ⟨ha, hno⟩ | ⟨t, ht, ha, hkt, hin⟩
                    · subst ha
                      have hdf : d = false := by rw [HME.out]; exact decide_eq_false hno
                      rw [if_neg hno, decide_eq_false hno] at C1
                      have HD2 := Lib.hid hdf
                      clear hno
                      go_wp2_with fail
                      refine C1.mono ?_
                      rintro e w7 ⟨rfl, o7⟩
                      have HO := Lib.hid o7
                      have HQ8 := Lib.hid (HQ7.out.only0 o7)
                      have C2 := HQ8.out.c_keys
                      rw [HKN.out] at C2
                      clear C1 o7 HQ7 hdf
                      go_wp2_with fail
                      refine C2.mono ?_
                      rintro e w8 ⟨⟨kx, rfl, hki⟩, o9⟩
                      have HQ9 := Lib.hid (HQ8.out.only0 o9)
                      have C3 := ints_self kx ka kn kc ks _ hki (QS.kints HKN.out.symm HQ9.out) (by have := HQ9.out.few.1; omega)
                      rw [HKN.out] at C3
                      have HO9 := Lib.hid (HO.out.trans o9)
                      clear C2 hki o9 HQ8 HO
                      go_wp2_with fail
                      refine C3.mono ?_
                      rintro e w10 ⟨rfl, o10⟩
                      have HQ10 := Lib.hid (HQ9.out.only0 o10)
                      have C4 := HQ10.out.c_covers key
                      rw [← HCV.out] at C4

                      clear C3 o10 HQ9 HO9
                      go_wp2_with fail
                      refine C4.mono ?_
                      rintro e w11 ⟨rfl, o11⟩
                      have HQ11 := Lib.hid (HQ10.out.only0 o11)
                      have C5 := HQ11.out.c_len
                      rw [HKN.out, HSN.out] at C5
                      clear C4 o11 HQ10
                      go_wp2_with fail
                      refine C5.mono ?_
                      rintro e w12 ⟨rfl, o12⟩
                      have HF : Hid (PX w w12 s ka kn kc ya yc sa sn sc) := by
                        obtain ⟨P9, hP9⟩ := (HQ11.out.only0 o12).pr
                        exact Lib.hid ⟨P9, ks, lk, rs, ss, hP9, HKN.out, HSN.out⟩
                      clear C5 o12 HQ11
                      go_wp2_with fail
                      go_roundw
                      case rel => exact ⟨k + 1, _, _, _, _, _, _, _, _, _, _, _, _, _, _, _, _, _, _, _, _, rfl, rfl, rfl, rfl, rfl, rfl, rfl, rfl, rfl, rfl, rfl, rfl, rfl, rfl, rfl, by omega, by omega, by go_num, by omega, by omega, HF⟩
                      case measure => simp [intOf]; omega
                    · subst ha
                      have hdt : d = true := by rw [HME.out]; exact decide_eq_true hin
                      rw [if_pos hin, decide_eq_true hin] at C1
                      have HD2 := Lib.hid hdt
                      have htk : t < kn := by have := HKN.out; omega
                      have t0 : (0 : Int) ≤ (t : Int) := by omega
                      have t1 : (t : Int) < (kn : Int) := by omega
                      obtain ⟨lkv, hlkv⟩ : ∃ lkv, lkv = lk key.toNat := ⟨_, rfl⟩
                      rw [← hlkv] at C1
                      have HLC : Hid (∃ gl, ya = some ⟨gl, 0, none⟩ ∧ ∀ w', Only0 wr w' → w'.cell? ⟨gl, t, none⟩ = some (.int .u64 lkv)) := by
                        have hl := HQ7.out.lrow
                        obtain ⟨gl, hgl, hc⟩ := lrow_at hl HKN.out t htk
                        rw [hkt, ← hlkv] at hc
                        subst hgl
                        exact Lib.hid ⟨gl, rfl, fun w' o => (World.cell?_of_block (o.block gl (block_lt_of_cell hc) (fun h => h))).trans hc⟩
                      obtain ⟨gl, hgl, hlc⟩ := HLC.out
                      subst hgl
                      have HLC2 := Lib.hid hlc
                      clear HLC hlc hkt hin hlkv ht
                      go_wp2_with fail
                      refine C1.mono ?_
                      rintro e w7 ⟨rfl, o7⟩
                      have HO := Lib.hid o7
                      have HQ8 := Lib.hid (HQ7.out.only0 o7)
                      have C2 := HQ8.out.c_keys
                      rw [HKN.out] at C2
                      clear C1 o7 HQ7 hdt
                      go_wp2_with fail
                      refine C2.mono ?_
                      rintro e w8 ⟨⟨kx, rfl, hki⟩, o9⟩
                      have HQ9 := Lib.hid (HQ8.out.only0 o9)
                      have lc8 := HLC2.out _ (HO.out.trans o9)
                      have C3 := ints_self kx ka kn kc ks _ hki (QS.kints HKN.out.symm HQ9.out) (by have := HQ9.out.few.1; omega)
                      rw [HKN.out] at C3
                      have HO9 := Lib.hid (HO.out.trans o9)
                      clear C2 hki o9 HQ8 HO
                      go_wp2_with fail
                      refine C3.mono ?_
                      rintro e w10 ⟨rfl, o10⟩
                      have HQ10 := Lib.hid (HQ9.out.only0 o10)
                      have C4 := HQ10.out.c_covers key
                      rw [← HCV.out] at C4
                      have lc10 := HLC2.out _ (HO9.out.trans o10)
                      clear C3 o10 HQ9 HO9
                      go_wp2_with fail
                      refine C4.mono ?_
                      rintro e w11 ⟨rfl, o11⟩
                      have HQ11 := Lib.hid (HQ10.out.only0 o11)
                      have C5 := HQ11.out.c_len
                      rw [HKN.out, HSN.out] at C5
                      clear C4 o11 HQ10
                      go_wp2_with fail
                      refine C5.mono ?_
                      rintro e w12 ⟨rfl, o12⟩
                      have HF : Hid (PX w w12 s ka kn kc (some ⟨gl, 0, none⟩) yc sa sn sc) := by
                        obtain ⟨P9, hP9⟩ := (HQ11.out.only0 o12).pr
                        exact Lib.hid ⟨P9, ks, lk, rs, ss, hP9, HKN.out, HSN.out⟩
                      clear C5 o12 HQ11
                      go_wp2_with fail
                      go_roundw
                      case rel => exact ⟨k + 1, _, _, _, _, _, _, _, _, _, _, _, _, _, _, _, _, _, _, _, _, rfl, rfl, rfl, rfl, rfl, rfl, rfl, rfl, rfl, rfl, rfl, rfl, rfl, rfl, rfl, by omega, by omega, by go_num, by omega, by omega, HF⟩
                      case measure => simp [intOf]; omega
    · obtain ⟨P, ks, lk, rs, ss, hP, -, -⟩ := HF.out
      have HB := Lib.hid hP.set.bel
      have hx : (¬ (k : Int) < (rows.length : Int)) ∨ ((k : Int) < (rows.length : Int) ∧ ¬ (k : Int) < 120) := by omega
      clear hP HF hgo
      rcases hx with h | ⟨h, h2⟩
      all_goals
        go_wp2_with fail
        go_ret
        exact ⟨rfl, HB.out⟩
end Go.Proofs.Ythjhhclgmkgigaa

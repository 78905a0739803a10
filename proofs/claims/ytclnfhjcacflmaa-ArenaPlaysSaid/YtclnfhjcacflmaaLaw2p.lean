/-
  The walk of ArenaPlays.
-/
import Derived.Test.YtclnfhjcacflmaaArPl
import Derived.Deep.Cut
import Derived.Deep.CutBlock
import Derived.Deep.DeepCutAuto
import Derived.StillTailTactics
import Derived.Deep.RegionHeld3
import Derived.Deep.DrawnRows
namespace Go.Proofs.Ytclnfhjcacflmaa
open Go.RowKit Go.ChangeShapes Go.WideShapes Go.Deep
attribute [local go_sem ↓] Go.wp_at_zero Go.wp_at_succ
set_option linter.unusedVariables false
set_option linter.unusedSimpArgs false

theorem wrap64_in {x : Int} (h : -9223372036854775808 ≤ x ∧ x ≤ 9223372036854775807) : wrap64 x = x := by unfold wrap64; omega
/-- How often is counted behind a call. -/
def cnt1 (d : Bool) (KK cnt : Int) : Int := if d && decide (0 ≤ KK) && decide (KK < 4) then cnt + 1 else cnt

set_option maxRecDepth 100000 in
set_option maxHeartbeats 32000000 in
theorem arenaPlays_walk (n : Int) (la : Option Addr) (lc : Nat) (l : List (List Int)) (w : World) (_wn : (Lit.int .i64 n).wf = true)
    (i1 : Recs opKinds w la l ∧ ∀ r ∈ l, r.length = opKinds.length ∧ wfs opKinds r) (s1 : l.length * 32 ≤ 140737488351232) (_l1 : l.length ≤ lc) (_m1 : lc ≤ 9223372036854775807) :
    Calls Try.prog 3 #[.int .i64 n, .slice la l.length lc] w fun e w' => e = .returned (.bool true) ∧ Below w.heap.size w w' := by
  have HLO : Hid (AOps w la l) := Lib.hid i1
  clear i1 _wn
  go_enter Try.func3, Try.ntmps3
  go_upto_region 1 with (fail)
  go_cut [20] (fun s20 wx => s20 = .bool (decide (40 < n) && decide (n ≤ 100000)) ∧ wx = w)
  case first =>
    by_cases h1 : 40 < n
    · by_cases h2 : n ≤ 100000
      · go_wp2_with fail
        go_meet
        case rel => exact ⟨by simp [h1, h2], rfl⟩
      · go_wp2_with fail
        go_meet
        case rel => exact ⟨by simp [h2], rfl⟩
    · go_wp2_with fail
      go_meet
      case rel => exact ⟨congrArg Value.bool (by simp; omega), rfl⟩
  case rest =>
  obtain ⟨rfl, hwc0⟩ := hcut
  obtain rfl : w = _ := hwc0.symm
  go_upto_if 20 with (fail)
  go_cut [0] (fun s0 wx => (∃ nn : Int, s0 = .int .i64 nn ∧ (nn < 1 ∨ 100000 < nn ∨ (1 ≤ nn ∧ nn ≤ 40))) ∧ wx = w)
  case first =>
    by_cases h1 : 40 < n
    · by_cases h2 : n ≤ 100000
      · obtain ⟨q, hq⟩ : ∃ q, q = n.tmod 40 := ⟨_, rfl⟩
        have hq2 : n.tmod 40 = n % 40 := Int.tmod_eq_emod_of_nonneg (by omega)
        have hq3 : 0 ≤ q ∧ q < 40 := by omega
        have HQ := Lib.hid hq3
        have hq4 : n.tmod 40 = q := hq.symm
        rw [show (decide (40 < n) && decide (n ≤ 100000)) = true by simp [h1, h2]]
        clear hq hq2 hq3
        go_wp2_with fail
        go_meet
        case rel => exact ⟨⟨_, rfl, .inr (.inr (by have := HQ.out; have hw : wrap64 (q + 1) = q + 1 := wrap64_in (by omega); omega))⟩, rfl⟩
      · rw [show (decide (40 < n) && decide (n ≤ 100000)) = false by simp [h2]]
        go_wp2_with fail
        go_meet
        case rel => exact ⟨⟨_, rfl, .inr (.inl (by omega))⟩, rfl⟩
    · rw [show (decide (40 < n) && decide (n ≤ 100000)) = false by simp; omega]
      by_cases h2 : n < 1
      · go_wp2_with fail
        go_meet
        case rel => exact ⟨⟨_, rfl, .inl h2⟩, rfl⟩
      · go_wp2_with fail
        go_meet
        case rel => exact ⟨⟨_, rfl, .inr (.inr ⟨by omega, by omega⟩)⟩, rfl⟩
  case rest =>
    obtain ⟨⟨nn, rfl, hnn⟩, hwc⟩ := hcut
    obtain rfl : w = _ := hwc.symm
    by_cases hbad : nn < 1 ∨ 100000 < nn
    · have CN := arena_new_bad nn hbad w
      have hb2 : nn < 1 ∨ (1 ≤ nn ∧ 100000 < nn) := by omega
      clear hnn hbad
      rcases hb2 with h | ⟨h, h'⟩
      all_goals
        go_wp2_with fail
        refine CN.mono ?_
        rintro e w1 ⟨rfl, rfl⟩
        have C := awake2_any w
        clear CN
        go_wp2_with fail
        refine C.mono ?_
        rintro e w2 ⟨rfl, b2⟩
        have FIN := Lib.hid b2
        go_wp2_with fail
        go_ret
        exact ⟨rfl, FIN.out⟩
    · obtain ⟨m, rfl⟩ : ∃ m : Nat, nn = (m : Int) := ⟨nn.toNat, by omega⟩
      have hm1 : 1 ≤ m := by omega
      have hm40 : m ≤ 40 := by omega
      have g1 : (1 : Int) ≤ (m : Int) := by omega
      have g2 : (m : Int) ≤ 100000 := by omega
      have CN := arena_new m g1 g2 w
      have hmk := fun wx => mk_u64s m (by omega) wx
      clear hnn hbad
      go_wp2_with fail
      refine CN.mono ?_
      rintro e w1 ⟨rfl, h1, b1, z1⟩
      obtain ⟨a, ha⟩ : ∃ a, a = w.heap.size + 1 := ⟨_, rfl⟩
      obtain ⟨b, hb⟩ : ∃ b, b = w.heap.size := ⟨_, rfl⟩
      rw [← ha] at h1 ⊢
      rw [← hb] at h1
      have HA := Lib.hid ha
      have HB := Lib.hid hb
      have HZ1 := Lib.hid z1
      have H1 := Lib.hid h1
      have B1 := Lib.hid b1
      have CL := arena_len h1
      have hz : (AS.zero (m : Int).toNat).ws.length = m := by simp [AS.zero]
      rw [hz] at CL
      clear CN h1 b1 z1 ha hb
      go_wp2_with fail
      refine CL.mono ?_
      rintro e w2 ⟨rfl, rfl⟩
      obtain ⟨w2, hw2⟩ : ∃ x, x = w1.alloc (.cells (Array.replicate m (Value.int .u64 0)) 30) := ⟨_, rfl⟩
      obtain ⟨c, hc⟩ : ∃ x, x = w1.heap.size := ⟨_, rfl⟩
      have HL : Hid (∃ s : AS, AP w w2 a b c m s s.ws ∧ s.cnt = 0) := by
        have e1 := H1.out
        have e2 := HZ1.out
        have e3 := HA.out
        have e4 := HB.out
        have o2 : Only0 w1 w2 := by rw [hw2]; exact (Only0.refl w1).alloc _
        have hrow : Blk w2 c 30 ((AS.zero (m : Int).toNat).ws.map (Value.int .u64)).toArray := by
          rw [hw2, hc]
          have := Blk.new w1 30 (Array.replicate m (Value.int .u64 0))
          simpa [AS.zero] using this
        exact Lib.hid ⟨AS.zero (m : Int).toNat, ⟨e1.only (S := fun _ => False) o2 (fun h => h) (fun h => h), hrow, hz, hz, fun x hx => by simp [AS.zero] at hx; omega, B1.out.trans (Only.below (S := fun _ => False) o2 _ B1.out.size (fun _ hf => hf.elim)), by omega, by omega, by omega, by omega, by omega⟩, rfl⟩
      clear CL hz HZ1 H1 B1 HA HB
      go_upto_region 9 with (fail)
      rw [← hw2, ← hc]
      clear hw2 hc hmk
      go_wp2_with fail
      go_loopw [8, 9, 10, 11, 12, 13, 14] (fun s8 s9 s10 s11 s12 s13 s14 wr => ∃ (k : Nat) (cnt : Int) (v10 v11 v12 v13 v14 : Value), s10 = v10 ∧ s11 = v11 ∧ s12 = v12 ∧ s13 = v13 ∧ s14 = v14 ∧ s8 = .int .i64 cnt ∧ s9 = .int .i64 k ∧ k ≤ l.length ∧ k ≤ 80 ∧ 0 ≤ cnt ∧ cnt ≤ 80 ∧ cnt ≤ k ∧ Hid (∃ s : AS, AP w wr a b c m s s.ws ∧ s.cnt = cnt)) (fun _ s9 _ _ _ _ _ _ => 80 - (intOf s9).toNat)
      case atStart => exact ⟨0, 0, _, _, _, _, _, rfl, rfl, rfl, rfl, rfl, rfl, rfl, by omega, by omega, by omega, by omega, by omega, HL⟩
      case round =>
        clear HL
        obtain ⟨k, cnt, v10, v11, v12, v13, v14, rfl, rfl, rfl, rfl, rfl, rfl, rfl, hk1, hk2, hc0, hc1, hc2, HL⟩ := hrel
        by_cases hlt : k < l.length ∧ k < 80
        · obtain ⟨hlt1, hlt2⟩ := hlt
          obtain ⟨s, hT, hsc⟩ := HL.out
          obtain ⟨bb, off, KK, I, O, N, rfl, d0, d1, d2, d3, ob, nb⟩ := aop_at HLO.out hT.below hlt1
          have HO := Lib.hid ob
          have HN := Lib.hid nb
          have HSC := Lib.hid hsc
          have k0 : (0 : Int) ≤ (k : Int) := by omega
          have k1 : (k : Int) < (l.length : Int) := by omega
          have k2 : (k : Int) < 80 := by omega
          obtain ⟨W, hW⟩ : ∃ W, W = wr.alloc (.cells #[.int .i64 KK, .int .i64 I, .int .u64 O, .int .u64 N] 32) := ⟨_, rfl⟩
          obtain ⟨bo, hbo⟩ : ∃ bo, bo = wr.heap.size := ⟨_, rfl⟩
          have HP : Hid (AP w W a b c m s s.ws) := by rw [hW]; exact Lib.hid (hT.only0 ((Only0.refl wr).alloc _))
          have BO : Hid (Blk W bo 32 #[.int .i64 KK, .int .i64 I, .int .u64 O, .int .u64 N]) := by rw [hW, hbo]; exact Lib.hid (Blk.new _ _ _)
          clear HL hT ob nb hsc
          go_upto_region 14 with (fail)
          rw [← hW, ← hbo]
          clear hW hbo d0 d1 d2 d3
          have y1 : W.cell? ⟨bo, 1, none⟩ = some (.int .i64 I) := BO.out.cell 1
          go_cut [11] (fun s11 wx => s11 = .bool (inA I m) ∧ wx = W)
          case first =>
            have h3 : I < 0 ∨ (0 ≤ I ∧ I < (m : Int)) ∨ (0 ≤ I ∧ (m : Int) ≤ I) := by omega
            rcases h3 with h | ⟨h, h'⟩ | ⟨h, h'⟩
            · have e : inA I m = false := by simp [inA]; omega
              go_wp2_with fail
              go_meet
              case rel => exact ⟨by rw [e]; first | done | rfl | exact congrArg Value.bool (by simp; omega), rfl⟩
            · have e : inA I m = true := by simp [inA]; omega
              go_wp2_with fail
              go_meet
              case rel => exact ⟨by rw [e]; first | done | rfl | exact congrArg Value.bool (by simp; omega), rfl⟩
            · have e : inA I m = false := by simp [inA]; omega
              go_wp2_with fail
              go_meet
              case rel => exact ⟨by rw [e]; first | done | rfl | exact congrArg Value.bool (by simp; omega), rfl⟩
          case rest =>
            obtain ⟨rfl, hwx⟩ := hcut
            obtain rfl : W = _ := hwx.symm
            clear y1
            cases hin : inA I m with
            | true => as_aux_lemma =>
              obtain ⟨i, rfl⟩ : ∃ i : Nat, I = (i : Int) := ⟨I.toNat, by have := hin; simp [inA] at this; omega⟩
              have hi : i < m := by simp [inA] at hin; omega
              have i0 : (0 : Int) ≤ (i : Int) := by omega
              have i1 : (i : Int) < (m : Int) := by omega
              have hon : s.on (i : Int) = true := by rw [HP.out.on]; exact hin
              obtain ⟨x, hx⟩ : ∃ x, x = s.ws.getD i 0 := ⟨_, rfl⟩
              have HCX : Hid (W.cell? ⟨c, i, none⟩ = some (.int .u64 x)) := by rw [hx]; exact Lib.hid (HP.out.cell hi)
              have hwc : wrap64 (cnt + 1) = cnt + 1 := wrap64_in (by omega)
              have HLD := Lib.hid (show s.load (i : Int) = x by unfold AS.load; rw [hon, hx]; rfl)
              have HTK := Lib.hid (show (s.tick (i : Int)).cnt = cnt + 1 by unfold AS.tick; rw [hon, if_pos rfl, HSC.out]; exact hwc)
              have HST := Lib.hid (show ∀ v, (s.store (i : Int) v).ws = s.ws.set i v from fun v => by unfold AS.store; rw [hon, if_pos rfl]; rfl)
              have HSN := Lib.hid (show ∀ v, (s.store (i : Int) v).cnt = cnt + 1 from fun v => by unfold AS.store; rw [hon, if_pos rfl, HSC.out]; exact hwc)
              have HCO := Lib.hid (show s.casOk (i : Int) O = decide (x = O) by unfold AS.casOk; rw [hon, hx]; rfl)
              have HSU := Lib.hid (show s.sum (i : Int) N = (x + N) % 18446744073709551616 by unfold AS.sum; rw [hon, if_pos rfl, HLD.out])
              have HAD := Lib.hid (show s.add (i : Int) N = s.store (i : Int) ((x + N) % 18446744073709551616) by unfold AS.add; rw [HLD.out])
              have HX : Hid (0 ≤ x ∧ x ≤ 18446744073709551615) := by
                rw [hx, List.getD_eq_getElem?_getD, List.getElem?_eq_getElem (by rw [HP.out.la]; exact hi)]
                exact Lib.hid (HP.out.wd _ (List.getElem_mem _))
              have cx : W.cell? ⟨c, i, none⟩ = some (.int .u64 x) := HCX.out
              have hk4 : (0 ≤ KK ∧ KK < 4) ∨ KK < 0 ∨ (0 ≤ KK ∧ 4 ≤ KK) := by omega
              clear hin hon hx hwc
              rcases hk4 with ⟨hka, hkb⟩ | hka | ⟨hka, hkb⟩
              · have y0 : W.cell? ⟨bo, 0, none⟩ = some (.int .i64 KK) := BO.out.cell 0
                have y1 : W.cell? ⟨bo, 1, none⟩ = some (.int .i64 (i : Int)) := BO.out.cell 1
                have y2 : W.cell? ⟨bo, 2, none⟩ = some (.int .u64 O) := BO.out.cell 2
                have y3 : W.cell? ⟨bo, 3, none⟩ = some (.int .u64 N) := BO.out.cell 3
                go_upto_block 2 with (fail)
                clear y0 y1 y2 y3 cx
                go_cut [10] (fun s10 wx => s10 = .pointer (some ⟨bo, 0, none⟩) ∧ Hid (∃ s' : AS, AP w wx a b c m s' s'.ws ∧ s'.cnt = (cnt + 1)))
                case first => as_aux_lemma =>
                  have hkk : KK = 0 ∨ KK = 1 ∨ KK = 2 ∨ KK = 3 := by omega
                  clear hka hkb
                  rcases hkk with h00 | h01 | h02 | h03
                  · have hb0 : (KK == 0) = true := by simp; omega
                    clear h00
                    have CA := HP.out.c_load (i : Int)
                    rw [HLD.out] at CA
                    have y0 : W.cell? ⟨bo, 0, none⟩ = some (.int .i64 KK) := BO.out.cell 0
                    have y1 : W.cell? ⟨bo, 1, none⟩ = some (.int .i64 (i : Int)) := BO.out.cell 1
                    have y2 : W.cell? ⟨bo, 2, none⟩ = some (.int .u64 O) := BO.out.cell 2
                    have y3 : W.cell? ⟨bo, 3, none⟩ = some (.int .u64 N) := BO.out.cell 3
                    go_wp2_with fail
                    refine CA.mono ?_
                    rintro e w3 ⟨rfl, U3, k3⟩
                    have HF : Hid (∃ s' : AS, AP w w3 a b c m s' s'.ws ∧ s'.cnt = (cnt + 1)) := Lib.hid ⟨s.tick (i : Int), by rw [tick_len]; exact U3, HTK.out⟩
                    clear CA U3 k3
                    clear y0 y1 y2 y3
                    clear HP BO
                    go_wp2_with fail
                    go_meet
                    case rel => exact ⟨rfl, HF⟩
                  · have hb0 : (KK == 0) = false := by simp; omega
                    have hb1 : (KK == 1) = true := by simp; omega
                    clear h01
                    have CA := HP.out.c_store (i : Int) N HN.out
                    have y0 : W.cell? ⟨bo, 0, none⟩ = some (.int .i64 KK) := BO.out.cell 0
                    have y1 : W.cell? ⟨bo, 1, none⟩ = some (.int .i64 (i : Int)) := BO.out.cell 1
                    have y2 : W.cell? ⟨bo, 2, none⟩ = some (.int .u64 O) := BO.out.cell 2
                    have y3 : W.cell? ⟨bo, 3, none⟩ = some (.int .u64 N) := BO.out.cell 3
                    go_wp2_with fail
                    refine CA.mono ?_
                    rintro e w3 ⟨rfl, U3, k3⟩
                    have BO3 := Lib.hid (k3 _ _ BO.out)
                    have f3 := U3.free i
                    have c3 : ∃ z, w3.cell? ⟨c, i, none⟩ = some (.int .u64 z) := ⟨_, U3.cell hi⟩
                    have HF : Hid (∃ s' : AS, AP w (w3.setCell ⟨c, i, none⟩ (.int .u64 N)) a b c m s' s'.ws ∧ s'.cnt = (cnt + 1)) := Lib.hid ⟨s.store (i : Int) N, by rw [HST.out N]; exact HST.out N ▸ U3.put i N, HSN.out N⟩
                    clear CA U3 k3
                    clear y0 y1 y2 y3
                    clear HP BO
                    obtain ⟨z3, c3⟩ := c3
                    have y0 : w3.cell? ⟨bo, 0, none⟩ = some (.int .i64 KK) := BO3.out.cell 0
                    have y1 : w3.cell? ⟨bo, 1, none⟩ = some (.int .i64 (i : Int)) := BO3.out.cell 1
                    have y2 : w3.cell? ⟨bo, 2, none⟩ = some (.int .u64 O) := BO3.out.cell 2
                    have y3 : w3.cell? ⟨bo, 3, none⟩ = some (.int .u64 N) := BO3.out.cell 3
                    go_wp2_with fail
                    go_meet
                    case rel => exact ⟨rfl, HF⟩
                  · have hb0 : (KK == 0) = false := by simp; omega
                    have hb1 : (KK == 1) = false := by simp; omega
                    have hb2 : (KK == 2) = true := by simp; omega
                    clear h02
                    have CA := HP.out.c_cas (i : Int) O N HN.out
                    by_cases hxo : x = O
                    · have e1 : s.casOk (i : Int) O = true := by rw [HCO.out]; simpa using hxo
                      have e2 : s.cas (i : Int) O N = s.store (i : Int) N := by unfold AS.cas; rw [e1]; rfl
                      rw [e1, e2] at CA
                      have hxb : (x == O) = true := by simpa using hxo
                      clear e1 e2 hxo
                      have y0 : W.cell? ⟨bo, 0, none⟩ = some (.int .i64 KK) := BO.out.cell 0
                      have y1 : W.cell? ⟨bo, 1, none⟩ = some (.int .i64 (i : Int)) := BO.out.cell 1
                      have y2 : W.cell? ⟨bo, 2, none⟩ = some (.int .u64 O) := BO.out.cell 2
                      have y3 : W.cell? ⟨bo, 3, none⟩ = some (.int .u64 N) := BO.out.cell 3
                      go_wp2_with fail
                      refine CA.mono ?_
                      rintro e w3 ⟨rfl, U3, k3⟩
                      have BO3 := Lib.hid (k3 _ _ BO.out)
                      have f3 := U3.free i
                      have c3 : ∃ z, w3.cell? ⟨c, i, none⟩ = some (.int .u64 z) := ⟨_, U3.cell hi⟩
                      have HF : Hid (∃ s' : AS, AP w (w3.setCell ⟨c, i, none⟩ (.int .u64 N)) a b c m s' s'.ws ∧ s'.cnt = (cnt + 1)) := Lib.hid ⟨s.store (i : Int) N, by rw [HST.out N]; exact HST.out N ▸ U3.put i N, HSN.out N⟩
                      have y2x := BO.out.cell 2
                      clear CA U3 k3
                      clear y0 y1 y2 y3 y2x
                      clear HP BO
                      obtain ⟨z3, c3⟩ := c3
                      have y0 : w3.cell? ⟨bo, 0, none⟩ = some (.int .i64 KK) := BO3.out.cell 0
                      have y1 : w3.cell? ⟨bo, 1, none⟩ = some (.int .i64 (i : Int)) := BO3.out.cell 1
                      have y2 : w3.cell? ⟨bo, 2, none⟩ = some (.int .u64 O) := BO3.out.cell 2
                      have y3 : w3.cell? ⟨bo, 3, none⟩ = some (.int .u64 N) := BO3.out.cell 3
                      go_wp2_with fail
                      go_meet
                      case rel => exact ⟨rfl, HF⟩
                    · have e1 : s.casOk (i : Int) O = false := by rw [HCO.out]; simpa using hxo
                      have e2 : s.cas (i : Int) O N = s.tick (i : Int) := by unfold AS.cas; rw [e1]; rfl
                      rw [e1, e2] at CA
                      have hxb : (x == O) = false := by simpa using hxo
                      clear e1 e2
                      have y0 : W.cell? ⟨bo, 0, none⟩ = some (.int .i64 KK) := BO.out.cell 0
                      have y1 : W.cell? ⟨bo, 1, none⟩ = some (.int .i64 (i : Int)) := BO.out.cell 1
                      have y2 : W.cell? ⟨bo, 2, none⟩ = some (.int .u64 O) := BO.out.cell 2
                      have y3 : W.cell? ⟨bo, 3, none⟩ = some (.int .u64 N) := BO.out.cell 3
                      go_wp2_with fail
                      refine CA.mono ?_
                      rintro e w3 ⟨rfl, U3, k3⟩
                      have BO3 := Lib.hid (k3 _ _ BO.out)
                      have HF : Hid (∃ s' : AS, AP w w3 a b c m s' s'.ws ∧ s'.cnt = (cnt + 1)) := Lib.hid ⟨s.tick (i : Int), by rw [tick_len]; exact U3, HTK.out⟩
                      clear CA U3 k3
                      clear y0 y1 y2 y3
                      clear HP BO
                      have y0 : w3.cell? ⟨bo, 0, none⟩ = some (.int .i64 KK) := BO3.out.cell 0
                      have y1 : w3.cell? ⟨bo, 1, none⟩ = some (.int .i64 (i : Int)) := BO3.out.cell 1
                      have y2 : w3.cell? ⟨bo, 2, none⟩ = some (.int .u64 O) := BO3.out.cell 2
                      have y3 : w3.cell? ⟨bo, 3, none⟩ = some (.int .u64 N) := BO3.out.cell 3
                      go_wp2_with fail
                      go_meet
                      case rel => exact ⟨rfl, HF⟩
                  · have hb0 : (KK == 0) = false := by simp; omega
                    have hb1 : (KK == 1) = false := by simp; omega
                    have hb2 : (KK == 2) = false := by simp; omega
                    have hb3 : (KK == 3) = true := by simp; omega
                    clear h03
                    have f0 := HP.out.free i
                    have cx : W.cell? ⟨c, i, none⟩ = some (.int .u64 x) := HCX.out
                    have HP2 := Lib.hid (HP.out.put i ((x + N) % 18446744073709551616))
                    have BO2 := Lib.hid (HP.out.keepC i (.int .u64 ((x + N) % 18446744073709551616)) _ _ BO.out)
                    have y0 : W.cell? ⟨bo, 0, none⟩ = some (.int .i64 KK) := BO.out.cell 0
                    have y1 : W.cell? ⟨bo, 1, none⟩ = some (.int .i64 (i : Int)) := BO.out.cell 1
                    have y2 : W.cell? ⟨bo, 2, none⟩ = some (.int .u64 O) := BO.out.cell 2
                    have y3 : W.cell? ⟨bo, 3, none⟩ = some (.int .u64 N) := BO.out.cell 3
                    go_wp2_with fail
                    go_still_tail 12, (by kernel_rfl)
                    change wpList _ _ _ _ _ W.drew
                    go_upto_region 42 with (fail)
                    obtain ⟨W2, hW2⟩ : ∃ X, X = (W.setCell ⟨c, i, none⟩ (.int .u64 ((x + N) % 18446744073709551616))).drew := ⟨_, rfl⟩
                    have HP3 : Hid (AP w W2 a b c m s (s.ws.set i ((x + N) % 18446744073709551616))) := by rw [hW2]; exact Lib.hid (HP2.out.only0 (Only0.refl _).drew)
                    have BO3 : Hid (Blk W2 bo 32 #[.int .i64 KK, .int .i64 (i : Int), .int .u64 O, .int .u64 N]) := by rw [hW2]; exact Lib.hid BO2.out
                    have cz : W2.cell? ⟨c, i, none⟩ = some (.int .u64 ((x + N) % 18446744073709551616)) := by
                      rw [HP3.out.cell hi]
                      simp [List.getD_eq_getElem?_getD, HP.out.la ▸ hi]
                    have hwz : IntKind.u64.wrap (x + N) = (x + N) % 18446744073709551616 := by first | rfl | simp [IntKind.wrap]
                    rw [hwz, ← hW2]
                    clear hwz
                    clear hW2 y0 y1 y2 y3 cx f0
                    have CA := HP3.out.c_add (i : Int) N
                    rw [HSU.out, HAD.out] at CA
                    generalize (x + N) % 18446744073709551616 = z at *
                    have y1 : W2.cell? ⟨bo, 1, none⟩ = some (.int .i64 (i : Int)) := BO3.out.cell 1
                    have y3 : W2.cell? ⟨bo, 3, none⟩ = some (.int .u64 N) := BO3.out.cell 3
                    go_wp2_with fail
                    refine CA.mono ?_
                    rintro e w3 ⟨rfl, U3, k3⟩
                    have HF : Hid (∃ s' : AS, AP w w3 a b c m s' s'.ws ∧ s'.cnt = (cnt + 1)) := Lib.hid ⟨s.store (i : Int) z, by rw [HST.out z]; exact HST.out z ▸ U3, HSN.out z⟩
                    clear CA U3 k3 y1 y3 cz HP3 HP2 BO2 BO3
                    clear HP BO
                    go_wp2_with fail
                    go_meet
                    case rel => exact ⟨rfl, HF⟩
                case rest => as_aux_lemma =>
                  obtain ⟨rfl, HC⟩ := hcut
                  clear HP BO HSC
                  obtain ⟨s', hT, hs'⟩ := HC.out
                  have HP := Lib.hid hT
                  have CA := hT.c_count
                  rw [hs'] at CA
                  have HS2 := Lib.hid hs'
                  clear HC hT hs'
                  go_wp2_with fail
                  refine CA.mono ?_
                  rintro e w3 ⟨rfl, rfl⟩
                  have CB := HP.out.c_words
                  clear CA
                  go_wp2_with fail
                  refine CB.mono ?_
                  rintro e w4 ⟨dd, rfl, hi4, o4⟩
                  have HP4 := Lib.hid (HP.out.only0 o4)
                  have CC := HP4.out.same hi4 (by omega)
                  clear CB hi4 o4 HP
                  go_wp2_with fail
                  refine CC.mono ?_
                  rintro e w5 ⟨rfl, o5⟩
                  have HG : Hid (∃ s : AS, AP w w5 a b c m s s.ws ∧ s.cnt = (cnt + 1)) := Lib.hid ⟨s', HP4.out.only0 o5, HS2.out⟩
                  clear CC o5 HP4 HS2
                  go_wp2_with fail
                  go_roundw
                  case rel => exact ⟨k + 1, _, _, _, _, _, _, rfl, rfl, rfl, rfl, rfl, rfl, by go_num, by omega, by omega, by omega, by omega, by omega, HG⟩
                  case measure => simp [intOf]; omega
              · have y0 : W.cell? ⟨bo, 0, none⟩ = some (.int .i64 KK) := BO.out.cell 0
                have y1 : W.cell? ⟨bo, 1, none⟩ = some (.int .i64 (i : Int)) := BO.out.cell 1
                have y2 : W.cell? ⟨bo, 2, none⟩ = some (.int .u64 O) := BO.out.cell 2
                have y3 : W.cell? ⟨bo, 3, none⟩ = some (.int .u64 N) := BO.out.cell 3
                go_upto_block 2 with (fail)
                clear y0 y1 y2 y3 cx
                go_cut [10] (fun s10 wx => s10 = .pointer (some ⟨bo, 0, none⟩) ∧ Hid (∃ s' : AS, AP w wx a b c m s' s'.ws ∧ s'.cnt = cnt))
                case first => as_aux_lemma =>
                  have hb0 : (KK == 0) = false := by simp; omega
                  have hb1 : (KK == 1) = false := by simp; omega
                  have hb2 : (KK == 2) = false := by simp; omega
                  have hb3 : (KK == 3) = false := by simp; omega
                  clear hka
                  have CA := HP.out.c_copy
                  clear BO
                  go_wp2_with fail
                  refine CA.mono ?_
                  rintro e w3 ⟨a', b', rfl, ⟨U3, hne⟩, o3⟩
                  have HU := Lib.hid U3
                  have HNE := Lib.hid hne
                  have HP3 := Lib.hid (HP.out.only0 o3)
                  have CB := U3.c_count
                  rw [HSC.out] at CB
                  clear CA U3 o3 hne HP
                  go_wp2_with fail
                  refine CB.mono ?_
                  rintro e w4 ⟨rfl, rfl⟩
                  have CC := HU.out.c_words
                  clear CB
                  go_wp2_with fail
                  refine CC.mono ?_
                  rintro e w5 ⟨dd, rfl, hi5, o5⟩
                  have HU5 := Lib.hid (HU.out.only0 o5)
                  have HP5 := Lib.hid (HP3.out.only0 o5)
                  have CD := HU5.out.same hi5 (by omega)
                  clear CC hi5 o5 HU HP3
                  go_wp2_with fail
                  refine CD.mono ?_
                  rintro e w6 ⟨rfl, o6⟩
                  have HU6 := Lib.hid (HU5.out.only0 o6)
                  have HP6 := Lib.hid (HP5.out.only0 o6)
                  have CE := arena_store HU6.out.ar 0 77
                  clear CD o6 HU5 HP5
                  go_wp2_with fail
                  refine CE.mono ?_
                  rintro e w7 ⟨rfl, A7, o7⟩
                  have HA7 := Lib.hid A7
                  have HP7 := Lib.hid (HP6.out.beside o7 HNE.out HU6.out.foot HU6.out.a0 HU6.out.b0)
                  have CF := arena_add A7 0 1
                  have HZ := Lib.hid (And.intro HU6.out.foot (And.intro HU6.out.a0 HU6.out.b0))
                  clear CE A7 o7 HP6 HU6
                  go_wp2_with fail
                  refine CF.mono ?_
                  rintro e w8 ⟨rfl, A8, o8⟩
                  have HF : Hid (∃ s' : AS, AP w w8 a b c m s' s'.ws ∧ s'.cnt = cnt) := Lib.hid ⟨s, HP7.out.beside o8 HNE.out HZ.out.1 HZ.out.2.1 HZ.out.2.2, HSC.out⟩
                  clear CF A8 o8 HP7 HA7 HZ HNE HSC
                  go_wp2_with fail
                  go_meet
                  case rel => exact ⟨rfl, HF⟩
                case rest => as_aux_lemma =>
                  obtain ⟨rfl, HC⟩ := hcut
                  clear HP BO HSC
                  obtain ⟨s', hT, hs'⟩ := HC.out
                  have HP := Lib.hid hT
                  have CA := hT.c_count
                  rw [hs'] at CA
                  have HS2 := Lib.hid hs'
                  clear HC hT hs'
                  go_wp2_with fail
                  refine CA.mono ?_
                  rintro e w3 ⟨rfl, rfl⟩
                  have CB := HP.out.c_words
                  clear CA
                  go_wp2_with fail
                  refine CB.mono ?_
                  rintro e w4 ⟨dd, rfl, hi4, o4⟩
                  have HP4 := Lib.hid (HP.out.only0 o4)
                  have CC := HP4.out.same hi4 (by omega)
                  clear CB hi4 o4 HP
                  go_wp2_with fail
                  refine CC.mono ?_
                  rintro e w5 ⟨rfl, o5⟩
                  have HG : Hid (∃ s : AS, AP w w5 a b c m s s.ws ∧ s.cnt = cnt) := Lib.hid ⟨s', HP4.out.only0 o5, HS2.out⟩
                  clear CC o5 HP4 HS2
                  go_wp2_with fail
                  go_roundw
                  case rel => exact ⟨k + 1, _, _, _, _, _, _, rfl, rfl, rfl, rfl, rfl, rfl, by go_num, by omega, by omega, by omega, by omega, by omega, HG⟩
                  case measure => simp [intOf]; omega
              · have y0 : W.cell? ⟨bo, 0, none⟩ = some (.int .i64 KK) := BO.out.cell 0
                have y1 : W.cell? ⟨bo, 1, none⟩ = some (.int .i64 (i : Int)) := BO.out.cell 1
                have y2 : W.cell? ⟨bo, 2, none⟩ = some (.int .u64 O) := BO.out.cell 2
                have y3 : W.cell? ⟨bo, 3, none⟩ = some (.int .u64 N) := BO.out.cell 3
                go_upto_block 2 with (fail)
                clear y0 y1 y2 y3 cx
                go_cut [10] (fun s10 wx => s10 = .pointer (some ⟨bo, 0, none⟩) ∧ Hid (∃ s' : AS, AP w wx a b c m s' s'.ws ∧ s'.cnt = cnt))
                case first => as_aux_lemma =>
                  have hb0 : (KK == 0) = false := by simp; omega
                  have hb1 : (KK == 1) = false := by simp; omega
                  have hb2 : (KK == 2) = false := by simp; omega
                  have hb3 : (KK == 3) = false := by simp; omega
                  clear hka hkb
                  have CA := HP.out.c_copy
                  clear BO
                  go_wp2_with fail
                  refine CA.mono ?_
                  rintro e w3 ⟨a', b', rfl, ⟨U3, hne⟩, o3⟩
                  have HU := Lib.hid U3
                  have HNE := Lib.hid hne
                  have HP3 := Lib.hid (HP.out.only0 o3)
                  have CB := U3.c_count
                  rw [HSC.out] at CB
                  clear CA U3 o3 hne HP
                  go_wp2_with fail
                  refine CB.mono ?_
                  rintro e w4 ⟨rfl, rfl⟩
                  have CC := HU.out.c_words
                  clear CB
                  go_wp2_with fail
                  refine CC.mono ?_
                  rintro e w5 ⟨dd, rfl, hi5, o5⟩
                  have HU5 := Lib.hid (HU.out.only0 o5)
                  have HP5 := Lib.hid (HP3.out.only0 o5)
                  have CD := HU5.out.same hi5 (by omega)
                  clear CC hi5 o5 HU HP3
                  go_wp2_with fail
                  refine CD.mono ?_
                  rintro e w6 ⟨rfl, o6⟩
                  have HU6 := Lib.hid (HU5.out.only0 o6)
                  have HP6 := Lib.hid (HP5.out.only0 o6)
                  have CE := arena_store HU6.out.ar 0 77
                  clear CD o6 HU5 HP5
                  go_wp2_with fail
                  refine CE.mono ?_
                  rintro e w7 ⟨rfl, A7, o7⟩
                  have HA7 := Lib.hid A7
                  have HP7 := Lib.hid (HP6.out.beside o7 HNE.out HU6.out.foot HU6.out.a0 HU6.out.b0)
                  have CF := arena_add A7 0 1
                  have HZ := Lib.hid (And.intro HU6.out.foot (And.intro HU6.out.a0 HU6.out.b0))
                  clear CE A7 o7 HP6 HU6
                  go_wp2_with fail
                  refine CF.mono ?_
                  rintro e w8 ⟨rfl, A8, o8⟩
                  have HF : Hid (∃ s' : AS, AP w w8 a b c m s' s'.ws ∧ s'.cnt = cnt) := Lib.hid ⟨s, HP7.out.beside o8 HNE.out HZ.out.1 HZ.out.2.1 HZ.out.2.2, HSC.out⟩
                  clear CF A8 o8 HP7 HA7 HZ HNE HSC
                  go_wp2_with fail
                  go_meet
                  case rel => exact ⟨rfl, HF⟩
                case rest => as_aux_lemma =>
                  obtain ⟨rfl, HC⟩ := hcut
                  clear HP BO HSC
                  obtain ⟨s', hT, hs'⟩ := HC.out
                  have HP := Lib.hid hT
                  have CA := hT.c_count
                  rw [hs'] at CA
                  have HS2 := Lib.hid hs'
                  clear HC hT hs'
                  go_wp2_with fail
                  refine CA.mono ?_
                  rintro e w3 ⟨rfl, rfl⟩
                  have CB := HP.out.c_words
                  clear CA
                  go_wp2_with fail
                  refine CB.mono ?_
                  rintro e w4 ⟨dd, rfl, hi4, o4⟩
                  have HP4 := Lib.hid (HP.out.only0 o4)
                  have CC := HP4.out.same hi4 (by omega)
                  clear CB hi4 o4 HP
                  go_wp2_with fail
                  refine CC.mono ?_
                  rintro e w5 ⟨rfl, o5⟩
                  have HG : Hid (∃ s : AS, AP w w5 a b c m s s.ws ∧ s.cnt = cnt) := Lib.hid ⟨s', HP4.out.only0 o5, HS2.out⟩
                  clear CC o5 HP4 HS2
                  go_wp2_with fail
                  go_roundw
                  case rel => exact ⟨k + 1, _, _, _, _, _, _, rfl, rfl, rfl, rfl, rfl, rfl, by go_num, by omega, by omega, by omega, by omega, by omega, HG⟩
                  case measure => simp [intOf]; omega
            | false => as_aux_lemma =>
              have hon : s.on I = false := by rw [HP.out.on]; exact hin
              have HLD := Lib.hid (show s.load I = 0 by unfold AS.load; rw [hon]; rfl)
              have HTK := Lib.hid (show (s.tick I).cnt = cnt by unfold AS.tick; rw [hon, if_neg (by simp)]; exact HSC.out)
              have HST := Lib.hid (show ∀ v, s.store I v = s from fun v => by unfold AS.store; rw [hon, if_neg (by simp)])
              have HCO := Lib.hid (show ∀ o, s.casOk I o = false from fun o => by unfold AS.casOk; rw [hon]; rfl)
              have HCS := Lib.hid (show ∀ o v, s.cas I o v = s from fun o v => by unfold AS.cas; rw [HCO.out]; unfold AS.tick; rw [hon]; rfl)
              have HSU := Lib.hid (show ∀ v, s.sum I v = 0 from fun v => by unfold AS.sum; rw [hon]; rfl)
              have HAD := Lib.hid (show ∀ v, s.add I v = s from fun v => by unfold AS.add; exact HST.out _)
              clear hin hon
              have y0 : W.cell? ⟨bo, 0, none⟩ = some (.int .i64 KK) := BO.out.cell 0
              have y1 : W.cell? ⟨bo, 1, none⟩ = some (.int .i64 I) := BO.out.cell 1
              have y2 : W.cell? ⟨bo, 2, none⟩ = some (.int .u64 O) := BO.out.cell 2
              have y3 : W.cell? ⟨bo, 3, none⟩ = some (.int .u64 N) := BO.out.cell 3
              go_upto_block 2 with (fail)
              clear y0 y1 y2 y3
              go_cut [10] (fun s10 wx => s10 = .pointer (some ⟨bo, 0, none⟩) ∧ Hid (∃ s' : AS, AP w wx a b c m s' s'.ws ∧ s'.cnt = cnt))
              case first => as_aux_lemma =>
                have hkk : KK = 0 ∨ KK = 1 ∨ KK = 2 ∨ KK = 3 ∨ (¬ KK = 0 ∧ ¬ KK = 1 ∧ ¬ KK = 2 ∧ ¬ KK = 3) := by omega
                rcases hkk with h00 | h01 | h02 | h03 | ⟨h00, h01, h02, h03⟩
                · have hb0 : (KK == 0) = true := by simp; omega
                  clear h00
                  have CA := HP.out.c_load I
                  rw [HLD.out] at CA
                  have y0 : W.cell? ⟨bo, 0, none⟩ = some (.int .i64 KK) := BO.out.cell 0
                  have y1 : W.cell? ⟨bo, 1, none⟩ = some (.int .i64 I) := BO.out.cell 1
                  have y2 : W.cell? ⟨bo, 2, none⟩ = some (.int .u64 O) := BO.out.cell 2
                  have y3 : W.cell? ⟨bo, 3, none⟩ = some (.int .u64 N) := BO.out.cell 3
                  go_wp2_with fail
                  refine CA.mono ?_
                  rintro e w3 ⟨rfl, U3, k3⟩
                  have HF : Hid (∃ s' : AS, AP w w3 a b c m s' s'.ws ∧ s'.cnt = cnt) := Lib.hid ⟨s.tick I, by rw [tick_len]; exact U3, HTK.out⟩
                  clear CA U3 k3
                  clear y0 y1 y2 y3
                  clear HP BO
                  go_wp2_with fail
                  go_meet
                  case rel => exact ⟨rfl, HF⟩
                · have hb0 : (KK == 0) = false := by simp; omega
                  have hb1 : (KK == 1) = true := by simp; omega
                  clear h01
                  have CA := HP.out.c_store I N HN.out
                  rw [HST.out N] at CA
                  have y0 : W.cell? ⟨bo, 0, none⟩ = some (.int .i64 KK) := BO.out.cell 0
                  have y1 : W.cell? ⟨bo, 1, none⟩ = some (.int .i64 I) := BO.out.cell 1
                  have y2 : W.cell? ⟨bo, 2, none⟩ = some (.int .u64 O) := BO.out.cell 2
                  have y3 : W.cell? ⟨bo, 3, none⟩ = some (.int .u64 N) := BO.out.cell 3
                  go_wp2_with fail
                  refine CA.mono ?_
                  rintro e w3 ⟨rfl, U3, k3⟩
                  have HF : Hid (∃ s' : AS, AP w w3 a b c m s' s'.ws ∧ s'.cnt = cnt) := Lib.hid ⟨s, U3, HSC.out⟩
                  clear CA U3 k3
                  clear y0 y1 y2 y3
                  clear HP BO
                  go_wp2_with fail
                  go_meet
                  case rel => exact ⟨rfl, HF⟩
                · have hb0 : (KK == 0) = false := by simp; omega
                  have hb1 : (KK == 1) = false := by simp; omega
                  have hb2 : (KK == 2) = true := by simp; omega
                  clear h02
                  have CA := HP.out.c_cas I O N HN.out
                  rw [HCO.out O, HCS.out O N] at CA
                  have y0 : W.cell? ⟨bo, 0, none⟩ = some (.int .i64 KK) := BO.out.cell 0
                  have y1 : W.cell? ⟨bo, 1, none⟩ = some (.int .i64 I) := BO.out.cell 1
                  have y2 : W.cell? ⟨bo, 2, none⟩ = some (.int .u64 O) := BO.out.cell 2
                  have y3 : W.cell? ⟨bo, 3, none⟩ = some (.int .u64 N) := BO.out.cell 3
                  go_wp2_with fail
                  refine CA.mono ?_
                  rintro e w3 ⟨rfl, U3, k3⟩
                  have HF : Hid (∃ s' : AS, AP w w3 a b c m s' s'.ws ∧ s'.cnt = cnt) := Lib.hid ⟨s, U3, HSC.out⟩
                  have BO3 := Lib.hid (k3 _ _ BO.out)
                  clear CA U3 k3
                  clear y0 y1 y2 y3
                  clear HP BO
                  have y0 : w3.cell? ⟨bo, 0, none⟩ = some (.int .i64 KK) := BO3.out.cell 0
                  have y1 : w3.cell? ⟨bo, 1, none⟩ = some (.int .i64 I) := BO3.out.cell 1
                  have y2 : w3.cell? ⟨bo, 2, none⟩ = some (.int .u64 O) := BO3.out.cell 2
                  have y3 : w3.cell? ⟨bo, 3, none⟩ = some (.int .u64 N) := BO3.out.cell 3
                  go_wp2_with fail
                  go_meet
                  case rel => exact ⟨rfl, HF⟩
                · have hb0 : (KK == 0) = false := by simp; omega
                  have hb1 : (KK == 1) = false := by simp; omega
                  have hb2 : (KK == 2) = false := by simp; omega
                  have hb3 : (KK == 3) = true := by simp; omega
                  clear h03
                  have CA := HP.out.c_add I N
                  rw [HSU.out N, HAD.out N] at CA
                  have y0 : W.cell? ⟨bo, 0, none⟩ = some (.int .i64 KK) := BO.out.cell 0
                  have y1 : W.cell? ⟨bo, 1, none⟩ = some (.int .i64 I) := BO.out.cell 1
                  have y2 : W.cell? ⟨bo, 2, none⟩ = some (.int .u64 O) := BO.out.cell 2
                  have y3 : W.cell? ⟨bo, 3, none⟩ = some (.int .u64 N) := BO.out.cell 3
                  go_wp2_with fail
                  refine CA.mono ?_
                  rintro e w3 ⟨rfl, U3, k3⟩
                  have HF : Hid (∃ s' : AS, AP w w3 a b c m s' s'.ws ∧ s'.cnt = cnt) := Lib.hid ⟨s, U3, HSC.out⟩
                  clear CA U3 k3
                  clear y0 y1 y2 y3
                  clear HP BO
                  go_wp2_with fail
                  go_meet
                  case rel => exact ⟨rfl, HF⟩
                · have hb0 : (KK == 0) = false := by simpa using h00
                  have hb1 : (KK == 1) = false := by simpa using h01
                  have hb2 : (KK == 2) = false := by simpa using h02
                  have hb3 : (KK == 3) = false := by simpa using h03
                  clear h00 h01 h02 h03
                  have CA := HP.out.c_copy
                  clear BO
                  go_wp2_with fail
                  refine CA.mono ?_
                  rintro e w3 ⟨a', b', rfl, ⟨U3, hne⟩, o3⟩
                  have HU := Lib.hid U3
                  have HNE := Lib.hid hne
                  have HP3 := Lib.hid (HP.out.only0 o3)
                  have CB := U3.c_count
                  rw [HSC.out] at CB
                  clear CA U3 o3 hne HP
                  go_wp2_with fail
                  refine CB.mono ?_
                  rintro e w4 ⟨rfl, rfl⟩
                  have CC := HU.out.c_words
                  clear CB
                  go_wp2_with fail
                  refine CC.mono ?_
                  rintro e w5 ⟨dd, rfl, hi5, o5⟩
                  have HU5 := Lib.hid (HU.out.only0 o5)
                  have HP5 := Lib.hid (HP3.out.only0 o5)
                  have CD := HU5.out.same hi5 (by omega)
                  clear CC hi5 o5 HU HP3
                  go_wp2_with fail
                  refine CD.mono ?_
                  rintro e w6 ⟨rfl, o6⟩
                  have HU6 := Lib.hid (HU5.out.only0 o6)
                  have HP6 := Lib.hid (HP5.out.only0 o6)
                  have CE := arena_store HU6.out.ar 0 77
                  clear CD o6 HU5 HP5
                  go_wp2_with fail
                  refine CE.mono ?_
                  rintro e w7 ⟨rfl, A7, o7⟩
                  have HA7 := Lib.hid A7
                  have HP7 := Lib.hid (HP6.out.beside o7 HNE.out HU6.out.foot HU6.out.a0 HU6.out.b0)
                  have CF := arena_add A7 0 1
                  have HZ := Lib.hid (And.intro HU6.out.foot (And.intro HU6.out.a0 HU6.out.b0))
                  clear CE A7 o7 HP6 HU6
                  go_wp2_with fail
                  refine CF.mono ?_
                  rintro e w8 ⟨rfl, A8, o8⟩
                  have HF : Hid (∃ s' : AS, AP w w8 a b c m s' s'.ws ∧ s'.cnt = cnt) := Lib.hid ⟨s, HP7.out.beside o8 HNE.out HZ.out.1 HZ.out.2.1 HZ.out.2.2, HSC.out⟩
                  clear CF A8 o8 HP7 HA7 HZ HNE HSC
                  go_wp2_with fail
                  go_meet
                  case rel => exact ⟨rfl, HF⟩
              case rest => as_aux_lemma =>
                obtain ⟨rfl, HC⟩ := hcut
                clear HP BO HSC
                obtain ⟨s', hT, hs'⟩ := HC.out
                have HP := Lib.hid hT
                have CA := hT.c_count
                rw [hs'] at CA
                have HS2 := Lib.hid hs'
                clear HC hT hs'
                go_wp2_with fail
                refine CA.mono ?_
                rintro e w3 ⟨rfl, rfl⟩
                have CB := HP.out.c_words
                clear CA
                go_wp2_with fail
                refine CB.mono ?_
                rintro e w4 ⟨dd, rfl, hi4, o4⟩
                have HP4 := Lib.hid (HP.out.only0 o4)
                have CC := HP4.out.same hi4 (by omega)
                clear CB hi4 o4 HP
                go_wp2_with fail
                refine CC.mono ?_
                rintro e w5 ⟨rfl, o5⟩
                have HG : Hid (∃ s : AS, AP w w5 a b c m s s.ws ∧ s.cnt = cnt) := Lib.hid ⟨s', HP4.out.only0 o5, HS2.out⟩
                clear CC o5 HP4 HS2
                go_wp2_with fail
                go_roundw
                case rel => exact ⟨k + 1, _, _, _, _, _, _, rfl, rfl, rfl, rfl, rfl, rfl, by go_num, by omega, by omega, by omega, by omega, by omega, HG⟩
                case measure => simp [intOf]; omega
        · have hx : k = l.length ∨ (k < l.length ∧ k = 80) := by omega
          rcases hx with hx | ⟨hx, hx2⟩
          · obtain rfl := hx
            have C := awake2_any wr
            have HB := Lib.hid HL.out
            go_wp2_with fail
            refine C.mono ?_
            rintro e w7 ⟨rfl, b7⟩
            obtain ⟨s, hT, -⟩ := HB.out
            have FIN := Lib.hid (hT.below.trans (b7.mono hT.below.size))
            clear HB hT C HL
            go_wp2_with fail
            go_ret
            exact ⟨rfl, FIN.out⟩
          · have e80 : (k : Int) = 80 := by omega
            have k1 : (k : Int) < (l.length : Int) := by omega
            rw [e80] at k1 ⊢
            clear e80 hlt
            have C := awake2_any wr
            have HB := Lib.hid HL.out
            go_wp2_with fail
            refine C.mono ?_
            rintro e w7 ⟨rfl, b7⟩
            obtain ⟨s, hT, -⟩ := HB.out
            have FIN := Lib.hid (hT.below.trans (b7.mono hT.below.size))
            clear HB hT C HL
            go_wp2_with fail
            go_ret
            exact ⟨rfl, FIN.out⟩
end Go.Proofs.Ytclnfhjcacflmaa

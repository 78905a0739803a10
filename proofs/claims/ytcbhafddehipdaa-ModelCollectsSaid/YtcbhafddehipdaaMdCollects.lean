/-
  ModelCollects: the walk.
-/
import Derived.Test.YtcbhafddehipdaaMdCoP
import Derived.Test.YtcbhafddehipdaaMdArg
import Derived.Test.YtcbhafddehipdaaMdAlone
namespace Go.Proofs.Ytcbhafddehipdaa
open Go.RowKit
set_option linter.unusedVariables false
set_option linter.unusedSimpArgs false

/-- Two Models of a law, side by side. -/
structure LW2 (w0 w : World) (P : Nat → Prop) (m : Nat) (s : St) (Q : Nat → Prop) (n : Nat) (u : St) : Prop where
  a : LW w0 w P m s
  b : LW w0 w Q n u
  ap : Apart P Q
theorem LW2.stepA {w0 w w' : World} {P P' Q : Nat → Prop} {m n : Nat} {s s' u : St} (h : LW2 w0 w P m s Q n u) (L : LW w0 w' P' m s') (o : Only P w w') (g : Grew w.heap.size P P') : LW2 w0 w' P' m s' Q n u := by
  obtain ⟨⟨B, M⟩, ob⟩ := h.b
  exact ⟨L, ⟨⟨B, M.only o h.ap.symm⟩, L.o⟩, h.ap.grew g M.under⟩
theorem LW2.stepB {w0 w w' : World} {P Q Q' : Nat → Prop} {m n : Nat} {s u u' : St} (h : LW2 w0 w P m s Q n u) (L : LW w0 w' Q' n u') (o : Only Q w w') (g : Grew w.heap.size Q Q') : LW2 w0 w' P m s Q' n u' := by
  obtain ⟨⟨B, M⟩, ob⟩ := h.a
  exact ⟨⟨⟨B, M.only o h.ap⟩, L.o⟩, L, h.ap.grew' g M.under⟩
theorem LW2.only0 {w0 w w' : World} {P Q : Nat → Prop} {m n : Nat} {s u : St} (h : LW2 w0 w P m s Q n u) (o : Only0 w w') : LW2 w0 w' P m s Q n u := ⟨h.a.only0 o, h.b.only0 o, h.ap⟩
theorem LW2.alloc {w0 w : World} {P Q : Nat → Prop} {m n : Nat} {s u : St} (h : LW2 w0 w P m s Q n u) (o : Obj) : LW2 w0 (w.alloc o) P m s Q n u := h.only0 ((Only0.refl _).alloc _)
theorem lw_dopq {w0 w : World} {P : Nat → Prop} {m : Nat} {s : St} (h : LW w0 w P m s) (j kind key hi value : Int) {re rv ro rr er : Int} {ps : List (Int × Int)} {s' : St} (hs : s.do_ j ⟨kind, key, hi, value⟩ = (⟨re, rv, ps, ro, rr⟩, er, s')) :
    Calls Try.prog 19 #[.pointer (some ⟨m, 0, none⟩), .int .i64 j, .agg #[.int .i64 kind, .int .i64 key, .int .i64 hi, .int .i64 value]] w fun e w' => ∃ (P' : Nat → Prop) (a : Option Addr) (c : Nat), e = .returned (.tuple #[.agg #[.int .i64 re, .int .i64 rv, .slice a ps.length c, .int .i64 ro, .int .i64 rr], .int .i64 er]) ∧ LW w0 w' P' m s' ∧ Only P w w' ∧ Grew w.heap.size P P' ∧ PairsIn w' a ps ∧ ∀ y, a = some y → w.heap.size ≤ y.block := by
  refine (md_do h.mat j kind key hi value).mono ?_
  rintro e w' ⟨P', a, c, he, h', o, g, p, q⟩
  rw [hs] at he h' p
  exact ⟨P', a, c, he, h.step h' o, o, g, p, fun y hy => (q y hy).1⟩
theorem do_few (s : St) (j : Int) (o : MOp) : (s.do_ j o).1.pairs.length ≤ 64 := by
  have hz : Res.zero.pairs.length ≤ 64 := by decide
  have ha : ∀ e r, (abortRes e r).pairs.length ≤ 64 := fun e r => (show ([] : List (Int × Int)).length ≤ 64 by decide)
  have he : ∀ e, (Res.err e).pairs.length ≤ 64 := fun e => (show ([] : List (Int × Int)).length ≤ 64 by decide)
  unfold St.do_
  split
  · split
    · exact hz
    · split
      · rename_i ho
        split
        · exact hz
        · unfold St.call
          split
          · unfold St.commit
            split
            · exact ha _ _
            · split
              · show ([] : List (Int × Int)).length ≤ 64; decide
              · exact ha _ _
          · split
            · exact ha _ _
            · split
              · unfold St.get
                split
                · exact he _
                · show ([] : List (Int × Int)).length ≤ 64; decide
              · split
                · rename_i n6 n7 n1 h5
                  refine Nat.le_trans (List.length_filterMap_le _ _) ?_
                  simp only [keysFrom, List.length_map, List.length_range]
                  simp [opOkB, h5, keyOkB] at ho
                  omega
                · unfold St.change
                  split
                  · exact he _
                  · simp only
                    split
                    · exact hz
                    · exact ha _ _
      · exact hz
  · exact hz
set_option maxRecDepth 100000 in
set_option maxHeartbeats 16000000 in
theorem modelCollects_walk (a2 : Option Addr) (cc : Nat) (rows : List (List Int)) (w : World)
    (i2 : Recs actKinds w a2 rows ∧ ∀ r ∈ rows, r.length = actKinds.length ∧ wfs actKinds r) (s2 : rows.length * 56 ≤ 140737488351232) (_l2 : rows.length ≤ cc) (_m2 : cc ≤ 9223372036854775807) :
    Calls Try.prog 13 #[.slice a2 rows.length cc] w fun e w' => e = .returned (.bool true) ∧ Below w.heap.size w w' := by
  have hrl : rows.length ≤ 17592186044000 := by omega
  have HR := Lib.hid i2
  clear i2 s2
  have cf0 : (w.alloc (.cells #[.int .i64 256, .int .u64 1000] 41)).cell? ⟨w.heap.size, 0, none⟩ = some (.int .i64 256) := (Blk.new w _ _).cell 0
  have cf1 : (w.alloc (.cells #[.int .i64 256, .int .u64 1000] 41)).cell? ⟨w.heap.size, 1, none⟩ = some (.int .u64 1000) := (Blk.new w _ _).cell 1
  have BC := Lib.hid (Blk.new w 41 #[.int .i64 256, .int .u64 1000])
  go_enter Try.func13, Try.ntmps13
  go_wp2_with fail
  refine (md_new 256 1000 _ (by decide)).mono ?_
  rintro e w1 ⟨m, rfl, h1, o1, -⟩
  have L1 := LW.made ((Only0.refl w).alloc (.cells #[.int .i64 256, .int .u64 1000] 41)) h1 o1
  have BC1 := o1.blk BC.out (fun h => h)
  have cg0 : w1.cell? ⟨w.heap.size, 0, none⟩ = some (.int .i64 256) := BC1.cell 0
  have cg1 : w1.cell? ⟨w.heap.size, 1, none⟩ = some (.int .u64 1000) := BC1.cell 1
  clear h1 o1 cf0 cf1
  go_wp2_with fail
  refine (md_new 256 1000 _ (by decide)).mono ?_
  rintro e w2 ⟨n, rfl, h2, o2, hn⟩
  have HI : Hid (LW2 w w2 (fun b => b = m) m (newSt 256 1000) (fun b => b = n) n (full (newSt 256 1000)) ∧ CoI 0 (newSt 256 1000)) := by
    have hm := L1.mat.under m rfl
    refine ⟨⟨L1.only0 o2, LW.made L1.o h2 o2, fun b hb hb' => ?_⟩, CoI.new⟩
    have e1 : b = m := hb
    have e2 : b = n := hb'
    omega
  clear L1 BC1 cg0 cg1 BC h2 o2
  go_wp2_with fail
  go_loopw [8, 9, 10, 11, 12, 13, 14, 15, 16, 17] (fun s8 s9 s10 s11 s12 s13 s14 s15 s16 s17 wr => ∃ (q : Nat) (v9 v10 v11 v12 v13 v14 v15 v16 v17 : Value) (P : Nat → Prop) (s : St) (Q : Nat → Prop), s9 = v9 ∧ s10 = v10 ∧ s11 = v11 ∧ s12 = v12 ∧ s13 = v13 ∧ s14 = v14 ∧ s15 = v15 ∧ s16 = v16 ∧ s17 = v17 ∧ s8 = .int .i64 q ∧ q ≤ 80 ∧ q ≤ rows.length ∧ Hid (LW2 w wr P m s Q n (full s) ∧ CoI q s)) (fun s8 _ _ _ _ _ _ _ _ _ _ => 100 - (intOf s8).toNat)
  case atStart => exact ⟨0, _, _, _, _, _, _, _, _, _, _, _, _, rfl, rfl, rfl, rfl, rfl, rfl, rfl, rfl, rfl, rfl, by omega, by omega, HI⟩
  case round =>
    obtain ⟨q, v9, v10, v11, v12, v13, v14, v15, v16, v17, P, s, Q, rfl, rfl, rfl, rfl, rfl, rfl, rfl, rfl, rfl, rfl, hq, hql, HL⟩ := hrel
    clear HI
    by_cases hlr : q < rows.length
    · by_cases hlt : q < 80
      · obtain ⟨b, off, K0, S, L0, K, k, hh, v, rfl, d0, d1, d2, d3, d4, d5, d6⟩ := Recs.act HR.out hlr
        have x0 := HL.out.1.a.old' d0
        have x1 := HL.out.1.a.old' d1
        have x2 := HL.out.1.a.old' d2
        have x3 := HL.out.1.a.old' d3
        have x4 := HL.out.1.a.old' d4
        have x5 := HL.out.1.a.old' d5
        have x6 := HL.out.1.a.old' d6
        clear d0 d1 d2 d3 d4 d5 d6
        by_cases h00 : K0 = 0
        · subst h00
          obtain ⟨id, er, s', hb⟩ : ∃ id er s', s.begin S L0 = (id, er, s') := ⟨_, _, _, rfl⟩
          have hb2 := full_begin s S L0
          have HI1 := HL.out.2.begin S L0
          rw [hb] at hb2 HI1
          have HB := Lib.hid hb
          have HB2 := Lib.hid hb2
          have HI1 := Lib.hid HI1
          have HA := Lib.hid (HL.out.1.alloc (.cells #[.int .i64 0, .int .i64 S, .int .i64 L0, .int .i64 K, .int .i64 k, .int .i64 hh, .int .i64 v] 71))
          have BO := Lib.hid (HL.out.1.a.box 71 #[.int .i64 0, .int .i64 S, .int .i64 L0, .int .i64 K, .int .i64 k, .int .i64 hh, .int .i64 v])
          clear HL hb hb2
          go_wp2_with fail
          refine (lw_begin HA.out.a S L0 HB.out).mono ?_
          rintro e w3 ⟨P3, rfl, L3, o3, g3⟩
          have HC := Lib.hid (HA.out.stepA L3 o3 g3)
          have BO3 := Lib.hid (BO.out.step o3 g3)
          have y0 : w3.cell? ⟨wr.heap.size, 0, none⟩ = some (.int .i64 0) := BO3.out.1.cell 0
          have y1 : w3.cell? ⟨wr.heap.size, 1, none⟩ = some (.int .i64 S) := BO3.out.1.cell 1
          have y2 : w3.cell? ⟨wr.heap.size, 2, none⟩ = some (.int .i64 L0) := BO3.out.1.cell 2
          have y3 : w3.cell? ⟨wr.heap.size, 3, none⟩ = some (.int .i64 K) := BO3.out.1.cell 3
          have y4 : w3.cell? ⟨wr.heap.size, 4, none⟩ = some (.int .i64 k) := BO3.out.1.cell 4
          have y5 : w3.cell? ⟨wr.heap.size, 5, none⟩ = some (.int .i64 hh) := BO3.out.1.cell 5
          have y6 : w3.cell? ⟨wr.heap.size, 6, none⟩ = some (.int .i64 v) := BO3.out.1.cell 6
          clear HA L3 o3 g3 BO
          go_wp2_with fail
          refine (lw_begin HC.out.b S L0 HB2.out).mono ?_
          rintro e w4 ⟨Q4, rfl, L4, o4, g4⟩
          have HF := Lib.hid (And.intro (HC.out.stepB L4 o4 g4) HI1.out)
          clear HC L4 o4 g4 BO3 HB HB2 HI1
          go_wp2_with fail
          go_roundw
          case rel => exact ⟨q + 1, _, _, _, _, _, _, _, _, _, _, _, _, rfl, rfl, rfl, rfl, rfl, rfl, rfl, rfl, rfl, by go_num, by omega, by omega, HF⟩
          case measure => simp [intOf] <;> omega
        · by_cases h02 : K0 = 2
          · subst h02
            have HI1 := Lib.hid HL.out.2.collect
            have HA := Lib.hid (HL.out.1.alloc (.cells #[.int .i64 2, .int .i64 S, .int .i64 L0, .int .i64 K, .int .i64 k, .int .i64 hh, .int .i64 v] 71))
            clear HL
            go_wp2_with fail
            refine (lw_collect HA.out.a).mono ?_
            rintro e w3 ⟨rfl, L3, o3⟩
            have HF := Lib.hid (And.intro (show LW2 w w3 P m s.collect Q n (full s.collect) from HA.out.stepA L3 o3 (Grew.refl _ _)) HI1.out)
            clear HA L3 o3 HI1
            go_wp2_with fail
            go_roundw
            case rel => exact ⟨q + 1, _, _, _, _, _, _, _, _, _, _, _, _, rfl, rfl, rfl, rfl, rfl, rfl, rfl, rfl, rfl, by go_num, by omega, by omega, HF⟩
            case measure => simp [intOf] <;> omega
          · obtain ⟨re, rv, ps, ro, rr, er, s', hd⟩ : ∃ re rv ps ro rr er s', s.do_ S ⟨K, k, hh, v⟩ = (⟨re, rv, ps, ro, rr⟩, er, s') := ⟨_, _, _, _, _, _, _, rfl⟩
            have hd2 := HL.out.2.twin (by omega) S ⟨K, k, hh, v⟩
            have HI1 := HL.out.2.do_ S ⟨K, k, hh, v⟩
            have hps := do_few s S ⟨K, k, hh, v⟩
            rw [hd] at hd2 HI1 hps
            have HD := Lib.hid hd
            have HD2 := Lib.hid hd2
            have HI1 := Lib.hid HI1
            have HPS := Lib.hid (show ps.length ≤ 64 from hps)
            have HA := Lib.hid (HL.out.1.alloc (.cells #[.int .i64 K0, .int .i64 S, .int .i64 L0, .int .i64 K, .int .i64 k, .int .i64 hh, .int .i64 v] 71))
            have BO := Lib.hid (HL.out.1.a.box 71 #[.int .i64 K0, .int .i64 S, .int .i64 L0, .int .i64 K, .int .i64 k, .int .i64 hh, .int .i64 v])
            have z0 : (K0 == 0) = false := by simpa using h00
            have z2 : (K0 == 2) = false := by simpa using h02
            clear HL hd hd2 hps h00 h02
            go_wp2_with fail
            refine (lw_dopq HA.out.a S K k hh v HD.out).mono ?_
            rintro e w3 ⟨P3, a3, c3, rfl, L3, o3, g3, p3, q3⟩
            have HC0 := Lib.hid (HA.out.stepA L3 o3 g3)
            have HC := Lib.hid (HC0.out.alloc (.cells #[.int .i64 re, .int .i64 rv, .slice a3 ps.length c3, .int .i64 ro, .int .i64 rr] 27))
            have BO3 := Lib.hid ((BO.out.step o3 g3).alloc (.cells #[.int .i64 re, .int .i64 rv, .slice a3 ps.length c3, .int .i64 ro, .int .i64 rr] 27))
            have BR := Lib.hid (HC0.out.b.box 27 #[.int .i64 re, .int .i64 rv, .slice a3 ps.length c3, .int .i64 ro, .int .i64 rr])
            have PP := Lib.hid (p3.only (Only0.alloc (Only0.refl w3) (.cells #[.int .i64 re, .int .i64 rv, .slice a3 ps.length c3, .int .i64 ro, .int .i64 rr] 27)) (fun _ _ h => h))
            have QQ : Hid (∀ y, a3 = some y → ¬ Q y.block) := fun y hy hp => by have h1 := q3 y hy; have h2 := HA.out.b.mat.under _ hp; omega
            obtain ⟨nr, hnr⟩ : ∃ b, b = w3.heap.size := ⟨_, rfl⟩
            have HNR := Lib.hid hnr
            rw [← hnr] at BR
            have y0 : (w3.alloc (.cells #[.int .i64 re, .int .i64 rv, .slice a3 ps.length c3, .int .i64 ro, .int .i64 rr] 27)).cell? ⟨wr.heap.size, 0, none⟩ = some (.int .i64 K0) := BO3.out.1.cell 0
            have y1 : (w3.alloc (.cells #[.int .i64 re, .int .i64 rv, .slice a3 ps.length c3, .int .i64 ro, .int .i64 rr] 27)).cell? ⟨wr.heap.size, 1, none⟩ = some (.int .i64 S) := BO3.out.1.cell 1
            have y2 : (w3.alloc (.cells #[.int .i64 re, .int .i64 rv, .slice a3 ps.length c3, .int .i64 ro, .int .i64 rr] 27)).cell? ⟨wr.heap.size, 2, none⟩ = some (.int .i64 L0) := BO3.out.1.cell 2
            have y3 : (w3.alloc (.cells #[.int .i64 re, .int .i64 rv, .slice a3 ps.length c3, .int .i64 ro, .int .i64 rr] 27)).cell? ⟨wr.heap.size, 3, none⟩ = some (.int .i64 K) := BO3.out.1.cell 3
            have y4 : (w3.alloc (.cells #[.int .i64 re, .int .i64 rv, .slice a3 ps.length c3, .int .i64 ro, .int .i64 rr] 27)).cell? ⟨wr.heap.size, 4, none⟩ = some (.int .i64 k) := BO3.out.1.cell 4
            have y5 : (w3.alloc (.cells #[.int .i64 re, .int .i64 rv, .slice a3 ps.length c3, .int .i64 ro, .int .i64 rr] 27)).cell? ⟨wr.heap.size, 5, none⟩ = some (.int .i64 hh) := BO3.out.1.cell 5
            have y6 : (w3.alloc (.cells #[.int .i64 re, .int .i64 rv, .slice a3 ps.length c3, .int .i64 ro, .int .i64 rr] 27)).cell? ⟨wr.heap.size, 6, none⟩ = some (.int .i64 v) := BO3.out.1.cell 6
            clear HA L3 o3 g3 p3 q3 BO hnr HC0
            go_wp2_with fail
            rw [← HNR.out]
            refine (lw_dopq HC.out.b S K k hh v HD2.out).mono ?_
            rintro e w4 ⟨Q4, a4, c4, rfl, L4, o4, g4, p4, q4⟩
            have HE0 := Lib.hid (HC.out.stepB L4 o4 g4)
            have HE := Lib.hid (HE0.out.alloc (.cells #[.int .i64 re, .int .i64 rv, .slice a4 ps.length c4, .int .i64 ro, .int .i64 rr] 27))
            have BR4 := Lib.hid ((BR.out.step o4 g4).alloc (.cells #[.int .i64 re, .int .i64 rv, .slice a4 ps.length c4, .int .i64 ro, .int .i64 rr] 27))
            have PP4 := Lib.hid ((PP.out.only o4 QQ.out).only (Only0.alloc (Only0.refl w4) (.cells #[.int .i64 re, .int .i64 rv, .slice a4 ps.length c4, .int .i64 ro, .int .i64 rr] 27)) (fun _ _ h => h))
            have PQ4 := Lib.hid (p4.only (Only0.alloc (Only0.refl w4) (.cells #[.int .i64 re, .int .i64 rv, .slice a4 ps.length c4, .int .i64 ro, .int .i64 rr] 27)) (fun _ _ h => h))
            have r0 : (w4.alloc (.cells #[.int .i64 re, .int .i64 rv, .slice a4 ps.length c4, .int .i64 ro, .int .i64 rr] 27)).cell? ⟨nr, 0, none⟩ = some (.int .i64 re) := BR4.out.1.cell 0
            have r1 : (w4.alloc (.cells #[.int .i64 re, .int .i64 rv, .slice a4 ps.length c4, .int .i64 ro, .int .i64 rr] 27)).cell? ⟨nr, 1, none⟩ = some (.int .i64 rv) := BR4.out.1.cell 1
            have r2 : (w4.alloc (.cells #[.int .i64 re, .int .i64 rv, .slice a4 ps.length c4, .int .i64 ro, .int .i64 rr] 27)).cell? ⟨nr, 2, none⟩ = some (.slice a3 ps.length c3) := BR4.out.1.cell 2
            have r3 : (w4.alloc (.cells #[.int .i64 re, .int .i64 rv, .slice a4 ps.length c4, .int .i64 ro, .int .i64 rr] 27)).cell? ⟨nr, 3, none⟩ = some (.int .i64 ro) := BR4.out.1.cell 3
            have r4 : (w4.alloc (.cells #[.int .i64 re, .int .i64 rv, .slice a4 ps.length c4, .int .i64 ro, .int .i64 rr] 27)).cell? ⟨nr, 4, none⟩ = some (.int .i64 rr) := BR4.out.1.cell 4
            clear HC L4 o4 g4 p4 q4 BO3 BR BR4 PP QQ HD HD2 HE0 HNR
            go_wp2_with fail
            refine (sameRes_same re rv ro rr a3 a4 c3 c4 ps _ PP4.out PQ4.out (by have := HPS.out; omega)).mono ?_
            rintro e w5 ⟨rfl, o5⟩
            have HF := Lib.hid (And.intro (HE.out.only0 o5) HI1.out)
            clear HE o5 PP4 PQ4 HI1
            go_wp2_with fail
            go_roundw
            case rel => exact ⟨q + 1, _, _, _, _, _, _, _, _, _, _, _, _, rfl, rfl, rfl, rfl, rfl, rfl, rfl, rfl, rfl, by go_num, by omega, by omega, HF⟩
            case measure => simp [intOf] <;> omega
      · have e80 : (q : Int) = 80 := by omega
        rw [e80]
        obtain rfl : q = 80 := by omega
        clear e80
        have HU := Lib.hid HL.out.2
        have HV : Hid (∃ p, p = s.pairs s.now ∧ CeI 0 p s) := ⟨_, rfl, HU.out.over⟩
        obtain ⟨p, hp, C0⟩ := HV.out
        have hpp := HU.out.pairs
        rw [← hp] at hpp
        have HPP := Lib.hid (show (full s).pairs (full s).now = p from hpp)
        have hpl : p.length ≤ 64 := by
          rw [hp]
          refine Nat.le_trans (List.length_filterMap_le _ _) ?_
          simp
        have HPL := Lib.hid hpl
        have HG := Lib.hid (And.intro HL.out.1 C0)
        clear HL hp C0 hpp HV hpl
        generalize full s = u at *
        clear HU
        go_wp2_with fail
        go_loopw [18] (fun s18 wr => ∃ (i : Nat) (P : Nat → Prop) (s : St), s18 = .int .i64 i ∧ i ≤ 8 ∧ Hid (LW2 w wr P m s Q n u ∧ CeI i p s)) (fun s18 _ => 100 - (intOf s18).toNat)
        case atStart => exact ⟨0, _, _, rfl, by omega, HG⟩
        case round =>
          obtain ⟨i, P, s, rfl, hi, HM⟩ := hrel
          clear HG
          by_cases hlp : i < 8
          · obtain ⟨⟨re, rv, ps, ro, rr⟩, f, s', hd, hps, I1⟩ := HM.out.2.abort hlp
            have hps' : ps = [] := hps
            subst hps'
            have HD := Lib.hid hd
            have I1 := Lib.hid I1
            clear hd hps
            go_wp2_with fail
            refine (lw_do HM.out.1.a (i : Int) 7 0 0 0 HD.out).mono ?_
            rintro e w3 ⟨P3, a3, c3, rfl, L3, o3, g3⟩
            have HF := Lib.hid (And.intro (HM.out.1.stepA L3 o3 g3) I1.out)
            clear L3 o3 g3 HM I1 HD
            go_wp2_with fail
            go_roundw
            case rel => exact ⟨i + 1, _, _, by go_num, by omega, HF⟩
            case measure => simp [intOf] <;> omega
          · obtain rfl : i = 8 := by omega
            have HCC := Lib.hid HM.out.2.collected
            have hn1 : s.collect.l.length = p.length := HCC.out.2.1
            have hn2 : s.collect.kept.length = p.length := HCC.out.2.2
            have HCP := Lib.hid HCC.out.1
            have HLL := Lib.hid HM.out.1
            clear HM
            go_wp2_with fail
            refine (lw_collect HLL.out.a).mono ?_
            rintro e w3 ⟨rfl, L3, o3⟩
            have H3 := Lib.hid (HLL.out.stepA L3 o3 (Grew.refl _ _))
            clear L3 o3 HLL
            go_wp2_with fail
            refine (md_now H3.out.a.mat).mono ?_
            rintro e w4 ⟨rfl, rfl⟩
            go_wp2_with fail
            refine (md_pairs H3.out.a.mat _).mono ?_
            rintro e w5 ⟨⟨a5, c5, rfl, hp5, q5⟩, o5⟩
            rw [HCP.out] at hp5 ⊢
            have H5 := Lib.hid (H3.out.only0 o5)
            have P5 := Lib.hid hp5
            have NP : Hid (∀ x, a5 = some x → ¬ P x.block) := fun x hx hp => by have h1 := q5 x hx; have h2 := H3.out.a.mat.under _ hp; omega
            clear H3 hp5 q5 o5
            go_wp2_with fail
            refine (md_used H5.out.a.mat).mono ?_
            rintro e w6 ⟨rfl, rfl⟩
            rw [hn1]
            go_wp2_with fail
            refine (lw_collect H5.out.a).mono ?_
            rintro e w7 ⟨rfl, L7, o7⟩
            rw [hn1, hn2, Int.sub_self]
            have H7 := Lib.hid (H5.out.stepA L7 o7 (Grew.refl _ _))
            have P7 := Lib.hid (P5.out.only o7 NP.out)
            clear L7 o7 H5 P5
            go_wp2_with fail
            refine (md_now H7.out.b.mat).mono ?_
            rintro e w8 ⟨rfl, rfl⟩
            go_wp2_with fail
            refine (md_pairs H7.out.b.mat _).mono ?_
            rintro e w9 ⟨⟨a9, c9, rfl, hp9, -⟩, o9⟩
            rw [HPP.out] at hp9 ⊢
            have H9 := Lib.hid (H7.out.only0 o9)
            have P9 := Lib.hid (P7.out.only o9 (fun _ _ h => h))
            have PB := Lib.hid hp9
            clear H7 P7 hp9 o9
            go_wp2_with fail
            refine (samePairs_any a5 a9 c5 c9 p p _ P9.out PB.out (by have := HPL.out; omega) (by have := HPL.out; omega)).mono ?_
            rw [show decide (p = p) = true from decide_eq_true rfl]
            rintro e w10 ⟨rfl, n10, rfl⟩
            have HO := Lib.hid (H9.out.a.o.trans ((Only0.refl _).drewN n10))
            clear H9 P9 PB
            go_wp2_with fail
            refine (awake19_any _).mono ?_
            rintro e w11 ⟨rfl, o11⟩
            have HO8 := Lib.hid (HO.out.trans o11)
            clear o11
            go_wp2_with fail
            go_ret
            exact ⟨rfl, HO8.out.below⟩
    · obtain rfl : q = rows.length := by omega
      have HU := Lib.hid HL.out.2
      have HV : Hid (∃ p, p = s.pairs s.now ∧ CeI 0 p s) := ⟨_, rfl, HU.out.over⟩
      obtain ⟨p, hp, C0⟩ := HV.out
      have hpp := HU.out.pairs
      rw [← hp] at hpp
      have HPP := Lib.hid (show (full s).pairs (full s).now = p from hpp)
      have hpl : p.length ≤ 64 := by
        rw [hp]
        refine Nat.le_trans (List.length_filterMap_le _ _) ?_
        simp
      have HPL := Lib.hid hpl
      have HG := Lib.hid (And.intro HL.out.1 C0)
      clear HL hp C0 hpp HV hpl
      generalize full s = u at *
      clear HU
      go_wp2_with fail
      go_loopw [18] (fun s18 wr => ∃ (i : Nat) (P : Nat → Prop) (s : St), s18 = .int .i64 i ∧ i ≤ 8 ∧ Hid (LW2 w wr P m s Q n u ∧ CeI i p s)) (fun s18 _ => 100 - (intOf s18).toNat)
      case atStart => exact ⟨0, _, _, rfl, by omega, HG⟩
      case round =>
        obtain ⟨i, P, s, rfl, hi, HM⟩ := hrel
        clear HG
        by_cases hlp : i < 8
        · obtain ⟨⟨re, rv, ps, ro, rr⟩, f, s', hd, hps, I1⟩ := HM.out.2.abort hlp
          have hps' : ps = [] := hps
          subst hps'
          have HD := Lib.hid hd
          have I1 := Lib.hid I1
          clear hd hps
          go_wp2_with fail
          refine (lw_do HM.out.1.a (i : Int) 7 0 0 0 HD.out).mono ?_
          rintro e w3 ⟨P3, a3, c3, rfl, L3, o3, g3⟩
          have HF := Lib.hid (And.intro (HM.out.1.stepA L3 o3 g3) I1.out)
          clear L3 o3 g3 HM I1 HD
          go_wp2_with fail
          go_roundw
          case rel => exact ⟨i + 1, _, _, by go_num, by omega, HF⟩
          case measure => simp [intOf] <;> omega
        · obtain rfl : i = 8 := by omega
          have HCC := Lib.hid HM.out.2.collected
          have hn1 : s.collect.l.length = p.length := HCC.out.2.1
          have hn2 : s.collect.kept.length = p.length := HCC.out.2.2
          have HCP := Lib.hid HCC.out.1
          have HLL := Lib.hid HM.out.1
          clear HM
          go_wp2_with fail
          refine (lw_collect HLL.out.a).mono ?_
          rintro e w3 ⟨rfl, L3, o3⟩
          have H3 := Lib.hid (HLL.out.stepA L3 o3 (Grew.refl _ _))
          clear L3 o3 HLL
          go_wp2_with fail
          refine (md_now H3.out.a.mat).mono ?_
          rintro e w4 ⟨rfl, rfl⟩
          go_wp2_with fail
          refine (md_pairs H3.out.a.mat _).mono ?_
          rintro e w5 ⟨⟨a5, c5, rfl, hp5, q5⟩, o5⟩
          rw [HCP.out] at hp5 ⊢
          have H5 := Lib.hid (H3.out.only0 o5)
          have P5 := Lib.hid hp5
          have NP : Hid (∀ x, a5 = some x → ¬ P x.block) := fun x hx hp => by have h1 := q5 x hx; have h2 := H3.out.a.mat.under _ hp; omega
          clear H3 hp5 q5 o5
          go_wp2_with fail
          refine (md_used H5.out.a.mat).mono ?_
          rintro e w6 ⟨rfl, rfl⟩
          rw [hn1]
          go_wp2_with fail
          refine (lw_collect H5.out.a).mono ?_
          rintro e w7 ⟨rfl, L7, o7⟩
          rw [hn1, hn2, Int.sub_self]
          have H7 := Lib.hid (H5.out.stepA L7 o7 (Grew.refl _ _))
          have P7 := Lib.hid (P5.out.only o7 NP.out)
          clear L7 o7 H5 P5
          go_wp2_with fail
          refine (md_now H7.out.b.mat).mono ?_
          rintro e w8 ⟨rfl, rfl⟩
          go_wp2_with fail
          refine (md_pairs H7.out.b.mat _).mono ?_
          rintro e w9 ⟨⟨a9, c9, rfl, hp9, -⟩, o9⟩
          rw [HPP.out] at hp9 ⊢
          have H9 := Lib.hid (H7.out.only0 o9)
          have P9 := Lib.hid (P7.out.only o9 (fun _ _ h => h))
          have PB := Lib.hid hp9
          clear H7 P7 hp9 o9
          go_wp2_with fail
          refine (samePairs_any a5 a9 c5 c9 p p _ P9.out PB.out (by have := HPL.out; omega) (by have := HPL.out; omega)).mono ?_
          rw [show decide (p = p) = true from decide_eq_true rfl]
          rintro e w10 ⟨rfl, n10, rfl⟩
          have HO := Lib.hid (H9.out.a.o.trans ((Only0.refl _).drewN n10))
          clear H9 P9 PB
          go_wp2_with fail
          refine (awake19_any _).mono ?_
          rintro e w11 ⟨rfl, o11⟩
          have HO8 := Lib.hid (HO.out.trans o11)
          clear o11
          go_wp2_with fail
          go_ret
          exact ⟨rfl, HO8.out.below⟩
end Go.Proofs.Ytcbhafddehipdaa

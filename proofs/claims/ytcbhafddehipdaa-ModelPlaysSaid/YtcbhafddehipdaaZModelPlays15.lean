/-
  ModelPlays: what its proof rests on, part 15.
-/
import Derived.Deep.DeepCutAuto
import Derived.Deep.CutBlock
import Derived.IntWalk
import Derived.Test.YtcbhafddehipdaaZModelPlays14
namespace Go.Proofs.Ytcbhafddehipdaa
open Go.RowKit
attribute [local go_sem ↓] Go.wp_at_zero Go.wp_at_succ
set_option linter.unusedVariables false
set_option linter.unusedSimpArgs false
/-- What a round has in hand. -/
structure PlI (w0 : World) (m n ob : Nat) (ac : Array Value) (w : World) : Prop where
  ex : ∃ (P : Nat → Prop) (s : St) (Q : Nat → Prop) (r : RSt), LR2 w0 w P m s Q n r ∧ Sim s r ∧ Blk w ob 71 ac ∧ ¬ P ob ∧ ¬ Q ob
theorem PlI.mk' {w0 w : World} {m n ob : Nat} {ac : Array Value} {P Q : Nat → Prop} {s : St} {r : RSt} (h : LR2 w0 w P m s Q n r) (S : Sim s r) (b : Blk w ob 71 ac) (hp : ¬ P ob) (hq : ¬ Q ob) : PlI w0 m n ob ac w := ⟨⟨P, s, Q, r, h, S, b, hp, hq⟩⟩
theorem grew_not {P P' : Nat → Prop} {N b : Nat} (g : Grew N P P') (h : ¬ P b) (hb : b < N) : ¬ P' b := fun hp => by
  rcases g b hp with h1 | h1
  · exact h h1
  · omega
set_option maxRecDepth 100000 in
set_option maxHeartbeats 16000000 in
theorem modelPlays_walk (slots limit : Int) (a2 : Option Addr) (cc : Nat) (rows : List (List Int)) (w : World) (_w0 : (Lit.int .i64 slots).wf = true) (w1 : (Lit.int .u64 limit).wf = true)
    (i2 : Recs actKinds w a2 rows ∧ ∀ r ∈ rows, r.length = actKinds.length ∧ wfs actKinds r) (s2 : rows.length * 56 ≤ 140737488351232) (_l2 : rows.length ≤ cc) (_m2 : cc ≤ 9223372036854775807) :
    Calls Try.prog 17 #[.int .i64 slots, .int .u64 limit, .slice a2 rows.length cc] w fun e w' => e = .returned (.bool true) ∧ Below w.heap.size w w' := by
  have hrl : rows.length ≤ 17592186044000 := by omega
  have HR := Lib.hid i2
  obtain ⟨ca, cb, hcf, CC⟩ := conf_any slots limit w (bounds_u64 w1).1
  have HCF := Lib.hid hcf
  clear i2 s2 w1 _w0 hcf
  go_enter Try.func17, Try.ntmps17
  go_wp2_with fail
  refine CC.mono ?_
  rintro e w1 ⟨rfl, o1⟩
  obtain ⟨w2, hw2⟩ : ∃ w2, w2 = w1.alloc (.cells #[.int .i64 ca, .int .u64 cb] 41) := ⟨_, rfl⟩
  obtain ⟨cfb, hcfb⟩ : ∃ b, b = w1.heap.size := ⟨_, rfl⟩
  have HO2 : Hid (Only0 w w2) := by rw [hw2]; exact o1.alloc _
  have HBC : Hid (Blk w2 cfb 41 #[.int .i64 ca, .int .u64 cb]) := by rw [hw2, hcfb]; exact Blk.new _ _ _
  clear CC o1
  go_upto_region 2 with (fail)
  rw [← hw2, ← hcfb]
  clear hw2 hcfb
  have cf0 : w2.cell? ⟨cfb, 0, none⟩ = some (.int .i64 ca) := HBC.out.cell 0
  have cf1 : w2.cell? ⟨cfb, 1, none⟩ = some (.int .u64 cb) := HBC.out.cell 1
  go_wp2_with fail
  refine (md_new ca cb _ HCF.out).mono ?_
  rintro e w3 ⟨m, rfl, h3, o3, -⟩
  have HBC3 := Lib.hid (o3.blk HBC.out (fun h => h))
  have H3 := Lib.hid h3
  have O3 := Lib.hid o3
  clear cf0 cf1 h3 o3 HBC
  have cf0 : w3.cell? ⟨cfb, 0, none⟩ = some (.int .i64 ca) := HBC3.out.cell 0
  have cf1 : w3.cell? ⟨cfb, 1, none⟩ = some (.int .u64 cb) := HBC3.out.cell 1
  go_wp2_with fail
  refine (ref_new ca cb _ HCF.out).mono ?_
  rintro e w4 ⟨n, rfl, h4, o4, hn⟩
  have HI0 := Lib.hid (LR2.made HCF.out HO2.out H3.out O3.out h4 o4 hn)
  clear cf0 cf1 h4 o4 hn HBC3 H3 O3 HO2 HCF
  go_wp2_with fail
  refine (awake19_any _).mono ?_
  rintro e w5 ⟨rfl, o5⟩
  have HI : Hid (∃ P s Q r, LR2 w w5 P m s Q n r ∧ Sim s r) := Lib.hid ⟨_, _, _, _, HI0.out.1.only0 o5, HI0.out.2⟩
  clear HI0 o5
  go_wp2_with fail
  go_loopw [11, 12, 13, 14, 15, 16, 17, 18, 19, 20] (fun s11 s12 s13 s14 s15 s16 s17 s18 s19 s20 wr => ∃ (q : Nat) (v12 v13 v14 v15 v16 v17 v18 v19 v20 : Value), s12 = v12 ∧ s13 = v13 ∧ s14 = v14 ∧ s15 = v15 ∧ s16 = v16 ∧ s17 = v17 ∧ s18 = v18 ∧ s19 = v19 ∧ s20 = v20 ∧ s11 = .int .i64 q ∧ q ≤ 80 ∧ q ≤ rows.length ∧ Hid (∃ P s Q r, LR2 w wr P m s Q n r ∧ Sim s r)) (fun s11 _ _ _ _ _ _ _ _ _ _ => 100 - (intOf s11).toNat)
  case atStart => exact ⟨0, _, _, _, _, _, _, _, _, _, rfl, rfl, rfl, rfl, rfl, rfl, rfl, rfl, rfl, rfl, by omega, by omega, HI⟩
  case round =>
    obtain ⟨q, v12, v13, v14, v15, v16, v17, v18, v19, v20, rfl, rfl, rfl, rfl, rfl, rfl, rfl, rfl, rfl, rfl, hq, hql, HL⟩ := hrel
    clear HI
    by_cases hlr : q < rows.length
    · by_cases hlt : q < 80
      · have q80 : decide ((q : Int) < 80) = true := by simp; omega
        obtain ⟨b, off, K0, S, L0, K, k, hh, v, rfl, d0, d1, d2, d3, d4, d5, d6⟩ := Recs.act HR.out hlr
        obtain ⟨P, s, Q, r, hL⟩ := HL.out
        have x0 := hL.1.old' d0
        have x1 := hL.1.old' d1
        have x2 := hL.1.old' d2
        have x3 := hL.1.old' d3
        have x4 := hL.1.old' d4
        have x5 := hL.1.old' d5
        have x6 := hL.1.old' d6
        obtain ⟨W, hW⟩ : ∃ W, W = wr.alloc (.cells #[.int .i64 K0, .int .i64 S, .int .i64 L0, .int .i64 K, .int .i64 k, .int .i64 hh, .int .i64 v] 71) := ⟨_, rfl⟩
        obtain ⟨ob, hob⟩ : ∃ ob, ob = wr.heap.size := ⟨_, rfl⟩
        have HA : Hid (LR2 w W P m s Q n r) := by rw [hW]; exact hL.1.alloc _
        have BO : Hid (Blk W ob 71 #[.int .i64 K0, .int .i64 S, .int .i64 L0, .int .i64 K, .int .i64 k, .int .i64 hh, .int .i64 v]) := by rw [hW, hob]; exact Blk.new _ _ _
        have HNO : Hid (¬ P ob ∧ ¬ Q ob) := ⟨fun hp => by have := hL.1.a.mat.under _ hp; omega, fun hp => by have := hL.1.b.under _ hp; omega⟩
        clear HL
        have HL := Lib.hid hL
        clear d0 d1 d2 d3 d4 d5 d6 hL
        go_upto_region 10 with (fail)
        rw [← hW, ← hob]
        clear hW hob x0 x1 x2 x3 x4 x5 x6
        have o0 : W.cell? ⟨ob, 0, none⟩ = some (.int .i64 K0) := BO.out.cell 0
        go_upto_block 2 with (fail)
        clear o0
        go_cut [12] (fun s12 wx => s12 = .pointer (some ⟨ob, 0, none⟩) ∧ Hid (PlI w m n ob #[.int .i64 K0, .int .i64 S, .int .i64 L0, .int .i64 K, .int .i64 k, .int .i64 hh, .int .i64 v] wx))
        case first =>
          by_cases h00 : K0 = 0
          · have h0b : (K0 == 0) = true := by simpa using h00
            obtain ⟨id, er, s', hb⟩ : ∃ id er s', s.begin S L0 = (id, er, s') := ⟨_, _, _, rfl⟩
            obtain ⟨r', hr⟩ : ∃ r', r' = (r.begin S L0).2.2 := ⟨_, rfl⟩
            obtain ⟨e1, e2, e3⟩ := HL.out.2.begin S L0
            rw [hb] at e1 e2 e3
            have hrb : r.begin S L0 = (id, er, r') := by rw [hr]; exact Prod.ext e1 (Prod.ext e2 rfl)
            rw [← hr] at e3
            have HS' := Lib.hid e3
            have CA := md_begin HA.out.a.mat S L0
            rw [hb] at CA
            have HRB := Lib.hid hrb
            clear hb hr e1 e2 e3 hrb h00
            have y0 : W.cell? ⟨ob, 0, none⟩ = some (.int .i64 K0) := BO.out.cell 0
            have y1 : W.cell? ⟨ob, 1, none⟩ = some (.int .i64 S) := BO.out.cell 1
            have y2 : W.cell? ⟨ob, 2, none⟩ = some (.int .i64 L0) := BO.out.cell 2
            have y3 : W.cell? ⟨ob, 3, none⟩ = some (.int .i64 K) := BO.out.cell 3
            have y4 : W.cell? ⟨ob, 4, none⟩ = some (.int .i64 k) := BO.out.cell 4
            have y5 : W.cell? ⟨ob, 5, none⟩ = some (.int .i64 hh) := BO.out.cell 5
            have y6 : W.cell? ⟨ob, 6, none⟩ = some (.int .i64 v) := BO.out.cell 6
            go_wp2_with fail
            refine CA.mono ?_
            rintro e w3 ⟨P3, rfl, M3, o3, g3⟩
            have HC := Lib.hid (HA.out.stepA M3 o3 g3)
            have BO3 := Lib.hid (o3.blk BO.out HNO.out.1)
            have HN3 := Lib.hid (And.intro (grew_not g3 HNO.out.1 BO.out.lt) HNO.out.2)
            have CB := ref_begin HC.out.b S L0
            rw [HRB.out] at CB
            clear CA M3 o3 g3 BO HA HNO HRB y0 y1 y2 y3 y4 y5 y6
            have y0 : w3.cell? ⟨ob, 0, none⟩ = some (.int .i64 K0) := BO3.out.cell 0
            have y1 : w3.cell? ⟨ob, 1, none⟩ = some (.int .i64 S) := BO3.out.cell 1
            have y2 : w3.cell? ⟨ob, 2, none⟩ = some (.int .i64 L0) := BO3.out.cell 2
            have y3 : w3.cell? ⟨ob, 3, none⟩ = some (.int .i64 K) := BO3.out.cell 3
            have y4 : w3.cell? ⟨ob, 4, none⟩ = some (.int .i64 k) := BO3.out.cell 4
            have y5 : w3.cell? ⟨ob, 5, none⟩ = some (.int .i64 hh) := BO3.out.cell 5
            have y6 : w3.cell? ⟨ob, 6, none⟩ = some (.int .i64 v) := BO3.out.cell 6
            go_wp2_with fail
            refine CB.mono ?_
            rintro e w4 ⟨rfl, R4, o4⟩
            have HF : Hid (PlI w m n ob #[.int .i64 K0, .int .i64 S, .int .i64 L0, .int .i64 K, .int .i64 k, .int .i64 hh, .int .i64 v] w4) := PlI.mk' (HC.out.stepB R4 o4 (Grew.refl _ _)) HS'.out (o4.blk BO3.out HN3.out.2) HN3.out.1 HN3.out.2
            clear CB R4 o4 BO3 HC HN3 HS' y0 y1 y2 y3 y4 y5 y6
            go_wp2_with fail
            go_meet
            case rel => exact ⟨rfl, HF⟩
          · by_cases h02 : K0 = 2
            · have h2b : (K0 == 2) = true := by simpa using h02
              have h0b : (K0 == 0) = false := by simpa using h00
              obtain ⟨d, hd⟩ : ∃ d, d = (s.l.length : Int) - (s.kept.length : Int) := ⟨_, rfl⟩
              have CA := md_collect HA.out.a.mat
              rw [← hd] at CA
              have HD := Lib.hid hd
              clear hd h00 h02
              have y0 : W.cell? ⟨ob, 0, none⟩ = some (.int .i64 K0) := BO.out.cell 0
              have y1 : W.cell? ⟨ob, 1, none⟩ = some (.int .i64 S) := BO.out.cell 1
              have y2 : W.cell? ⟨ob, 2, none⟩ = some (.int .i64 L0) := BO.out.cell 2
              have y3 : W.cell? ⟨ob, 3, none⟩ = some (.int .i64 K) := BO.out.cell 3
              have y4 : W.cell? ⟨ob, 4, none⟩ = some (.int .i64 k) := BO.out.cell 4
              have y5 : W.cell? ⟨ob, 5, none⟩ = some (.int .i64 hh) := BO.out.cell 5
              have y6 : W.cell? ⟨ob, 6, none⟩ = some (.int .i64 v) := BO.out.cell 6
              go_wp2_with fail
              refine CA.mono ?_
              rintro e w3 ⟨rfl, M3, o3⟩
              have HC := Lib.hid (HA.out.stepA M3 o3 (Grew.refl _ _))
              have BO3 := Lib.hid (o3.blk BO.out HNO.out.1)
              have CB := lr_rcollect HC.out.b HL.out.2 HA.out.now
              rw [← HD.out] at CB
              clear CA M3 o3 BO HD y0 y1 y2 y3 y4 y5 y6
              have y0 : w3.cell? ⟨ob, 0, none⟩ = some (.int .i64 K0) := BO3.out.cell 0
              have y1 : w3.cell? ⟨ob, 1, none⟩ = some (.int .i64 S) := BO3.out.cell 1
              have y2 : w3.cell? ⟨ob, 2, none⟩ = some (.int .i64 L0) := BO3.out.cell 2
              have y3 : w3.cell? ⟨ob, 3, none⟩ = some (.int .i64 K) := BO3.out.cell 3
              have y4 : w3.cell? ⟨ob, 4, none⟩ = some (.int .i64 k) := BO3.out.cell 4
              have y5 : w3.cell? ⟨ob, 5, none⟩ = some (.int .i64 hh) := BO3.out.cell 5
              have y6 : w3.cell? ⟨ob, 6, none⟩ = some (.int .i64 v) := BO3.out.cell 6
              go_wp2_with fail
              refine CB.mono ?_
              rintro e w4 ⟨Q4, rfl, R4, o4, g4⟩
              have HF : Hid (PlI w m n ob #[.int .i64 K0, .int .i64 S, .int .i64 L0, .int .i64 K, .int .i64 k, .int .i64 hh, .int .i64 v] w4) := PlI.mk' (HC.out.stepB R4 o4 g4) (HL.out.2.collect HA.out.now) (o4.blk BO3.out HNO.out.2) HNO.out.1 (grew_not g4 HNO.out.2 BO3.out.lt)
              clear CB R4 o4 g4 BO3 HC HNO HA y0 y1 y2 y3 y4 y5 y6
              go_wp2_with fail
              go_meet
              case rel => exact ⟨rfl, HF⟩
            · have h2b : (K0 == 2) = false := by simpa using h02
              have h0b : (K0 == 0) = false := by simpa using h00
              obtain ⟨re, rv, ps, ro, rr, er, s', hd⟩ : ∃ re rv ps ro rr er s', s.do_ S ⟨K, k, hh, v⟩ = (⟨re, rv, ps, ro, rr⟩, er, s') := ⟨_, _, _, _, _, _, _, rfl⟩
              obtain ⟨r', hr⟩ : ∃ r', r' = (r.do_ S ⟨K, k, hh, v⟩).2.2 := ⟨_, rfl⟩
              obtain ⟨e1, e2, e3⟩ := HL.out.2.do_ HA.out.spans S ⟨K, k, hh, v⟩
              rw [hd] at e1 e2 e3
              have hrd : r.do_ S ⟨K, k, hh, v⟩ = (⟨re, rv, ps, ro, rr⟩, er, r') := by rw [hr]; exact Prod.ext e1 (Prod.ext e2 rfl)
              rw [← hr] at e3
              have HS' := Lib.hid e3
              have hps := do_few s S ⟨K, k, hh, v⟩
              rw [hd] at hps
              have HPS := Lib.hid (show ps.length ≤ 64 from hps)
              have CA := lr_doA HA.out.a.mat S K k hh v hd
              have HRD := Lib.hid hrd
              clear hd hr e1 e2 e3 hrd h00 h02 hps
              have y0 : W.cell? ⟨ob, 0, none⟩ = some (.int .i64 K0) := BO.out.cell 0
              have y1 : W.cell? ⟨ob, 1, none⟩ = some (.int .i64 S) := BO.out.cell 1
              have y2 : W.cell? ⟨ob, 2, none⟩ = some (.int .i64 L0) := BO.out.cell 2
              have y3 : W.cell? ⟨ob, 3, none⟩ = some (.int .i64 K) := BO.out.cell 3
              have y4 : W.cell? ⟨ob, 4, none⟩ = some (.int .i64 k) := BO.out.cell 4
              have y5 : W.cell? ⟨ob, 5, none⟩ = some (.int .i64 hh) := BO.out.cell 5
              have y6 : W.cell? ⟨ob, 6, none⟩ = some (.int .i64 v) := BO.out.cell 6
              go_wp2_with fail
              refine CA.mono ?_
              rintro e w3 ⟨P3, a3, c3, rfl, M3, o3, g3, p3, q3⟩
              have HC0 := Lib.hid (HA.out.stepA M3 o3 g3)
              have HC := Lib.hid (HC0.out.alloc (.cells #[.int .i64 re, .int .i64 rv, .slice a3 ps.length c3, .int .i64 ro, .int .i64 rr] 27))
              obtain ⟨w3b, hw3b⟩ : ∃ x, x = w3.alloc (.cells #[.int .i64 re, .int .i64 rv, .slice a3 ps.length c3, .int .i64 ro, .int .i64 rr] 27) := ⟨_, rfl⟩
              obtain ⟨nr, hnr⟩ : ∃ b, b = w3.heap.size := ⟨_, rfl⟩
              have ob3 : Only0 w3 w3b := by rw [hw3b]; exact (Only0.refl w3).alloc _
              have BO3 := Lib.hid (ob3.blk (o3.blk BO.out HNO.out.1) (fun h => h))
              have HN3 := Lib.hid (And.intro (grew_not g3 HNO.out.1 BO.out.lt) HNO.out.2)
              have BR : Hid (Blk w3b nr 27 #[.int .i64 re, .int .i64 rv, .slice a3 ps.length c3, .int .i64 ro, .int .i64 rr]) := by rw [hw3b, hnr]; exact Blk.new _ _ _
              have NR : Hid (¬ Q nr) := fun hp => by have h1 := HC0.out.b.under _ hp; omega
              have PP := Lib.hid (p3.only ob3 (fun _ _ h => h))
              have QQ : Hid (∀ y, a3 = some y → ¬ Q y.block) := fun y hy hp => by have h1 := q3 y hy; have h2 := HA.out.b.under _ hp; omega
              rw [← hw3b] at HC
              have CB := lr_doB HC.out.b S K k hh v HRD.out
              clear CA M3 o3 g3 p3 q3 ob3 BO HA HC0 HNO HRD y0 y1 y2 y3 y4 y5 y6
              go_upto_region 12 with (fail)
              rw [← hw3b, ← hnr]
              clear hw3b hnr
              have y0 : w3b.cell? ⟨ob, 0, none⟩ = some (.int .i64 K0) := BO3.out.cell 0
              have y1 : w3b.cell? ⟨ob, 1, none⟩ = some (.int .i64 S) := BO3.out.cell 1
              have y2 : w3b.cell? ⟨ob, 2, none⟩ = some (.int .i64 L0) := BO3.out.cell 2
              have y3 : w3b.cell? ⟨ob, 3, none⟩ = some (.int .i64 K) := BO3.out.cell 3
              have y4 : w3b.cell? ⟨ob, 4, none⟩ = some (.int .i64 k) := BO3.out.cell 4
              have y5 : w3b.cell? ⟨ob, 5, none⟩ = some (.int .i64 hh) := BO3.out.cell 5
              have y6 : w3b.cell? ⟨ob, 6, none⟩ = some (.int .i64 v) := BO3.out.cell 6
              go_wp2_with fail
              refine CB.mono ?_
              rintro e w4 ⟨Q4, a4, c4, rfl, R4, o4, g4, p4, q4⟩
              have HE0 := Lib.hid (HC.out.stepB R4 o4 g4)
              obtain ⟨w4b, hw4b⟩ : ∃ x, x = w4.alloc (.cells #[.int .i64 re, .int .i64 rv, .slice a4 ps.length c4, .int .i64 ro, .int .i64 rr] 27) := ⟨_, rfl⟩
              obtain ⟨nt, hnt⟩ : ∃ b, b = w4.heap.size := ⟨_, rfl⟩
              have ob4 : Only0 w4 w4b := by rw [hw4b]; exact (Only0.refl w4).alloc _
              have HE := Lib.hid (HE0.out.only0 ob4)
              have BO4 := Lib.hid (ob4.blk (o4.blk BO3.out HN3.out.2) (fun h => h))
              have HN4 := Lib.hid (And.intro HN3.out.1 (grew_not g4 HN3.out.2 BO3.out.lt))
              have BR4 : Hid (Blk w4b nr 27 #[.int .i64 re, .int .i64 rv, .slice a3 ps.length c3, .int .i64 ro, .int .i64 rr]) := ob4.blk (o4.blk BR.out NR.out) (fun h => h)
              have BT4 : Hid (Blk w4b nt 27 #[.int .i64 re, .int .i64 rv, .slice a4 ps.length c4, .int .i64 ro, .int .i64 rr]) := by rw [hw4b, hnt]; exact Blk.new _ _ _
              have PP4 := Lib.hid ((PP.out.only o4 QQ.out).only ob4 (fun _ _ h => h))
              have PQ4 := Lib.hid (p4.only ob4 (fun _ _ h => h))
              clear CB R4 o4 g4 p4 q4 ob4 BO3 HC HN3 BR NR PP QQ HE0 y0 y1 y2 y3 y4 y5 y6
              go_upto_region 13 with (fail)
              rw [← hw4b, ← hnt]
              clear hw4b hnt
              have x0 : w4b.cell? ⟨nr, 0, none⟩ = some (.int .i64 re) := BR4.out.cell 0
              have x1 : w4b.cell? ⟨nr, 1, none⟩ = some (.int .i64 rv) := BR4.out.cell 1
              have x2 : w4b.cell? ⟨nr, 2, none⟩ = some (.slice a3 ps.length c3) := BR4.out.cell 2
              have x3 : w4b.cell? ⟨nr, 3, none⟩ = some (.int .i64 ro) := BR4.out.cell 3
              have x4 : w4b.cell? ⟨nr, 4, none⟩ = some (.int .i64 rr) := BR4.out.cell 4
              have z0 : w4b.cell? ⟨nt, 0, none⟩ = some (.int .i64 re) := BT4.out.cell 0
              have z1 : w4b.cell? ⟨nt, 1, none⟩ = some (.int .i64 rv) := BT4.out.cell 1
              have z2 : w4b.cell? ⟨nt, 2, none⟩ = some (.slice a4 ps.length c4) := BT4.out.cell 2
              have z3 : w4b.cell? ⟨nt, 3, none⟩ = some (.int .i64 ro) := BT4.out.cell 3
              have z4 : w4b.cell? ⟨nt, 4, none⟩ = some (.int .i64 rr) := BT4.out.cell 4
              go_wp2_with fail
              refine (sameRes_same re rv ro rr a3 a4 c3 c4 ps _ PP4.out PQ4.out (by have := HPS.out; omega)).mono ?_
              rintro e w5 ⟨rfl, o5⟩
              have HF : Hid (PlI w m n ob #[.int .i64 K0, .int .i64 S, .int .i64 L0, .int .i64 K, .int .i64 k, .int .i64 hh, .int .i64 v] w5) := PlI.mk' (HE.out.only0 o5) HS'.out (o5.blk BO4.out (fun h => h)) HN4.out.1 HN4.out.2
              clear HE o5 PP4 PQ4 BO4 HN4 BR4 BT4 HS' x0 x1 x2 x3 x4 z0 z1 z2 z3 z4
              go_wp2_with fail
              go_meet
              case rel => exact ⟨rfl, HF⟩
        case rest =>
          obtain ⟨rfl, HF⟩ := hcut
          clear HL HA BO HNO
          obtain ⟨P, s, Q, r, hlr, hsim, hblk, hp, hq_⟩ := HF.out.ex
          have HW0 := Lib.hid (And.intro hblk (And.intro hp hq_))
          obtain ⟨va, vc, m2, m51⟩ := hlr.cells hsim
          have o1 : wc.cell? ⟨ob, 1, none⟩ = some (.int .i64 S) := hblk.cell 1
          have KEEP : Hid (∀ w', Only0 wc w' → w'.cell? ⟨n, 2, none⟩ = some (.slice va s.l.length vc) ∧ w'.cell? ⟨n, 51, none⟩ = some (.int .u64 s.now) ∧ w'.cell? ⟨ob, 1, none⟩ = some (.int .i64 S)) := Lib.hid (fun w' o => by
            have c2 : ∀ b i v, wc.cell? ⟨b, i, none⟩ = some v → w'.cell? ⟨b, i, none⟩ = some v := fun b i v hc => (World.cell?_of_block (o.block b (block_lt_of_cell hc) (fun h => h))).trans hc
            exact ⟨c2 _ _ _ m2, c2 _ _ _ m51, c2 _ _ _ o1⟩)
          have hll : s.l.length ≤ 256 := by have := hlr.a.mat.ok.few; have := hlr.a.mat.ok.slots; omega
          have HF1 := Lib.hid (And.intro hlr (And.intro hsim HW0.out))
          clear HF
          have HF := HF1
          clear HF1 hlr hsim hblk hp hq_ HW0
          have q0 : Only0 wc wc.drew := (Only0.refl wc).drew
          obtain ⟨bl, bi, blv, bst, bbg, bop, hst⟩ := statV_shape r S
          have HST := Lib.hid hst
          clear hst
          have SNQ := fun w => stat_neq bl bi blv bst bbg bop w
          have SGT := guardt_stat
          by_cases h4 : q % 4 = 0
          · have e4 : (q : Int).tmod 4 = 0 := by rw [show (q : Int).tmod 4 = ((q % 4 : Nat) : Int) from rfl]; omega
            have w4 : IntKind.i64.wrap ((q : Int).tmod 4) = 0 := by rw [e4]; rfl
            clear h4
            go_wp2_with fail
            refine wp_region_held_drew (S := (fun w' => w'.cell? ⟨n, 2, none⟩ = some (.slice va s.l.length vc) ∧ w'.cell? ⟨n, 51, none⟩ = some (.int .u64 s.now) ∧ w'.cell? ⟨ob, 1, none⟩ = some (.int .i64 S))) (by kernel_rfl) ?_ (fun hHeld => ?_)
            · first | exact ⟨m2, m51, o1⟩ | exact KEEP.out _ (by assumption)
            refine wpAnyH_take (i := 0) (v := ?_) rfl (by kernel_rfl) (by kernel_rfl) (by kernel_rfl) (fun _ _ _ h => h) (Or.inl ⟨by rfl, ?_⟩) (by assumption) ?_; rotate_left; (focus (intro w hSw; (try dsimp only at hSw); go_simp; try with_reducible rfl))
            try simp only [Act.put, List.getElem_toArray, List.getElem_cons_zero, List.getElem_cons_succ, List.setIfInBounds_toArray, List.set_cons_zero, List.set_cons_succ]
            refine wpAnyH_take (i := 2) (v := ?_) rfl (by kernel_rfl) (by kernel_rfl) (by kernel_rfl) (fun _ _ _ h => h) (Or.inl ⟨by rfl, ?_⟩) (by assumption) ?_; rotate_left; (focus (intro w hSw; (try dsimp only at hSw); go_simp; try with_reducible rfl))
            try simp only [Act.put, List.getElem_toArray, List.getElem_cons_zero, List.getElem_cons_succ, List.setIfInBounds_toArray, List.set_cons_zero, List.set_cons_succ]
            refine wpAnyH_take (i := 3) (v := ?_) rfl (by kernel_rfl) (by kernel_rfl) (by kernel_rfl) (fun _ _ _ h => h) (Or.inl ⟨by rfl, ?_⟩) (by assumption) ?_; rotate_left; (focus (intro w hSw; (try dsimp only at hSw); go_simp; try with_reducible rfl))
            try simp only [Act.put, List.getElem_toArray, List.getElem_cons_zero, List.getElem_cons_succ, List.setIfInBounds_toArray, List.set_cons_zero, List.set_cons_succ]
            refine wpAnyH_take (i := 4) (v := ?_) rfl (by kernel_rfl) (by kernel_rfl) (by kernel_rfl) (fun _ _ _ h => h) (Or.inl ⟨by rfl, ?_⟩) (by assumption) ?_; rotate_left; (focus (intro w hSw; (try dsimp only at hSw); go_simp; try with_reducible rfl))
            try simp only [Act.put, List.getElem_toArray, List.getElem_cons_zero, List.getElem_cons_succ, List.setIfInBounds_toArray, List.set_cons_zero, List.set_cons_succ]
            refine wpAnyH_take (i := 5) (v := ?_) rfl (by kernel_rfl) (by kernel_rfl) (by kernel_rfl) (fun _ _ _ h => h) (Or.inl ⟨by rfl, ?_⟩) (by assumption) ?_; rotate_left; (focus (intro w hSw; (try dsimp only at hSw); go_simp; try with_reducible rfl))
            try simp only [Act.put, List.getElem_toArray, List.getElem_cons_zero, List.getElem_cons_succ, List.setIfInBounds_toArray, List.set_cons_zero, List.set_cons_succ]
            refine wpAnyH_take (i := 6) (v := ?_) rfl (by kernel_rfl) (by kernel_rfl) (by kernel_rfl) (fun _ _ _ h => h) (Or.inl ⟨by rfl, ?_⟩) (by assumption) ?_; rotate_left; (focus (intro w hSw; (try dsimp only at hSw); go_simp; try with_reducible rfl))
            try simp only [Act.put, List.getElem_toArray, List.getElem_cons_zero, List.getElem_cons_succ, List.setIfInBounds_toArray, List.set_cons_zero, List.set_cons_succ]
            refine wpAnyH_ready (rs := [1]) (by kernel_rfl) (by simp) ?_
            refine AllReadyH.cons rfl (fun K hK => ?_) AllReadyH.nil
            try simp only [List.getElem_toArray, List.getElem_cons_zero, List.getElem_cons_succ]
            go_simp
            (refine (md_used (HF.out.1.a.mat.only0 (by assumption))).mono ?_; rintro e u1 ⟨rfl, rfl⟩)
            try go_wp2_with fail
            refine hK.out _ _ ?_ (fun hHeld => ?_)
            · first | exact ⟨m2, m51, o1⟩ | exact KEEP.out _ (by assumption)
            clear hK K
            try simp only [Act.put, List.getElem_toArray, List.getElem_cons_zero, List.getElem_cons_succ, List.setIfInBounds_toArray, List.set_cons_zero, List.set_cons_succ]
            refine wpAnyH_take (i := 7) (v := ?_) rfl (by kernel_rfl) (by kernel_rfl) (by kernel_rfl) (fun _ _ _ h => h) (Or.inl ⟨by rfl, ?_⟩) (by assumption) ?_; rotate_left; (focus (intro w hSw; (try dsimp only at hSw); go_simp; try with_reducible rfl))
            try simp only [Act.put, List.getElem_toArray, List.getElem_cons_zero, List.getElem_cons_succ, List.setIfInBounds_toArray, List.set_cons_zero, List.set_cons_succ]
            refine wpAnyH_take (i := 8) (v := ?_) rfl (by kernel_rfl) (by kernel_rfl) (by kernel_rfl) (fun _ _ _ h => h) (Or.inl ⟨by rfl, ?_⟩) (by assumption) ?_; rotate_left; (focus (intro w hSw; (try dsimp only at hSw); go_simp; try with_reducible rfl))
            try simp only [Act.put, List.getElem_toArray, List.getElem_cons_zero, List.getElem_cons_succ, List.setIfInBounds_toArray, List.set_cons_zero, List.set_cons_succ]
            first | (refine wpAnyH_take (i := 9) rfl (by kernel_rfl) (by kernel_rfl) (by kernel_rfl) (fun _ _ _ h => h) (Or.inr ⟨by rfl, rfl⟩) (by assumption) ?_) | (refine wpAnyH_take (i := 9) (v := ?_) rfl (by kernel_rfl) (by kernel_rfl) (by kernel_rfl) (fun _ _ _ h => h) (Or.inl ⟨by rfl, ?_⟩) (by assumption) ?_; rotate_left; (focus (intro w hSw; (try dsimp only at hSw); go_simp; try with_reducible rfl)))
            try simp only [Act.put, List.getElem_toArray, List.getElem_cons_zero, List.getElem_cons_succ, List.setIfInBounds_toArray, List.set_cons_zero, List.set_cons_succ]
            first | (refine wpAnyH_take (i := 11) rfl (by kernel_rfl) (by kernel_rfl) (by kernel_rfl) (fun _ _ _ h => h) (Or.inr ⟨by rfl, rfl⟩) (by assumption) ?_) | (refine wpAnyH_take (i := 11) (v := ?_) rfl (by kernel_rfl) (by kernel_rfl) (by kernel_rfl) (fun _ _ _ h => h) (Or.inl ⟨by rfl, ?_⟩) (by assumption) ?_; rotate_left; (focus (intro w hSw; (try dsimp only at hSw); go_simp; try with_reducible rfl)))
            try simp only [Act.put, List.getElem_toArray, List.getElem_cons_zero, List.getElem_cons_succ, List.setIfInBounds_toArray, List.set_cons_zero, List.set_cons_succ]
            first | (refine wpAnyH_take (i := 12) rfl (by kernel_rfl) (by kernel_rfl) (by kernel_rfl) (fun _ _ _ h => h) (Or.inr ⟨by rfl, rfl⟩) (by assumption) ?_) | (refine wpAnyH_take (i := 12) (v := ?_) rfl (by kernel_rfl) (by kernel_rfl) (by kernel_rfl) (fun _ _ _ h => h) (Or.inl ⟨by rfl, ?_⟩) (by assumption) ?_; rotate_left; (focus (intro w hSw; (try dsimp only at hSw); go_simp; try with_reducible rfl)))
            try simp only [Act.put, List.getElem_toArray, List.getElem_cons_zero, List.getElem_cons_succ, List.setIfInBounds_toArray, List.set_cons_zero, List.set_cons_succ]
            first | (refine wpAnyH_take (i := 13) rfl (by kernel_rfl) (by kernel_rfl) (by kernel_rfl) (fun _ _ _ h => h) (Or.inr ⟨by rfl, rfl⟩) (by assumption) ?_) | (refine wpAnyH_take (i := 13) (v := ?_) rfl (by kernel_rfl) (by kernel_rfl) (by kernel_rfl) (fun _ _ _ h => h) (Or.inl ⟨by rfl, ?_⟩) (by assumption) ?_; rotate_left; (focus (intro w hSw; (try dsimp only at hSw); go_simp; try with_reducible rfl)))
            try simp only [Act.put, List.getElem_toArray, List.getElem_cons_zero, List.getElem_cons_succ, List.setIfInBounds_toArray, List.set_cons_zero, List.set_cons_succ]
            first | (refine wpAnyH_take (i := 14) rfl (by kernel_rfl) (by kernel_rfl) (by kernel_rfl) (fun _ _ _ h => h) (Or.inr ⟨by rfl, rfl⟩) (by assumption) ?_) | (refine wpAnyH_take (i := 14) (v := ?_) rfl (by kernel_rfl) (by kernel_rfl) (by kernel_rfl) (fun _ _ _ h => h) (Or.inl ⟨by rfl, ?_⟩) (by assumption) ?_; rotate_left; (focus (intro w hSw; (try dsimp only at hSw); go_simp; try with_reducible rfl)))
            try simp only [Act.put, List.getElem_toArray, List.getElem_cons_zero, List.getElem_cons_succ, List.setIfInBounds_toArray, List.set_cons_zero, List.set_cons_succ]
            refine wpAnyH_ready (rs := [10]) (by kernel_rfl) (by simp) ?_
            refine AllReadyH.cons rfl (fun K hK => ?_) AllReadyH.nil
            try simp only [List.getElem_toArray, List.getElem_cons_zero, List.getElem_cons_succ]
            go_simp
            (refine (md_now (HF.out.1.a.mat.only0 (by assumption))).mono ?_; rintro e u2 ⟨rfl, rfl⟩)
            try go_wp2_with fail
            refine hK.out _ _ ?_ (fun hHeld => ?_)
            · first | exact ⟨m2, m51, o1⟩ | exact KEEP.out _ (by assumption)
            clear hK K
            try simp only [Act.put, List.getElem_toArray, List.getElem_cons_zero, List.getElem_cons_succ, List.setIfInBounds_toArray, List.set_cons_zero, List.set_cons_succ]
            first | (refine wpAnyH_take (i := 15) rfl (by kernel_rfl) (by kernel_rfl) (by kernel_rfl) (fun _ _ _ h => h) (Or.inr ⟨by rfl, rfl⟩) (by assumption) ?_) | (refine wpAnyH_take (i := 15) (v := ?_) rfl (by kernel_rfl) (by kernel_rfl) (by kernel_rfl) (fun _ _ _ h => h) (Or.inl ⟨by rfl, ?_⟩) (by assumption) ?_; rotate_left; (focus (intro w hSw; (try dsimp only at hSw); go_simp; try with_reducible rfl)))
            try simp only [Act.put, List.getElem_toArray, List.getElem_cons_zero, List.getElem_cons_succ, List.setIfInBounds_toArray, List.set_cons_zero, List.set_cons_succ]
            refine wpAnyH_take (i := 16) (v := ?_) rfl (by kernel_rfl) (by kernel_rfl) (by kernel_rfl) (fun _ _ _ h => h) (Or.inl ⟨by rfl, ?_⟩) (by assumption) ?_; rotate_left; (focus (intro w hSw; (try dsimp only at hSw); go_simp; try with_reducible rfl))
            try simp only [Act.put, List.getElem_toArray, List.getElem_cons_zero, List.getElem_cons_succ, List.setIfInBounds_toArray, List.set_cons_zero, List.set_cons_succ]
            refine wpAnyH_take (i := 17) (v := ?_) rfl (by kernel_rfl) (by kernel_rfl) (by kernel_rfl) (fun _ _ _ h => h) (Or.inl ⟨by rfl, ?_⟩) (by assumption) ?_; rotate_left; (focus (intro w hSw; (try dsimp only at hSw); go_simp; try with_reducible rfl))
            try simp only [Act.put, List.getElem_toArray, List.getElem_cons_zero, List.getElem_cons_succ, List.setIfInBounds_toArray, List.set_cons_zero, List.set_cons_succ]
            first | (refine wpAnyH_take (i := 18) rfl (by kernel_rfl) (by kernel_rfl) (by kernel_rfl) (fun _ _ _ h => h) (Or.inr ⟨by rfl, rfl⟩) (by assumption) ?_) | (refine wpAnyH_take (i := 18) (v := ?_) rfl (by kernel_rfl) (by kernel_rfl) (by kernel_rfl) (fun _ _ _ h => h) (Or.inl ⟨by rfl, ?_⟩) (by assumption) ?_; rotate_left; (focus (intro w hSw; (try dsimp only at hSw); go_simp; try with_reducible rfl)))
            try simp only [Act.put, List.getElem_toArray, List.getElem_cons_zero, List.getElem_cons_succ, List.setIfInBounds_toArray, List.set_cons_zero, List.set_cons_succ]
            first | (refine wpAnyH_take (i := 20) rfl (by kernel_rfl) (by kernel_rfl) (by kernel_rfl) (fun _ _ _ h => h) (Or.inr ⟨by rfl, rfl⟩) (by assumption) ?_) | (refine wpAnyH_take (i := 20) (v := ?_) rfl (by kernel_rfl) (by kernel_rfl) (by kernel_rfl) (fun _ _ _ h => h) (Or.inl ⟨by rfl, ?_⟩) (by assumption) ?_; rotate_left; (focus (intro w hSw; (try dsimp only at hSw); go_simp; try with_reducible rfl)))
            try simp only [Act.put, List.getElem_toArray, List.getElem_cons_zero, List.getElem_cons_succ, List.setIfInBounds_toArray, List.set_cons_zero, List.set_cons_succ]
            refine wpAnyH_ready (rs := [19]) (by kernel_rfl) (by simp) ?_
            refine AllReadyH.cons rfl (fun K hK => ?_) AllReadyH.nil
            try simp only [List.getElem_toArray, List.getElem_cons_zero, List.getElem_cons_succ]
            go_simp
            (refine (md_live2 (HF.out.1.a.mat.only0 (by assumption))).mono ?_; rintro e u3 ⟨⟨la, lc, rfl, li, lf⟩, uo3⟩; have q3 := q0.trans uo3)
            try go_wp2_with fail
            refine hK.out _ _ ?_ (fun hHeld => ?_)
            · first | exact ⟨m2, m51, o1⟩ | exact KEEP.out _ (by assumption)
            clear hK K
            try simp only [Act.put, List.getElem_toArray, List.getElem_cons_zero, List.getElem_cons_succ, List.setIfInBounds_toArray, List.set_cons_zero, List.set_cons_succ]
            refine wpAnyH_ready (rs := [21]) (by kernel_rfl) (by simp) ?_
            refine AllReadyH.cons rfl (fun K hK => ?_) AllReadyH.nil
            try simp only [List.getElem_toArray, List.getElem_cons_zero, List.getElem_cons_succ]
            go_simp
            (refine (lr_rlive (HF.out.1.b.only0' (by assumption)) HF.out.2.1).mono ?_; rintro e u4 ⟨⟨ma, mc, rfl, mi, mf⟩, uo4⟩; have q4 := q3.trans uo4; have li4 := li.only uo4 (fun _ _ h => h))
            try go_wp2_with fail
            refine hK.out _ _ ?_ (fun hHeld => ?_)
            · first | exact ⟨m2, m51, o1⟩ | exact KEEP.out _ (by assumption)
            clear hK K
            try simp only [Act.put, List.getElem_toArray, List.getElem_cons_zero, List.getElem_cons_succ, List.setIfInBounds_toArray, List.set_cons_zero, List.set_cons_succ]
            refine wpAnyH_ready (rs := [22]) (by kernel_rfl) (by simp) ?_
            refine AllReadyH.cons rfl (fun K hK => ?_) AllReadyH.nil
            try simp only [List.getElem_toArray, List.getElem_cons_zero, List.getElem_cons_succ]
            go_simp
            (refine (sameInts_self la ma lc mc _ _ li4 mi (by have := live_8 s; omega)).mono ?_; rintro e u5 ⟨rfl, uo5⟩; have q5 := q4.trans uo5)
            try go_wp2_with fail
            refine hK.out _ _ ?_ (fun hHeld => ?_)
            · first | exact ⟨m2, m51, o1⟩ | exact KEEP.out _ (by assumption)
            clear hK K
            try simp only [Act.put, List.getElem_toArray, List.getElem_cons_zero, List.getElem_cons_succ, List.setIfInBounds_toArray, List.set_cons_zero, List.set_cons_succ]
            first | (refine wpAnyH_take (i := 23) rfl (by kernel_rfl) (by kernel_rfl) (by kernel_rfl) (fun _ _ _ h => h) (Or.inr ⟨by rfl, rfl⟩) (by assumption) ?_) | (refine wpAnyH_take (i := 23) (v := ?_) rfl (by kernel_rfl) (by kernel_rfl) (by kernel_rfl) (fun _ _ _ h => h) (Or.inl ⟨by rfl, ?_⟩) (by assumption) ?_; rotate_left; (focus (intro w hSw; (try dsimp only at hSw); go_simp; try with_reducible rfl)))
            try simp only [Act.put, List.getElem_toArray, List.getElem_cons_zero, List.getElem_cons_succ, List.setIfInBounds_toArray, List.set_cons_zero, List.set_cons_succ]
            refine wpAnyH_take (i := 24) (v := ?_) rfl (by kernel_rfl) (by kernel_rfl) (by kernel_rfl) (fun _ _ _ h => h) (Or.inl ⟨by rfl, ?_⟩) (by assumption) ?_; rotate_left; (focus (intro w hSw; (try dsimp only at hSw); go_simp; try with_reducible rfl))
            try simp only [Act.put, List.getElem_toArray, List.getElem_cons_zero, List.getElem_cons_succ, List.setIfInBounds_toArray, List.set_cons_zero, List.set_cons_succ]
            refine wpAnyH_take (i := 25) (v := ?_) rfl (by kernel_rfl) (by kernel_rfl) (by kernel_rfl) (fun _ _ _ h => h) (Or.inl ⟨by rfl, ?_⟩) (by assumption) ?_; rotate_left; (focus (intro w hSw; (try dsimp only at hSw); go_simp; try with_reducible rfl))
            try simp only [Act.put, List.getElem_toArray, List.getElem_cons_zero, List.getElem_cons_succ, List.setIfInBounds_toArray, List.set_cons_zero, List.set_cons_succ]
            first | (refine wpAnyH_take (i := 26) rfl (by kernel_rfl) (by kernel_rfl) (by kernel_rfl) (fun _ _ _ h => h) (Or.inr ⟨by rfl, rfl⟩) (by assumption) ?_) | (refine wpAnyH_take (i := 26) (v := ?_) rfl (by kernel_rfl) (by kernel_rfl) (by kernel_rfl) (fun _ _ _ h => h) (Or.inl ⟨by rfl, ?_⟩) (by assumption) ?_; rotate_left; (focus (intro w hSw; (try dsimp only at hSw); go_simp; try with_reducible rfl)))
            try simp only [Act.put, List.getElem_toArray, List.getElem_cons_zero, List.getElem_cons_succ, List.setIfInBounds_toArray, List.set_cons_zero, List.set_cons_succ]
            first | (refine wpAnyH_take (i := 27) rfl (by kernel_rfl) (by kernel_rfl) (by kernel_rfl) (fun _ _ _ h => h) (Or.inr ⟨by rfl, rfl⟩) (by assumption) ?_) | (refine wpAnyH_take (i := 27) (v := ?_) rfl (by kernel_rfl) (by kernel_rfl) (by kernel_rfl) (fun _ _ _ h => h) (Or.inl ⟨by rfl, ?_⟩) (by assumption) ?_; rotate_left; (focus (intro w hSw; (try dsimp only at hSw); go_simp; try with_reducible rfl)))
            try simp only [Act.put, List.getElem_toArray, List.getElem_cons_zero, List.getElem_cons_succ, List.setIfInBounds_toArray, List.set_cons_zero, List.set_cons_succ]
            first | (refine wpAnyH_take (i := 28) rfl (by kernel_rfl) (by kernel_rfl) (by kernel_rfl) (fun _ _ _ h => h) (Or.inr ⟨by rfl, rfl⟩) (by assumption) ?_) | (refine wpAnyH_take (i := 28) (v := ?_) rfl (by kernel_rfl) (by kernel_rfl) (by kernel_rfl) (fun _ _ _ h => h) (Or.inl ⟨by rfl, ?_⟩) (by assumption) ?_; rotate_left; (focus (intro w hSw; (try dsimp only at hSw); go_simp; try with_reducible rfl)))
            try simp only [Act.put, List.getElem_toArray, List.getElem_cons_zero, List.getElem_cons_succ, List.setIfInBounds_toArray, List.set_cons_zero, List.set_cons_succ]
            first | (refine wpAnyH_take (i := 30) rfl (by kernel_rfl) (by kernel_rfl) (by kernel_rfl) (fun _ _ _ h => h) (Or.inr ⟨by rfl, rfl⟩) (by assumption) ?_) | (refine wpAnyH_take (i := 30) (v := ?_) rfl (by kernel_rfl) (by kernel_rfl) (by kernel_rfl) (fun _ _ _ h => h) (Or.inl ⟨by rfl, ?_⟩) (by assumption) ?_; rotate_left; (focus (intro w hSw; (try dsimp only at hSw); go_simp; try with_reducible rfl)))
            try simp only [Act.put, List.getElem_toArray, List.getElem_cons_zero, List.getElem_cons_succ, List.setIfInBounds_toArray, List.set_cons_zero, List.set_cons_succ]
            first | (refine wpAnyH_take (i := 31) rfl (by kernel_rfl) (by kernel_rfl) (by kernel_rfl) (fun _ _ _ h => h) (Or.inr ⟨by rfl, rfl⟩) (by assumption) ?_) | (refine wpAnyH_take (i := 31) (v := ?_) rfl (by kernel_rfl) (by kernel_rfl) (by kernel_rfl) (fun _ _ _ h => h) (Or.inl ⟨by rfl, ?_⟩) (by assumption) ?_; rotate_left; (focus (intro w hSw; (try dsimp only at hSw); go_simp; try with_reducible rfl)))
            try simp only [Act.put, List.getElem_toArray, List.getElem_cons_zero, List.getElem_cons_succ, List.setIfInBounds_toArray, List.set_cons_zero, List.set_cons_succ]
            first | (refine wpAnyH_take (i := 32) rfl (by kernel_rfl) (by kernel_rfl) (by kernel_rfl) (fun _ _ _ h => h) (Or.inr ⟨by rfl, rfl⟩) (by assumption) ?_) | (refine wpAnyH_take (i := 32) (v := ?_) rfl (by kernel_rfl) (by kernel_rfl) (by kernel_rfl) (fun _ _ _ h => h) (Or.inl ⟨by rfl, ?_⟩) (by assumption) ?_; rotate_left; (focus (intro w hSw; (try dsimp only at hSw); go_simp; try with_reducible rfl)))
            try simp only [Act.put, List.getElem_toArray, List.getElem_cons_zero, List.getElem_cons_succ, List.setIfInBounds_toArray, List.set_cons_zero, List.set_cons_succ]
            refine wpAnyH_ready (rs := [29]) (by kernel_rfl) (by simp) ?_
            refine AllReadyH.cons rfl (fun K hK => ?_) AllReadyH.nil
            try simp only [List.getElem_toArray, List.getElem_cons_zero, List.getElem_cons_succ]
            go_simp
            (refine (md_statusR (HF.out.1.a.mat.only0 (by assumption)) HF.out.2.1 S).mono ?_; rw [HST.out]; rintro e u6 ⟨rfl, uo6⟩; have q6 := q5.trans uo6)
            try go_wp2_with fail
            refine hK.out _ _ ?_ (fun hHeld => ?_)
            · first | exact ⟨m2, m51, o1⟩ | exact KEEP.out _ (by assumption)
            clear hK K
            try simp only [Act.put, List.getElem_toArray, List.getElem_cons_zero, List.getElem_cons_succ, List.setIfInBounds_toArray, List.set_cons_zero, List.set_cons_succ]
            refine wpAnyH_ready (rs := [33]) (by kernel_rfl) (by simp) ?_
            refine AllReadyH.cons rfl (fun K hK => ?_) AllReadyH.nil
            try simp only [List.getElem_toArray, List.getElem_cons_zero, List.getElem_cons_succ]
            go_simp
            (refine (ref_status (HF.out.1.b.only0' (by assumption)) S).mono ?_; rw [HST.out]; rintro e u7 ⟨rfl, uo7⟩; have q7 := q6.trans uo7)
            try go_wp2_with fail
            refine hK.out _ _ ?_ (fun hHeld => ?_)
            · first | exact ⟨m2, m51, o1⟩ | exact KEEP.out _ (by assumption)
            clear hK K
            try simp only [Act.put, List.getElem_toArray, List.getElem_cons_zero, List.getElem_cons_succ, List.setIfInBounds_toArray, List.set_cons_zero, List.set_cons_succ]
            first | (refine wpAnyH_take (i := 34) rfl (by kernel_rfl) (by kernel_rfl) (by kernel_rfl) (fun _ _ _ h => h) (Or.inr ⟨by rfl, rfl⟩) (by assumption) ?_) | (refine wpAnyH_take (i := 34) (v := ?_) rfl (by kernel_rfl) (by kernel_rfl) (by kernel_rfl) (fun _ _ _ h => h) (Or.inl ⟨by rfl, ?_⟩) (by assumption) ?_; rotate_left; (focus (intro w hSw; (try dsimp only at hSw); go_simp; try with_reducible rfl)))
            try simp only [Act.put, List.getElem_toArray, List.getElem_cons_zero, List.getElem_cons_succ, List.setIfInBounds_toArray, List.set_cons_zero, List.set_cons_succ]
            refine wpAnyH_take (i := 35) (v := ?_) rfl (by kernel_rfl) (by kernel_rfl) (by kernel_rfl) (fun _ _ _ h => h) (Or.inl ⟨by rfl, ?_⟩) (by assumption) ?_; rotate_left; (focus (intro w hSw; (try dsimp only at hSw); go_simp; try with_reducible rfl))
            try simp only [Act.put, List.getElem_toArray, List.getElem_cons_zero, List.getElem_cons_succ, List.setIfInBounds_toArray, List.set_cons_zero, List.set_cons_succ]
            refine wpAnyH_take (i := 36) (v := ?_) rfl (by kernel_rfl) (by kernel_rfl) (by kernel_rfl) (fun _ _ _ h => h) (Or.inl ⟨by rfl, ?_⟩) (by assumption) ?_; rotate_left; (focus (intro w hSw; (try dsimp only at hSw); go_simp; try with_reducible rfl))
            try simp only [Act.put, List.getElem_toArray, List.getElem_cons_zero, List.getElem_cons_succ, List.setIfInBounds_toArray, List.set_cons_zero, List.set_cons_succ]
            first | (refine wpAnyH_take (i := 37) rfl (by kernel_rfl) (by kernel_rfl) (by kernel_rfl) (fun _ _ _ h => h) (Or.inr ⟨by rfl, rfl⟩) (by assumption) ?_) | (refine wpAnyH_take (i := 37) (v := ?_) rfl (by kernel_rfl) (by kernel_rfl) (by kernel_rfl) (fun _ _ _ h => h) (Or.inl ⟨by rfl, ?_⟩) (by assumption) ?_; rotate_left; (focus (intro w hSw; (try dsimp only at hSw); go_simp; try with_reducible rfl)))
            try simp only [Act.put, List.getElem_toArray, List.getElem_cons_zero, List.getElem_cons_succ, List.setIfInBounds_toArray, List.set_cons_zero, List.set_cons_succ]
            first | (refine wpAnyH_take (i := 38) rfl (by kernel_rfl) (by kernel_rfl) (by kernel_rfl) (fun _ _ _ h => h) (Or.inr ⟨by rfl, rfl⟩) (by assumption) ?_) | (refine wpAnyH_take (i := 38) (v := ?_) rfl (by kernel_rfl) (by kernel_rfl) (by kernel_rfl) (fun _ _ _ h => h) (Or.inl ⟨by rfl, ?_⟩) (by assumption) ?_; rotate_left; (focus (intro w hSw; (try dsimp only at hSw); go_simp; try with_reducible rfl)))
            try simp only [Act.put, List.getElem_toArray, List.getElem_cons_zero, List.getElem_cons_succ, List.setIfInBounds_toArray, List.set_cons_zero, List.set_cons_succ]
            first | (refine wpAnyH_take (i := 39) rfl (by kernel_rfl) (by kernel_rfl) (by kernel_rfl) (fun _ _ _ h => h) (Or.inr ⟨by rfl, rfl⟩) (by assumption) ?_) | (refine wpAnyH_take (i := 39) (v := ?_) rfl (by kernel_rfl) (by kernel_rfl) (by kernel_rfl) (fun _ _ _ h => h) (Or.inl ⟨by rfl, ?_⟩) (by assumption) ?_; rotate_left; (focus (intro w hSw; (try dsimp only at hSw); go_simp; try with_reducible rfl)))
            try simp only [Act.put, List.getElem_toArray, List.getElem_cons_zero, List.getElem_cons_succ, List.setIfInBounds_toArray, List.set_cons_zero, List.set_cons_succ]
            first | (refine wpAnyH_take (i := 40) rfl (by kernel_rfl) (by kernel_rfl) (by kernel_rfl) (fun _ _ _ h => h) (Or.inr ⟨by rfl, rfl⟩) (by assumption) ?_) | (refine wpAnyH_take (i := 40) (v := ?_) rfl (by kernel_rfl) (by kernel_rfl) (by kernel_rfl) (fun _ _ _ h => h) (Or.inl ⟨by rfl, ?_⟩) (by assumption) ?_; rotate_left; (focus (intro w hSw; (try dsimp only at hSw); go_simp; try with_reducible rfl)))
            try simp only [Act.put, List.getElem_toArray, List.getElem_cons_zero, List.getElem_cons_succ, List.setIfInBounds_toArray, List.set_cons_zero, List.set_cons_succ]
            first | (refine wpAnyH_take (i := 41) rfl (by kernel_rfl) (by kernel_rfl) (by kernel_rfl) (fun _ _ _ h => h) (Or.inr ⟨by rfl, rfl⟩) (by assumption) ?_) | (refine wpAnyH_take (i := 41) (v := ?_) rfl (by kernel_rfl) (by kernel_rfl) (by kernel_rfl) (fun _ _ _ h => h) (Or.inl ⟨by rfl, ?_⟩) (by assumption) ?_; rotate_left; (focus (intro w hSw; (try dsimp only at hSw); go_simp; try with_reducible rfl)))
            try simp only [Act.put, List.getElem_toArray, List.getElem_cons_zero, List.getElem_cons_succ, List.setIfInBounds_toArray, List.set_cons_zero, List.set_cons_succ]
            first | (refine wpAnyH_take (i := 42) rfl (by kernel_rfl) (by kernel_rfl) (by kernel_rfl) (fun _ _ _ h => h) (Or.inr ⟨by rfl, rfl⟩) (by assumption) ?_) | (refine wpAnyH_take (i := 42) (v := ?_) rfl (by kernel_rfl) (by kernel_rfl) (by kernel_rfl) (fun _ _ _ h => h) (Or.inl ⟨by rfl, ?_⟩) (by assumption) ?_; rotate_left; (focus (intro w hSw; (try dsimp only at hSw); go_simp; try with_reducible rfl)))
            try simp only [Act.put, List.getElem_toArray, List.getElem_cons_zero, List.getElem_cons_succ, List.setIfInBounds_toArray, List.set_cons_zero, List.set_cons_succ]
            first | (refine wpAnyH_take (i := 43) rfl (by kernel_rfl) (by kernel_rfl) (by kernel_rfl) (fun _ _ _ h => h) (Or.inr ⟨by rfl, rfl⟩) (by assumption) ?_) | (refine wpAnyH_take (i := 43) (v := ?_) rfl (by kernel_rfl) (by kernel_rfl) (by kernel_rfl) (fun _ _ _ h => h) (Or.inl ⟨by rfl, ?_⟩) (by assumption) ?_; rotate_left; (focus (intro w hSw; (try dsimp only at hSw); go_simp; try with_reducible rfl)))
            try simp only [Act.put, List.getElem_toArray, List.getElem_cons_zero, List.getElem_cons_succ, List.setIfInBounds_toArray, List.set_cons_zero, List.set_cons_succ]
            first | (refine wpAnyH_take (i := 44) rfl (by kernel_rfl) (by kernel_rfl) (by kernel_rfl) (fun _ _ _ h => h) (Or.inr ⟨by rfl, rfl⟩) (by assumption) ?_) | (refine wpAnyH_take (i := 44) (v := ?_) rfl (by kernel_rfl) (by kernel_rfl) (by kernel_rfl) (fun _ _ _ h => h) (Or.inl ⟨by rfl, ?_⟩) (by assumption) ?_; rotate_left; (focus (intro w hSw; (try dsimp only at hSw); go_simp; try with_reducible rfl)))
            try simp only [Act.put, List.getElem_toArray, List.getElem_cons_zero, List.getElem_cons_succ, List.setIfInBounds_toArray, List.set_cons_zero, List.set_cons_succ]
            first | (refine wpAnyH_take (i := 45) rfl (by kernel_rfl) (by kernel_rfl) (by kernel_rfl) (fun _ _ _ h => h) (Or.inr ⟨by rfl, rfl⟩) (by assumption) ?_) | (refine wpAnyH_take (i := 45) (v := ?_) rfl (by kernel_rfl) (by kernel_rfl) (by kernel_rfl) (fun _ _ _ h => h) (Or.inl ⟨by rfl, ?_⟩) (by assumption) ?_; rotate_left; (focus (intro w hSw; (try dsimp only at hSw); go_simp; try with_reducible rfl)))
            try simp only [Act.put, List.getElem_toArray, List.getElem_cons_zero, List.getElem_cons_succ, List.setIfInBounds_toArray, List.set_cons_zero, List.set_cons_succ]
            first | (refine wpAnyH_take (i := 47) rfl (by kernel_rfl) (by kernel_rfl) (by kernel_rfl) (fun _ _ _ h => h) (Or.inr ⟨by rfl, rfl⟩) (by assumption) ?_) | (refine wpAnyH_take (i := 47) (v := ?_) rfl (by kernel_rfl) (by kernel_rfl) (by kernel_rfl) (fun _ _ _ h => h) (Or.inl ⟨by rfl, ?_⟩) (by assumption) ?_; rotate_left; (focus (intro w hSw; (try dsimp only at hSw); go_simp; try with_reducible rfl)))
            try simp only [Act.put, List.getElem_toArray, List.getElem_cons_zero, List.getElem_cons_succ, List.setIfInBounds_toArray, List.set_cons_zero, List.set_cons_succ]
            first | (refine wpAnyH_take (i := 48) rfl (by kernel_rfl) (by kernel_rfl) (by kernel_rfl) (fun _ _ _ h => h) (Or.inr ⟨by rfl, rfl⟩) (by assumption) ?_) | (refine wpAnyH_take (i := 48) (v := ?_) rfl (by kernel_rfl) (by kernel_rfl) (by kernel_rfl) (fun _ _ _ h => h) (Or.inl ⟨by rfl, ?_⟩) (by assumption) ?_; rotate_left; (focus (intro w hSw; (try dsimp only at hSw); go_simp; try with_reducible rfl)))
            try simp only [Act.put, List.getElem_toArray, List.getElem_cons_zero, List.getElem_cons_succ, List.setIfInBounds_toArray, List.set_cons_zero, List.set_cons_succ]
            first | (refine wpAnyH_take (i := 49) rfl (by kernel_rfl) (by kernel_rfl) (by kernel_rfl) (fun _ _ _ h => h) (Or.inr ⟨by rfl, rfl⟩) (by assumption) ?_) | (refine wpAnyH_take (i := 49) (v := ?_) rfl (by kernel_rfl) (by kernel_rfl) (by kernel_rfl) (fun _ _ _ h => h) (Or.inl ⟨by rfl, ?_⟩) (by assumption) ?_; rotate_left; (focus (intro w hSw; (try dsimp only at hSw); go_simp; try with_reducible rfl)))
            try simp only [Act.put, List.getElem_toArray, List.getElem_cons_zero, List.getElem_cons_succ, List.setIfInBounds_toArray, List.set_cons_zero, List.set_cons_succ]
            first | (refine wpAnyH_take (i := 50) rfl (by kernel_rfl) (by kernel_rfl) (by kernel_rfl) (fun _ _ _ h => h) (Or.inr ⟨by rfl, rfl⟩) (by assumption) ?_) | (refine wpAnyH_take (i := 50) (v := ?_) rfl (by kernel_rfl) (by kernel_rfl) (by kernel_rfl) (fun _ _ _ h => h) (Or.inl ⟨by rfl, ?_⟩) (by assumption) ?_; rotate_left; (focus (intro w hSw; (try dsimp only at hSw); go_simp; try with_reducible rfl)))
            try simp only [Act.put, List.getElem_toArray, List.getElem_cons_zero, List.getElem_cons_succ, List.setIfInBounds_toArray, List.set_cons_zero, List.set_cons_succ]
            first | (refine wpAnyH_take (i := 51) rfl (by kernel_rfl) (by kernel_rfl) (by kernel_rfl) (fun _ _ _ h => h) (Or.inr ⟨by rfl, rfl⟩) (by assumption) ?_) | (refine wpAnyH_take (i := 51) (v := ?_) rfl (by kernel_rfl) (by kernel_rfl) (by kernel_rfl) (fun _ _ _ h => h) (Or.inl ⟨by rfl, ?_⟩) (by assumption) ?_; rotate_left; (focus (intro w hSw; (try dsimp only at hSw); go_simp; try with_reducible rfl)))
            try simp only [Act.put, List.getElem_toArray, List.getElem_cons_zero, List.getElem_cons_succ, List.setIfInBounds_toArray, List.set_cons_zero, List.set_cons_succ]
            refine wpAnyH_ready (rs := [46]) (by kernel_rfl) (by simp) ?_
            refine AllReadyH.cons rfl (fun K hK => ?_) AllReadyH.nil
            try simp only [List.getElem_toArray, List.getElem_cons_zero, List.getElem_cons_succ]
            go_simp
            (refine (md_pairs (HF.out.1.a.mat.only0 (by assumption)) _).mono ?_; rintro e u8 ⟨⟨pa, pc, rfl, pi, pf⟩, uo8⟩; have q8 := q7.trans uo8)
            try go_wp2_with fail
            refine hK.out _ _ ?_ (fun hHeld => ?_)
            · first | exact ⟨m2, m51, o1⟩ | exact KEEP.out _ (by assumption)
            clear hK K
            try simp only [Act.put, List.getElem_toArray, List.getElem_cons_zero, List.getElem_cons_succ, List.setIfInBounds_toArray, List.set_cons_zero, List.set_cons_succ]
            refine wpAnyH_ready (rs := [52]) (by kernel_rfl) (by simp) ?_
            refine AllReadyH.cons rfl (fun K hK => ?_) AllReadyH.nil
            try simp only [List.getElem_toArray, List.getElem_cons_zero, List.getElem_cons_succ]
            go_simp
            (refine (lr_rpairs (HF.out.1.b.only0' (by assumption)) HF.out.2.1 _).mono ?_; rintro e u9 ⟨⟨xa, xc, rfl, xi, xf⟩, uo9⟩; have q9 := q8.trans uo9; have pi9 := pi.only uo9 (fun _ _ h => h))
            try go_wp2_with fail
            refine hK.out _ _ ?_ (fun hHeld => ?_)
            · first | exact ⟨m2, m51, o1⟩ | exact KEEP.out _ (by assumption)
            clear hK K
            try simp only [Act.put, List.getElem_toArray, List.getElem_cons_zero, List.getElem_cons_succ, List.setIfInBounds_toArray, List.set_cons_zero, List.set_cons_succ]
            refine wpAnyH_ready (rs := [53]) (by kernel_rfl) (by simp) ?_
            refine AllReadyH.cons rfl (fun K hK => ?_) AllReadyH.nil
            try simp only [List.getElem_toArray, List.getElem_cons_zero, List.getElem_cons_succ]
            go_simp
            (refine (samePairs_self pa xa pc xc _ _ pi9 xi (Nat.le_trans (pairs_64 s _) (by decide))).mono ?_; rintro e u10 ⟨rfl, uo10⟩; have q10 := q9.trans uo10)
            try go_wp2_with fail
            refine hK.out _ _ ?_ (fun hHeld => ?_)
            · first | exact ⟨m2, m51, o1⟩ | exact KEEP.out _ (by assumption)
            clear hK K
            try simp only [Act.put, List.getElem_toArray, List.getElem_cons_zero, List.getElem_cons_succ, List.setIfInBounds_toArray, List.set_cons_zero, List.set_cons_succ]
            first | (refine wpAnyH_take (i := 54) rfl (by kernel_rfl) (by kernel_rfl) (by kernel_rfl) (fun _ _ _ h => h) (Or.inr ⟨by rfl, rfl⟩) (by assumption) ?_) | (refine wpAnyH_take (i := 54) (v := ?_) rfl (by kernel_rfl) (by kernel_rfl) (by kernel_rfl) (fun _ _ _ h => h) (Or.inl ⟨by rfl, ?_⟩) (by assumption) ?_; rotate_left; (focus (intro w hSw; (try dsimp only at hSw); go_simp; try with_reducible rfl)))
            try simp only [Act.put, List.getElem_toArray, List.getElem_cons_zero, List.getElem_cons_succ, List.setIfInBounds_toArray, List.set_cons_zero, List.set_cons_succ]
            first | (refine wpAnyH_take (i := 55) rfl (by kernel_rfl) (by kernel_rfl) (by kernel_rfl) (fun _ _ _ h => h) (Or.inr ⟨by rfl, rfl⟩) (by assumption) ?_) | (refine wpAnyH_take (i := 55) (v := ?_) rfl (by kernel_rfl) (by kernel_rfl) (by kernel_rfl) (fun _ _ _ h => h) (Or.inl ⟨by rfl, ?_⟩) (by assumption) ?_; rotate_left; (focus (intro w hSw; (try dsimp only at hSw); go_simp; try with_reducible rfl)))
            try simp only [Act.put, List.getElem_toArray, List.getElem_cons_zero, List.getElem_cons_succ, List.setIfInBounds_toArray, List.set_cons_zero, List.set_cons_succ]
            refine wpAnyH_take (i := 56) (v := ?_) rfl (by kernel_rfl) (by kernel_rfl) (by kernel_rfl) (fun _ _ _ h => h) (Or.inl ⟨by rfl, ?_⟩) (by assumption) ?_; rotate_left; (focus (intro w hSw; (try dsimp only at hSw); go_simp; try with_reducible rfl))
            try simp only [Act.put, List.getElem_toArray, List.getElem_cons_zero, List.getElem_cons_succ, List.setIfInBounds_toArray, List.set_cons_zero, List.set_cons_succ]
            refine wpAnyH_done (by kernel_rfl) ?_ _
            have HG : Hid (∃ P s Q r, LR2 w u10 P m s Q n r ∧ Sim s r) := Lib.hid ⟨_, _, _, _, HF.out.1.only0 q10, HF.out.2.1⟩
            clear HF KEEP
            go_wp2_with fail
            go_roundw
            case rel => exact ⟨q + 1, _, _, _, _, _, _, _, _, _, rfl, rfl, rfl, rfl, rfl, rfl, rfl, rfl, rfl, by go_num, by omega, by omega, HG⟩
            case measure => simp [intOf] <;> omega
          · have e4 : ((q : Int).tmod 4 == 0) = false := by
              rw [show (q : Int).tmod 4 = ((q % 4 : Nat) : Int) from rfl]
              simp; omega
            clear h4
            go_wp2_with fail
            refine wp_region_held_drew (S := (fun w' => w'.cell? ⟨n, 2, none⟩ = some (.slice va s.l.length vc) ∧ w'.cell? ⟨n, 51, none⟩ = some (.int .u64 s.now) ∧ w'.cell? ⟨ob, 1, none⟩ = some (.int .i64 S))) (by kernel_rfl) ?_ (fun hHeld => ?_)
            · first | exact ⟨m2, m51, o1⟩ | exact KEEP.out _ (by assumption)
            refine wpAnyH_take (i := 0) (v := ?_) rfl (by kernel_rfl) (by kernel_rfl) (by kernel_rfl) (fun _ _ _ h => h) (Or.inl ⟨by rfl, ?_⟩) (by assumption) ?_; rotate_left; (focus (intro w hSw; (try dsimp only at hSw); go_simp; try with_reducible rfl))
            try simp only [Act.put, List.getElem_toArray, List.getElem_cons_zero, List.getElem_cons_succ, List.setIfInBounds_toArray, List.set_cons_zero, List.set_cons_succ]
            refine wpAnyH_take (i := 2) (v := ?_) rfl (by kernel_rfl) (by kernel_rfl) (by kernel_rfl) (fun _ _ _ h => h) (Or.inl ⟨by rfl, ?_⟩) (by assumption) ?_; rotate_left; (focus (intro w hSw; (try dsimp only at hSw); go_simp; try with_reducible rfl))
            try simp only [Act.put, List.getElem_toArray, List.getElem_cons_zero, List.getElem_cons_succ, List.setIfInBounds_toArray, List.set_cons_zero, List.set_cons_succ]
            refine wpAnyH_take (i := 3) (v := ?_) rfl (by kernel_rfl) (by kernel_rfl) (by kernel_rfl) (fun _ _ _ h => h) (Or.inl ⟨by rfl, ?_⟩) (by assumption) ?_; rotate_left; (focus (intro w hSw; (try dsimp only at hSw); go_simp; try with_reducible rfl))
            try simp only [Act.put, List.getElem_toArray, List.getElem_cons_zero, List.getElem_cons_succ, List.setIfInBounds_toArray, List.set_cons_zero, List.set_cons_succ]
            refine wpAnyH_take (i := 4) (v := ?_) rfl (by kernel_rfl) (by kernel_rfl) (by kernel_rfl) (fun _ _ _ h => h) (Or.inl ⟨by rfl, ?_⟩) (by assumption) ?_; rotate_left; (focus (intro w hSw; (try dsimp only at hSw); go_simp; try with_reducible rfl))
            try simp only [Act.put, List.getElem_toArray, List.getElem_cons_zero, List.getElem_cons_succ, List.setIfInBounds_toArray, List.set_cons_zero, List.set_cons_succ]
            refine wpAnyH_take (i := 5) (v := ?_) rfl (by kernel_rfl) (by kernel_rfl) (by kernel_rfl) (fun _ _ _ h => h) (Or.inl ⟨by rfl, ?_⟩) (by assumption) ?_; rotate_left; (focus (intro w hSw; (try dsimp only at hSw); go_simp; try with_reducible rfl))
            try simp only [Act.put, List.getElem_toArray, List.getElem_cons_zero, List.getElem_cons_succ, List.setIfInBounds_toArray, List.set_cons_zero, List.set_cons_succ]
            refine wpAnyH_take (i := 6) (v := ?_) rfl (by kernel_rfl) (by kernel_rfl) (by kernel_rfl) (fun _ _ _ h => h) (Or.inl ⟨by rfl, ?_⟩) (by assumption) ?_; rotate_left; (focus (intro w hSw; (try dsimp only at hSw); go_simp; try with_reducible rfl))
            try simp only [Act.put, List.getElem_toArray, List.getElem_cons_zero, List.getElem_cons_succ, List.setIfInBounds_toArray, List.set_cons_zero, List.set_cons_succ]
            refine wpAnyH_ready (rs := [1]) (by kernel_rfl) (by simp) ?_
            refine AllReadyH.cons rfl (fun K hK => ?_) AllReadyH.nil
            try simp only [List.getElem_toArray, List.getElem_cons_zero, List.getElem_cons_succ]
            go_simp
            (refine (md_used (HF.out.1.a.mat.only0 (by assumption))).mono ?_; rintro e u1 ⟨rfl, rfl⟩)
            try go_wp2_with fail
            refine hK.out _ _ ?_ (fun hHeld => ?_)
            · first | exact ⟨m2, m51, o1⟩ | exact KEEP.out _ (by assumption)
            clear hK K
            try simp only [Act.put, List.getElem_toArray, List.getElem_cons_zero, List.getElem_cons_succ, List.setIfInBounds_toArray, List.set_cons_zero, List.set_cons_succ]
            refine wpAnyH_take (i := 7) (v := ?_) rfl (by kernel_rfl) (by kernel_rfl) (by kernel_rfl) (fun _ _ _ h => h) (Or.inl ⟨by rfl, ?_⟩) (by assumption) ?_; rotate_left; (focus (intro w hSw; (try dsimp only at hSw); go_simp; try with_reducible rfl))
            try simp only [Act.put, List.getElem_toArray, List.getElem_cons_zero, List.getElem_cons_succ, List.setIfInBounds_toArray, List.set_cons_zero, List.set_cons_succ]
            refine wpAnyH_take (i := 8) (v := ?_) rfl (by kernel_rfl) (by kernel_rfl) (by kernel_rfl) (fun _ _ _ h => h) (Or.inl ⟨by rfl, ?_⟩) (by assumption) ?_; rotate_left; (focus (intro w hSw; (try dsimp only at hSw); go_simp; try with_reducible rfl))
            try simp only [Act.put, List.getElem_toArray, List.getElem_cons_zero, List.getElem_cons_succ, List.setIfInBounds_toArray, List.set_cons_zero, List.set_cons_succ]
            first | (refine wpAnyH_take (i := 9) rfl (by kernel_rfl) (by kernel_rfl) (by kernel_rfl) (fun _ _ _ h => h) (Or.inr ⟨by rfl, rfl⟩) (by assumption) ?_) | (refine wpAnyH_take (i := 9) (v := ?_) rfl (by kernel_rfl) (by kernel_rfl) (by kernel_rfl) (fun _ _ _ h => h) (Or.inl ⟨by rfl, ?_⟩) (by assumption) ?_; rotate_left; (focus (intro w hSw; (try dsimp only at hSw); go_simp; try with_reducible rfl)))
            try simp only [Act.put, List.getElem_toArray, List.getElem_cons_zero, List.getElem_cons_succ, List.setIfInBounds_toArray, List.set_cons_zero, List.set_cons_succ]
            first | (refine wpAnyH_take (i := 11) rfl (by kernel_rfl) (by kernel_rfl) (by kernel_rfl) (fun _ _ _ h => h) (Or.inr ⟨by rfl, rfl⟩) (by assumption) ?_) | (refine wpAnyH_take (i := 11) (v := ?_) rfl (by kernel_rfl) (by kernel_rfl) (by kernel_rfl) (fun _ _ _ h => h) (Or.inl ⟨by rfl, ?_⟩) (by assumption) ?_; rotate_left; (focus (intro w hSw; (try dsimp only at hSw); go_simp; try with_reducible rfl)))
            try simp only [Act.put, List.getElem_toArray, List.getElem_cons_zero, List.getElem_cons_succ, List.setIfInBounds_toArray, List.set_cons_zero, List.set_cons_succ]
            first | (refine wpAnyH_take (i := 12) rfl (by kernel_rfl) (by kernel_rfl) (by kernel_rfl) (fun _ _ _ h => h) (Or.inr ⟨by rfl, rfl⟩) (by assumption) ?_) | (refine wpAnyH_take (i := 12) (v := ?_) rfl (by kernel_rfl) (by kernel_rfl) (by kernel_rfl) (fun _ _ _ h => h) (Or.inl ⟨by rfl, ?_⟩) (by assumption) ?_; rotate_left; (focus (intro w hSw; (try dsimp only at hSw); go_simp; try with_reducible rfl)))
            try simp only [Act.put, List.getElem_toArray, List.getElem_cons_zero, List.getElem_cons_succ, List.setIfInBounds_toArray, List.set_cons_zero, List.set_cons_succ]
            first | (refine wpAnyH_take (i := 13) rfl (by kernel_rfl) (by kernel_rfl) (by kernel_rfl) (fun _ _ _ h => h) (Or.inr ⟨by rfl, rfl⟩) (by assumption) ?_) | (refine wpAnyH_take (i := 13) (v := ?_) rfl (by kernel_rfl) (by kernel_rfl) (by kernel_rfl) (fun _ _ _ h => h) (Or.inl ⟨by rfl, ?_⟩) (by assumption) ?_; rotate_left; (focus (intro w hSw; (try dsimp only at hSw); go_simp; try with_reducible rfl)))
            try simp only [Act.put, List.getElem_toArray, List.getElem_cons_zero, List.getElem_cons_succ, List.setIfInBounds_toArray, List.set_cons_zero, List.set_cons_succ]
            first | (refine wpAnyH_take (i := 14) rfl (by kernel_rfl) (by kernel_rfl) (by kernel_rfl) (fun _ _ _ h => h) (Or.inr ⟨by rfl, rfl⟩) (by assumption) ?_) | (refine wpAnyH_take (i := 14) (v := ?_) rfl (by kernel_rfl) (by kernel_rfl) (by kernel_rfl) (fun _ _ _ h => h) (Or.inl ⟨by rfl, ?_⟩) (by assumption) ?_; rotate_left; (focus (intro w hSw; (try dsimp only at hSw); go_simp; try with_reducible rfl)))
            try simp only [Act.put, List.getElem_toArray, List.getElem_cons_zero, List.getElem_cons_succ, List.setIfInBounds_toArray, List.set_cons_zero, List.set_cons_succ]
            refine wpAnyH_ready (rs := [10]) (by kernel_rfl) (by simp) ?_
            refine AllReadyH.cons rfl (fun K hK => ?_) AllReadyH.nil
            try simp only [List.getElem_toArray, List.getElem_cons_zero, List.getElem_cons_succ]
            go_simp
            (refine (md_now (HF.out.1.a.mat.only0 (by assumption))).mono ?_; rintro e u2 ⟨rfl, rfl⟩)
            try go_wp2_with fail
            refine hK.out _ _ ?_ (fun hHeld => ?_)
            · first | exact ⟨m2, m51, o1⟩ | exact KEEP.out _ (by assumption)
            clear hK K
            try simp only [Act.put, List.getElem_toArray, List.getElem_cons_zero, List.getElem_cons_succ, List.setIfInBounds_toArray, List.set_cons_zero, List.set_cons_succ]
            first | (refine wpAnyH_take (i := 15) rfl (by kernel_rfl) (by kernel_rfl) (by kernel_rfl) (fun _ _ _ h => h) (Or.inr ⟨by rfl, rfl⟩) (by assumption) ?_) | (refine wpAnyH_take (i := 15) (v := ?_) rfl (by kernel_rfl) (by kernel_rfl) (by kernel_rfl) (fun _ _ _ h => h) (Or.inl ⟨by rfl, ?_⟩) (by assumption) ?_; rotate_left; (focus (intro w hSw; (try dsimp only at hSw); go_simp; try with_reducible rfl)))
            try simp only [Act.put, List.getElem_toArray, List.getElem_cons_zero, List.getElem_cons_succ, List.setIfInBounds_toArray, List.set_cons_zero, List.set_cons_succ]
            refine wpAnyH_take (i := 16) (v := ?_) rfl (by kernel_rfl) (by kernel_rfl) (by kernel_rfl) (fun _ _ _ h => h) (Or.inl ⟨by rfl, ?_⟩) (by assumption) ?_; rotate_left; (focus (intro w hSw; (try dsimp only at hSw); go_simp; try with_reducible rfl))
            try simp only [Act.put, List.getElem_toArray, List.getElem_cons_zero, List.getElem_cons_succ, List.setIfInBounds_toArray, List.set_cons_zero, List.set_cons_succ]
            refine wpAnyH_take (i := 17) (v := ?_) rfl (by kernel_rfl) (by kernel_rfl) (by kernel_rfl) (fun _ _ _ h => h) (Or.inl ⟨by rfl, ?_⟩) (by assumption) ?_; rotate_left; (focus (intro w hSw; (try dsimp only at hSw); go_simp; try with_reducible rfl))
            try simp only [Act.put, List.getElem_toArray, List.getElem_cons_zero, List.getElem_cons_succ, List.setIfInBounds_toArray, List.set_cons_zero, List.set_cons_succ]
            first | (refine wpAnyH_take (i := 18) rfl (by kernel_rfl) (by kernel_rfl) (by kernel_rfl) (fun _ _ _ h => h) (Or.inr ⟨by rfl, rfl⟩) (by assumption) ?_) | (refine wpAnyH_take (i := 18) (v := ?_) rfl (by kernel_rfl) (by kernel_rfl) (by kernel_rfl) (fun _ _ _ h => h) (Or.inl ⟨by rfl, ?_⟩) (by assumption) ?_; rotate_left; (focus (intro w hSw; (try dsimp only at hSw); go_simp; try with_reducible rfl)))
            try simp only [Act.put, List.getElem_toArray, List.getElem_cons_zero, List.getElem_cons_succ, List.setIfInBounds_toArray, List.set_cons_zero, List.set_cons_succ]
            first | (refine wpAnyH_take (i := 20) rfl (by kernel_rfl) (by kernel_rfl) (by kernel_rfl) (fun _ _ _ h => h) (Or.inr ⟨by rfl, rfl⟩) (by assumption) ?_) | (refine wpAnyH_take (i := 20) (v := ?_) rfl (by kernel_rfl) (by kernel_rfl) (by kernel_rfl) (fun _ _ _ h => h) (Or.inl ⟨by rfl, ?_⟩) (by assumption) ?_; rotate_left; (focus (intro w hSw; (try dsimp only at hSw); go_simp; try with_reducible rfl)))
            try simp only [Act.put, List.getElem_toArray, List.getElem_cons_zero, List.getElem_cons_succ, List.setIfInBounds_toArray, List.set_cons_zero, List.set_cons_succ]
            refine wpAnyH_ready (rs := [19]) (by kernel_rfl) (by simp) ?_
            refine AllReadyH.cons rfl (fun K hK => ?_) AllReadyH.nil
            try simp only [List.getElem_toArray, List.getElem_cons_zero, List.getElem_cons_succ]
            go_simp
            (refine (md_live2 (HF.out.1.a.mat.only0 (by assumption))).mono ?_; rintro e u3 ⟨⟨la, lc, rfl, li, lf⟩, uo3⟩; have q3 := q0.trans uo3)
            try go_wp2_with fail
            refine hK.out _ _ ?_ (fun hHeld => ?_)
            · first | exact ⟨m2, m51, o1⟩ | exact KEEP.out _ (by assumption)
            clear hK K
            try simp only [Act.put, List.getElem_toArray, List.getElem_cons_zero, List.getElem_cons_succ, List.setIfInBounds_toArray, List.set_cons_zero, List.set_cons_succ]
            refine wpAnyH_ready (rs := [21]) (by kernel_rfl) (by simp) ?_
            refine AllReadyH.cons rfl (fun K hK => ?_) AllReadyH.nil
            try simp only [List.getElem_toArray, List.getElem_cons_zero, List.getElem_cons_succ]
            go_simp
            (refine (lr_rlive (HF.out.1.b.only0' (by assumption)) HF.out.2.1).mono ?_; rintro e u4 ⟨⟨ma, mc, rfl, mi, mf⟩, uo4⟩; have q4 := q3.trans uo4; have li4 := li.only uo4 (fun _ _ h => h))
            try go_wp2_with fail
            refine hK.out _ _ ?_ (fun hHeld => ?_)
            · first | exact ⟨m2, m51, o1⟩ | exact KEEP.out _ (by assumption)
            clear hK K
            try simp only [Act.put, List.getElem_toArray, List.getElem_cons_zero, List.getElem_cons_succ, List.setIfInBounds_toArray, List.set_cons_zero, List.set_cons_succ]
            refine wpAnyH_ready (rs := [22]) (by kernel_rfl) (by simp) ?_
            refine AllReadyH.cons rfl (fun K hK => ?_) AllReadyH.nil
            try simp only [List.getElem_toArray, List.getElem_cons_zero, List.getElem_cons_succ]
            go_simp
            (refine (sameInts_self la ma lc mc _ _ li4 mi (by have := live_8 s; omega)).mono ?_; rintro e u5 ⟨rfl, uo5⟩; have q5 := q4.trans uo5)
            try go_wp2_with fail
            refine hK.out _ _ ?_ (fun hHeld => ?_)
            · first | exact ⟨m2, m51, o1⟩ | exact KEEP.out _ (by assumption)
            clear hK K
            try simp only [Act.put, List.getElem_toArray, List.getElem_cons_zero, List.getElem_cons_succ, List.setIfInBounds_toArray, List.set_cons_zero, List.set_cons_succ]
            first | (refine wpAnyH_take (i := 23) rfl (by kernel_rfl) (by kernel_rfl) (by kernel_rfl) (fun _ _ _ h => h) (Or.inr ⟨by rfl, rfl⟩) (by assumption) ?_) | (refine wpAnyH_take (i := 23) (v := ?_) rfl (by kernel_rfl) (by kernel_rfl) (by kernel_rfl) (fun _ _ _ h => h) (Or.inl ⟨by rfl, ?_⟩) (by assumption) ?_; rotate_left; (focus (intro w hSw; (try dsimp only at hSw); go_simp; try with_reducible rfl)))
            try simp only [Act.put, List.getElem_toArray, List.getElem_cons_zero, List.getElem_cons_succ, List.setIfInBounds_toArray, List.set_cons_zero, List.set_cons_succ]
            refine wpAnyH_take (i := 24) (v := ?_) rfl (by kernel_rfl) (by kernel_rfl) (by kernel_rfl) (fun _ _ _ h => h) (Or.inl ⟨by rfl, ?_⟩) (by assumption) ?_; rotate_left; (focus (intro w hSw; (try dsimp only at hSw); go_simp; try with_reducible rfl))
            try simp only [Act.put, List.getElem_toArray, List.getElem_cons_zero, List.getElem_cons_succ, List.setIfInBounds_toArray, List.set_cons_zero, List.set_cons_succ]
            refine wpAnyH_take (i := 25) (v := ?_) rfl (by kernel_rfl) (by kernel_rfl) (by kernel_rfl) (fun _ _ _ h => h) (Or.inl ⟨by rfl, ?_⟩) (by assumption) ?_; rotate_left; (focus (intro w hSw; (try dsimp only at hSw); go_simp; try with_reducible rfl))
            try simp only [Act.put, List.getElem_toArray, List.getElem_cons_zero, List.getElem_cons_succ, List.setIfInBounds_toArray, List.set_cons_zero, List.set_cons_succ]
            first | (refine wpAnyH_take (i := 26) rfl (by kernel_rfl) (by kernel_rfl) (by kernel_rfl) (fun _ _ _ h => h) (Or.inr ⟨by rfl, rfl⟩) (by assumption) ?_) | (refine wpAnyH_take (i := 26) (v := ?_) rfl (by kernel_rfl) (by kernel_rfl) (by kernel_rfl) (fun _ _ _ h => h) (Or.inl ⟨by rfl, ?_⟩) (by assumption) ?_; rotate_left; (focus (intro w hSw; (try dsimp only at hSw); go_simp; try with_reducible rfl)))
            try simp only [Act.put, List.getElem_toArray, List.getElem_cons_zero, List.getElem_cons_succ, List.setIfInBounds_toArray, List.set_cons_zero, List.set_cons_succ]
            first | (refine wpAnyH_take (i := 27) rfl (by kernel_rfl) (by kernel_rfl) (by kernel_rfl) (fun _ _ _ h => h) (Or.inr ⟨by rfl, rfl⟩) (by assumption) ?_) | (refine wpAnyH_take (i := 27) (v := ?_) rfl (by kernel_rfl) (by kernel_rfl) (by kernel_rfl) (fun _ _ _ h => h) (Or.inl ⟨by rfl, ?_⟩) (by assumption) ?_; rotate_left; (focus (intro w hSw; (try dsimp only at hSw); go_simp; try with_reducible rfl)))
            try simp only [Act.put, List.getElem_toArray, List.getElem_cons_zero, List.getElem_cons_succ, List.setIfInBounds_toArray, List.set_cons_zero, List.set_cons_succ]
            first | (refine wpAnyH_take (i := 28) rfl (by kernel_rfl) (by kernel_rfl) (by kernel_rfl) (fun _ _ _ h => h) (Or.inr ⟨by rfl, rfl⟩) (by assumption) ?_) | (refine wpAnyH_take (i := 28) (v := ?_) rfl (by kernel_rfl) (by kernel_rfl) (by kernel_rfl) (fun _ _ _ h => h) (Or.inl ⟨by rfl, ?_⟩) (by assumption) ?_; rotate_left; (focus (intro w hSw; (try dsimp only at hSw); go_simp; try with_reducible rfl)))
            try simp only [Act.put, List.getElem_toArray, List.getElem_cons_zero, List.getElem_cons_succ, List.setIfInBounds_toArray, List.set_cons_zero, List.set_cons_succ]
            first | (refine wpAnyH_take (i := 30) rfl (by kernel_rfl) (by kernel_rfl) (by kernel_rfl) (fun _ _ _ h => h) (Or.inr ⟨by rfl, rfl⟩) (by assumption) ?_) | (refine wpAnyH_take (i := 30) (v := ?_) rfl (by kernel_rfl) (by kernel_rfl) (by kernel_rfl) (fun _ _ _ h => h) (Or.inl ⟨by rfl, ?_⟩) (by assumption) ?_; rotate_left; (focus (intro w hSw; (try dsimp only at hSw); go_simp; try with_reducible rfl)))
            try simp only [Act.put, List.getElem_toArray, List.getElem_cons_zero, List.getElem_cons_succ, List.setIfInBounds_toArray, List.set_cons_zero, List.set_cons_succ]
            first | (refine wpAnyH_take (i := 31) rfl (by kernel_rfl) (by kernel_rfl) (by kernel_rfl) (fun _ _ _ h => h) (Or.inr ⟨by rfl, rfl⟩) (by assumption) ?_) | (refine wpAnyH_take (i := 31) (v := ?_) rfl (by kernel_rfl) (by kernel_rfl) (by kernel_rfl) (fun _ _ _ h => h) (Or.inl ⟨by rfl, ?_⟩) (by assumption) ?_; rotate_left; (focus (intro w hSw; (try dsimp only at hSw); go_simp; try with_reducible rfl)))
            try simp only [Act.put, List.getElem_toArray, List.getElem_cons_zero, List.getElem_cons_succ, List.setIfInBounds_toArray, List.set_cons_zero, List.set_cons_succ]
            first | (refine wpAnyH_take (i := 32) rfl (by kernel_rfl) (by kernel_rfl) (by kernel_rfl) (fun _ _ _ h => h) (Or.inr ⟨by rfl, rfl⟩) (by assumption) ?_) | (refine wpAnyH_take (i := 32) (v := ?_) rfl (by kernel_rfl) (by kernel_rfl) (by kernel_rfl) (fun _ _ _ h => h) (Or.inl ⟨by rfl, ?_⟩) (by assumption) ?_; rotate_left; (focus (intro w hSw; (try dsimp only at hSw); go_simp; try with_reducible rfl)))
            try simp only [Act.put, List.getElem_toArray, List.getElem_cons_zero, List.getElem_cons_succ, List.setIfInBounds_toArray, List.set_cons_zero, List.set_cons_succ]
            refine wpAnyH_ready (rs := [29]) (by kernel_rfl) (by simp) ?_
            refine AllReadyH.cons rfl (fun K hK => ?_) AllReadyH.nil
            try simp only [List.getElem_toArray, List.getElem_cons_zero, List.getElem_cons_succ]
            go_simp
            (refine (md_statusR (HF.out.1.a.mat.only0 (by assumption)) HF.out.2.1 S).mono ?_; rw [HST.out]; rintro e u6 ⟨rfl, uo6⟩; have q6 := q5.trans uo6)
            try go_wp2_with fail
            refine hK.out _ _ ?_ (fun hHeld => ?_)
            · first | exact ⟨m2, m51, o1⟩ | exact KEEP.out _ (by assumption)
            clear hK K
            try simp only [Act.put, List.getElem_toArray, List.getElem_cons_zero, List.getElem_cons_succ, List.setIfInBounds_toArray, List.set_cons_zero, List.set_cons_succ]
            refine wpAnyH_ready (rs := [33]) (by kernel_rfl) (by simp) ?_
            refine AllReadyH.cons rfl (fun K hK => ?_) AllReadyH.nil
            try simp only [List.getElem_toArray, List.getElem_cons_zero, List.getElem_cons_succ]
            go_simp
            (refine (ref_status (HF.out.1.b.only0' (by assumption)) S).mono ?_; rw [HST.out]; rintro e u7 ⟨rfl, uo7⟩; have q7 := q6.trans uo7)
            try go_wp2_with fail
            refine hK.out _ _ ?_ (fun hHeld => ?_)
            · first | exact ⟨m2, m51, o1⟩ | exact KEEP.out _ (by assumption)
            clear hK K
            try simp only [Act.put, List.getElem_toArray, List.getElem_cons_zero, List.getElem_cons_succ, List.setIfInBounds_toArray, List.set_cons_zero, List.set_cons_succ]
            first | (refine wpAnyH_take (i := 34) rfl (by kernel_rfl) (by kernel_rfl) (by kernel_rfl) (fun _ _ _ h => h) (Or.inr ⟨by rfl, rfl⟩) (by assumption) ?_) | (refine wpAnyH_take (i := 34) (v := ?_) rfl (by kernel_rfl) (by kernel_rfl) (by kernel_rfl) (fun _ _ _ h => h) (Or.inl ⟨by rfl, ?_⟩) (by assumption) ?_; rotate_left; (focus (intro w hSw; (try dsimp only at hSw); go_simp; try with_reducible rfl)))
            try simp only [Act.put, List.getElem_toArray, List.getElem_cons_zero, List.getElem_cons_succ, List.setIfInBounds_toArray, List.set_cons_zero, List.set_cons_succ]
            refine wpAnyH_take (i := 35) (v := ?_) rfl (by kernel_rfl) (by kernel_rfl) (by kernel_rfl) (fun _ _ _ h => h) (Or.inl ⟨by rfl, ?_⟩) (by assumption) ?_; rotate_left; (focus (intro w hSw; (try dsimp only at hSw); go_simp; try with_reducible rfl))
            try simp only [Act.put, List.getElem_toArray, List.getElem_cons_zero, List.getElem_cons_succ, List.setIfInBounds_toArray, List.set_cons_zero, List.set_cons_succ]
            refine wpAnyH_take (i := 36) (v := ?_) rfl (by kernel_rfl) (by kernel_rfl) (by kernel_rfl) (fun _ _ _ h => h) (Or.inl ⟨by rfl, ?_⟩) (by assumption) ?_; rotate_left; (focus (intro w hSw; (try dsimp only at hSw); go_simp; try with_reducible rfl))
            try simp only [Act.put, List.getElem_toArray, List.getElem_cons_zero, List.getElem_cons_succ, List.setIfInBounds_toArray, List.set_cons_zero, List.set_cons_succ]
            first | (refine wpAnyH_take (i := 37) rfl (by kernel_rfl) (by kernel_rfl) (by kernel_rfl) (fun _ _ _ h => h) (Or.inr ⟨by rfl, rfl⟩) (by assumption) ?_) | (refine wpAnyH_take (i := 37) (v := ?_) rfl (by kernel_rfl) (by kernel_rfl) (by kernel_rfl) (fun _ _ _ h => h) (Or.inl ⟨by rfl, ?_⟩) (by assumption) ?_; rotate_left; (focus (intro w hSw; (try dsimp only at hSw); go_simp; try with_reducible rfl)))
            try simp only [Act.put, List.getElem_toArray, List.getElem_cons_zero, List.getElem_cons_succ, List.setIfInBounds_toArray, List.set_cons_zero, List.set_cons_succ]
            first | (refine wpAnyH_take (i := 38) rfl (by kernel_rfl) (by kernel_rfl) (by kernel_rfl) (fun _ _ _ h => h) (Or.inr ⟨by rfl, rfl⟩) (by assumption) ?_) | (refine wpAnyH_take (i := 38) (v := ?_) rfl (by kernel_rfl) (by kernel_rfl) (by kernel_rfl) (fun _ _ _ h => h) (Or.inl ⟨by rfl, ?_⟩) (by assumption) ?_; rotate_left; (focus (intro w hSw; (try dsimp only at hSw); go_simp; try with_reducible rfl)))
            try simp only [Act.put, List.getElem_toArray, List.getElem_cons_zero, List.getElem_cons_succ, List.setIfInBounds_toArray, List.set_cons_zero, List.set_cons_succ]
            first | (refine wpAnyH_take (i := 39) rfl (by kernel_rfl) (by kernel_rfl) (by kernel_rfl) (fun _ _ _ h => h) (Or.inr ⟨by rfl, rfl⟩) (by assumption) ?_) | (refine wpAnyH_take (i := 39) (v := ?_) rfl (by kernel_rfl) (by kernel_rfl) (by kernel_rfl) (fun _ _ _ h => h) (Or.inl ⟨by rfl, ?_⟩) (by assumption) ?_; rotate_left; (focus (intro w hSw; (try dsimp only at hSw); go_simp; try with_reducible rfl)))
            try simp only [Act.put, List.getElem_toArray, List.getElem_cons_zero, List.getElem_cons_succ, List.setIfInBounds_toArray, List.set_cons_zero, List.set_cons_succ]
            first | (refine wpAnyH_take (i := 40) rfl (by kernel_rfl) (by kernel_rfl) (by kernel_rfl) (fun _ _ _ h => h) (Or.inr ⟨by rfl, rfl⟩) (by assumption) ?_) | (refine wpAnyH_take (i := 40) (v := ?_) rfl (by kernel_rfl) (by kernel_rfl) (by kernel_rfl) (fun _ _ _ h => h) (Or.inl ⟨by rfl, ?_⟩) (by assumption) ?_; rotate_left; (focus (intro w hSw; (try dsimp only at hSw); go_simp; try with_reducible rfl)))
            try simp only [Act.put, List.getElem_toArray, List.getElem_cons_zero, List.getElem_cons_succ, List.setIfInBounds_toArray, List.set_cons_zero, List.set_cons_succ]
            first | (refine wpAnyH_take (i := 41) rfl (by kernel_rfl) (by kernel_rfl) (by kernel_rfl) (fun _ _ _ h => h) (Or.inr ⟨by rfl, rfl⟩) (by assumption) ?_) | (refine wpAnyH_take (i := 41) (v := ?_) rfl (by kernel_rfl) (by kernel_rfl) (by kernel_rfl) (fun _ _ _ h => h) (Or.inl ⟨by rfl, ?_⟩) (by assumption) ?_; rotate_left; (focus (intro w hSw; (try dsimp only at hSw); go_simp; try with_reducible rfl)))
            try simp only [Act.put, List.getElem_toArray, List.getElem_cons_zero, List.getElem_cons_succ, List.setIfInBounds_toArray, List.set_cons_zero, List.set_cons_succ]
            first | (refine wpAnyH_take (i := 42) rfl (by kernel_rfl) (by kernel_rfl) (by kernel_rfl) (fun _ _ _ h => h) (Or.inr ⟨by rfl, rfl⟩) (by assumption) ?_) | (refine wpAnyH_take (i := 42) (v := ?_) rfl (by kernel_rfl) (by kernel_rfl) (by kernel_rfl) (fun _ _ _ h => h) (Or.inl ⟨by rfl, ?_⟩) (by assumption) ?_; rotate_left; (focus (intro w hSw; (try dsimp only at hSw); go_simp; try with_reducible rfl)))
            try simp only [Act.put, List.getElem_toArray, List.getElem_cons_zero, List.getElem_cons_succ, List.setIfInBounds_toArray, List.set_cons_zero, List.set_cons_succ]
            first | (refine wpAnyH_take (i := 43) rfl (by kernel_rfl) (by kernel_rfl) (by kernel_rfl) (fun _ _ _ h => h) (Or.inr ⟨by rfl, rfl⟩) (by assumption) ?_) | (refine wpAnyH_take (i := 43) (v := ?_) rfl (by kernel_rfl) (by kernel_rfl) (by kernel_rfl) (fun _ _ _ h => h) (Or.inl ⟨by rfl, ?_⟩) (by assumption) ?_; rotate_left; (focus (intro w hSw; (try dsimp only at hSw); go_simp; try with_reducible rfl)))
            try simp only [Act.put, List.getElem_toArray, List.getElem_cons_zero, List.getElem_cons_succ, List.setIfInBounds_toArray, List.set_cons_zero, List.set_cons_succ]
            first | (refine wpAnyH_take (i := 44) rfl (by kernel_rfl) (by kernel_rfl) (by kernel_rfl) (fun _ _ _ h => h) (Or.inr ⟨by rfl, rfl⟩) (by assumption) ?_) | (refine wpAnyH_take (i := 44) (v := ?_) rfl (by kernel_rfl) (by kernel_rfl) (by kernel_rfl) (fun _ _ _ h => h) (Or.inl ⟨by rfl, ?_⟩) (by assumption) ?_; rotate_left; (focus (intro w hSw; (try dsimp only at hSw); go_simp; try with_reducible rfl)))
            try simp only [Act.put, List.getElem_toArray, List.getElem_cons_zero, List.getElem_cons_succ, List.setIfInBounds_toArray, List.set_cons_zero, List.set_cons_succ]
            first | (refine wpAnyH_take (i := 45) rfl (by kernel_rfl) (by kernel_rfl) (by kernel_rfl) (fun _ _ _ h => h) (Or.inr ⟨by rfl, rfl⟩) (by assumption) ?_) | (refine wpAnyH_take (i := 45) (v := ?_) rfl (by kernel_rfl) (by kernel_rfl) (by kernel_rfl) (fun _ _ _ h => h) (Or.inl ⟨by rfl, ?_⟩) (by assumption) ?_; rotate_left; (focus (intro w hSw; (try dsimp only at hSw); go_simp; try with_reducible rfl)))
            try simp only [Act.put, List.getElem_toArray, List.getElem_cons_zero, List.getElem_cons_succ, List.setIfInBounds_toArray, List.set_cons_zero, List.set_cons_succ]
            first | (refine wpAnyH_take (i := 47) rfl (by kernel_rfl) (by kernel_rfl) (by kernel_rfl) (fun _ _ _ h => h) (Or.inr ⟨by rfl, rfl⟩) (by assumption) ?_) | (refine wpAnyH_take (i := 47) (v := ?_) rfl (by kernel_rfl) (by kernel_rfl) (by kernel_rfl) (fun _ _ _ h => h) (Or.inl ⟨by rfl, ?_⟩) (by assumption) ?_; rotate_left; (focus (intro w hSw; (try dsimp only at hSw); go_simp; try with_reducible rfl)))
            try simp only [Act.put, List.getElem_toArray, List.getElem_cons_zero, List.getElem_cons_succ, List.setIfInBounds_toArray, List.set_cons_zero, List.set_cons_succ]
            first | (refine wpAnyH_take (i := 48) rfl (by kernel_rfl) (by kernel_rfl) (by kernel_rfl) (fun _ _ _ h => h) (Or.inr ⟨by rfl, rfl⟩) (by assumption) ?_) | (refine wpAnyH_take (i := 48) (v := ?_) rfl (by kernel_rfl) (by kernel_rfl) (by kernel_rfl) (fun _ _ _ h => h) (Or.inl ⟨by rfl, ?_⟩) (by assumption) ?_; rotate_left; (focus (intro w hSw; (try dsimp only at hSw); go_simp; try with_reducible rfl)))
            try simp only [Act.put, List.getElem_toArray, List.getElem_cons_zero, List.getElem_cons_succ, List.setIfInBounds_toArray, List.set_cons_zero, List.set_cons_succ]
            first | (refine wpAnyH_take (i := 49) rfl (by kernel_rfl) (by kernel_rfl) (by kernel_rfl) (fun _ _ _ h => h) (Or.inr ⟨by rfl, rfl⟩) (by assumption) ?_) | (refine wpAnyH_take (i := 49) (v := ?_) rfl (by kernel_rfl) (by kernel_rfl) (by kernel_rfl) (fun _ _ _ h => h) (Or.inl ⟨by rfl, ?_⟩) (by assumption) ?_; rotate_left; (focus (intro w hSw; (try dsimp only at hSw); go_simp; try with_reducible rfl)))
            try simp only [Act.put, List.getElem_toArray, List.getElem_cons_zero, List.getElem_cons_succ, List.setIfInBounds_toArray, List.set_cons_zero, List.set_cons_succ]
            first | (refine wpAnyH_take (i := 50) rfl (by kernel_rfl) (by kernel_rfl) (by kernel_rfl) (fun _ _ _ h => h) (Or.inr ⟨by rfl, rfl⟩) (by assumption) ?_) | (refine wpAnyH_take (i := 50) (v := ?_) rfl (by kernel_rfl) (by kernel_rfl) (by kernel_rfl) (fun _ _ _ h => h) (Or.inl ⟨by rfl, ?_⟩) (by assumption) ?_; rotate_left; (focus (intro w hSw; (try dsimp only at hSw); go_simp; try with_reducible rfl)))
            try simp only [Act.put, List.getElem_toArray, List.getElem_cons_zero, List.getElem_cons_succ, List.setIfInBounds_toArray, List.set_cons_zero, List.set_cons_succ]
            first | (refine wpAnyH_take (i := 51) rfl (by kernel_rfl) (by kernel_rfl) (by kernel_rfl) (fun _ _ _ h => h) (Or.inr ⟨by rfl, rfl⟩) (by assumption) ?_) | (refine wpAnyH_take (i := 51) (v := ?_) rfl (by kernel_rfl) (by kernel_rfl) (by kernel_rfl) (fun _ _ _ h => h) (Or.inl ⟨by rfl, ?_⟩) (by assumption) ?_; rotate_left; (focus (intro w hSw; (try dsimp only at hSw); go_simp; try with_reducible rfl)))
            try simp only [Act.put, List.getElem_toArray, List.getElem_cons_zero, List.getElem_cons_succ, List.setIfInBounds_toArray, List.set_cons_zero, List.set_cons_succ]
            refine wpAnyH_ready (rs := [46]) (by kernel_rfl) (by simp) ?_
            refine AllReadyH.cons rfl (fun K hK => ?_) AllReadyH.nil
            try simp only [List.getElem_toArray, List.getElem_cons_zero, List.getElem_cons_succ]
            rw [if_neg (by simp [Region.wanted, yielded])]
            refine hK.out _ _ ?_ (fun hHeld => ?_)
            · first | exact ⟨m2, m51, o1⟩ | exact KEEP.out _ (by assumption)
            clear hK K
            try simp only [Act.put, List.getElem_toArray, List.getElem_cons_zero, List.getElem_cons_succ, List.setIfInBounds_toArray, List.set_cons_zero, List.set_cons_succ]
            refine wpAnyH_ready (rs := [52]) (by kernel_rfl) (by simp) ?_
            refine AllReadyH.cons rfl (fun K hK => ?_) AllReadyH.nil
            try simp only [List.getElem_toArray, List.getElem_cons_zero, List.getElem_cons_succ]
            rw [if_neg (by simp [Region.wanted, yielded])]
            refine hK.out _ _ ?_ (fun hHeld => ?_)
            · first | exact ⟨m2, m51, o1⟩ | exact KEEP.out _ (by assumption)
            clear hK K
            try simp only [Act.put, List.getElem_toArray, List.getElem_cons_zero, List.getElem_cons_succ, List.setIfInBounds_toArray, List.set_cons_zero, List.set_cons_succ]
            refine wpAnyH_ready (rs := [53]) (by kernel_rfl) (by simp) ?_
            refine AllReadyH.cons rfl (fun K hK => ?_) AllReadyH.nil
            try simp only [List.getElem_toArray, List.getElem_cons_zero, List.getElem_cons_succ]
            rw [if_neg (by simp [Region.wanted, yielded])]
            refine hK.out _ _ ?_ (fun hHeld => ?_)
            · first | exact ⟨m2, m51, o1⟩ | exact KEEP.out _ (by assumption)
            clear hK K
            try simp only [Act.put, List.getElem_toArray, List.getElem_cons_zero, List.getElem_cons_succ, List.setIfInBounds_toArray, List.set_cons_zero, List.set_cons_succ]
            first | (refine wpAnyH_take (i := 54) rfl (by kernel_rfl) (by kernel_rfl) (by kernel_rfl) (fun _ _ _ h => h) (Or.inr ⟨by rfl, rfl⟩) (by assumption) ?_) | (refine wpAnyH_take (i := 54) (v := ?_) rfl (by kernel_rfl) (by kernel_rfl) (by kernel_rfl) (fun _ _ _ h => h) (Or.inl ⟨by rfl, ?_⟩) (by assumption) ?_; rotate_left; (focus (intro w hSw; (try dsimp only at hSw); go_simp; try with_reducible rfl)))
            try simp only [Act.put, List.getElem_toArray, List.getElem_cons_zero, List.getElem_cons_succ, List.setIfInBounds_toArray, List.set_cons_zero, List.set_cons_succ]
            first | (refine wpAnyH_take (i := 55) rfl (by kernel_rfl) (by kernel_rfl) (by kernel_rfl) (fun _ _ _ h => h) (Or.inr ⟨by rfl, rfl⟩) (by assumption) ?_) | (refine wpAnyH_take (i := 55) (v := ?_) rfl (by kernel_rfl) (by kernel_rfl) (by kernel_rfl) (fun _ _ _ h => h) (Or.inl ⟨by rfl, ?_⟩) (by assumption) ?_; rotate_left; (focus (intro w hSw; (try dsimp only at hSw); go_simp; try with_reducible rfl)))
            try simp only [Act.put, List.getElem_toArray, List.getElem_cons_zero, List.getElem_cons_succ, List.setIfInBounds_toArray, List.set_cons_zero, List.set_cons_succ]
            refine wpAnyH_take (i := 56) (v := ?_) rfl (by kernel_rfl) (by kernel_rfl) (by kernel_rfl) (fun _ _ _ h => h) (Or.inl ⟨by rfl, ?_⟩) (by assumption) ?_; rotate_left; (focus (intro w hSw; (try dsimp only at hSw); go_simp; try with_reducible rfl))
            try simp only [Act.put, List.getElem_toArray, List.getElem_cons_zero, List.getElem_cons_succ, List.setIfInBounds_toArray, List.set_cons_zero, List.set_cons_succ]
            refine wpAnyH_done (by kernel_rfl) ?_ _
            have HG : Hid (∃ P s Q r, LR2 w u7 P m s Q n r ∧ Sim s r) := Lib.hid ⟨_, _, _, _, HF.out.1.only0 q7, HF.out.2.1⟩
            clear HF KEEP
            go_wp2_with fail
            go_roundw
            case rel => exact ⟨q + 1, _, _, _, _, _, _, _, _, _, rfl, rfl, rfl, rfl, rfl, rfl, rfl, rfl, rfl, by go_num, by omega, by omega, HG⟩
            case measure => simp [intOf] <;> omega
      · have e80 : (q : Int) = 80 := by omega
        rw [e80]
        obtain rfl : q = 80 := by omega
        clear e80
        obtain ⟨P, s, Q, r, hlr, hsim⟩ := HL.out
        obtain ⟨va, vc, m2, m51⟩ := hlr.cells hsim
        have KEEP : Hid (∀ w', Only0 wr w' → w'.cell? ⟨n, 51, none⟩ = some (.int .u64 s.now)) := Lib.hid (fun w' o => (World.cell?_of_block (o.block n (block_lt_of_cell m51) (fun h => h))).trans m51)
        have hnw : 0 ≤ s.now ∧ s.now ≤ 1099511627776 := by have h1 := hlr.a.mat.ok.now; have h2 := hlr.a.mat.ok.limit; omega
        have HF := Lib.hid (And.intro hlr hsim)
        clear HL hlr hsim m2
        have q7 : Only0 wr wr.drew := (Only0.refl wr).drew
        go_wp2_with fail
        refine wp_region_held_drew (S := (fun w' => w'.cell? ⟨n, 51, none⟩ = some (.int .u64 s.now))) (by kernel_rfl) ?_ (fun hHeld => ?_)
        · first | exact m51 | exact KEEP.out _ (by assumption)
        refine wpAnyH_take (i := 0) (v := ?_) rfl (by kernel_rfl) (by kernel_rfl) (by kernel_rfl) (fun _ _ _ h => h) (Or.inl ⟨by rfl, ?_⟩) (by assumption) ?_; rotate_left; (focus (intro w hSw; (try dsimp only at hSw); go_simp; try with_reducible rfl))
        try simp only [Act.put, List.getElem_toArray, List.getElem_cons_zero, List.getElem_cons_succ, List.setIfInBounds_toArray, List.set_cons_zero, List.set_cons_succ]
        refine wpAnyH_take (i := 1) (v := ?_) rfl (by kernel_rfl) (by kernel_rfl) (by kernel_rfl) (fun _ _ _ h => h) (Or.inl ⟨by rfl, ?_⟩) (by assumption) ?_; rotate_left; (focus (intro w hSw; (try dsimp only at hSw); go_simp; try with_reducible rfl))
        try simp only [Act.put, List.getElem_toArray, List.getElem_cons_zero, List.getElem_cons_succ, List.setIfInBounds_toArray, List.set_cons_zero, List.set_cons_succ]
        refine wpAnyH_take (i := 2) (v := ?_) rfl (by kernel_rfl) (by kernel_rfl) (by kernel_rfl) (fun _ _ _ h => h) (Or.inl ⟨by rfl, ?_⟩) (by assumption) ?_; rotate_left; (focus (intro w hSw; (try dsimp only at hSw); go_simp; try with_reducible rfl))
        try simp only [Act.put, List.getElem_toArray, List.getElem_cons_zero, List.getElem_cons_succ, List.setIfInBounds_toArray, List.set_cons_zero, List.set_cons_succ]
        refine wpAnyH_take (i := 3) (v := ?_) rfl (by kernel_rfl) (by kernel_rfl) (by kernel_rfl) (fun _ _ _ h => h) (Or.inl ⟨by rfl, ?_⟩) (by assumption) ?_; rotate_left; (focus (intro w hSw; (try dsimp only at hSw); go_simp; try with_reducible rfl))
        try simp only [Act.put, List.getElem_toArray, List.getElem_cons_zero, List.getElem_cons_succ, List.setIfInBounds_toArray, List.set_cons_zero, List.set_cons_succ]
        refine wpAnyH_take (i := 4) (v := ?_) rfl (by kernel_rfl) (by kernel_rfl) (by kernel_rfl) (fun _ _ _ h => h) (Or.inl ⟨by rfl, ?_⟩) (by assumption) ?_; rotate_left; (focus (intro w hSw; (try dsimp only at hSw); go_simp; try with_reducible rfl))
        try simp only [Act.put, List.getElem_toArray, List.getElem_cons_zero, List.getElem_cons_succ, List.setIfInBounds_toArray, List.set_cons_zero, List.set_cons_succ]
        refine wpAnyH_take (i := 5) (v := ?_) rfl (by kernel_rfl) (by kernel_rfl) (by kernel_rfl) (fun _ _ _ h => h) (Or.inl ⟨by rfl, ?_⟩) (by assumption) ?_; rotate_left; (focus (intro w hSw; (try dsimp only at hSw); go_simp; try with_reducible rfl))
        try simp only [Act.put, List.getElem_toArray, List.getElem_cons_zero, List.getElem_cons_succ, List.setIfInBounds_toArray, List.set_cons_zero, List.set_cons_succ]
        refine wpAnyH_take (i := 7) (v := ?_) rfl (by kernel_rfl) (by kernel_rfl) (by kernel_rfl) (fun _ _ _ h => h) (Or.inl ⟨by rfl, ?_⟩) (by assumption) ?_; rotate_left; (focus (intro w hSw; (try dsimp only at hSw); go_simp; try with_reducible rfl))
        try simp only [Act.put, List.getElem_toArray, List.getElem_cons_zero, List.getElem_cons_succ, List.setIfInBounds_toArray, List.set_cons_zero, List.set_cons_succ]
        refine wpAnyH_take (i := 8) (v := ?_) rfl (by kernel_rfl) (by kernel_rfl) (by kernel_rfl) (fun _ _ _ h => h) (Or.inl ⟨by rfl, ?_⟩) (by assumption) ?_; rotate_left; (focus (intro w hSw; (try dsimp only at hSw); go_simp; try with_reducible rfl))
        try simp only [Act.put, List.getElem_toArray, List.getElem_cons_zero, List.getElem_cons_succ, List.setIfInBounds_toArray, List.set_cons_zero, List.set_cons_succ]
        refine wpAnyH_take (i := 9) (v := ?_) rfl (by kernel_rfl) (by kernel_rfl) (by kernel_rfl) (fun _ _ _ h => h) (Or.inl ⟨by rfl, ?_⟩) (by assumption) ?_; rotate_left; (focus (intro w hSw; (try dsimp only at hSw); go_simp; try with_reducible rfl))
        try simp only [Act.put, List.getElem_toArray, List.getElem_cons_zero, List.getElem_cons_succ, List.setIfInBounds_toArray, List.set_cons_zero, List.set_cons_succ]
        refine wpAnyH_take (i := 10) (v := ?_) rfl (by kernel_rfl) (by kernel_rfl) (by kernel_rfl) (fun _ _ _ h => h) (Or.inl ⟨by rfl, ?_⟩) (by assumption) ?_; rotate_left; (focus (intro w hSw; (try dsimp only at hSw); go_simp; try with_reducible rfl))
        try simp only [Act.put, List.getElem_toArray, List.getElem_cons_zero, List.getElem_cons_succ, List.setIfInBounds_toArray, List.set_cons_zero, List.set_cons_succ]
        refine wpAnyH_take (i := 11) (v := ?_) rfl (by kernel_rfl) (by kernel_rfl) (by kernel_rfl) (fun _ _ _ h => h) (Or.inl ⟨by rfl, ?_⟩) (by assumption) ?_; rotate_left; (focus (intro w hSw; (try dsimp only at hSw); go_simp; try with_reducible rfl))
        try simp only [Act.put, List.getElem_toArray, List.getElem_cons_zero, List.getElem_cons_succ, List.setIfInBounds_toArray, List.set_cons_zero, List.set_cons_succ]
        refine wpAnyH_take (i := 12) (v := ?_) rfl (by kernel_rfl) (by kernel_rfl) (by kernel_rfl) (fun _ _ _ h => h) (Or.inl ⟨by rfl, ?_⟩) (by assumption) ?_; rotate_left; (focus (intro w hSw; (try dsimp only at hSw); go_simp; try with_reducible rfl))
        try simp only [Act.put, List.getElem_toArray, List.getElem_cons_zero, List.getElem_cons_succ, List.setIfInBounds_toArray, List.set_cons_zero, List.set_cons_succ]
        refine wpAnyH_ready (rs := [6]) (by kernel_rfl) (by simp) ?_
        refine AllReadyH.cons rfl (fun K hK => ?_) AllReadyH.nil
        try simp only [List.getElem_toArray, List.getElem_cons_zero, List.getElem_cons_succ]
        go_simp
        (refine (md_pairs (HF.out.1.a.mat.only0 (by assumption)) _).mono ?_; rintro e u8 ⟨⟨pa, pc, rfl, pi, pf⟩, uo8⟩; have q8 := q7.trans uo8)
        try go_wp2_with fail
        refine hK.out _ _ ?_ (fun hHeld => ?_)
        · first | exact m51 | exact KEEP.out _ (by assumption)
        clear hK K
        try simp only [Act.put, List.getElem_toArray, List.getElem_cons_zero, List.getElem_cons_succ, List.setIfInBounds_toArray, List.set_cons_zero, List.set_cons_succ]
        refine wpAnyH_ready (rs := [13]) (by kernel_rfl) (by simp) ?_
        refine AllReadyH.cons rfl (fun K hK => ?_) AllReadyH.nil
        try simp only [List.getElem_toArray, List.getElem_cons_zero, List.getElem_cons_succ]
        go_simp
        (refine (lr_rpairs (HF.out.1.b.only0' (by assumption)) HF.out.2 _).mono ?_; rintro e u9 ⟨⟨xa, xc, rfl, xi, xf⟩, uo9⟩; have q9 := q8.trans uo9; have pi9 := pi.only uo9 (fun _ _ h => h))
        try go_wp2_with fail
        refine hK.out _ _ ?_ (fun hHeld => ?_)
        · first | exact m51 | exact KEEP.out _ (by assumption)
        clear hK K
        try simp only [Act.put, List.getElem_toArray, List.getElem_cons_zero, List.getElem_cons_succ, List.setIfInBounds_toArray, List.set_cons_zero, List.set_cons_succ]
        refine wpAnyH_ready (rs := [14]) (by kernel_rfl) (by simp) ?_
        refine AllReadyH.cons rfl (fun K hK => ?_) AllReadyH.nil
        try simp only [List.getElem_toArray, List.getElem_cons_zero, List.getElem_cons_succ]
        go_simp
        (refine (samePairs_self pa xa pc xc _ _ pi9 xi (Nat.le_trans (pairs_64 s _) (by decide))).mono ?_; rintro e u10 ⟨rfl, uo10⟩; have q10 := q9.trans uo10)
        try go_wp2_with fail
        refine hK.out _ _ ?_ (fun hHeld => ?_)
        · first | exact m51 | exact KEEP.out _ (by assumption)
        clear hK K
        try simp only [Act.put, List.getElem_toArray, List.getElem_cons_zero, List.getElem_cons_succ, List.setIfInBounds_toArray, List.set_cons_zero, List.set_cons_succ]
        refine wpAnyH_take (i := 15) (v := ?_) rfl (by kernel_rfl) (by kernel_rfl) (by kernel_rfl) (fun _ _ _ h => h) (Or.inl ⟨by rfl, ?_⟩) (by assumption) ?_; rotate_left; (focus (intro w hSw; (try dsimp only at hSw); go_simp; try with_reducible rfl))
        try simp only [Act.put, List.getElem_toArray, List.getElem_cons_zero, List.getElem_cons_succ, List.setIfInBounds_toArray, List.set_cons_zero, List.set_cons_succ]
        refine wpAnyH_done (by kernel_rfl) ?_ _
        have HO8 := Lib.hid (HF.out.1.a.o.trans q10)
        clear HF KEEP
        go_wp2_with fail
        go_ret
        exact ⟨rfl, HO8.out.below⟩
    · obtain rfl : q = rows.length := by omega
      obtain ⟨P, s, Q, r, hlr, hsim⟩ := HL.out
      obtain ⟨va, vc, m2, m51⟩ := hlr.cells hsim
      have KEEP : Hid (∀ w', Only0 wr w' → w'.cell? ⟨n, 51, none⟩ = some (.int .u64 s.now)) := Lib.hid (fun w' o => (World.cell?_of_block (o.block n (block_lt_of_cell m51) (fun h => h))).trans m51)
      have hnw : 0 ≤ s.now ∧ s.now ≤ 1099511627776 := by have h1 := hlr.a.mat.ok.now; have h2 := hlr.a.mat.ok.limit; omega
      have HF := Lib.hid (And.intro hlr hsim)
      clear HL hlr hsim m2
      have q7 : Only0 wr wr.drew := (Only0.refl wr).drew
      go_wp2_with fail
      refine wp_region_held_drew (S := (fun w' => w'.cell? ⟨n, 51, none⟩ = some (.int .u64 s.now))) (by kernel_rfl) ?_ (fun hHeld => ?_)
      · first | exact m51 | exact KEEP.out _ (by assumption)
      refine wpAnyH_take (i := 0) (v := ?_) rfl (by kernel_rfl) (by kernel_rfl) (by kernel_rfl) (fun _ _ _ h => h) (Or.inl ⟨by rfl, ?_⟩) (by assumption) ?_; rotate_left; (focus (intro w hSw; (try dsimp only at hSw); go_simp; try with_reducible rfl))
      try simp only [Act.put, List.getElem_toArray, List.getElem_cons_zero, List.getElem_cons_succ, List.setIfInBounds_toArray, List.set_cons_zero, List.set_cons_succ]
      refine wpAnyH_take (i := 1) (v := ?_) rfl (by kernel_rfl) (by kernel_rfl) (by kernel_rfl) (fun _ _ _ h => h) (Or.inl ⟨by rfl, ?_⟩) (by assumption) ?_; rotate_left; (focus (intro w hSw; (try dsimp only at hSw); go_simp; try with_reducible rfl))
      try simp only [Act.put, List.getElem_toArray, List.getElem_cons_zero, List.getElem_cons_succ, List.setIfInBounds_toArray, List.set_cons_zero, List.set_cons_succ]
      refine wpAnyH_take (i := 2) (v := ?_) rfl (by kernel_rfl) (by kernel_rfl) (by kernel_rfl) (fun _ _ _ h => h) (Or.inl ⟨by rfl, ?_⟩) (by assumption) ?_; rotate_left; (focus (intro w hSw; (try dsimp only at hSw); go_simp; try with_reducible rfl))
      try simp only [Act.put, List.getElem_toArray, List.getElem_cons_zero, List.getElem_cons_succ, List.setIfInBounds_toArray, List.set_cons_zero, List.set_cons_succ]
      refine wpAnyH_take (i := 3) (v := ?_) rfl (by kernel_rfl) (by kernel_rfl) (by kernel_rfl) (fun _ _ _ h => h) (Or.inl ⟨by rfl, ?_⟩) (by assumption) ?_; rotate_left; (focus (intro w hSw; (try dsimp only at hSw); go_simp; try with_reducible rfl))
      try simp only [Act.put, List.getElem_toArray, List.getElem_cons_zero, List.getElem_cons_succ, List.setIfInBounds_toArray, List.set_cons_zero, List.set_cons_succ]
      refine wpAnyH_take (i := 4) (v := ?_) rfl (by kernel_rfl) (by kernel_rfl) (by kernel_rfl) (fun _ _ _ h => h) (Or.inl ⟨by rfl, ?_⟩) (by assumption) ?_; rotate_left; (focus (intro w hSw; (try dsimp only at hSw); go_simp; try with_reducible rfl))
      try simp only [Act.put, List.getElem_toArray, List.getElem_cons_zero, List.getElem_cons_succ, List.setIfInBounds_toArray, List.set_cons_zero, List.set_cons_succ]
      refine wpAnyH_take (i := 5) (v := ?_) rfl (by kernel_rfl) (by kernel_rfl) (by kernel_rfl) (fun _ _ _ h => h) (Or.inl ⟨by rfl, ?_⟩) (by assumption) ?_; rotate_left; (focus (intro w hSw; (try dsimp only at hSw); go_simp; try with_reducible rfl))
      try simp only [Act.put, List.getElem_toArray, List.getElem_cons_zero, List.getElem_cons_succ, List.setIfInBounds_toArray, List.set_cons_zero, List.set_cons_succ]
      refine wpAnyH_take (i := 7) (v := ?_) rfl (by kernel_rfl) (by kernel_rfl) (by kernel_rfl) (fun _ _ _ h => h) (Or.inl ⟨by rfl, ?_⟩) (by assumption) ?_; rotate_left; (focus (intro w hSw; (try dsimp only at hSw); go_simp; try with_reducible rfl))
      try simp only [Act.put, List.getElem_toArray, List.getElem_cons_zero, List.getElem_cons_succ, List.setIfInBounds_toArray, List.set_cons_zero, List.set_cons_succ]
      refine wpAnyH_take (i := 8) (v := ?_) rfl (by kernel_rfl) (by kernel_rfl) (by kernel_rfl) (fun _ _ _ h => h) (Or.inl ⟨by rfl, ?_⟩) (by assumption) ?_; rotate_left; (focus (intro w hSw; (try dsimp only at hSw); go_simp; try with_reducible rfl))
      try simp only [Act.put, List.getElem_toArray, List.getElem_cons_zero, List.getElem_cons_succ, List.setIfInBounds_toArray, List.set_cons_zero, List.set_cons_succ]
      refine wpAnyH_take (i := 9) (v := ?_) rfl (by kernel_rfl) (by kernel_rfl) (by kernel_rfl) (fun _ _ _ h => h) (Or.inl ⟨by rfl, ?_⟩) (by assumption) ?_; rotate_left; (focus (intro w hSw; (try dsimp only at hSw); go_simp; try with_reducible rfl))
      try simp only [Act.put, List.getElem_toArray, List.getElem_cons_zero, List.getElem_cons_succ, List.setIfInBounds_toArray, List.set_cons_zero, List.set_cons_succ]
      refine wpAnyH_take (i := 10) (v := ?_) rfl (by kernel_rfl) (by kernel_rfl) (by kernel_rfl) (fun _ _ _ h => h) (Or.inl ⟨by rfl, ?_⟩) (by assumption) ?_; rotate_left; (focus (intro w hSw; (try dsimp only at hSw); go_simp; try with_reducible rfl))
      try simp only [Act.put, List.getElem_toArray, List.getElem_cons_zero, List.getElem_cons_succ, List.setIfInBounds_toArray, List.set_cons_zero, List.set_cons_succ]
      refine wpAnyH_take (i := 11) (v := ?_) rfl (by kernel_rfl) (by kernel_rfl) (by kernel_rfl) (fun _ _ _ h => h) (Or.inl ⟨by rfl, ?_⟩) (by assumption) ?_; rotate_left; (focus (intro w hSw; (try dsimp only at hSw); go_simp; try with_reducible rfl))
      try simp only [Act.put, List.getElem_toArray, List.getElem_cons_zero, List.getElem_cons_succ, List.setIfInBounds_toArray, List.set_cons_zero, List.set_cons_succ]
      refine wpAnyH_take (i := 12) (v := ?_) rfl (by kernel_rfl) (by kernel_rfl) (by kernel_rfl) (fun _ _ _ h => h) (Or.inl ⟨by rfl, ?_⟩) (by assumption) ?_; rotate_left; (focus (intro w hSw; (try dsimp only at hSw); go_simp; try with_reducible rfl))
      try simp only [Act.put, List.getElem_toArray, List.getElem_cons_zero, List.getElem_cons_succ, List.setIfInBounds_toArray, List.set_cons_zero, List.set_cons_succ]
      refine wpAnyH_ready (rs := [6]) (by kernel_rfl) (by simp) ?_
      refine AllReadyH.cons rfl (fun K hK => ?_) AllReadyH.nil
      try simp only [List.getElem_toArray, List.getElem_cons_zero, List.getElem_cons_succ]
      go_simp
      (refine (md_pairs (HF.out.1.a.mat.only0 (by assumption)) _).mono ?_; rintro e u8 ⟨⟨pa, pc, rfl, pi, pf⟩, uo8⟩; have q8 := q7.trans uo8)
      try go_wp2_with fail
      refine hK.out _ _ ?_ (fun hHeld => ?_)
      · first | exact m51 | exact KEEP.out _ (by assumption)
      clear hK K
      try simp only [Act.put, List.getElem_toArray, List.getElem_cons_zero, List.getElem_cons_succ, List.setIfInBounds_toArray, List.set_cons_zero, List.set_cons_succ]
      refine wpAnyH_ready (rs := [13]) (by kernel_rfl) (by simp) ?_
      refine AllReadyH.cons rfl (fun K hK => ?_) AllReadyH.nil
      try simp only [List.getElem_toArray, List.getElem_cons_zero, List.getElem_cons_succ]
      go_simp
      (refine (lr_rpairs (HF.out.1.b.only0' (by assumption)) HF.out.2 _).mono ?_; rintro e u9 ⟨⟨xa, xc, rfl, xi, xf⟩, uo9⟩; have q9 := q8.trans uo9; have pi9 := pi.only uo9 (fun _ _ h => h))
      try go_wp2_with fail
      refine hK.out _ _ ?_ (fun hHeld => ?_)
      · first | exact m51 | exact KEEP.out _ (by assumption)
      clear hK K
      try simp only [Act.put, List.getElem_toArray, List.getElem_cons_zero, List.getElem_cons_succ, List.setIfInBounds_toArray, List.set_cons_zero, List.set_cons_succ]
      refine wpAnyH_ready (rs := [14]) (by kernel_rfl) (by simp) ?_
      refine AllReadyH.cons rfl (fun K hK => ?_) AllReadyH.nil
      try simp only [List.getElem_toArray, List.getElem_cons_zero, List.getElem_cons_succ]
      go_simp
      (refine (samePairs_self pa xa pc xc _ _ pi9 xi (Nat.le_trans (pairs_64 s _) (by decide))).mono ?_; rintro e u10 ⟨rfl, uo10⟩; have q10 := q9.trans uo10)
      try go_wp2_with fail
      refine hK.out _ _ ?_ (fun hHeld => ?_)
      · first | exact m51 | exact KEEP.out _ (by assumption)
      clear hK K
      try simp only [Act.put, List.getElem_toArray, List.getElem_cons_zero, List.getElem_cons_succ, List.setIfInBounds_toArray, List.set_cons_zero, List.set_cons_succ]
      refine wpAnyH_take (i := 15) (v := ?_) rfl (by kernel_rfl) (by kernel_rfl) (by kernel_rfl) (fun _ _ _ h => h) (Or.inl ⟨by rfl, ?_⟩) (by assumption) ?_; rotate_left; (focus (intro w hSw; (try dsimp only at hSw); go_simp; try with_reducible rfl))
      try simp only [Act.put, List.getElem_toArray, List.getElem_cons_zero, List.getElem_cons_succ, List.setIfInBounds_toArray, List.set_cons_zero, List.set_cons_succ]
      refine wpAnyH_done (by kernel_rfl) ?_ _
      have HO8 := Lib.hid (HF.out.1.a.o.trans q10)
      clear HF KEEP
      go_wp2_with fail
      go_ret
      exact ⟨rfl, HO8.out.below⟩
end Go.Proofs.Ytcbhafddehipdaa

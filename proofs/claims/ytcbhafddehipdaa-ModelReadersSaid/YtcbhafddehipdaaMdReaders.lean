/-
  ModelReaders: the walk.
-/
import Derived.Test.YtcbhafddehipdaaMdRdP
import Derived.Test.YtcbhafddehipdaaMdArg
import Derived.Deep.RegionHeld3
import Derived.Deep.DrawnRows
namespace Go.Proofs.Ytcbhafddehipdaa
open Go.RowKit
set_option linter.unusedVariables false
set_option linter.unusedSimpArgs false

theorem and63 (x : Int) : ∃ j : Nat, bits .and .i64 x 63 = (j : Int) ∧ j < 64 := by
  have h := i64_and63 x
  exact ⟨(x % 64).toNat, by rw [h]; omega, by omega⟩
theorem and31 (x : Int) : ∃ j : Nat, bits .and .i64 x 31 = (j : Int) ∧ j < 32 := by
  have h := i64_and31 x
  exact ⟨(x % 32).toNat, by rw [h]; omega, by omega⟩
theorem and1 (x : Int) : bits .and .i64 x 1 = 0 ∨ bits .and .i64 x 1 = 1 := by
  have h := i64_and1 x
  rw [h]
  omega
theorem LW.old {w0 w : World} {P : Nat → Prop} {m : Nat} {s : St} (h : LW w0 w P m s) {p : Addr} {v : Value} (hc : w0.cell? p = some v) : w.cell? p = some v := by
  rw [h.o.below.cell (block_lt_of_cell hc)]; exact hc
theorem LW.poke {w0 w w' : World} {P : Nat → Prop} {m n : Nat} {s : St} (h : LW w0 w P m s) (o : Only (fun c => c = n) w w') (hn : ¬ P n) (hw : w0.heap.size ≤ n) : LW w0 w' P m s := by
  obtain ⟨⟨A, M⟩, o0⟩ := h
  refine ⟨⟨A, M.only o (fun b hb e => hn (e ▸ hb))⟩, ⟨o.os.trans o0.os, o.tape.trans o0.tape, o.output.trans o0.output, Nat.le_trans o0.size o.size, fun k hk _ => ?_⟩⟩
  rw [o.block k (Nat.lt_of_lt_of_le hk o0.size) (fun e => by omega)]
  exact o0.block k hk (fun h => h)
set_option maxRecDepth 100000 in
set_option maxHeartbeats 16000000 in
theorem modelReaders_walk (a1 : Option Addr) (c1 : Nat) (z : List Int) (a2 : Option Addr) (cc : Nat) (rows : List (List Int)) (w : World) (i1 : Ints .i64 w a1 z) (_f1 : ∀ n ∈ z, (Lit.int .i64 n).wf = true) (s1 : z.length * 8 ≤ 140737488351232) (_l1 : z.length ≤ c1) (_m1 : c1 ≤ 9223372036854775807) (_o1 : a1 = none → c1 = 0)
    (i2 : Recs actKinds w a2 rows ∧ ∀ r ∈ rows, r.length = actKinds.length ∧ wfs actKinds r) (s2 : rows.length * 56 ≤ 140737488351232) (_l2 : rows.length ≤ cc) (_m2 : cc ≤ 9223372036854775807) :
    Calls Try.prog 9 #[.slice a1 z.length c1, .slice a2 rows.length cc] w fun e w' => e = .returned (.bool true) ∧ Below w.heap.size w w' := by
  have hzl : z.length ≤ 17592186044000 := by omega
  have hrl : rows.length ≤ 17592186044000 := by omega
  have HZ := Lib.hid i1
  have HR := Lib.hid i2
  clear i1 i2 s1 s2
  go_enter Try.func9, Try.ntmps9
  go_wp2_with fail
  refine (md_new 5 100 _ (by decide)).mono ?_
  rintro e w1 ⟨m, rfl, h1, o1, -⟩
  have HI := Lib.hid (show LW w w1 (fun b => b = m) m (newSt 5 100) ∧ RdI 0 0 (newSt 5 100) from ⟨LW.made (Only0.refl w) h1 o1, RdI.new⟩)
  clear h1 o1
  go_wp2_with fail
  go_loopw [7, 8] (fun s7 s8 wr => ∃ (q : Nat) (lv : Value) (P : Nat → Prop) (s : St), s8 = lv ∧ s7 = .int .i64 q ∧ q ≤ 8 ∧ Hid (LW w wr P m s ∧ RdI 0 q s)) (fun s7 _ _ => 100 - (intOf s7).toNat)
  case atStart => exact ⟨0, _, _, _, rfl, rfl, by omega, HI⟩
  case round =>
    obtain ⟨q, lv, P, s, rfl, rfl, hq, HL⟩ := hrel
    clear HI
    by_cases hlt : q < 8
    · by_cases hlz : q < z.length
      · obtain ⟨b, off, rfl, hc⟩ : ∃ b off, a1 = some ⟨b, off, none⟩ ∧ ∀ i, i < z.length → w.cell? ⟨b, off + i, none⟩ = some (.int .i64 (z.getD i 0)) := by
          rcases HZ.out with hz | h
          · rw [hz] at hlz; simp at hlz
          · exact h
        have cq : wr.cell? ⟨b, off + q, none⟩ = some (.int .i64 (z.getD q 0)) := HL.out.1.old (hc q hlz)
        obtain ⟨q1, r1, e1, hq1, f1, hr1⟩ := lev3 (z.getD q 0)
        obtain ⟨id, s', hb, B1⟩ := HL.out.2.begun hlt (L := (r1 : Int) + 1) (by simp [levelB]; omega)
        have HB := Lib.hid hb
        have B1 := Lib.hid B1
        clear hb hc
        generalize z.getD q 0 = zq at *
        go_wp2_with fail
        refine (lw_begin HL.out.1 (q : Int) ((r1 : Int) + 1) HB.out).mono ?_
        rintro e w3 ⟨P3, rfl, L3, -, -⟩
        have HS := Lib.hid (And.intro L3 B1.out)
        clear HL L3 HB
        go_wp2_with fail
        go_roundw
        case rel => exact ⟨q + 1, _, _, _, rfl, by go_num, by omega, HS⟩
        case measure => simp [intOf]; omega
      · obtain ⟨id, s', hb, B1⟩ := HL.out.2.begun hlt (L := 3) (by decide)
        have HB := Lib.hid hb
        have B1 := Lib.hid B1
        clear hb
        go_wp2_with fail
        refine (lw_begin HL.out.1 (q : Int) 3 HB.out).mono ?_
        rintro e w3 ⟨P3, rfl, L3, -, -⟩
        have HS := Lib.hid (And.intro L3 B1.out)
        clear HL L3 HB
        go_wp2_with fail
        go_roundw
        case rel => exact ⟨q + 1, _, _, _, rfl, by go_num, by omega, HS⟩
        case measure => simp [intOf]; omega
    · have e8 : (q : Int) = 8 := by omega
      rw [e8]
      obtain rfl : q = 8 := by omega
      clear e8
      have HI := HL
      clear HL
      go_wp2_with fail
      go_loopw [11, 12, 13, 14] (fun s11 s12 s13 s14 wr => ∃ (q : Nat) (v12 v13 v14 : Value) (P : Nat → Prop) (s : St), s12 = v12 ∧ s13 = v13 ∧ s14 = v14 ∧ s11 = .int .i64 q ∧ q ≤ 60 ∧ q ≤ rows.length ∧ Hid (LW w wr P m s ∧ RdI 0 8 s)) (fun s11 _ _ _ _ => 100 - (intOf s11).toNat)
      case atStart => exact ⟨0, _, _, _, _, _, rfl, rfl, rfl, rfl, by omega, by omega, HI⟩
      case round =>
        obtain ⟨q, v12, v13, v14, P, s, rfl, rfl, rfl, rfl, hq, hql, HL⟩ := hrel
        clear HI
        by_cases hlr : q < rows.length
        · by_cases hlt : q < 60
          · obtain ⟨b, off, A0, S, L0, K, k, hh, v, rfl, d0, d1, d2, d3, d4, d5, d6⟩ := Recs.act HR.out hlr
            have x1 := HL.out.1.old d1
            have x3 := HL.out.1.old d3
            have x4 := HL.out.1.old d4
            rcases and1 K with eK | eK
            · obtain ⟨kk, ek31, hk31⟩ := and31 k
              obtain ⟨k63, ek63, hk63⟩ := and63 k
              obtain ⟨j, ej, hj⟩ := and7 S
              obtain ⟨re, f, s', hd, hf, I1⟩ := HL.out.2.read hj (o := ⟨5, (kk : Int), 40, 0⟩) (by simp [opOkB, keyOkB]; omega) (by simp)
              have HD := Lib.hid hd
              have I1 := Lib.hid I1
              clear hd
              obtain ⟨W, hW⟩ : ∃ W, W = (wr.alloc (.cells #[.int .i64 5, .int .i64 kk, .int .i64 40, .int .i64 0] 31)) := ⟨_, rfl⟩
              have HX := Lib.hid (show LW w W P m s by rw [hW]; exact HL.out.1.only0 ((Only0.refl wr).alloc _))
              have BW := Lib.hid (show Bx W P wr.heap.size 31 #[.int .i64 5, .int .i64 kk, .int .i64 40, .int .i64 0] by rw [hW]; exact HL.out.1.box 31 #[.int .i64 5, .int .i64 kk, .int .i64 40, .int .i64 0])
              have HD1 := Lib.hid d1
              have b2 : Blk W wr.heap.size 31 #[.int .i64 5, .int .i64 kk, .int .i64 40, .int .i64 0] := by rw [hW]; exact Blk.new wr 31 #[.int .i64 5, .int .i64 kk, .int .i64 40, .int .i64 0]
              have HW := Lib.hid hW
              have X1 := HL.out.1.alloc (.cells #[.int .i64 1, .int .i64 k63, .int .i64 0, .int .i64 0] 31)
              have y1 := X1.old d1
              have y3 := X1.old d3
              have y4 := X1.old d4
              have z1 := HX.out.old d1
              have b20 : W.cell? ⟨wr.heap.size, 0, none⟩ = some (.int .i64 5) := b2.cell 0
              have b21 : W.cell? ⟨wr.heap.size, 1, none⟩ = some (.int .i64 kk) := b2.cell 1
              have b22 : W.cell? ⟨wr.heap.size, 2, none⟩ = some (.int .i64 40) := b2.cell 2
              have b23 : W.cell? ⟨wr.heap.size, 3, none⟩ = some (.int .i64 0) := b2.cell 3
              clear X1 d0 d1 d2 d3 d4 d5 d6 b2 HL hW
              rcases hf with rfl | rfl
              · go_wp2_with fail
                rw [← HW.out]
                clear HW y1 y3 y4
                have HY := Lib.hid (HX.out.only0 (Only0.refl W).drew)
                have HZ := Lib.hid (HY.out.alloc (.cells #[.int .i64 0, .int .i64 0, .slice none 0 0, .int .i64 0, .int .i64 0] 27))
                have BZ := Lib.hid (HY.out.box 27 #[.int .i64 0, .int .i64 0, .slice none 0 0, .int .i64 0, .int .i64 0])
                have BO := Lib.hid (show Bx W.drew P wr.heap.size 31 #[.int .i64 5, .int .i64 kk, .int .i64 40, .int .i64 0] from BW.out.only0 (Only0.refl W).drew)
                have BOZ := Lib.hid (BO.out.alloc (.cells #[.int .i64 0, .int .i64 0, .slice none 0 0, .int .i64 0, .int .i64 0] 27))
                have hne1 : ¬ W.heap.size = b := by have h1 := block_lt_of_cell HD1.out; have h2 := HY.out.o.size; have h3 : W.drew.heap.size = W.heap.size := rfl; simp only at h1; omega
                have hne2 : ¬ W.heap.size = wr.heap.size := by have h1 := BO.out.1.lt; have h3 : W.drew.heap.size = W.heap.size := rfl; omega
                clear HX BW
                go_region_held3 (fun w' => w'.cell? ⟨b, off + q * 7 + 1, none⟩ = some (.int .i64 S) ∧ w'.cell? ⟨wr.heap.size, 0, none⟩ = some (.int .i64 5) ∧ w'.cell? ⟨wr.heap.size, 1, none⟩ = some (.int .i64 kk) ∧ w'.cell? ⟨wr.heap.size, 2, none⟩ = some (.int .i64 40) ∧ w'.cell? ⟨wr.heap.size, 3, none⟩ = some (.int .i64 0)) (go_keep) (first | (go_at_call 19; refine (lw_do HY.out (j : Int) 5 (kk : Int) 40 0 HD.out).mono ?_; rintro e w3 ⟨P3, a3, c3, rfl, L3, o3, g3⟩; have k1 := L3.old HD1.out; have K3 := BO.out.step o3 g3; have k20 := K3.1.cell 0; have k21 := K3.1.cell 1; have k22 := K3.1.cell 2; have k23 := K3.1.cell 3; have Z3 := BZ.out.2) | (go_at_call 19; refine (lw_do HZ.out (j : Int) 5 (kk : Int) 40 0 HD.out).mono ?_; rintro e w3 ⟨P3, a3, c3, rfl, L3, o3, g3⟩; have k1 := L3.old HD1.out; have K3 := BOZ.out.step o3 g3; have k20 := K3.1.cell 0; have k21 := K3.1.cell 1; have k22 := K3.1.cell 2; have k23 := K3.1.cell 3; have Z3 := BZ.out.step o3 g3; have z0 : w3.cell? ⟨W.heap.size, 0, none⟩ = some (.int .i64 0) := Z3.1.cell 0; have z1 : w3.cell? ⟨W.heap.size, 1, none⟩ = some (.int .i64 0) := Z3.1.cell 1; have z2 : w3.cell? ⟨W.heap.size, 2, none⟩ = some (.slice none 0 0) := Z3.1.cell 2; have z3 : w3.cell? ⟨W.heap.size, 3, none⟩ = some (.int .i64 0) := Z3.1.cell 3; have z4 : w3.cell? ⟨W.heap.size, 4, none⟩ = some (.int .i64 0) := Z3.1.cell 4; have zf : ∀ i, w3.frozen? ⟨W.heap.size, i, none⟩ = false := fun i => Z3.1.free i))
                all_goals
                  first
                    | (have HL3 := Lib.hid (And.intro (L3.poke (set5 (show Blk w3 W.heap.size 27 #[.int .i64 0, .int .i64 0, .slice none 0 0, .int .i64 0, .int .i64 0] from Z3.1) (.int .i64 re) (.int .i64 0) (.slice a3 0 c3) (.int .i64 0) (.int .i64 0)).2 Z3.2 (HY.out.o.size)) I1.out))
                    | (have HL3 := Lib.hid (And.intro (L3.alloc (.cells #[.int .i64 re, .int .i64 0, .slice a3 0 c3, .int .i64 0, .int .i64 0] 27)) I1.out))
                  clear L3 HD HY HZ BZ BO BOZ K3 Z3 k1 k20 k21 k22 k23 o3 g3 hne1 hne2 I1
                  go_wp2_with fail
                  go_roundw
                  case rel => exact ⟨q + 1, _, _, _, _, _, rfl, rfl, rfl, by go_num, by omega, by omega, HL3⟩
                  case measure => simp [intOf]; omega
              · go_wp2_with fail
                rw [← HW.out]
                clear HW y1 y3 y4
                have HY := Lib.hid (HX.out.only0 (Only0.refl W).drew)
                have HZ := Lib.hid (HY.out.alloc (.cells #[.int .i64 0, .int .i64 0, .slice none 0 0, .int .i64 0, .int .i64 0] 27))
                have BZ := Lib.hid (HY.out.box 27 #[.int .i64 0, .int .i64 0, .slice none 0 0, .int .i64 0, .int .i64 0])
                have BO := Lib.hid (show Bx W.drew P wr.heap.size 31 #[.int .i64 5, .int .i64 kk, .int .i64 40, .int .i64 0] from BW.out.only0 (Only0.refl W).drew)
                have BOZ := Lib.hid (BO.out.alloc (.cells #[.int .i64 0, .int .i64 0, .slice none 0 0, .int .i64 0, .int .i64 0] 27))
                have hne1 : ¬ W.heap.size = b := by have h1 := block_lt_of_cell HD1.out; have h2 := HY.out.o.size; have h3 : W.drew.heap.size = W.heap.size := rfl; simp only at h1; omega
                have hne2 : ¬ W.heap.size = wr.heap.size := by have h1 := BO.out.1.lt; have h3 : W.drew.heap.size = W.heap.size := rfl; omega
                clear HX BW
                go_region_held3 (fun w' => w'.cell? ⟨b, off + q * 7 + 1, none⟩ = some (.int .i64 S) ∧ w'.cell? ⟨wr.heap.size, 0, none⟩ = some (.int .i64 5) ∧ w'.cell? ⟨wr.heap.size, 1, none⟩ = some (.int .i64 kk) ∧ w'.cell? ⟨wr.heap.size, 2, none⟩ = some (.int .i64 40) ∧ w'.cell? ⟨wr.heap.size, 3, none⟩ = some (.int .i64 0)) (go_keep) (first | (go_at_call 19; refine (lw_do HY.out (j : Int) 5 (kk : Int) 40 0 HD.out).mono ?_; rintro e w3 ⟨P3, a3, c3, rfl, L3, o3, g3⟩; have k1 := L3.old HD1.out; have K3 := BO.out.step o3 g3; have k20 := K3.1.cell 0; have k21 := K3.1.cell 1; have k22 := K3.1.cell 2; have k23 := K3.1.cell 3; have Z3 := BZ.out.2) | (go_at_call 19; refine (lw_do HZ.out (j : Int) 5 (kk : Int) 40 0 HD.out).mono ?_; rintro e w3 ⟨P3, a3, c3, rfl, L3, o3, g3⟩; have k1 := L3.old HD1.out; have K3 := BOZ.out.step o3 g3; have k20 := K3.1.cell 0; have k21 := K3.1.cell 1; have k22 := K3.1.cell 2; have k23 := K3.1.cell 3; have Z3 := BZ.out.step o3 g3; have z0 : w3.cell? ⟨W.heap.size, 0, none⟩ = some (.int .i64 0) := Z3.1.cell 0; have z1 : w3.cell? ⟨W.heap.size, 1, none⟩ = some (.int .i64 0) := Z3.1.cell 1; have z2 : w3.cell? ⟨W.heap.size, 2, none⟩ = some (.slice none 0 0) := Z3.1.cell 2; have z3 : w3.cell? ⟨W.heap.size, 3, none⟩ = some (.int .i64 0) := Z3.1.cell 3; have z4 : w3.cell? ⟨W.heap.size, 4, none⟩ = some (.int .i64 0) := Z3.1.cell 4; have zf : ∀ i, w3.frozen? ⟨W.heap.size, i, none⟩ = false := fun i => Z3.1.free i))
                all_goals
                  first
                    | (have HL3 := Lib.hid (And.intro (L3.poke (set5 (show Blk w3 W.heap.size 27 #[.int .i64 0, .int .i64 0, .slice none 0 0, .int .i64 0, .int .i64 0] from Z3.1) (.int .i64 re) (.int .i64 0) (.slice a3 0 c3) (.int .i64 0) (.int .i64 0)).2 Z3.2 (HY.out.o.size)) I1.out))
                    | (have HL3 := Lib.hid (And.intro (L3.alloc (.cells #[.int .i64 re, .int .i64 0, .slice a3 0 c3, .int .i64 0, .int .i64 0] 27)) I1.out))
                  clear L3 HD HY HZ BZ BO BOZ K3 Z3 k1 k20 k21 k22 k23 o3 g3 hne1 hne2 I1
                  go_wp2_with fail
                  go_roundw
                  case rel => exact ⟨q + 1, _, _, _, _, _, rfl, rfl, rfl, by go_num, by omega, by omega, HL3⟩
                  case measure => simp [intOf]; omega
            · obtain ⟨k31, ek31, hk31⟩ := and31 k
              obtain ⟨kk, ek63, hk63⟩ := and63 k
              obtain ⟨j, ej, hj⟩ := and7 S
              obtain ⟨re, f, s', hd, hf, I1⟩ := HL.out.2.read hj (o := ⟨1, (kk : Int), 0, 0⟩) (by simp [opOkB, keyOkB]; omega) (by simp)
              have HD := Lib.hid hd
              have I1 := Lib.hid I1
              clear hd
              obtain ⟨W, hW⟩ : ∃ W, W = (wr.alloc (.cells #[.int .i64 1, .int .i64 kk, .int .i64 0, .int .i64 0] 31)) := ⟨_, rfl⟩
              have HX := Lib.hid (show LW w W P m s by rw [hW]; exact HL.out.1.only0 ((Only0.refl wr).alloc _))
              have BW := Lib.hid (show Bx W P wr.heap.size 31 #[.int .i64 1, .int .i64 kk, .int .i64 0, .int .i64 0] by rw [hW]; exact HL.out.1.box 31 #[.int .i64 1, .int .i64 kk, .int .i64 0, .int .i64 0])
              have HD1 := Lib.hid d1
              have b2 : Blk W wr.heap.size 31 #[.int .i64 1, .int .i64 kk, .int .i64 0, .int .i64 0] := by rw [hW]; exact Blk.new wr 31 #[.int .i64 1, .int .i64 kk, .int .i64 0, .int .i64 0]
              have HW := Lib.hid hW
              have X1 := HL.out.1.alloc (.cells #[.int .i64 1, .int .i64 kk, .int .i64 0, .int .i64 0] 31)
              have y1 := X1.old d1
              have y3 := X1.old d3
              have y4 := X1.old d4
              have z1 := HX.out.old d1
              have b20 : W.cell? ⟨wr.heap.size, 0, none⟩ = some (.int .i64 1) := b2.cell 0
              have b21 : W.cell? ⟨wr.heap.size, 1, none⟩ = some (.int .i64 kk) := b2.cell 1
              have b22 : W.cell? ⟨wr.heap.size, 2, none⟩ = some (.int .i64 0) := b2.cell 2
              have b23 : W.cell? ⟨wr.heap.size, 3, none⟩ = some (.int .i64 0) := b2.cell 3
              clear X1 d0 d1 d2 d3 d4 d5 d6 b2 HL hW
              rcases hf with rfl | rfl
              · go_wp2_with fail
                rw [← HW.out]
                clear HW y1 y3 y4
                have HY := Lib.hid (HX.out.only0 (Only0.refl W).drew)
                have HZ := Lib.hid (HY.out.alloc (.cells #[.int .i64 0, .int .i64 0, .slice none 0 0, .int .i64 0, .int .i64 0] 27))
                have BZ := Lib.hid (HY.out.box 27 #[.int .i64 0, .int .i64 0, .slice none 0 0, .int .i64 0, .int .i64 0])
                have BO := Lib.hid (show Bx W.drew P wr.heap.size 31 #[.int .i64 1, .int .i64 kk, .int .i64 0, .int .i64 0] from BW.out.only0 (Only0.refl W).drew)
                have BOZ := Lib.hid (BO.out.alloc (.cells #[.int .i64 0, .int .i64 0, .slice none 0 0, .int .i64 0, .int .i64 0] 27))
                have hne1 : ¬ W.heap.size = b := by have h1 := block_lt_of_cell HD1.out; have h2 := HY.out.o.size; have h3 : W.drew.heap.size = W.heap.size := rfl; simp only at h1; omega
                have hne2 : ¬ W.heap.size = wr.heap.size := by have h1 := BO.out.1.lt; have h3 : W.drew.heap.size = W.heap.size := rfl; omega
                clear HX BW
                go_region_held3 (fun w' => w'.cell? ⟨b, off + q * 7 + 1, none⟩ = some (.int .i64 S) ∧ w'.cell? ⟨wr.heap.size, 0, none⟩ = some (.int .i64 1) ∧ w'.cell? ⟨wr.heap.size, 1, none⟩ = some (.int .i64 kk) ∧ w'.cell? ⟨wr.heap.size, 2, none⟩ = some (.int .i64 0) ∧ w'.cell? ⟨wr.heap.size, 3, none⟩ = some (.int .i64 0)) (go_keep) (first | (go_at_call 19; refine (lw_do HY.out (j : Int) 1 (kk : Int) 0 0 HD.out).mono ?_; rintro e w3 ⟨P3, a3, c3, rfl, L3, o3, g3⟩; have k1 := L3.old HD1.out; have K3 := BO.out.step o3 g3; have k20 := K3.1.cell 0; have k21 := K3.1.cell 1; have k22 := K3.1.cell 2; have k23 := K3.1.cell 3; have Z3 := BZ.out.2) | (go_at_call 19; refine (lw_do HZ.out (j : Int) 1 (kk : Int) 0 0 HD.out).mono ?_; rintro e w3 ⟨P3, a3, c3, rfl, L3, o3, g3⟩; have k1 := L3.old HD1.out; have K3 := BOZ.out.step o3 g3; have k20 := K3.1.cell 0; have k21 := K3.1.cell 1; have k22 := K3.1.cell 2; have k23 := K3.1.cell 3; have Z3 := BZ.out.step o3 g3; have z0 : w3.cell? ⟨W.heap.size, 0, none⟩ = some (.int .i64 0) := Z3.1.cell 0; have z1 : w3.cell? ⟨W.heap.size, 1, none⟩ = some (.int .i64 0) := Z3.1.cell 1; have z2 : w3.cell? ⟨W.heap.size, 2, none⟩ = some (.slice none 0 0) := Z3.1.cell 2; have z3 : w3.cell? ⟨W.heap.size, 3, none⟩ = some (.int .i64 0) := Z3.1.cell 3; have z4 : w3.cell? ⟨W.heap.size, 4, none⟩ = some (.int .i64 0) := Z3.1.cell 4; have zf : ∀ i, w3.frozen? ⟨W.heap.size, i, none⟩ = false := fun i => Z3.1.free i))
                all_goals
                  first
                    | (have HL3 := Lib.hid (And.intro (L3.poke (set5 (show Blk w3 W.heap.size 27 #[.int .i64 0, .int .i64 0, .slice none 0 0, .int .i64 0, .int .i64 0] from Z3.1) (.int .i64 re) (.int .i64 0) (.slice a3 0 c3) (.int .i64 0) (.int .i64 0)).2 Z3.2 (HY.out.o.size)) I1.out))
                    | (have HL3 := Lib.hid (And.intro (L3.alloc (.cells #[.int .i64 re, .int .i64 0, .slice a3 0 c3, .int .i64 0, .int .i64 0] 27)) I1.out))
                  clear L3 HD HY HZ BZ BO BOZ K3 Z3 k1 k20 k21 k22 k23 o3 g3 hne1 hne2 I1
                  go_wp2_with fail
                  go_roundw
                  case rel => exact ⟨q + 1, _, _, _, _, _, rfl, rfl, rfl, by go_num, by omega, by omega, HL3⟩
                  case measure => simp [intOf]; omega
              · go_wp2_with fail
                rw [← HW.out]
                clear HW y1 y3 y4
                have HY := Lib.hid (HX.out.only0 (Only0.refl W).drew)
                have HZ := Lib.hid (HY.out.alloc (.cells #[.int .i64 0, .int .i64 0, .slice none 0 0, .int .i64 0, .int .i64 0] 27))
                have BZ := Lib.hid (HY.out.box 27 #[.int .i64 0, .int .i64 0, .slice none 0 0, .int .i64 0, .int .i64 0])
                have BO := Lib.hid (show Bx W.drew P wr.heap.size 31 #[.int .i64 1, .int .i64 kk, .int .i64 0, .int .i64 0] from BW.out.only0 (Only0.refl W).drew)
                have BOZ := Lib.hid (BO.out.alloc (.cells #[.int .i64 0, .int .i64 0, .slice none 0 0, .int .i64 0, .int .i64 0] 27))
                have hne1 : ¬ W.heap.size = b := by have h1 := block_lt_of_cell HD1.out; have h2 := HY.out.o.size; have h3 : W.drew.heap.size = W.heap.size := rfl; simp only at h1; omega
                have hne2 : ¬ W.heap.size = wr.heap.size := by have h1 := BO.out.1.lt; have h3 : W.drew.heap.size = W.heap.size := rfl; omega
                clear HX BW
                go_region_held3 (fun w' => w'.cell? ⟨b, off + q * 7 + 1, none⟩ = some (.int .i64 S) ∧ w'.cell? ⟨wr.heap.size, 0, none⟩ = some (.int .i64 1) ∧ w'.cell? ⟨wr.heap.size, 1, none⟩ = some (.int .i64 kk) ∧ w'.cell? ⟨wr.heap.size, 2, none⟩ = some (.int .i64 0) ∧ w'.cell? ⟨wr.heap.size, 3, none⟩ = some (.int .i64 0)) (go_keep) (first | (go_at_call 19; refine (lw_do HY.out (j : Int) 1 (kk : Int) 0 0 HD.out).mono ?_; rintro e w3 ⟨P3, a3, c3, rfl, L3, o3, g3⟩; have k1 := L3.old HD1.out; have K3 := BO.out.step o3 g3; have k20 := K3.1.cell 0; have k21 := K3.1.cell 1; have k22 := K3.1.cell 2; have k23 := K3.1.cell 3; have Z3 := BZ.out.2) | (go_at_call 19; refine (lw_do HZ.out (j : Int) 1 (kk : Int) 0 0 HD.out).mono ?_; rintro e w3 ⟨P3, a3, c3, rfl, L3, o3, g3⟩; have k1 := L3.old HD1.out; have K3 := BOZ.out.step o3 g3; have k20 := K3.1.cell 0; have k21 := K3.1.cell 1; have k22 := K3.1.cell 2; have k23 := K3.1.cell 3; have Z3 := BZ.out.step o3 g3; have z0 : w3.cell? ⟨W.heap.size, 0, none⟩ = some (.int .i64 0) := Z3.1.cell 0; have z1 : w3.cell? ⟨W.heap.size, 1, none⟩ = some (.int .i64 0) := Z3.1.cell 1; have z2 : w3.cell? ⟨W.heap.size, 2, none⟩ = some (.slice none 0 0) := Z3.1.cell 2; have z3 : w3.cell? ⟨W.heap.size, 3, none⟩ = some (.int .i64 0) := Z3.1.cell 3; have z4 : w3.cell? ⟨W.heap.size, 4, none⟩ = some (.int .i64 0) := Z3.1.cell 4; have zf : ∀ i, w3.frozen? ⟨W.heap.size, i, none⟩ = false := fun i => Z3.1.free i))
                all_goals
                  first
                    | (have HL3 := Lib.hid (And.intro (L3.poke (set5 (show Blk w3 W.heap.size 27 #[.int .i64 0, .int .i64 0, .slice none 0 0, .int .i64 0, .int .i64 0] from Z3.1) (.int .i64 re) (.int .i64 0) (.slice a3 0 c3) (.int .i64 0) (.int .i64 0)).2 Z3.2 (HY.out.o.size)) I1.out))
                    | (have HL3 := Lib.hid (And.intro (L3.alloc (.cells #[.int .i64 re, .int .i64 0, .slice a3 0 c3, .int .i64 0, .int .i64 0] 27)) I1.out))
                  clear L3 HD HY HZ BZ BO BOZ K3 Z3 k1 k20 k21 k22 k23 o3 g3 hne1 hne2 I1
                  go_wp2_with fail
                  go_roundw
                  case rel => exact ⟨q + 1, _, _, _, _, _, rfl, rfl, rfl, by go_num, by omega, by omega, HL3⟩
                  case measure => simp [intOf]; omega
          · have e60 : (q : Int) = 60 := by omega
            rw [e60]
            obtain rfl : q = 60 := by omega
            clear e60
            go_wp2_with fail
            go_loopw [15, 16, 17] (fun s15 s16 s17 wr => ∃ (p : Nat) (v16 v17 : Value) (P : Nat → Prop) (s : St), s16 = v16 ∧ s17 = v17 ∧ s15 = .int .i64 p ∧ p ≤ 8 ∧ Hid (LW w wr P m s ∧ RdI p 8 s)) (fun s15 _ _ _ => 100 - (intOf s15).toNat)
            case atStart => exact ⟨0, _, _, _, _, rfl, rfl, rfl, by omega, HL⟩
            case round =>
              obtain ⟨p, v16, v17, P, s, rfl, rfl, rfl, hp, HM⟩ := hrel
              clear HL
              by_cases hlp : p < 8
              · obtain ⟨s', hd, I1⟩ := HM.out.2.commit hlp
                have HD := Lib.hid hd
                have I1 := Lib.hid I1
                clear hd
                go_wp2_with fail
                refine (lw_do HM.out.1 (p : Int) 6 0 0 0 HD.out).mono ?_
                rintro e w3 ⟨P3, a3, c3, rfl, L3, -, -⟩
                have HL3 := Lib.hid (And.intro (L3.alloc (.cells #[.int .i64 0, .int .i64 0, .slice a3 0 c3, .int .i64 3, .int .i64 0] 27)) I1.out)
                clear L3 HD HM I1
                go_wp2_with fail
                go_roundw
                case rel =>
                  exact ⟨p + 1, _, _, _, _, rfl, rfl, by go_num, by omega, HL3⟩
                case measure => simp [intOf] <;> omega
              · obtain rfl : p = 8 := by omega
                have hu : s.l.length = 0 := by rw [HM.out.2.l]; rfl
                have hlv : s.live.length = 0 := by rw [HM.out.2.live]; rfl
                have hnw : s.now = 16 := by rw [HM.out.2.now]; rfl
                go_wp2_with fail
                refine (md_used HM.out.1.mat).mono ?_
                rintro e w4 ⟨rfl, rfl⟩
                rw [hu]
                go_wp2_with fail
                refine (lw_live HM.out.1 hlv).mono ?_
                rintro e w5 ⟨a5, c5, rfl, L5, -⟩
                clear HM
                go_wp2_with fail
                refine (md_now L5.mat).mono ?_
                rintro e w6 ⟨rfl, rfl⟩
                rw [hnw]
                have HO := Lib.hid L5.o
                clear L5
                go_wp2_with fail
                refine (awake19_any _).mono ?_
                rintro e w8 ⟨rfl, o8⟩
                have HO8 := Lib.hid (HO.out.trans o8)
                clear o8
                go_wp2_with fail
                go_ret
                exact ⟨rfl, HO8.out.below⟩
        · obtain rfl : q = rows.length := by omega
          go_wp2_with fail
          go_loopw [15, 16, 17] (fun s15 s16 s17 wr => ∃ (p : Nat) (v16 v17 : Value) (P : Nat → Prop) (s : St), s16 = v16 ∧ s17 = v17 ∧ s15 = .int .i64 p ∧ p ≤ 8 ∧ Hid (LW w wr P m s ∧ RdI p 8 s)) (fun s15 _ _ _ => 100 - (intOf s15).toNat)
          case atStart => exact ⟨0, _, _, _, _, rfl, rfl, rfl, by omega, HL⟩
          case round =>
            obtain ⟨p, v16, v17, P, s, rfl, rfl, rfl, hp, HM⟩ := hrel
            clear HL
            by_cases hlp : p < 8
            · obtain ⟨s', hd, I1⟩ := HM.out.2.commit hlp
              have HD := Lib.hid hd
              have I1 := Lib.hid I1
              clear hd
              go_wp2_with fail
              refine (lw_do HM.out.1 (p : Int) 6 0 0 0 HD.out).mono ?_
              rintro e w3 ⟨P3, a3, c3, rfl, L3, -, -⟩
              have HL3 := Lib.hid (And.intro (L3.alloc (.cells #[.int .i64 0, .int .i64 0, .slice a3 0 c3, .int .i64 3, .int .i64 0] 27)) I1.out)
              clear L3 HD HM I1
              go_wp2_with fail
              go_roundw
              case rel =>
                exact ⟨p + 1, _, _, _, _, rfl, rfl, by go_num, by omega, HL3⟩
              case measure => simp [intOf] <;> omega
            · obtain rfl : p = 8 := by omega
              have hu : s.l.length = 0 := by rw [HM.out.2.l]; rfl
              have hlv : s.live.length = 0 := by rw [HM.out.2.live]; rfl
              have hnw : s.now = 16 := by rw [HM.out.2.now]; rfl
              go_wp2_with fail
              refine (md_used HM.out.1.mat).mono ?_
              rintro e w4 ⟨rfl, rfl⟩
              rw [hu]
              go_wp2_with fail
              refine (lw_live HM.out.1 hlv).mono ?_
              rintro e w5 ⟨a5, c5, rfl, L5, -⟩
              clear HM
              go_wp2_with fail
              refine (md_now L5.mat).mono ?_
              rintro e w6 ⟨rfl, rfl⟩
              rw [hnw]
              have HO := Lib.hid L5.o
              clear L5
              go_wp2_with fail
              refine (awake19_any _).mono ?_
              rintro e w8 ⟨rfl, o8⟩
              have HO8 := Lib.hid (HO.out.trans o8)
              clear o8
              go_wp2_with fail
              go_ret
              exact ⟨rfl, HO8.out.below⟩
end Go.Proofs.Ytcbhafddehipdaa

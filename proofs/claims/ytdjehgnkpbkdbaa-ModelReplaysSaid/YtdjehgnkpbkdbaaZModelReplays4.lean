/-
  ModelReplays: what its proof rests on, part 4.
-/
import Derived.Deep.RegionHeld3
import Derived.Deep.DrawnRows
import Derived.Deep.RegionHeld
import Derived.Test.YtdjehgnkpbkdbaaZModelReplays1
import Derived.Test.YtdjehgnkpbkdbaaZModelReplays2
import Derived.Test.YtdjehgnkpbkdbaaZModelReplays3
namespace Go.Proofs.Ytdjehgnkpbkdbaa
open Go.RowKit
set_option linter.unusedVariables false
set_option linter.unusedSimpArgs false
theorem inP_take {l : List (Int × Int)} {i : Nat} (h : i < l.length) (lo hi : Int) : inP (l.take (i + 1)) lo hi = inP (l.take i) lo hi ++ if (decide (lo ≤ (l.getD i (0, 0)).1) && decide ((l.getD i (0, 0)).1 ≤ hi)) = true then [l.getD i (0, 0)] else [] := by
  have e : l.getD i (0, 0) = l[i] := by rw [List.getD_eq_getElem?_getD, List.getElem?_eq_getElem h]; rfl
  unfold inP
  rw [e, List.take_succ_eq_append_getElem h, List.filter_append]
  congr 1
  by_cases hc : (decide (lo ≤ l[i].1) && decide (l[i].1 ≤ hi)) = true
  · rw [if_pos hc]; simp only [List.filter_cons, hc, if_true, List.filter_nil]
  · have hc' : (decide (lo ≤ l[i].1) && decide (l[i].1 ≤ hi)) = false := by simpa only [Bool.not_eq_true] using hc
    rw [if_neg hc]; simp only [List.filter_cons, hc', Bool.false_eq_true, if_false, List.filter_nil]
set_option maxRecDepth 100000 in
set_option maxHeartbeats 64000000 in
theorem ref_right (x : Cl) (pa : Option Addr) (pc : Nat) (a : Option Addr) (c : Nat) (view : List (Int × Int)) (w : World) (hv : PV w a c view) (hl : view.length ≤ 1000) (hp : PairsIn w pa x.res.pairs) (hr : rightB x view = true) :
    Calls Try.prog 49 #[clVal x pa pc, .slice a view.length c] w fun e w' => Only0 w w' ∧ e = .returned (.bool true) := by
  obtain ⟨⟨k, ky, hi, vl⟩, ⟨re, rv, ps, ro, rr⟩⟩ := x
  unfold clVal
  dsimp only at hp ⊢
  obtain ⟨w1, hw1⟩ : ∃ w1, w1 = w.alloc (.cells #[.int .i64 k, .int .i64 ky, .int .i64 hi, .int .i64 vl, .int .i64 re, .int .i64 rv, .slice pa ps.length pc, .int .i64 ro, .int .i64 rr] 70) := ⟨_, rfl⟩
  have o1 : Only0 w w1 := by rw [hw1]; exact (Only0.refl w).alloc _
  have B := Blk.new w 70 #[.int .i64 k, .int .i64 ky, .int .i64 hi, .int .i64 vl, .int .i64 re, .int .i64 rv, .slice pa ps.length pc, .int .i64 ro, .int .i64 rr]
  rw [← hw1] at B
  obtain ⟨b, hb⟩ : ∃ b, b = w.heap.size := ⟨_, rfl⟩
  rw [← hb] at B
  have h0 : w1.cell? ⟨b, 0, none⟩ = some (.int .i64 k) := B.cell 0
  have h1 : w1.cell? ⟨b, 1, none⟩ = some (.int .i64 ky) := B.cell 1
  have h2 : w1.cell? ⟨b, 2, none⟩ = some (.int .i64 hi) := B.cell 2
  have h4 : w1.cell? ⟨b, 4, none⟩ = some (.int .i64 re) := B.cell 4
  have h5 : w1.cell? ⟨b, 5, none⟩ = some (.int .i64 rv) := B.cell 5
  have h6 : w1.cell? ⟨b, 6, none⟩ = some (.slice pa ps.length pc) := B.cell 6
  have H1 := Lib.hid h1
  have H2 := Lib.hid h2
  have H4 := Lib.hid h4
  have H6 := Lib.hid h6
  have FD := ref_find a c view w1 (hv.only0 o1) (by omega) ky
  have HV := Lib.hid (hv.only0 o1)
  have HPP := Lib.hid (hp.only (S := fun _ => False) o1 (fun _ _ hf => hf))
  have HO := Lib.hid o1
  have HW := Lib.hid hw1
  have HB := Lib.hid hb
  have HRT := Lib.hid hr
  clear B o1 hv hw1 hb hp hr
  by_cases k1 : k = 1
  · subst k1
    by_cases e0 : re = 0
    · subst e0
      have hf : findP view ky = some rv := by simpa [rightB] using HRT.out
      rw [hf] at FD
      simp only [Option.getD_some, Option.getD_none, Option.isSome_some, Option.isSome_none] at FD
      have bv : (rv == rv) = true := by simp
      clear HRT hf
      go_enter Try.func49, Try.ntmps49
      go_upto_region 1 with (fail)
      rw [← HW.out, ← HB.out]
      go_wp2_with fail
      refine FD.mono ?_
      rintro e w2 ⟨rfl, rfl⟩
      clear FD
      go_wp2_with fail
      go_ret
      exact ⟨HO.out, rfl⟩
    · by_cases e11 : re = 11
      · subst e11
        have hf : findP view ky = none := by simpa [rightB] using HRT.out
        rw [hf] at FD
        simp only [Option.getD_some, Option.getD_none, Option.isSome_some, Option.isSome_none] at FD
        clear HRT hf e0
        go_enter Try.func49, Try.ntmps49
        go_upto_region 1 with (fail)
        rw [← HW.out, ← HB.out]
        go_wp2_with fail
        refine FD.mono ?_
        rintro e w2 ⟨rfl, rfl⟩
        clear FD
        go_wp2_with fail
        go_ret
        exact ⟨HO.out, rfl⟩
      · have b0 : (re != 0) = true := by simpa using e0
        have b11 : (re != 11) = true := by simpa using e11
        generalize (findP view ky).getD 0 = fv at FD
        generalize (findP view ky).isSome = fs at FD
        clear HRT e0 e11
        go_enter Try.func49, Try.ntmps49
        go_upto_region 1 with (fail)
        rw [← HW.out, ← HB.out]
        go_wp2_with fail
        refine FD.mono ?_
        rintro e w2 ⟨rfl, rfl⟩
        clear FD
        go_wp2_with fail
        go_ret
        exact ⟨HO.out, rfl⟩
  · have b1 : (k == 1) = false := by simpa using k1
    by_cases k2 : k = 2
    · subst k2
      clear k1
      by_cases e0 : re = 0
      · subst e0
        have hf : findP view ky = none := by simpa [rightB] using HRT.out
        rw [hf] at FD
        simp only [Option.getD_some, Option.getD_none, Option.isSome_some, Option.isSome_none] at FD
        clear HRT hf
        go_enter Try.func49, Try.ntmps49
        go_upto_region 1 with (fail)
        rw [← HW.out, ← HB.out]
        go_wp2_with fail
        refine FD.mono ?_
        rintro e w2 ⟨rfl, rfl⟩
        clear FD
        go_wp2_with fail
        go_ret
        exact ⟨HO.out, rfl⟩
      · by_cases e11 : re = 12
        · subst e11
          obtain ⟨fv, hf⟩ : ∃ v, findP view ky = some v := Option.isSome_iff_exists.1 (by simpa [rightB] using HRT.out)
          rw [hf] at FD
          simp only [Option.getD_some, Option.getD_none, Option.isSome_some, Option.isSome_none] at FD
          clear HRT hf e0
          go_enter Try.func49, Try.ntmps49
          go_upto_region 1 with (fail)
          rw [← HW.out, ← HB.out]
          go_wp2_with fail
          refine FD.mono ?_
          rintro e w2 ⟨rfl, rfl⟩
          clear FD
          go_wp2_with fail
          go_ret
          exact ⟨HO.out, rfl⟩
        · have b0 : (re != 0) = true := by simpa using e0
          have b11 : (re != 12) = true := by simpa using e11
          generalize (findP view ky).getD 0 = fv at FD
          generalize (findP view ky).isSome = fs at FD
          clear HRT e0 e11
          go_enter Try.func49, Try.ntmps49
          go_upto_region 1 with (fail)
          rw [← HW.out, ← HB.out]
          go_wp2_with fail
          refine FD.mono ?_
          rintro e w2 ⟨rfl, rfl⟩
          clear FD
          go_wp2_with fail
          go_ret
          exact ⟨HO.out, rfl⟩
    · have b2 : (k == 2) = false := by simpa using k2
      by_cases k3 : k = 3
      · subst k3
        clear k1 k2
        by_cases e0 : re = 0
        · subst e0
          obtain ⟨fv, hf⟩ : ∃ v, findP view ky = some v := Option.isSome_iff_exists.1 (by simpa [rightB] using HRT.out)
          rw [hf] at FD
          simp only [Option.getD_some, Option.getD_none, Option.isSome_some, Option.isSome_none] at FD
          clear HRT hf
          go_enter Try.func49, Try.ntmps49
          go_upto_region 1 with (fail)
          rw [← HW.out, ← HB.out]
          go_wp2_with fail
          refine FD.mono ?_
          rintro e w2 ⟨rfl, rfl⟩
          clear FD
          go_wp2_with fail
          go_ret
          exact ⟨HO.out, rfl⟩
        · by_cases e11 : re = 11
          · subst e11
            have hf : findP view ky = none := by simpa [rightB] using HRT.out
            rw [hf] at FD
            simp only [Option.getD_some, Option.getD_none, Option.isSome_some, Option.isSome_none] at FD
            clear HRT hf e0
            go_enter Try.func49, Try.ntmps49
            go_upto_region 1 with (fail)
            rw [← HW.out, ← HB.out]
            go_wp2_with fail
            refine FD.mono ?_
            rintro e w2 ⟨rfl, rfl⟩
            clear FD
            go_wp2_with fail
            go_ret
            exact ⟨HO.out, rfl⟩
          · have b0 : (re != 0) = true := by simpa using e0
            have b11 : (re != 11) = true := by simpa using e11
            generalize (findP view ky).getD 0 = fv at FD
            generalize (findP view ky).isSome = fs at FD
            clear HRT e0 e11
            go_enter Try.func49, Try.ntmps49
            go_upto_region 1 with (fail)
            rw [← HW.out, ← HB.out]
            go_wp2_with fail
            refine FD.mono ?_
            rintro e w2 ⟨rfl, rfl⟩
            clear FD
            go_wp2_with fail
            go_ret
            exact ⟨HO.out, rfl⟩
      · have b3 : (k == 3) = false := by simpa using k3
        by_cases k4 : k = 4
        · subst k4
          clear k1 k2 k3
          by_cases e0 : re = 0
          · subst e0
            obtain ⟨fv, hf⟩ : ∃ v, findP view ky = some v := Option.isSome_iff_exists.1 (by simpa [rightB] using HRT.out)
            rw [hf] at FD
            simp only [Option.getD_some, Option.getD_none, Option.isSome_some, Option.isSome_none] at FD
            clear HRT hf
            go_enter Try.func49, Try.ntmps49
            go_upto_region 1 with (fail)
            rw [← HW.out, ← HB.out]
            go_wp2_with fail
            refine FD.mono ?_
            rintro e w2 ⟨rfl, rfl⟩
            clear FD
            go_wp2_with fail
            go_ret
            exact ⟨HO.out, rfl⟩
          · by_cases e11 : re = 11
            · subst e11
              have hf : findP view ky = none := by simpa [rightB] using HRT.out
              rw [hf] at FD
              simp only [Option.getD_some, Option.getD_none, Option.isSome_some, Option.isSome_none] at FD
              clear HRT hf e0
              go_enter Try.func49, Try.ntmps49
              go_upto_region 1 with (fail)
              rw [← HW.out, ← HB.out]
              go_wp2_with fail
              refine FD.mono ?_
              rintro e w2 ⟨rfl, rfl⟩
              clear FD
              go_wp2_with fail
              go_ret
              exact ⟨HO.out, rfl⟩
            · have b0 : (re != 0) = true := by simpa using e0
              have b11 : (re != 11) = true := by simpa using e11
              generalize (findP view ky).getD 0 = fv at FD
              generalize (findP view ky).isSome = fs at FD
              clear HRT e0 e11
              go_enter Try.func49, Try.ntmps49
              go_upto_region 1 with (fail)
              rw [← HW.out, ← HB.out]
              go_wp2_with fail
              refine FD.mono ?_
              rintro e w2 ⟨rfl, rfl⟩
              clear FD
              go_wp2_with fail
              go_ret
              exact ⟨HO.out, rfl⟩
        · have b4 : (k == 4) = false := by simpa using k4
          by_cases k5 : k = 5
          · subst k5
            clear k1 k2 k3 k4
            have HRT2 : Hid (re ≠ 0 ∨ ps = inP view ky hi) := Lib.hid (by have := HRT.out; simpa [rightB] using this)
            obtain ⟨i0, hi0, hz0, hz1, hz2⟩ := info_parts info_pair
            generalize (findP view ky).getD 0 = fv at FD
            generalize (findP view ky).isSome = fs at FD
            clear HRT
            go_enter Try.func49, Try.ntmps49
            go_upto_region 1 with (fail)
            rw [← HW.out, ← HB.out]
            go_wp2_with fail
            refine FD.mono ?_
            rintro e w2 ⟨rfl, rfl⟩
            clear FD
            go_wp2_with fail
            go_loopw [8, 9] (fun s8 s9 wr => ∃ (i len : Nat) (ra : Option Addr) (rc : Nat), i ≤ view.length ∧ len ≤ i ∧ s9 = .int .i64 i ∧ s8 = .slice ra len rc ∧ Hid (len = (inP (view.take i) ky hi).length ∧ Only0 w1 wr ∧ wr.ownsRow w1.heap.size 73 2 (.slice ra len rc) len (pairCells (inP (view.take i) ky hi)))) (fun _ s9 _ => view.length - (intOf s9).toNat)
            case atStart => exact ⟨0, 0, none, 0, Nat.zero_le _, Nat.le_refl _, rfl, rfl, Lib.hid ⟨by simp [inP], Only0.refl _, by simpa [inP, pairCells] using World.ownsRow_nil _ _ _ _⟩⟩
            case round =>
              obtain ⟨i, len, ra, rc, hi_, hlen, rfl, rfl, HR⟩ := hrel
              have h1 := cell_only0 HR.out.2.1 H1.out
              have h2 := cell_only0 HR.out.2.1 H2.out
              have h4 := cell_only0 HR.out.2.1 H4.out
              have h6 := cell_only0 HR.out.2.1 H6.out
              by_cases hlt : i < view.length
              · obtain ⟨bv, off, rfl, hc⟩ := (HV.out.only0 HR.out.2.1).at_.at (by omega)
                obtain ⟨p1, p2⟩ := hc i hlt
                have HTK : Hid (inP (view.take (i + 1)) ky hi = inP (view.take i) ky hi ++ if (decide (ky ≤ (view.getD i (0, 0)).1) && decide ((view.getD i (0, 0)).1 ≤ hi)) = true then [view.getD i (0, 0)] else []) := Lib.hid (inP_take hlt ky hi)
                generalize view.getD i (0, 0) = x at p1 p2 HTK
                obtain ⟨x1, x2⟩ := x
                dsimp only at p1 p2 HTK
                rw [← Nat.add_assoc] at p2
                clear hc
                by_cases c1 : ky ≤ x1
                · have d1 : decide (ky ≤ x1) = true := by simpa using c1
                  by_cases c2 : x1 ≤ hi
                  · have d2 : decide (x1 ≤ hi) = true := by simpa using c2
                    have HTK2 : Hid (inP (view.take (i + 1)) ky hi = inP (view.take i) ky hi ++ [(x1, x2)]) := Lib.hid (by rw [HTK.out, d1, d2]; rfl)
                    have hown := HR.out.2.2
                    have hwr := HR.out.2.1.size
                    have NEXT : ∀ (n : Nat) (a3 : Option Addr) (c3 : Nat) (w2 : World), w2.ownsRow w1.heap.size 73 2 (.slice a3 (len + 1) c3) (len + 1) (pairCells (inP (view.take i) ky hi) ++ [.int .i64 x1, .int .i64 x2]) → ((wr.drewN n).alloc (.cells #[.int .i64 x1, .int .i64 x2] 73)).grownBy w2 (Value.slice ra len rc).ownBlock →
                        len + 1 = (inP (view.take (i + 1)) ky hi).length ∧ Only0 w1 w2 ∧ w2.ownsRow w1.heap.size 73 2 (.slice a3 (len + 1) c3) (len + 1) (pairCells (inP (view.take (i + 1)) ky hi)) := by
                      intro n a3 c3 w2 g1 g2
                      have e1 := HR.out.1
                      rw [HTK2.out, pairCells_snoc]
                      exact ⟨by simp [e1], ((HR.out.2.1.drewN n).alloc _).grown g2 (fun b hb => (hown.lt b hb).1), g1⟩
                    have HNX := Lib.hid NEXT
                    clear NEXT c1 c2 HTK HTK2 HR
                    go_wp2_with fail
                    go_quiet (fail)
                    go_wp2_with (at_builtin; refine wpList_append_all _ rfl _ _ 44 rfl w1.heap.size 73 i0 _ 2 16 Try.underlying44 hi0 hz0 hz1 hz2 rfl (by decide) (.slice ra len rc) len (pairCells (inP (view.take i) ky hi)) rfl ((show World.ownsRow (wr.drewN _) w1.heap.size 73 2 (.slice ra len rc) len _ from hown).alloc _) (some ⟨_, 0, none⟩) 1 1 [.int .i64 x1, .int .i64 x2] rfl rfl (fun hn => by cases hn) (fun ad had => by injection had with had; subst had; exact World.news_of_block (cs := #[.int .i64 x1, .int .i64 x2]) (t := 73) (fr := (0, 0)) (heap_alloc_new _ _)) (by intro u hu; simp at hu; rcases hu with rfl | rfl <;> rfl) (by unfold maxLen; omega) (by omega) (by simp; omega) (len + 1) rfl ?_)
                    intro a3 c3 w3 hown3 hgrow3
                    have R := Lib.hid (HNX.out _ a3 c3 w3 hown3 hgrow3)
                    clear HNX hown hown3 hgrow3
                    go_wp2_with fail
                    go_roundw
                    case rel => exact ⟨i + 1, len + 1, a3, c3, by omega, by omega, by go_num, rfl, R⟩
                    case measure => simp [intOf]; omega
                  · have d2 : decide (x1 ≤ hi) = false := by simpa using c2
                    have R : Hid (∀ n, len = (inP (view.take (i + 1)) ky hi).length ∧ Only0 w1 (wr.drewN n) ∧ (wr.drewN n).ownsRow w1.heap.size 73 2 (.slice ra len rc) len (pairCells (inP (view.take (i + 1)) ky hi))) := Lib.hid (fun n => by
                      rw [HTK.out, d1, d2]; simp only [Bool.and_false, Bool.false_eq_true, if_false, List.append_nil]
                      exact ⟨HR.out.1, HR.out.2.1.drewN n, HR.out.2.2⟩)
                    clear c1 c2 HTK HR
                    go_wp2_with fail
                    go_quiet (fail)
                    go_wp2_with fail
                    go_roundw
                    case rel => exact ⟨i + 1, len, ra, rc, by omega, by omega, by go_num, rfl, Lib.hid (R.out _)⟩
                    case measure => simp [intOf]; omega
                · have d1 : decide (ky ≤ x1) = false := by simpa using c1
                  have R : Hid (∀ n, len = (inP (view.take (i + 1)) ky hi).length ∧ Only0 w1 (wr.drewN n) ∧ (wr.drewN n).ownsRow w1.heap.size 73 2 (.slice ra len rc) len (pairCells (inP (view.take (i + 1)) ky hi))) := Lib.hid (fun n => by
                    rw [HTK.out, d1]; simp only [Bool.false_and, Bool.false_eq_true, if_false, List.append_nil]
                    exact ⟨HR.out.1, HR.out.2.1.drewN n, HR.out.2.2⟩)
                  clear c1 HTK HR
                  go_wp2_with fail
                  go_quiet (fail)
                  go_wp2_with fail
                  go_roundw
                  case rel => exact ⟨i + 1, len, ra, rc, by omega, by omega, by go_num, rfl, Lib.hid (R.out _)⟩
                  case measure => simp [intOf]; omega
              · obtain rfl : i = view.length := by omega
                have R := Lib.hid HR.out
                rw [List.take_length] at R
                have HO2 := Lib.hid (HO.out.trans HR.out.2.1)
                have HPA := Lib.hid (HPP.out.only (S := fun _ => False) HR.out.2.1 (fun _ _ hf => hf))
                clear HR hlt
                by_cases e0 : re = 0
                · subst e0
                  have hps : ps = inP view ky hi := HRT2.out.resolve_left (fun h => h rfl)
                  have C := samePairs_any pa ra pc rc ps (inP view ky hi) wr HPA.out (PairsIn.of_own (by have := R.out.2.2; rw [R.out.1] at this; exact this)) (by rw [hps]; have := R.out.1; omega) (by have := R.out.1; omega)
                  rw [decide_eq_true hps, ← R.out.1] at C
                  clear hps
                  go_wp2_with fail
                  refine C.mono ?_
                  rintro e w5 ⟨rfl, n5, rfl⟩
                  clear C
                  go_wp2_with fail
                  go_ret
                  exact ⟨HO2.out.drewN n5, rfl⟩
                · have b0 : (re != 0) = true := by simpa using e0
                  clear e0
                  go_wp2_with fail
                  go_ret
                  exact ⟨HO2.out, rfl⟩
          · have b5 : (k == 5) = false := by simpa using k5
            generalize (findP view ky).getD 0 = fv at FD
            generalize (findP view ky).isSome = fs at FD
            clear HRT k1 k2 k3 k4 k5
            go_enter Try.func49, Try.ntmps49
            go_upto_region 1 with (fail)
            rw [← HW.out, ← HB.out]
            go_wp2_with fail
            refine FD.mono ?_
            rintro e w2 ⟨rfl, rfl⟩
            clear FD
            go_wp2_with fail
            go_ret
            exact ⟨HO.out, rfl⟩
end Go.Proofs.Ytdjehgnkpbkdbaa
namespace Go.Proofs.Ytdjehgnkpbkdbaa
open Go.RowKit
set_option linter.unusedVariables false
set_option linter.unusedSimpArgs false
theorem goodB_drop {l : List Cl} {i : Nat} {v : List (Int × Int)} (hi : i < l.length) (h : goodB (l.drop i) v = true) : rightB (l.getD i default) v = true ∧ goodB (l.drop (i + 1)) (laidP v (l.getD i default)) = true := by
  have e : l.getD i default = l[i] := by rw [List.getD_eq_getElem?_getD, List.getElem?_eq_getElem hi]; rfl
  rw [e, List.drop_eq_getElem_cons hi] at *
  unfold goodB at h
  rw [Bool.and_eq_true] at h
  exact h
theorem getD_mem {l : List Cl} {i : Nat} (hi : i < l.length) : l.getD i default ∈ l := by
  rw [List.getD_eq_getElem?_getD, List.getElem?_eq_getElem hi]; exact List.getElem_mem hi
set_option maxRecDepth 100000 in
set_option maxHeartbeats 32000000 in
/-- holds, of what holds. -/
theorem ref_holds (a : Option Addr) (c : Nat) (l : List Dl) (w : World) (h : DealsIn w a l) (hk : DlsOk l) (hlc : l.length ≤ c) {k : Nat} (hkn : k < l.length) (at_ : Int) {f : Fn} (hf : stateP l at_ k = listOf f) (hg : holdsB l k at_ = true) :
    Calls Try.prog 40 #[.slice a l.length c, .int .i64 k, .int .u64 at_] w fun e w' => Only0 w w' ∧ e = .returned (.bool true) := by
  have C := ref_state a c l w h hk hlc at_ k
  rw [hf] at C
  obtain ⟨g, oa, oc, rfl, hC, hoc, d0, d1, d2, d3, d4, d5⟩ := h.at_ hkn
  have HCL := Lib.hid hC
  have HD5 := Lib.hid d5
  have hol : (dAt l k).ops.length ≤ 200 := hk.ops k hkn
  have HOK := Lib.hid (hk.ok k hkn)
  have HG : Hid (goodB (dAt l k).ops (listOf f) = true) := Lib.hid (by rw [← hf]; exact hg)
  have hl := hk.len
  have hkl : (k : Int) < (l.length : Int) := by omega
  have hk0 : (0 : Int) ≤ (k : Int) := by omega
  generalize (dAt l k).ops = ops at *
  clear h hk hC d0 d1 d2 d3 d4 d5 hf hg
  go_enter Try.func40, Try.ntmps40
  go_wp2_with fail
  refine C.mono ?_
  rintro e w1 ⟨a1, c1, rfl, hp1, o1⟩
  obtain ⟨n1, hn1⟩ : ∃ n1, n1 = (listOf f).length := ⟨_, rfl⟩
  rw [← hn1]
  have HN1 := Lib.hid hn1
  have H1 : Hid (Only0 w w1 ∧ PV w1 a1 c1 (listOf f) ∧ goodB (ops.drop 0) (listOf f) = true) := Lib.hid ⟨o1, hp1, HG.out⟩
  clear C hn1 hp1 o1
  go_wp2_with fail
  go_loopw [7, 8] (fun s7 s8 wr => ∃ (i : Nat) (f2 : Fn) (a2 : Option Addr) (c2 n2 : Nat), i ≤ ops.length ∧ s8 = .int .i64 i ∧ s7 = .slice a2 n2 c2 ∧ Hid (n2 = (listOf f2).length) ∧ Hid (Only0 w wr ∧ PV wr a2 c2 (listOf f2) ∧ goodB (ops.drop i) (listOf f2) = true)) (fun _ s8 _ => ops.length - (intOf s8).toNat)
  case atStart => exact ⟨0, f, a1, c1, n1, Nat.zero_le _, rfl, rfl, HN1, H1⟩
  case round =>
    obtain ⟨i, f2, a2, c2, n2, hi, rfl, rfl, HN2, HR⟩ := hrel
    clear HN1 H1 HG
    have d5 := cell_only0 HR.out.1 HD5.out
    by_cases hlt : i < ops.length
    · have hiI : (i : Int) < (ops.length : Int) := by omega
      obtain ⟨g2, pa, pc, rfl, hP, q0, q1, q3, q4, q5, q6, q7, q8, q9⟩ := (HCL.out.only0 HR.out.1).at_ hlt
      obtain ⟨r1, r2⟩ := goodB_drop hlt HR.out.2.2
      have hcok := HOK.out _ (getD_mem hlt)
      generalize ops.getD i default = x at *
      have CR := ref_right x pa pc a2 c2 (listOf f2) wr HR.out.2.1 (by have := listOf_len f2; omega) hP r1
      have CL := fun w' (o : Only0 wr w') => ref_laid a2 c2 (listOf f2) w' (HR.out.2.1.only0 o) (by have := listOf_len f2; omega) x pa pc
      rw [laidP_listOf f2 hcok] at r2
      rw [← HN2.out] at CR
      have HST : Hid (∀ w3 w4 a4 c4, Only0 wr w3 → PV w4 a4 c4 (listOf (laidF f2 x)) → Only0 w3 w4 → Only0 w w4 ∧ PV w4 a4 c4 (listOf (laidF f2 x)) ∧ goodB (ops.drop (i + 1)) (listOf (laidF f2 x)) = true) := Lib.hid (fun w3 w4 a4 c4 o3 hp ho => ⟨(HR.out.1.trans o3).trans ho, hp, r2⟩)
      have HCK := Lib.hid (And.intro hcok HN2.out)
      have HQ : Hid (∀ w', Only0 wr w' → ∀ p v, wr.cell? p = some v → w'.cell? p = some v) := Lib.hid (fun w' o p v hp => cell_only0 o hp)
      have HCL2 := Lib.hid CL
      clear hP r1 r2 hcok HR CL
      obtain ⟨⟨k_, ky_, hi_, vl_⟩, ⟨re_, rv_, ps_, ro_, rr_⟩⟩ := x
      unfold clVal at CR HCL2
      dsimp only at q0 q1 q3 q4 q5 q6 q7 q8 q9 CR HCL2
      go_wp2_with fail
      refine CR.mono ?_
      rintro e w3 ⟨o3, rfl⟩
      have CL := HCL2.out w3 o3
      rw [laidP_listOf f2 HCK.out.1, ← HCK.out.2] at CL
      have q0' := HQ.out w3 o3 _ _ q0
      have q1' := HQ.out w3 o3 _ _ q1
      have q3' := HQ.out w3 o3 _ _ q3
      have q4' := HQ.out w3 o3 _ _ q4
      have q5' := HQ.out w3 o3 _ _ q5
      have q6' := HQ.out w3 o3 _ _ q6
      have q7' := HQ.out w3 o3 _ _ q7
      have q8' := HQ.out w3 o3 _ _ q8
      have q9' := HQ.out w3 o3 _ _ q9
      have d5' := HQ.out w3 o3 _ _ d5
      have HO3 := Lib.hid o3
      clear CR HCL2 o3 q0 q1 q3 q4 q5 q6 q7 q8 q9 d5 HQ HCK
      go_wp2_with fail
      refine CL.mono ?_
      rintro e w4 ⟨a4, c4_, rfl, hp4, o4⟩
      have HN4 := Lib.hid (HST.out w3 w4 a4 c4_ HO3.out hp4 o4)
      generalize laidF f2 _ = f4 at *
      obtain ⟨n4, hn4⟩ : ∃ n4, n4 = (listOf f4).length := ⟨_, rfl⟩
      rw [← hn4]
      have HNN := Lib.hid hn4
      clear CL HST hp4 o4 hn4 q0' q1' q3' q4' q5' q6' q7' q8' q9' d5' HO3
      go_wp2_with fail
      go_roundw
      case rel => exact ⟨i + 1, f4, a4, c4_, n4, by omega, by go_num, rfl, HNN, HN4⟩
      case measure => simp [intOf]; omega
    · obtain rfl : i = ops.length := by omega
      have HO := Lib.hid HR.out.1
      clear HR hlt
      go_wp2_with fail
      go_ret
      exact ⟨HO.out, rfl⟩
/-- What Snapshot and Serial need. -/
structure GoodAt (l : List Dl) (k : Nat) (at_ : Int) : Prop where
  st : ∃ f, stateP l at_ k = listOf f
  holds : holdsB l k at_ = true
set_option maxRecDepth 100000 in
set_option maxHeartbeats 16000000 in
theorem ref_snapshot (a : Option Addr) (c : Nat) (l : List Dl) (w : World) (h : DealsIn w a l) (hk : DlsOk l) (hlc : l.length ≤ c) (hid : IdsOk l) {k : Nat} (hkn : k < l.length) (h3 : (dAt l k).state = 3) (hg : GoodAt l k (dAt l k).beg) :
    Calls Try.prog 22 #[.slice a l.length c, .int .i64 ((k : Int) + 1)] w fun e w' => Only0 w w' ∧ e = .returned (.bool true) := by
  have hl := hk.len
  have C1 := ref_done a c l w h (by omega) hlc hid hkn h3
  obtain ⟨f, hf⟩ := hg.st
  have C2 := ref_holds a c l w h hk hlc hkn _ hf hg.holds
  obtain ⟨g, oa, oc, rfl, hC, hoc, d0, d1, d2, d3, d4, d5⟩ := h.at_ hkn
  have hkl : (k : Int) < (l.length : Int) := by omega
  have hk0 : (0 : Int) ≤ (k : Int) := by omega
  generalize (dAt l k).beg = bg at d3 C2
  clear h hk hid h3 hg hf hC hoc d0 d1 d2 d4 d5
  go_enter Try.func22, Try.ntmps22
  go_wp2_with fail
  refine C1.mono ?_
  rintro e w1 ⟨rfl, rfl⟩
  clear C1
  go_wp2_with fail
  refine C2.mono ?_
  rintro e w2 ⟨o2, rfl⟩
  have HO := Lib.hid o2
  clear C2 o2
  go_wp2_with fail
  go_ret
  exact ⟨HO.out, rfl⟩
set_option maxRecDepth 100000 in
set_option maxHeartbeats 16000000 in
theorem ref_serial (a : Option Addr) (c : Nat) (l : List Dl) (w : World) (h : DealsIn w a l) (hk : DlsOk l) (hlc : l.length ≤ c) (hid : IdsOk l) {k : Nat} (hkn : k < l.length) (h3 : (dAt l k).state = 3) (hf0 : 0 ≤ (dAt l k).fin ∧ (dAt l k).fin ≤ 1099511627776) (hg : GoodAt l k (before1 (dAt l k).fin)) :
    Calls Try.prog 21 #[.slice a l.length c, .int .i64 ((k : Int) + 1)] w fun e w' => Only0 w w' ∧ e = .returned (.bool true) := by
  have hl := hk.len
  have C1 := ref_done a c l w h (by omega) hlc hid hkn h3
  have CB := ref_before (dAt l k).fin hf0.1 hf0.2 w
  obtain ⟨f, hf⟩ := hg.st
  have C2 := ref_holds a c l w h hk hlc hkn _ hf hg.holds
  obtain ⟨g, oa, oc, rfl, hC, hoc, d0, d1, d2, d3, d4, d5⟩ := h.at_ hkn
  have hkl : (k : Int) < (l.length : Int) := by omega
  have hk0 : (0 : Int) ≤ (k : Int) := by omega
  generalize (dAt l k).fin = fi at d4 C2 CB
  generalize before1 fi = bf at C2 CB
  clear h hk hid h3 hg hf hC hoc d0 d1 d2 d3 d5 hf0
  go_enter Try.func21, Try.ntmps21
  go_wp2_with fail
  refine C1.mono ?_
  rintro e w1 ⟨rfl, rfl⟩
  clear C1
  go_wp2_with fail
  refine CB.mono ?_
  rintro e w1 ⟨rfl, rfl⟩
  clear CB
  go_wp2_with fail
  refine C2.mono ?_
  rintro e w2 ⟨o2, rfl⟩
  have HO := Lib.hid o2
  clear C2 o2
  go_wp2_with fail
  go_ret
  exact ⟨HO.out, rfl⟩
end Go.Proofs.Ytdjehgnkpbkdbaa
namespace Go.Proofs.Ytdjehgnkpbkdbaa
open Go.RowKit
set_option linter.unusedVariables false
set_option linter.unusedSimpArgs false
theorem info_int20 : (Try.prog.info? 3).map (fun i => (i.zero, i.size, i.bytes)) = some (some (.int .i64 0), 1, 8) := by kernel_rfl
theorem repOps_drop {view : List (Int × Int)} {l : List Cl} {i : Nat} {wr : List Int} (hi : i < l.length) (h : repOps view (l.drop i) wr = true) :
    ((l.getD i default).op.kind = 1 → (l.getD i default).res.e = 0 → wr.contains (l.getD i default).op.key = false → findP view (l.getD i default).op.key = some (l.getD i default).res.value) ∧
    repOps view (l.drop (i + 1)) (if writesB (l.getD i default) then wr ++ [(l.getD i default).op.key] else wr) = true := by
  have e : l.getD i default = l[i] := by rw [List.getD_eq_getElem?_getD, List.getElem?_eq_getElem hi]; rfl
  rw [e, List.drop_eq_getElem_cons hi] at *
  unfold repOps at h
  rw [Bool.and_eq_true] at h
  refine ⟨fun h1 h2 h3 => ?_, h.2⟩
  have := h.1
  rw [decide_eq_true h1, decide_eq_true h2, h3] at this
  simpa using this
theorem contains_take {l : List Int} {j : Nat} (h : j < l.length) (x : Int) : (l.take (j + 1)).contains x = ((l.take j).contains x || (l.getD j 0 == x)) := by
  have e : l.getD j 0 = l[j] := by rw [List.getD_eq_getElem?_getD, List.getElem?_eq_getElem h]; rfl
  rw [e, List.take_succ_eq_append_getElem h, List.contains_append]
  congr 1
  by_cases hx : l[j] = x
  · simp [hx]
  · have hx' : ¬ (x = l[j]) := fun e => hx e.symm
    simp [hx, hx']
set_option maxRecDepth 100000 in
set_option maxHeartbeats 64000000 in
theorem ref_repeat (a : Option Addr) (c : Nat) (l : List Dl) (w : World) (h : DealsIn w a l) (hk : DlsOk l) (hlc : l.length ≤ c) (hid : IdsOk l) {k : Nat} (hkn : k < l.length) (h3 : (dAt l k).state = 3) (hf0 : 0 ≤ (dAt l k).fin ∧ (dAt l k).fin ≤ 1099511627776) (hg : GoodAt l k (dAt l k).beg)
    {f : Fn} (hf : stateP l (before1 (dAt l k).fin) k = listOf f) (hr : repOps (listOf f) (dAt l k).ops [] = true) :
    Calls Try.prog 23 #[.slice a l.length c, .int .i64 ((k : Int) + 1)] w fun e w' => Only0 w w' ∧ e = .returned (.bool true) := by
  have hl := hk.len
  have C1 := ref_done a c l w h (by omega) hlc hid hkn h3
  obtain ⟨f1, hf1⟩ := hg.st
  have C2 := ref_holds a c l w h hk hlc hkn _ hf1 hg.holds
  have HDK := Lib.hid (And.intro h hk)
  have CB := fun w' => ref_before (dAt l k).fin hf0.1 hf0.2 w'
  have CS := fun w' (o : Only0 w w') => ref_state a c l w' (h.only0 o) hk hlc (before1 (dAt l k).fin) k
  rw [hf] at CS
  obtain ⟨g, oa, oc, rfl, hC, hoc, d0, d1, d2, d3, d4, d5⟩ := h.at_ hkn
  have HCL := Lib.hid hC
  have HD5 := Lib.hid d5
  have HD4 := Lib.hid d4
  have hol : (dAt l k).ops.length ≤ 200 := hk.ops k hkn
  have HRP0 : Hid (repOps (listOf f) ((dAt l k).ops.drop 0) [] = true) := Lib.hid hr
  have hkl : (k : Int) < (l.length : Int) := by omega
  have hk0 : (0 : Int) ≤ (k : Int) := by omega
  have HCB := Lib.hid CB
  have HCS := Lib.hid CS
  generalize (dAt l k).ops = ops at *
  generalize (dAt l k).fin = fi at *
  generalize before1 fi = bf at *
  generalize (dAt l k).beg = bg at d3 C2
  obtain ⟨i0, hi0, hz0, hz1, hz2⟩ := info_parts info_int20
  clear h hk hid h3 hg hf hf1 hC d0 d1 d2 d4 d5 hf0 hr CB CS HDK
  go_enter Try.func23, Try.ntmps23
  go_wp2_with fail
  refine C1.mono ?_
  rintro e w0 ⟨rfl, rfl⟩
  clear C1
  go_wp2_with fail
  refine C2.mono ?_
  rintro e w1 ⟨o1, rfl⟩
  have d4 := cell_only0 o1 HD4.out
  have CB1 := HCB.out w1
  have CS1 := HCS.out w1 o1
  have HO1 := Lib.hid o1
  clear C2 HCB HCS o1 d3
  go_wp2_with fail
  refine CB1.mono ?_
  rintro e w1' ⟨rfl, rfl⟩
  clear CB1
  go_wp2_with fail
  refine CS1.mono ?_
  rintro e w2 ⟨a1, c1, rfl, hp2, o2⟩
  obtain ⟨n1, hn1⟩ : ∃ n1, n1 = (listOf f).length := ⟨_, rfl⟩
  rw [← hn1]
  have HN1 := Lib.hid hn1
  have HV := Lib.hid hp2
  have HO2 := Lib.hid (HO1.out.trans o2)
  have HS0 : Hid (Only0 w2 w2 ∧ w2.ownsRow w2.heap.size 3 1 (.slice none 0 0) 0 (([] : List Int).map (Value.int .i64))) := Lib.hid ⟨Only0.refl _, World.ownsRow_nil _ _ _ _⟩
  clear CS1 hn1 hp2 o2 d4 HO1
  go_wp2_with fail
  go_loopw [7, 8, 9, 10, 11, 12, 13] (fun s7 s8 s9 s10 s11 s12 s13 wr => ∃ (i : Nat) (wl : List Int) (ra : Option Addr) (rc wn : Nat) (v9 v10 v11 v12 v13 : Value), i ≤ ops.length ∧ wn ≤ i ∧ s9 = v9 ∧ s10 = v10 ∧ s11 = v11 ∧ s12 = v12 ∧ s13 = v13 ∧ s8 = .int .i64 i ∧ s7 = .slice ra wn rc ∧ Hid (wn = wl.length ∧ repOps (listOf f) (ops.drop i) wl = true) ∧ Hid (Only0 w2 wr ∧ wr.ownsRow w2.heap.size 3 1 (.slice ra wn rc) wn (wl.map (Value.int .i64)))) (fun _ s8 _ _ _ _ _ _ => ops.length - (intOf s8).toNat)
  case atStart => exact ⟨0, [], none, 0, 0, _, _, _, _, _, Nat.zero_le _, Nat.le_refl _, rfl, rfl, rfl, rfl, rfl, rfl, rfl, Lib.hid ⟨rfl, HRP0.out⟩, HS0⟩
  case round =>
    obtain ⟨i, wl, ra, rc, wn, v9, v10, v11, v12, v13, hi, hwn, rfl, rfl, rfl, rfl, rfl, rfl, rfl, HW, HS⟩ := hrel
    clear HRP0 HS0
    have d5 := cell_only0 (HO2.out.trans HS.out.1) HD5.out
    by_cases hlt : i < ops.length
    · have hiI : (i : Int) < (ops.length : Int) := by omega
      obtain ⟨g2, pa, pc, rfl, hP, q0, q1, q3, q4, q5, q6, q7, q8, q9⟩ := (HCL.out.only0 (HO2.out.trans HS.out.1)).at_ hlt
      have HRP := Lib.hid (repOps_drop hlt HW.out.2)
      have HWN := Lib.hid HW.out.1
      generalize ops.getD i default = x at *
      clear hP HW
      obtain ⟨⟨k_, ky_, hi_, vl_⟩, ⟨re_, rv_, ps_, ro_, rr_⟩⟩ := x
      dsimp only at q0 q1 q3 q4 q5 q6 q7 q8 q9 HRP
      obtain ⟨w3, hw3⟩ : ∃ w3, w3 = wr.alloc (.cells #[.int .i64 k_, .int .i64 ky_, .int .i64 hi_, .int .i64 vl_, .int .i64 re_, .int .i64 rv_, .slice pa ps_.length pc, .int .i64 ro_, .int .i64 rr_] 70) := ⟨_, rfl⟩
      obtain ⟨cb, hcb⟩ : ∃ cb, cb = wr.heap.size := ⟨_, rfl⟩
      have B3 : Hid (Blk w3 cb 70 #[.int .i64 k_, .int .i64 ky_, .int .i64 hi_, .int .i64 vl_, .int .i64 re_, .int .i64 rv_, .slice pa ps_.length pc, .int .i64 ro_, .int .i64 rr_]) := Lib.hid (by rw [hw3, hcb]; exact Blk.new _ _ _)
      have S3 : Hid (Only0 w2 w3 ∧ w3.ownsRow w2.heap.size 3 1 (.slice ra wn rc) wn (wl.map (Value.int .i64))) := Lib.hid (by rw [hw3]; exact ⟨HS.out.1.alloc _, HS.out.2.alloc _⟩)
      go_upto_region 10 with (fail)
      rw [← hw3, ← hcb]
      clear hw3 hcb HS q0 q1 q3 q4 q5 q6 q7 q8 q9 d5
      go_upto_region 11 with (fail)
      go_wp2_with fail
      go_loopw [10, 11] (fun s10 s11 w4 => ∃ (j m : Nat), j ≤ wn ∧ s11 = .int .i64 j ∧ s10 = .bool ((wl.take j).contains ky_) ∧ w4 = w3.drewN m) (fun _ s11 _ => wn - (intOf s11).toNat)
      case atStart => exact ⟨0, 0, Nat.zero_le _, rfl, by simp, rfl⟩
      case round =>
        obtain ⟨j, m, hj, rfl, hs10, hw4⟩ := hrel
        obtain ⟨ow, how_⟩ : ∃ ow, ow = (wl.take j).contains ky_ := ⟨_, rfl⟩
        rw [← how_] at hs10
        have HOW := Lib.hid how_
        subst hs10 hw4
        clear how_
        by_cases hjl : j < wn
        · have hjw : j < wl.length := by rw [← HWN.out]; exact hjl
          have z1 : w3.cell? ⟨cb, 1, none⟩ = some (.int .i64 ky_) := B3.out.cell 1
          have HCT := Lib.hid (contains_take hjw ky_)
          rcases S3.out.2.2 with ⟨_, h0⟩ | ⟨gg, cap, cur, hv, _⟩
          · omega
          · injection hv with hv1 hv2 hv3
            clear hv2
            subst hv1 hv3
            have e0 : w3.cell? ⟨gg, j, none⟩ = some (.int .i64 (wl.getD j 0)) := by
              rw [S3.out.2.cellAt j (by omega), List.getElem?_map, List.getD_eq_getElem?_getD, List.getElem?_eq_getElem hjw]; rfl
            generalize wl.getD j 0 = wx at e0 HCT
            cases hoc_ : ow with
            | true =>
              have HN : Hid ((wl.take (j + 1)).contains ky_ = true) := Lib.hid (by rw [HCT.out, ← HOW.out, hoc_]; rfl)
              subst hoc_
              clear HCT HOW
              go_wp2_with fail
              go_quiet (fail)
              go_wp2_with fail
              go_roundw
              case rel => exact ⟨j + 1, _, by omega, by go_num, by rw [HN.out], by first | rfl | exact World.drewN_drewN _ _ _⟩
              case measure => simp [intOf]; omega
            | false =>
              cases hx : (wx == ky_) with
              | true =>
                have HN : Hid ((wl.take (j + 1)).contains ky_ = true) := Lib.hid (by rw [HCT.out, hx, Bool.or_true])
                subst hoc_
                clear HCT HOW
                go_wp2_with fail
                go_quiet (fail)
                go_wp2_with fail
                go_roundw
                case rel => exact ⟨j + 1, _, by omega, by go_num, by rw [HN.out], by first | rfl | exact World.drewN_drewN _ _ _⟩
                case measure => simp [intOf]; omega
              | false =>
                have HN : Hid ((wl.take (j + 1)).contains ky_ = false) := Lib.hid (by rw [HCT.out, hx, ← HOW.out, hoc_]; rfl)
                subst hoc_
                clear HCT HOW
                go_wp2_with fail
                go_quiet (fail)
                go_wp2_with fail
                go_roundw
                case rel => exact ⟨j + 1, _, by omega, by go_num, by rw [HN.out], by first | rfl | exact World.drewN_drewN _ _ _⟩
                case measure => simp [intOf]; omega
        · obtain rfl : j = wn := by omega
          have hown_ : ow = wl.contains ky_ := by rw [HOW.out, HWN.out, List.take_length]
          obtain ⟨w4, hw4⟩ : ∃ w4, w4 = w3.drewN m := ⟨_, rfl⟩
          have B4 : Hid (Blk w4 cb 70 #[.int .i64 k_, .int .i64 ky_, .int .i64 hi_, .int .i64 vl_, .int .i64 re_, .int .i64 rv_, .slice pa ps_.length pc, .int .i64 ro_, .int .i64 rr_]) := Lib.hid (by rw [hw4]; exact B3.out.drewN m)
          have S4 : Hid (Only0 w2 w4 ∧ w4.ownsRow w2.heap.size 3 1 (.slice ra j rc) j (wl.map (Value.int .i64))) := Lib.hid (by rw [hw4]; exact ⟨S3.out.1.drewN m, S3.out.2⟩)
          rw [← hw4]
          clear hw4 B3 S3 HOW hjl hj
          have HRP1 := Lib.hid HRP.out.1
          have z0 : w4.cell? ⟨cb, 0, none⟩ = some (.int .i64 k_) := B4.out.cell 0
          have z1 : w4.cell? ⟨cb, 1, none⟩ = some (.int .i64 ky_) := B4.out.cell 1
          have z4 : w4.cell? ⟨cb, 4, none⟩ = some (.int .i64 re_) := B4.out.cell 4
          have z5 : w4.cell? ⟨cb, 5, none⟩ = some (.int .i64 rv_) := B4.out.cell 5
          by_cases hk1 : k_ = 1
          · have b1 : (k_ == 1) = true := by simpa using hk1
            by_cases he0 : re_ = 0
            · have b0 : (re_ == 0) = true := by simpa using he0
              cases how : wl.contains ky_ with
              | true =>
                rw [how] at hown_
                subst hown_
                clear hk1 he0 how HRP1
                go_upto_region 19 with (fail)
                clear z0 z1 z4 z5 b1 b0
                have x0 : w4.cell? ⟨cb, 0, none⟩ = some (.int .i64 k_) := B4.out.cell 0
                have x1 : w4.cell? ⟨cb, 1, none⟩ = some (.int .i64 ky_) := B4.out.cell 1
                have x2 : w4.cell? ⟨cb, 2, none⟩ = some (.int .i64 hi_) := B4.out.cell 2
                have x3 : w4.cell? ⟨cb, 3, none⟩ = some (.int .i64 vl_) := B4.out.cell 3
                have x4 : w4.cell? ⟨cb, 4, none⟩ = some (.int .i64 re_) := B4.out.cell 4
                have x5 : w4.cell? ⟨cb, 5, none⟩ = some (.int .i64 rv_) := B4.out.cell 5
                have x6 : w4.cell? ⟨cb, 6, none⟩ = some (.slice pa ps_.length pc) := B4.out.cell 6
                have x7 : w4.cell? ⟨cb, 7, none⟩ = some (.int .i64 ro_) := B4.out.cell 7
                have x8 : w4.cell? ⟨cb, 8, none⟩ = some (.int .i64 rr_) := B4.out.cell 8
                have CW := ref_writes ⟨⟨k_, ky_, hi_, vl_⟩, ⟨re_, rv_, ps_, ro_, rr_⟩⟩ pa pc w4
                unfold clVal at CW
                dsimp only at CW
                cases hwb : writesB ⟨⟨k_, ky_, hi_, vl_⟩, ⟨re_, rv_, ps_, ro_, rr_⟩⟩ with
                | true =>
                  rw [hwb] at CW
                  have HR2 : Hid (repOps (listOf f) (ops.drop (i + 1)) (wl ++ [ky_]) = true) := Lib.hid (by have := HRP.out.2; rw [hwb] at this; exact this)
                  clear hwb HRP
                  go_wp2_with fail
                  refine CW.mono ?_
                  rintro e w5 ⟨o5, rfl⟩
                  have y1 : w5.cell? ⟨cb, 1, none⟩ = some (.int .i64 ky_) := (o5.blk B4.out (fun hf => hf)).cell 1
                  have hown : w5.ownsRow w2.heap.size 3 1 (.slice ra j rc) j (wl.map (Value.int .i64)) := rows_only S4.out.2 o5 (fun _ _ hf => hf)
                  have H5O := Lib.hid (S4.out.1.trans o5)
                  have hz5 := H5O.out.size
                  clear CW o5 B4 S4
                  clear x0 x1 x2 x3 x4 x5 x6 x7 x8
                  go_wp2_with (at_builtin; refine wpList_append_all _ rfl _ _ 97 rfl w2.heap.size 3 i0 (.int .i64 0) 1 8 Try.underlying97 hi0 hz0 hz1 hz2 rfl (by decide) (.slice ra j rc) j (wl.map (Value.int .i64)) rfl (hown.alloc _) (some ⟨w5.heap.size, 0, none⟩) 1 1 [.int .i64 ky_] rfl rfl (fun hn => by cases hn) (fun ad had => by injection had with had; subst had; exact World.news_of_block (cs := #[.int .i64 ky_]) (t := 3) (fr := (0, 0)) (heap_alloc_new _ _)) (by intro u hu; simp at hu; subst hu; rfl) (by unfold maxLen; omega) (by omega) (by simp; omega) (j + 1) rfl ?_)
                  intro a6 c6 w6 hown6 hgrow6
                  have HR6 : Hid (Only0 w2 w6 ∧ w6.ownsRow w2.heap.size 3 1 (.slice a6 (j + 1) c6) (j + 1) ((wl ++ [ky_]).map (Value.int .i64))) := Lib.hid ⟨(H5O.out.alloc _).grown hgrow6 (fun k hk => (hown.lt k hk).1), by rw [List.map_append]; exact hown6⟩
                  clear hown hown6 hgrow6 H5O y1
                  go_wp2_with fail
                  go_roundw
                  case rel => exact ⟨i + 1, wl ++ [ky_], a6, c6, j + 1, _, _, _, _, _, by omega, by omega, rfl, rfl, rfl, rfl, rfl, by go_num, rfl, Lib.hid ⟨by simp [HWN.out], HR2.out⟩, HR6⟩
                  case measure => simp [intOf]; omega
                | false =>
                  rw [hwb] at CW
                  have HR2 : Hid (repOps (listOf f) (ops.drop (i + 1)) wl = true) := Lib.hid (by have := HRP.out.2; rw [hwb] at this; exact this)
                  clear hwb HRP
                  go_wp2_with fail
                  refine CW.mono ?_
                  rintro e w5 ⟨o5, rfl⟩
                  have HS5 : Hid (Only0 w2 w5 ∧ w5.ownsRow w2.heap.size 3 1 (.slice ra j rc) j (wl.map (Value.int .i64))) := Lib.hid ⟨S4.out.1.trans o5, rows_only S4.out.2 o5 (fun _ _ hf => hf)⟩
                  clear CW o5 B4 S4
                  clear x0 x1 x2 x3 x4 x5 x6 x7 x8
                  go_wp2_with fail
                  go_roundw
                  case rel => exact ⟨i + 1, wl, ra, rc, j, _, _, _, _, _, by omega, by omega, rfl, rfl, rfl, rfl, rfl, by go_num, rfl, Lib.hid ⟨HWN.out, HR2.out⟩, HS5⟩
                  case measure => simp [intOf]; omega
              | false =>
                rw [how] at hown_
                subst hown_
                have hf_ : findP (listOf f) ky_ = some rv_ := HRP1.out hk1 he0 how
                have CF := ref_find a1 c1 (listOf f) w4 (HV.out.only0 S4.out.1) (by have := listOf_len f; omega) ky_
                rw [hf_, ← HN1.out] at CF
                simp only [Option.getD_some, Option.isSome_some] at CF
                have bv : (rv_ != rv_) = false := by simp
                clear hk1 he0 how HRP1 hf_
                go_wp2_with fail
                refine CF.mono ?_
                rintro e w4' ⟨rfl, rfl⟩
                clear CF
                go_upto_region 19 with (fail)
                clear z0 z1 z4 z5 b1 b0 bv
                have x0 : w4.cell? ⟨cb, 0, none⟩ = some (.int .i64 k_) := B4.out.cell 0
                have x1 : w4.cell? ⟨cb, 1, none⟩ = some (.int .i64 ky_) := B4.out.cell 1
                have x2 : w4.cell? ⟨cb, 2, none⟩ = some (.int .i64 hi_) := B4.out.cell 2
                have x3 : w4.cell? ⟨cb, 3, none⟩ = some (.int .i64 vl_) := B4.out.cell 3
                have x4 : w4.cell? ⟨cb, 4, none⟩ = some (.int .i64 re_) := B4.out.cell 4
                have x5 : w4.cell? ⟨cb, 5, none⟩ = some (.int .i64 rv_) := B4.out.cell 5
                have x6 : w4.cell? ⟨cb, 6, none⟩ = some (.slice pa ps_.length pc) := B4.out.cell 6
                have x7 : w4.cell? ⟨cb, 7, none⟩ = some (.int .i64 ro_) := B4.out.cell 7
                have x8 : w4.cell? ⟨cb, 8, none⟩ = some (.int .i64 rr_) := B4.out.cell 8
                have CW := ref_writes ⟨⟨k_, ky_, hi_, vl_⟩, ⟨re_, rv_, ps_, ro_, rr_⟩⟩ pa pc w4
                unfold clVal at CW
                dsimp only at CW
                cases hwb : writesB ⟨⟨k_, ky_, hi_, vl_⟩, ⟨re_, rv_, ps_, ro_, rr_⟩⟩ with
                | true =>
                  rw [hwb] at CW
                  have HR2 : Hid (repOps (listOf f) (ops.drop (i + 1)) (wl ++ [ky_]) = true) := Lib.hid (by have := HRP.out.2; rw [hwb] at this; exact this)
                  clear hwb HRP
                  go_wp2_with fail
                  refine CW.mono ?_
                  rintro e w5 ⟨o5, rfl⟩
                  have y1 : w5.cell? ⟨cb, 1, none⟩ = some (.int .i64 ky_) := (o5.blk B4.out (fun hf => hf)).cell 1
                  have hown : w5.ownsRow w2.heap.size 3 1 (.slice ra j rc) j (wl.map (Value.int .i64)) := rows_only S4.out.2 o5 (fun _ _ hf => hf)
                  have H5O := Lib.hid (S4.out.1.trans o5)
                  have hz5 := H5O.out.size
                  clear CW o5 B4 S4
                  clear x0 x1 x2 x3 x4 x5 x6 x7 x8
                  go_wp2_with (at_builtin; refine wpList_append_all _ rfl _ _ 97 rfl w2.heap.size 3 i0 (.int .i64 0) 1 8 Try.underlying97 hi0 hz0 hz1 hz2 rfl (by decide) (.slice ra j rc) j (wl.map (Value.int .i64)) rfl (hown.alloc _) (some ⟨w5.heap.size, 0, none⟩) 1 1 [.int .i64 ky_] rfl rfl (fun hn => by cases hn) (fun ad had => by injection had with had; subst had; exact World.news_of_block (cs := #[.int .i64 ky_]) (t := 3) (fr := (0, 0)) (heap_alloc_new _ _)) (by intro u hu; simp at hu; subst hu; rfl) (by unfold maxLen; omega) (by omega) (by simp; omega) (j + 1) rfl ?_)
                  intro a6 c6 w6 hown6 hgrow6
                  have HR6 : Hid (Only0 w2 w6 ∧ w6.ownsRow w2.heap.size 3 1 (.slice a6 (j + 1) c6) (j + 1) ((wl ++ [ky_]).map (Value.int .i64))) := Lib.hid ⟨(H5O.out.alloc _).grown hgrow6 (fun k hk => (hown.lt k hk).1), by rw [List.map_append]; exact hown6⟩
                  clear hown hown6 hgrow6 H5O y1
                  go_wp2_with fail
                  go_roundw
                  case rel => exact ⟨i + 1, wl ++ [ky_], a6, c6, j + 1, _, _, _, _, _, by omega, by omega, rfl, rfl, rfl, rfl, rfl, by go_num, rfl, Lib.hid ⟨by simp [HWN.out], HR2.out⟩, HR6⟩
                  case measure => simp [intOf]; omega
                | false =>
                  rw [hwb] at CW
                  have HR2 : Hid (repOps (listOf f) (ops.drop (i + 1)) wl = true) := Lib.hid (by have := HRP.out.2; rw [hwb] at this; exact this)
                  clear hwb HRP
                  go_wp2_with fail
                  refine CW.mono ?_
                  rintro e w5 ⟨o5, rfl⟩
                  have HS5 : Hid (Only0 w2 w5 ∧ w5.ownsRow w2.heap.size 3 1 (.slice ra j rc) j (wl.map (Value.int .i64))) := Lib.hid ⟨S4.out.1.trans o5, rows_only S4.out.2 o5 (fun _ _ hf => hf)⟩
                  clear CW o5 B4 S4
                  clear x0 x1 x2 x3 x4 x5 x6 x7 x8
                  go_wp2_with fail
                  go_roundw
                  case rel => exact ⟨i + 1, wl, ra, rc, j, _, _, _, _, _, by omega, by omega, rfl, rfl, rfl, rfl, rfl, by go_num, rfl, Lib.hid ⟨HWN.out, HR2.out⟩, HS5⟩
                  case measure => simp [intOf]; omega
            · have b0 : (re_ == 0) = false := by simpa using he0
              clear hk1 he0 HRP1
              go_upto_region 19 with (fail)
              clear z0 z1 z4 z5 b1 b0
              have x0 : w4.cell? ⟨cb, 0, none⟩ = some (.int .i64 k_) := B4.out.cell 0
              have x1 : w4.cell? ⟨cb, 1, none⟩ = some (.int .i64 ky_) := B4.out.cell 1
              have x2 : w4.cell? ⟨cb, 2, none⟩ = some (.int .i64 hi_) := B4.out.cell 2
              have x3 : w4.cell? ⟨cb, 3, none⟩ = some (.int .i64 vl_) := B4.out.cell 3
              have x4 : w4.cell? ⟨cb, 4, none⟩ = some (.int .i64 re_) := B4.out.cell 4
              have x5 : w4.cell? ⟨cb, 5, none⟩ = some (.int .i64 rv_) := B4.out.cell 5
              have x6 : w4.cell? ⟨cb, 6, none⟩ = some (.slice pa ps_.length pc) := B4.out.cell 6
              have x7 : w4.cell? ⟨cb, 7, none⟩ = some (.int .i64 ro_) := B4.out.cell 7
              have x8 : w4.cell? ⟨cb, 8, none⟩ = some (.int .i64 rr_) := B4.out.cell 8
              have CW := ref_writes ⟨⟨k_, ky_, hi_, vl_⟩, ⟨re_, rv_, ps_, ro_, rr_⟩⟩ pa pc w4
              unfold clVal at CW
              dsimp only at CW
              cases hwb : writesB ⟨⟨k_, ky_, hi_, vl_⟩, ⟨re_, rv_, ps_, ro_, rr_⟩⟩ with
              | true =>
                rw [hwb] at CW
                have HR2 : Hid (repOps (listOf f) (ops.drop (i + 1)) (wl ++ [ky_]) = true) := Lib.hid (by have := HRP.out.2; rw [hwb] at this; exact this)
                clear hwb HRP
                go_wp2_with fail
                refine CW.mono ?_
                rintro e w5 ⟨o5, rfl⟩
                have y1 : w5.cell? ⟨cb, 1, none⟩ = some (.int .i64 ky_) := (o5.blk B4.out (fun hf => hf)).cell 1
                have hown : w5.ownsRow w2.heap.size 3 1 (.slice ra j rc) j (wl.map (Value.int .i64)) := rows_only S4.out.2 o5 (fun _ _ hf => hf)
                have H5O := Lib.hid (S4.out.1.trans o5)
                have hz5 := H5O.out.size
                clear CW o5 B4 S4
                clear x0 x1 x2 x3 x4 x5 x6 x7 x8
                go_wp2_with (at_builtin; refine wpList_append_all _ rfl _ _ 97 rfl w2.heap.size 3 i0 (.int .i64 0) 1 8 Try.underlying97 hi0 hz0 hz1 hz2 rfl (by decide) (.slice ra j rc) j (wl.map (Value.int .i64)) rfl (hown.alloc _) (some ⟨w5.heap.size, 0, none⟩) 1 1 [.int .i64 ky_] rfl rfl (fun hn => by cases hn) (fun ad had => by injection had with had; subst had; exact World.news_of_block (cs := #[.int .i64 ky_]) (t := 3) (fr := (0, 0)) (heap_alloc_new _ _)) (by intro u hu; simp at hu; subst hu; rfl) (by unfold maxLen; omega) (by omega) (by simp; omega) (j + 1) rfl ?_)
                intro a6 c6 w6 hown6 hgrow6
                have HR6 : Hid (Only0 w2 w6 ∧ w6.ownsRow w2.heap.size 3 1 (.slice a6 (j + 1) c6) (j + 1) ((wl ++ [ky_]).map (Value.int .i64))) := Lib.hid ⟨(H5O.out.alloc _).grown hgrow6 (fun k hk => (hown.lt k hk).1), by rw [List.map_append]; exact hown6⟩
                clear hown hown6 hgrow6 H5O y1
                go_wp2_with fail
                go_roundw
                case rel => exact ⟨i + 1, wl ++ [ky_], a6, c6, j + 1, _, _, _, _, _, by omega, by omega, rfl, rfl, rfl, rfl, rfl, by go_num, rfl, Lib.hid ⟨by simp [HWN.out], HR2.out⟩, HR6⟩
                case measure => simp [intOf]; omega
              | false =>
                rw [hwb] at CW
                have HR2 : Hid (repOps (listOf f) (ops.drop (i + 1)) wl = true) := Lib.hid (by have := HRP.out.2; rw [hwb] at this; exact this)
                clear hwb HRP
                go_wp2_with fail
                refine CW.mono ?_
                rintro e w5 ⟨o5, rfl⟩
                have HS5 : Hid (Only0 w2 w5 ∧ w5.ownsRow w2.heap.size 3 1 (.slice ra j rc) j (wl.map (Value.int .i64))) := Lib.hid ⟨S4.out.1.trans o5, rows_only S4.out.2 o5 (fun _ _ hf => hf)⟩
                clear CW o5 B4 S4
                clear x0 x1 x2 x3 x4 x5 x6 x7 x8
                go_wp2_with fail
                go_roundw
                case rel => exact ⟨i + 1, wl, ra, rc, j, _, _, _, _, _, by omega, by omega, rfl, rfl, rfl, rfl, rfl, by go_num, rfl, Lib.hid ⟨HWN.out, HR2.out⟩, HS5⟩
                case measure => simp [intOf]; omega
          · have b1 : (k_ == 1) = false := by simpa using hk1
            clear hk1 HRP1
            go_upto_region 19 with (fail)
            clear z0 z1 z4 z5 b1
            have x0 : w4.cell? ⟨cb, 0, none⟩ = some (.int .i64 k_) := B4.out.cell 0
            have x1 : w4.cell? ⟨cb, 1, none⟩ = some (.int .i64 ky_) := B4.out.cell 1
            have x2 : w4.cell? ⟨cb, 2, none⟩ = some (.int .i64 hi_) := B4.out.cell 2
            have x3 : w4.cell? ⟨cb, 3, none⟩ = some (.int .i64 vl_) := B4.out.cell 3
            have x4 : w4.cell? ⟨cb, 4, none⟩ = some (.int .i64 re_) := B4.out.cell 4
            have x5 : w4.cell? ⟨cb, 5, none⟩ = some (.int .i64 rv_) := B4.out.cell 5
            have x6 : w4.cell? ⟨cb, 6, none⟩ = some (.slice pa ps_.length pc) := B4.out.cell 6
            have x7 : w4.cell? ⟨cb, 7, none⟩ = some (.int .i64 ro_) := B4.out.cell 7
            have x8 : w4.cell? ⟨cb, 8, none⟩ = some (.int .i64 rr_) := B4.out.cell 8
            have CW := ref_writes ⟨⟨k_, ky_, hi_, vl_⟩, ⟨re_, rv_, ps_, ro_, rr_⟩⟩ pa pc w4
            unfold clVal at CW
            dsimp only at CW
            cases hwb : writesB ⟨⟨k_, ky_, hi_, vl_⟩, ⟨re_, rv_, ps_, ro_, rr_⟩⟩ with
            | true =>
              rw [hwb] at CW
              have HR2 : Hid (repOps (listOf f) (ops.drop (i + 1)) (wl ++ [ky_]) = true) := Lib.hid (by have := HRP.out.2; rw [hwb] at this; exact this)
              clear hwb HRP
              go_wp2_with fail
              refine CW.mono ?_
              rintro e w5 ⟨o5, rfl⟩
              have y1 : w5.cell? ⟨cb, 1, none⟩ = some (.int .i64 ky_) := (o5.blk B4.out (fun hf => hf)).cell 1
              have hown : w5.ownsRow w2.heap.size 3 1 (.slice ra j rc) j (wl.map (Value.int .i64)) := rows_only S4.out.2 o5 (fun _ _ hf => hf)
              have H5O := Lib.hid (S4.out.1.trans o5)
              have hz5 := H5O.out.size
              clear CW o5 B4 S4
              clear x0 x1 x2 x3 x4 x5 x6 x7 x8
              go_wp2_with (at_builtin; refine wpList_append_all _ rfl _ _ 97 rfl w2.heap.size 3 i0 (.int .i64 0) 1 8 Try.underlying97 hi0 hz0 hz1 hz2 rfl (by decide) (.slice ra j rc) j (wl.map (Value.int .i64)) rfl (hown.alloc _) (some ⟨w5.heap.size, 0, none⟩) 1 1 [.int .i64 ky_] rfl rfl (fun hn => by cases hn) (fun ad had => by injection had with had; subst had; exact World.news_of_block (cs := #[.int .i64 ky_]) (t := 3) (fr := (0, 0)) (heap_alloc_new _ _)) (by intro u hu; simp at hu; subst hu; rfl) (by unfold maxLen; omega) (by omega) (by simp; omega) (j + 1) rfl ?_)
              intro a6 c6 w6 hown6 hgrow6
              have HR6 : Hid (Only0 w2 w6 ∧ w6.ownsRow w2.heap.size 3 1 (.slice a6 (j + 1) c6) (j + 1) ((wl ++ [ky_]).map (Value.int .i64))) := Lib.hid ⟨(H5O.out.alloc _).grown hgrow6 (fun k hk => (hown.lt k hk).1), by rw [List.map_append]; exact hown6⟩
              clear hown hown6 hgrow6 H5O y1
              go_wp2_with fail
              go_roundw
              case rel => exact ⟨i + 1, wl ++ [ky_], a6, c6, j + 1, _, _, _, _, _, by omega, by omega, rfl, rfl, rfl, rfl, rfl, by go_num, rfl, Lib.hid ⟨by simp [HWN.out], HR2.out⟩, HR6⟩
              case measure => simp [intOf]; omega
            | false =>
              rw [hwb] at CW
              have HR2 : Hid (repOps (listOf f) (ops.drop (i + 1)) wl = true) := Lib.hid (by have := HRP.out.2; rw [hwb] at this; exact this)
              clear hwb HRP
              go_wp2_with fail
              refine CW.mono ?_
              rintro e w5 ⟨o5, rfl⟩
              have HS5 : Hid (Only0 w2 w5 ∧ w5.ownsRow w2.heap.size 3 1 (.slice ra j rc) j (wl.map (Value.int .i64))) := Lib.hid ⟨S4.out.1.trans o5, rows_only S4.out.2 o5 (fun _ _ hf => hf)⟩
              clear CW o5 B4 S4
              clear x0 x1 x2 x3 x4 x5 x6 x7 x8
              go_wp2_with fail
              go_roundw
              case rel => exact ⟨i + 1, wl, ra, rc, j, _, _, _, _, _, by omega, by omega, rfl, rfl, rfl, rfl, rfl, by go_num, rfl, Lib.hid ⟨HWN.out, HR2.out⟩, HS5⟩
              case measure => simp [intOf]; omega
    · obtain rfl : i = ops.length := by omega
      have HO := Lib.hid (HO2.out.trans HS.out.1)
      clear HS hlt HW
      go_wp2_with fail
      go_ret
      exact ⟨HO.out, rfl⟩
end Go.Proofs.Ytdjehgnkpbkdbaa
namespace Go.Proofs.Ytdjehgnkpbkdbaa
open Go.RowKit
set_option linter.unusedVariables false
set_option linter.unusedSimpArgs false
/-- What Holds needs of a row of Deals. -/
structure AxOk (l : List Dl) : Prop where
  dls : DlsOk l
  ids : IdsOk l
  fin : ∀ i, i < l.length → (dAt l i).state = 3 → 0 ≤ (dAt l i).fin ∧ (dAt l i).fin ≤ 1099511627776
  lev : ∀ i, i < l.length → (dAt l i).state = 3 → GoodAt l i (dAt l i).beg ∧ ((dAt l i).level = 1 ∨ ((dAt l i).level = 2 ∧ ∃ f, stateP l (before1 (dAt l i).fin) i = listOf f ∧ repOps (listOf f) (dAt l i).ops [] = true) ∨ ((dAt l i).level = 3 ∧ GoodAt l i (before1 (dAt l i).fin)))
set_option maxRecDepth 100000 in
set_option maxHeartbeats 64000000 in
theorem ref_Holds (a : Option Addr) (c : Nat) (l : List Dl) (w : World) (h : DealsIn w a l) (hk : AxOk l) (hlc : l.length ≤ c) :
    Calls Try.prog 10 #[.slice a l.length c] w fun e w' => Only0 w w' ∧ e = .returned (.tuple #[.bool true, .int .i64 0]) := by
  have hl := hk.dls.len
  have HK := Lib.hid hk
  have HD := Lib.hid h
  clear hk h
  go_enter Try.func10, Try.ntmps10
  go_wp2_with fail
  go_loopw [4, 5, 6] (fun s4 s5 s6 wr => ∃ (i : Nat) (v6 : Value), i ≤ l.length ∧ s4 = .int .i64 0 ∧ s5 = .int .i64 i ∧ s6 = v6 ∧ Hid (Only0 w wr)) (fun _ s5 _ _ => l.length - (intOf s5).toNat)
  case atStart => exact ⟨0, _, Nat.zero_le _, rfl, rfl, rfl, Lib.hid (Only0.refl _)⟩
  case round =>
    obtain ⟨i, v6, hi, rfl, rfl, rfl, HO⟩ := hrel
    by_cases hlt : i < l.length
    · have HDW := Lib.hid (HD.out.only0 HO.out)
      obtain ⟨g, oa, oc, rfl, hC, hoc, d0, d1, d2, d3, d4, d5⟩ := HDW.out.at_ hlt
      clear hC hoc d3 d4 d5
      rw [show (dAt l i).id = (i : Int) + 1 from HK.out.ids i hlt] at d0
      have HD0 := Lib.hid d0
      by_cases e3 : (dAt l i).state = 3
      · have HGL := Lib.hid (HK.out.lev i hlt e3)
        have HFI := Lib.hid (HK.out.fin i hlt e3)
        have CS := ref_snapshot _ c l wr HDW.out HK.out.dls hlc HK.out.ids hlt e3 HGL.out.1
        have CP := fun hr : (∃ f, stateP l (before1 (dAt l i).fin) i = listOf f ∧ repOps (listOf f) (dAt l i).ops [] = true) => (by
          obtain ⟨f, h1, h2⟩ := hr
          exact ref_repeat _ c l wr HDW.out HK.out.dls hlc HK.out.ids hlt e3 HFI.out HGL.out.1 h1 h2 : Calls Try.prog 23 #[.slice (some ⟨g, 0, none⟩) l.length c, .int .i64 ((i : Int) + 1)] wr fun e w' => Only0 wr w' ∧ e = .returned (.bool true))
        have CR := fun (hg : GoodAt l i (before1 (dAt l i).fin)) w' (o : Only0 wr w') => ref_serial _ c l w' (HDW.out.only0 o) HK.out.dls hlc HK.out.ids hlt e3 HFI.out hg
        have HCP := Lib.hid CP
        have HCR := Lib.hid CR
        rw [e3] at d2
        generalize (dAt l i).level = lv at *
        clear CP CR e3 d0
        rcases HGL.out.2 with hl1 | ⟨hl1, hr⟩ | ⟨hl1, hr⟩
        · subst hl1
          have d0 := HD0.out
          clear HCP HCR
          go_wp2_with fail
          refine CS.mono ?_
          rintro e w2 ⟨o2, rfl⟩
          have HO2 := Lib.hid (HO.out.trans o2)
          clear CS o2 d0 d1 d2
          go_wp2_with fail
          go_roundw
          case rel => exact ⟨i + 1, _, by omega, rfl, by go_num, rfl, HO2⟩
          case measure => simp [intOf]; omega
        · subst hl1
          have d0 := HD0.out
          have CP := HCP.out hr
          clear HCP HCR CS hr
          go_wp2_with fail
          refine CP.mono ?_
          rintro e w2 ⟨o2, rfl⟩
          have HO2 := Lib.hid (HO.out.trans o2)
          clear CP o2 d0 d1 d2
          go_wp2_with fail
          go_roundw
          case rel => exact ⟨i + 1, _, by omega, rfl, by go_num, rfl, HO2⟩
          case measure => simp [intOf]; omega
        · subst hl1
          have d0 := HD0.out
          have CR := HCR.out hr
          have HCR2 := Lib.hid CR
          clear HCP HCR CR hr
          go_wp2_with fail
          refine CS.mono ?_
          rintro e w2 ⟨o2, rfl⟩
          have C2 := HCR2.out w2 o2
          have d0' := cell_only0 o2 d0
          have HO2 := Lib.hid (HO.out.trans o2)
          clear CS o2 d0 d1 d2 HCR2
          go_wp2_with fail
          refine C2.mono ?_
          rintro e w3 ⟨o3, rfl⟩
          have HO3 := Lib.hid (HO2.out.trans o3)
          clear C2 o3 d0'
          go_wp2_with fail
          go_roundw
          case rel => exact ⟨i + 1, _, by omega, rfl, by go_num, rfl, HO3⟩
          case measure => simp [intOf]; omega
      · generalize (dAt l i).state = st at d2 e3
        have b3 : (st != 3) = true := by simpa using e3
        clear e3 d0 d1
        go_wp2_with fail
        go_roundw
        case rel => exact ⟨i + 1, _, by omega, rfl, by go_num, rfl, HO⟩
        case measure => simp [intOf]; omega
    · obtain rfl : i = l.length := by omega
      clear hlt
      go_wp2_with fail
      go_ret2
      exact ⟨HO.out, rfl⟩
set_option maxRecDepth 100000 in
set_option maxHeartbeats 64000000 in
theorem ref_Replay (a : Option Addr) (c : Nat) (l : List Dl) (w : World) (h : DealsIn w a l) (hk : AxOk l) (h3 : ∀ i, i < l.length → (dAt l i).level = 3) (hlc : l.length ≤ c) :
    Calls Try.prog 7 #[.slice a l.length c] w fun e w' => Only0 w w' ∧ e = .returned (.tuple #[.bool true, .int .i64 0]) := by
  have hl := hk.dls.len
  have HK := Lib.hid hk
  have HD := Lib.hid h
  have HL := Lib.hid h3
  clear hk h h3
  go_enter Try.func7, Try.ntmps7
  go_wp2_with fail
  go_loopw [4, 5] (fun s4 s5 wr => ∃ (i : Nat), i ≤ l.length ∧ s4 = .int .i64 0 ∧ s5 = .int .i64 i ∧ Hid (Only0 w wr)) (fun _ s5 _ => l.length - (intOf s5).toNat)
  case atStart => exact ⟨0, Nat.zero_le _, rfl, rfl, Lib.hid (Only0.refl _)⟩
  case round =>
    obtain ⟨i, hi, rfl, rfl, HO⟩ := hrel
    by_cases hlt : i < l.length
    · have HDW := Lib.hid (HD.out.only0 HO.out)
      obtain ⟨g, oa, oc, rfl, hC, hoc, d0, d1, d2, d3, d4, d5⟩ := HDW.out.at_ hlt
      clear hC hoc d3 d4 d5 d1
      rw [show (dAt l i).id = (i : Int) + 1 from HK.out.ids i hlt] at d0
      by_cases e3 : (dAt l i).state = 3
      · have hlv := HL.out i hlt
        have hg : GoodAt l i (before1 (dAt l i).fin) := by
          rcases (HK.out.lev i hlt e3).2 with x | ⟨x, _⟩ | ⟨_, x⟩
          · omega
          · omega
          · exact x
        have CR := ref_serial _ c l wr HDW.out HK.out.dls hlc HK.out.ids hlt e3 (HK.out.fin i hlt e3) hg
        rw [e3] at d2
        clear e3 hlv hg
        go_wp2_with fail
        refine CR.mono ?_
        rintro e w2 ⟨o2, rfl⟩
        have HO2 := Lib.hid (HO.out.trans o2)
        clear CR o2 d0 d2
        go_wp2_with fail
        go_roundw
        case rel => exact ⟨i + 1, by omega, rfl, by go_num, HO2⟩
        case measure => simp [intOf]; omega
      · generalize (dAt l i).state = st at d2 e3
        have b3 : (st == 3) = false := by simpa using e3
        clear e3 d0
        go_wp2_with fail
        go_roundw
        case rel => exact ⟨i + 1, by omega, rfl, by go_num, HO⟩
        case measure => simp [intOf]; omega
    · obtain rfl : i = l.length := by omega
      clear hlt
      go_wp2_with fail
      go_ret2
      exact ⟨HO.out, rfl⟩
end Go.Proofs.Ytdjehgnkpbkdbaa
namespace Go.Proofs.Ytdjehgnkpbkdbaa
set_option linter.unusedVariables false
set_option linter.unusedSimpArgs false
/-- What is there of a key at a time. -/
def valAt (s : St) (a : Int) : Fn := fun k => ((full s).at k a).map fun i => (s.ver i).value
/-- What a transaction sees of a key. -/
def seenBy (s : St) (t : Tx) : Fn := fun k => (s.sees t k).map fun i => (s.ver i).value
theorem valAt_some {s : St} (h : Wf s) {a x : Int} {k : Nat} : valAt s a k = some x ↔ ∃ i, i < s.vs.length ∧ Vis (s.ver i) k a ∧ (s.ver i).value = x := by
  unfold valAt
  constructor
  · intro hv
    cases hf : (full s).at k a with
    | none => rw [hf] at hv; cases hv
    | some i =>
      rw [hf] at hv
      simp only [Option.map_some, Option.some.injEq] at hv
      exact ⟨i, ((full_some h).1 hf).1, ((full_some h).1 hf).2, hv⟩
  · rintro ⟨i, hi, hv, hx⟩
    rw [(full_some h).2 ⟨hi, hv⟩]
    simp [hx]
theorem optx {a b : Option Int} (h : ∀ i, a = some i ↔ b = some i) : a = b := by
  cases a with
  | some i => exact ((h i).1 rfl).symm
  | none =>
    cases b with
    | none => rfl
    | some i => exact (h i).2 rfl
/-- Two states show the same, if each shows what the other one does. -/
theorem valAt_eq {s s' : St} (h : Wf s) (h' : Wf s') {a a' : Int} {k k' : Nat} (h1 : ∀ i, i < s.vs.length → Vis (s.ver i) k a → ∃ i', i' < s'.vs.length ∧ Vis (s'.ver i') k' a' ∧ (s'.ver i').value = (s.ver i).value)
    (h2 : ∀ i, i < s'.vs.length → Vis (s'.ver i) k' a' → ∃ i', i' < s.vs.length ∧ Vis (s.ver i') k a ∧ (s.ver i').value = (s'.ver i).value) : valAt s' a' k' = valAt s a k := by
  apply optx
  intro x
  rw [valAt_some h, valAt_some h']
  constructor
  · rintro ⟨i, hi, hv, hx⟩
    obtain ⟨i', a1, a2, a3⟩ := h2 i hi hv
    exact ⟨i', a1, a2, a3.trans hx⟩
  · rintro ⟨i, hi, hv, hx⟩
    obtain ⟨i', a1, a2, a3⟩ := h1 i hi hv
    exact ⟨i', a1, a2, a3.trans hx⟩
/-- Behind now nothing turns. -/
theorem valAt_next {s : St} (h : Wf s) (k : Nat) : valAt s (s.now + 1) k = valAt s s.now k := by
  refine valAt_eq h h (fun i hi hv => ⟨i, hi, ?_, rfl⟩) (fun i hi hv => ⟨i, hi, ?_, rfl⟩)
  · obtain ⟨a1, a2, a3, a4⟩ := hv
    have := h.fin_le hi
    exact ⟨a1, a2, by omega, by omega⟩
  · obtain ⟨a1, a2, a3, a4⟩ := hv
    have := h.fin_le hi
    exact ⟨a1, a2, by omega, by omega⟩
theorem seenBy_eq {s : St} (h : Wf s) {j : Nat} {t : Tx} (ht : s.tx j = some t) (k : Nat) : seenBy s t k = match t.cells k with
    | none => valAt s t.beg k
    | some c => if c.there then c.own.map (fun i => (s.ver i).value) else none := by
  unfold seenBy St.sees
  cases hc : t.cells k with
  | none =>
    simp only
    unfold valAt
    rw [full_at h (.inr ⟨j, t, ht, Int.le_refl _⟩)]
  | some c =>
    simp only
    cases c.there <;> simp
/-- Calls of a key that must have been looked at. -/
def dep (c : Cl) (k : Nat) : Prop := if c.op.kind = 5 then c.op.key ≤ (k : Int) ∧ (k : Int) ≤ c.op.hi else c.op.key = (k : Int)
theorem rightF_congr {c : Cl} (hc : ClOk c) {f g : Fn} (h : ∀ k, k < 64 → dep c k → f k = g k) : rightF c f = rightF c g := by
  have hk := opOk_key hc
  unfold rightF
  by_cases k5 : c.op.kind = 5
  · have hh : c.op.key ≤ c.op.hi ∧ c.op.hi ≤ 63 := by
      have := hc
      unfold ClOk opOkB at this
      simp [k5] at this
      exact ⟨this.1.1.2, this.1.2⟩
    have : listFrom f c.op.key.toNat (c.op.hi + 1 - c.op.key).toNat = listFrom g c.op.key.toNat (c.op.hi + 1 - c.op.key).toNat := listFrom_congr (fun k h1 h2 => h k (by omega) (by unfold dep; rw [if_pos k5]; omega))
    simp [k5, this]
  · have : f c.op.key.toNat = g c.op.key.toNat := h _ (by omega) (by unfold dep; rw [if_neg k5]; omega)
    rw [this]; simp only [if_neg k5]
theorem goodF_congr : ∀ {ops : List Cl} {f g : Fn}, (∀ c, c ∈ ops → ClOk c) → (∀ k, k < 64 → f k = g k) → goodF ops f = goodF ops g
  | [], _, _, _, _ => rfl
  | c :: r, f, g, hok, h => by
    unfold goodF
    rw [rightF_congr (hok c List.mem_cons_self) (fun k hk _ => h k hk), goodF_congr (fun d hd => hok d (List.mem_cons_of_mem _ hd)) (fun k hk => laidF_congr (hok c List.mem_cons_self) (h k hk))]
theorem repF_congr : ∀ {ops : List Cl} {f g : Fn} {wr : List Int}, (∀ c, c ∈ ops → ClOk c) → (∀ k, k < 64 → f k = g k) → repF f ops wr = repF g ops wr
  | [], _, _, _, _, _ => rfl
  | c :: r, f, g, wr, hok, h => by
    have hk := opOk_key (hok c List.mem_cons_self)
    unfold repF
    rw [h c.op.key.toNat (by omega), repF_congr (fun d hd => hok d (List.mem_cons_of_mem _ hd)) h]
/-- The story of one that lives: f0 what was there at its begin, g what it sees. -/
structure TxI (f0 g : Fn) (t : Tx) (d : Dl) : Prop where
  state : d.state = 1
  level : d.level = t.level
  beg : d.beg = t.beg
  ok : ∀ c, c ∈ d.ops → ClOk c
  sees : ∀ k, k < 64 → d.ops.foldl laidF f0 k = g k
  wrote : ∀ k, k < 64 → wroteF d.ops k = (t.cells k).isSome
  good : ∀ f1 : Fn, (∀ k, k < 64 → t.looked k = true ∨ (t.cells k).isSome = true → f1 k = f0 k) → goodF d.ops f1 = true
  rep : ∀ f1 : Fn, (∀ k, k < 64 → t.got k = true ∨ (t.cells k).isSome = true → f1 k = f0 k) → repF f1 d.ops [] = true
  olds : ∀ k c, t.cells k = some c → c.own = none → c.old.isSome = true
theorem TxI.frame {f0 g f0' g' : Fn} {t : Tx} {d : Dl} (h : TxI f0 g t d) (hf : ∀ k, k < 64 → f0' k = f0 k) (hg : ∀ k, k < 64 → g' k = g k) : TxI f0' g' t d :=
  ⟨h.state, h.level, h.beg, h.ok, fun k hk => by rw [laidAll_congr _ _ _ _ h.ok (hf k hk), h.sees k hk, hg k hk], h.wrote, fun f1 h1 => h.good f1 (fun k hk hx => by rw [h1 k hk hx, hf k hk]), fun f1 h1 => h.rep f1 (fun k hk hx => by rw [h1 k hk hx, hf k hk]), h.olds⟩
/-- One call more. -/
theorem TxI.step {f0 g g' : Fn} {t t' : Tx} {d : Dl} {c : Cl} (h : TxI f0 g t d) (hc : ClOk c) (hr : rightF c g = true) (hs : ∀ k, k < 64 → g' k = laidF g c k)
    (hl : t'.level = t.level) (hb : t'.beg = t.beg)
    (hcells : ∀ k, k < 64 → (t'.cells k).isSome = ((t.cells k).isSome || (decide (c.op.key = (k : Int)) && writesB c)))
    (hlook : ∀ k, k < 64 → t.looked k = true → t'.looked k = true) (hgot : ∀ k, k < 64 → t.got k = true → t'.got k = true)
    (hdep : ∀ k, k < 64 → dep c k → t'.looked k = true ∨ (t'.cells k).isSome = true)
    (hget : c.op.kind = 1 → c.res.e = 0 → t.cells c.op.key.toNat = none → t'.got c.op.key.toNat = true)
    (holds : ∀ k c', t'.cells k = some c' → c'.own = none → c'.old.isSome = true) : TxI f0 g' t' { d with ops := d.ops ++ [c] } := by
  have hk := opOk_key hc
  have hg0 : ∀ k, k < 64 → d.ops.foldl laidF f0 k = g k := h.sees
  have mono : ∀ k, k < 64 → (t.cells k).isSome = true → (t'.cells k).isSome = true := fun k hk hx => by rw [hcells k hk, hx]; rfl
  refine ⟨h.state, h.level.trans hl.symm, h.beg.trans hb.symm, fun x hx => ?_, fun k hk => ?_, fun k hk => ?_, fun f1 h1 => ?_, fun f1 h1 => ?_, holds⟩
  · rcases List.mem_append.1 hx with hx | hx
    · exact h.ok x hx
    · rw [List.mem_singleton.1 hx]; exact hc
  · show (d.ops ++ [c]).foldl laidF f0 k = g' k
    rw [List.foldl_append, hs k hk]
    exact laidF_congr hc (hg0 k hk)
  · show wroteF (d.ops ++ [c]) k = _
    rw [wroteF_append, h.wrote k hk, hcells k hk]
  · show goodF (d.ops ++ [c]) f1 = true
    rw [goodF_append, h.good f1 (fun k hk hx => h1 k hk (hx.imp (hlook k hk) (mono k hk))), Bool.true_and]
    unfold goodF
    have : rightF c (d.ops.foldl laidF f1) = rightF c g := rightF_congr hc (fun k hk hd => by
      rw [laidAll_congr _ _ _ _ h.ok (h1 k hk (hdep k hk hd)), hg0 k hk])
    rw [this, hr]; rfl
  · show repF f1 (d.ops ++ [c]) [] = true
    rw [repF_append, h.rep f1 (fun k hk hx => h1 k hk (hx.imp (hgot k hk) (mono k hk))), Bool.true_and]
    unfold repF
    have hw : (wroteL d.ops []).contains c.op.key = wroteF d.ops c.op.key.toNat := by
      have := wroteL_mem d.ops [] c.op.key.toNat
      rw [show ((c.op.key.toNat : Nat) : Int) = c.op.key by omega] at this
      rw [this]; simp
    rw [hw, show ∀ w, repF f1 [] w = true from fun _ => rfl, Bool.and_true]
    by_cases h1k : c.op.kind = 1
    · by_cases he : c.res.e = 0
      · by_cases hwr : wroteF d.ops c.op.key.toNat = true
        · simp [hwr]
        · have hwr : wroteF d.ops c.op.key.toNat = false := by simpa using hwr
          have hcn : t.cells c.op.key.toNat = none := by
            have := h.wrote c.op.key.toNat (by omega)
            rw [hwr] at this
            cases hx : t.cells c.op.key.toNat with
            | none => rfl
            | some x => rw [hx] at this; cases this
          have hx := h1 c.op.key.toNat (by omega) (.inl (hget h1k he hcn))
          have hy := hg0 c.op.key.toNat (by omega)
          rw [laidAll_not _ _ _ h.ok hwr] at hy
          have hz : g c.op.key.toNat = some c.res.value := by
            unfold rightF at hr
            simp [h1k, he] at hr
            exact hr
          rw [hx, hy, hz]; simp
      · simp [he]
    · simp [h1k]
end Go.Proofs.Ytdjehgnkpbkdbaa
namespace Go.Proofs.Ytdjehgnkpbkdbaa
set_option linter.unusedVariables false
set_option linter.unusedSimpArgs false
theorem valAt_vs {s s' : St} (h : s'.vs = s.vs) (a : Int) (k : Nat) : valAt s' a k = valAt s a k := by
  show ((List.range s'.vs.length).find? fun i => visB (s'.vs.getD i default) k a).map (fun i => (s'.vs.getD i default).value) = ((List.range s.vs.length).find? fun i => visB (s.vs.getD i default) k a).map (fun i => (s.vs.getD i default).value)
  rw [h]
/-- The times of the versions stay; the values of all but some that are not there yet. -/
structure Quiet (s s1 : St) (skip : Nat → Prop) : Prop where
  len : s.vs.length ≤ s1.vs.length
  ver : ∀ i, i < s.vs.length → (s1.ver i).key = (s.ver i).key ∧ (s1.ver i).beg = (s.ver i).beg ∧ (s1.ver i).fin = (s.ver i).fin
  raw : ∀ i, i < s.vs.length → skip i → (s.ver i).beg = 0
  val : ∀ i, i < s.vs.length → ¬ skip i → (s1.ver i).value = (s.ver i).value
  new : ∀ i, s.vs.length ≤ i → i < s1.vs.length → (s1.ver i).beg = 0
theorem Quiet.vis {s s1 : St} {sk : Nat → Prop} (q : Quiet s s1 sk) {i : Nat} (hi : i < s.vs.length) (k a : Int) : Vis (s1.ver i) k a ↔ Vis (s.ver i) k a := by
  obtain ⟨h1, h2, h3⟩ := q.ver i hi
  unfold Vis; rw [h1, h2, h3]
theorem Quiet.valAt {s s1 : St} {sk : Nat → Prop} (q : Quiet s s1 sk) (h : Wf s) (h1 : Wf s1) (a : Int) (k : Nat) : valAt s1 a k = valAt s a k := by
  refine valAt_eq h h1 (fun i hi hv => ⟨i, Nat.lt_of_lt_of_le hi q.len, (q.vis hi _ _).2 hv, ?_⟩) (fun i hi hv => ?_)
  · refine q.val i hi (fun hs => ?_)
    have := q.raw i hi hs
    have := hv.2.1
    omega
  · by_cases hl : i < s.vs.length
    · have hv' := (q.vis hl _ _).1 hv
      refine ⟨i, hl, hv', (q.val i hl (fun hs => ?_)).symm⟩
      have := q.raw i hl hs
      have := hv'.2.1
      omega
    · have := q.new i (by omega) hi
      have := hv.2.1
      omega
theorem Quiet.seen {s s1 : St} {sk : Nat → Prop} (q : Quiet s s1 sk) (h : Wf s) (h1 : Wf s1) {i : Nat} {u : Tx} (hu : s.tx i = some u) (hu1 : s1.tx i = some u) (hs : ∀ k c v, u.cells k = some c → c.own = some v → ¬ sk v) (k : Nat) : seenBy s1 u k = seenBy s u k := by
  rw [seenBy_eq h hu, seenBy_eq h1 hu1]
  cases hc : u.cells k with
  | none => exact q.valAt h h1 _ _
  | some c =>
    simp only
    cases ho : c.own with
    | none => rfl
    | some v =>
      simp only [Option.map_some]
      have hv := h.lin v (h.own i k u c v ⟨hu, hc⟩ ho).1
      rw [q.val v hv (hs k c v hc ho)]
theorem Quiet.same {s s1 : St} (h : s1.vs = s.vs) : Quiet s s1 (fun _ => False) := by
  have hv : ∀ i, s1.ver i = s.ver i := fun i => by unfold St.ver; rw [h]
  exact ⟨by rw [h]; exact Nat.le_refl _, fun i _ => by rw [hv]; exact ⟨rfl, rfl, rfl⟩, fun i _ hf => hf.elim, fun i _ _ => by rw [hv], fun i h1 h2 => by rw [h] at h2; omega⟩
theorem Quiet.killed (s : St) (j : Nat) (t : Tx) : Quiet s (s.kill j t) (fun _ => False) := by
  have hl : (s.kill j t).vs.length = s.vs.length := by unfold St.kill; simp
  have hv : ∀ i, i < s.vs.length → (s.kill j t).ver i = killV t.cells i (s.ver i) := fun i hi => ver_kill hi
  refine ⟨by rw [hl]; exact Nat.le_refl _, fun i hi => ?_, fun i _ hf => hf.elim, fun i hi _ => ?_, fun i h1 h2 => by rw [hl] at h2; omega⟩
  · rw [hv i hi]; unfold killV; split <;> exact ⟨rfl, rfl, rfl⟩
  · rw [hv i hi]; unfold killV; split <;> rfl
theorem Quiet.set (s : St) (i : Nat) (x : Int) (hb : (s.ver i).beg = 0) : Quiet s (s.setVal i x) (fun v => v = i) := by
  have hl : (s.setVal i x).vs.length = s.vs.length := by unfold St.setVal; simp
  refine ⟨by rw [hl]; exact Nat.le_refl _, fun v hv => ?_, fun v hv e => by subst e; exact hb, fun v hv hne => ?_, fun v h1 h2 => by rw [hl] at h2; omega⟩
  · rw [ver_setVal]
    split
    · rename_i hx; obtain ⟨rfl, _⟩ := hx; exact ⟨rfl, rfl, rfl⟩
    · exact ⟨rfl, rfl, rfl⟩
  · rw [ver_setVal, if_neg (fun hx => hne hx.1)]
theorem Quiet.grown (s : St) (v : Ver) (hv : v.beg = 0) : Quiet s (s.grow v) (fun _ => False) := by
  have hl : (s.grow v).vs.length = s.vs.length + 1 := by unfold St.grow; simp
  refine ⟨by omega, fun i hi => by rw [ver_grow hi]; exact ⟨rfl, rfl, rfl⟩, fun i _ hf => hf.elim, fun i hi _ => by rw [ver_grow hi], fun i h1 h2 => ?_⟩
  obtain rfl : i = s.vs.length := by omega
  rw [ver_grow_new]; exact hv
theorem Quiet.tx {s s1 : St} {sk : Nat → Prop} (q : Quiet s s1 sk) {s2 : St} (h : s2.vs = s1.vs) : Quiet s s2 sk := by
  have hv : ∀ i, s2.ver i = s1.ver i := fun i => by unfold St.ver; rw [h]
  exact ⟨by rw [h]; exact q.len, fun i hi => by rw [hv]; exact q.ver i hi, q.raw, fun i hi hn => by rw [hv]; exact q.val i hi hn, fun i h1 h2 => by rw [hv]; exact q.new i h1 (by rw [h] at h2; exact h2)⟩
/-- What a write that is done leaves. -/
structure Wrote (s s1 : St) (j k : Nat) (t t1 : Tx) (x : Option Int) : Prop where
  tx : s1.tx j = some t1
  oth : ∀ i, i ≠ j → s1.tx i = s.tx i
  now : s1.now = s.now
  made : s1.made = s.made
  id : t1.id = t.id
  level : t1.level = t.level
  beg : t1.beg = t.beg
  looked : t1.looked = t.looked
  got : t1.got = t.got
  cells : ∀ k', k' < 64 → (t1.cells k').isSome = ((t.cells k').isSome || decide (k' = k))
  olds : ∀ k' c, t1.cells k' = some c → c.own = none → c.old.isSome = true
  seen : ∀ k', k' < 64 → seenBy s1 t1 k' = if k' = k then x else seenBy s t k'
  val : ∀ a k', valAt s1 a k' = valAt s a k'
  len : s.vs.length ≤ s1.vs.length
  ver : ∀ i, i < s.vs.length → (s1.ver i).key = (s.ver i).key ∧ (s1.ver i).beg = (s.ver i).beg ∧ (s1.ver i).fin = (s.ver i).fin
  others : ∀ i u, i ≠ j → s.tx i = some u → ∀ k', seenBy s1 u k' = seenBy s u k'
/-- How a write builds it: the cell c of the key, versions that stay but for one of its own. -/
theorem Wrote.mk' {s s1 : St} {j k : Nat} {t : Tx} {c : Cel} {x : Option Int} {sk : Nat → Prop} (h : Wf s) (h1 : Wf s1) (ht : s.tx j = some t) (hk : k < 64) (q : Quiet s s1 sk)
    (htx : ∀ i, s1.tx i = if i = j then some (t.put k c) else s.tx i) (hnow : s1.now = s.now) (hmade : s1.made = s.made)
    (hold : ∀ k' c, t.cells k' = some c → c.own = none → c.old.isSome = true) (hc : c.own = none → c.old.isSome = true)
    (hx : (if c.there then c.own.map (fun i => (s1.ver i).value) else none) = x)
    (hsk : ∀ i k' u d v, Has s i k' u d → (i ≠ j ∨ k' ≠ k) → d.own = some v → ¬ sk v) : Wrote s s1 j k t (t.put k c) x := by
  have htj : s1.tx j = some (t.put k c) := by rw [htx, if_pos rfl]
  refine ⟨htj, fun i hi => by rw [htx, if_neg hi], hnow, hmade, rfl, rfl, rfl, rfl, rfl, fun k' hk' => ?_, fun k' d hd ho => ?_, fun k' hk' => ?_, q.valAt h h1, q.len, q.ver, fun i u hi hu k' => ?_⟩
  · rw [put_cells]
    by_cases e : k' = k
    · rw [if_pos e]; simp [e]
    · rw [if_neg e]; simp [e]
  · rw [put_cells] at hd
    by_cases e : k' = k
    · rw [if_pos e] at hd; injection hd with hd; subst hd; exact hc ho
    · rw [if_neg e] at hd; exact hold k' d hd ho
  · rw [seenBy_eq h1 htj, seenBy_eq h ht, put_cells]
    by_cases e : k' = k
    · rw [if_pos e, if_pos e]; exact hx
    · rw [if_neg e, if_neg e]
      cases hd : t.cells k' with
      | none => exact q.valAt h h1 _ _
      | some d =>
        simp only
        cases ho : d.own with
        | none => rfl
        | some v =>
          simp only [Option.map_some]
          have hv := h.lin v (h.own j k' t d v ⟨ht, hd⟩ ho).1
          rw [q.val v hv (hsk j k' t d v ⟨ht, hd⟩ (.inr e) ho)]
  · exact q.seen h h1 hu (by rw [htx, if_neg hi]; exact hu) (fun k'' d v hd ho => hsk i k'' u d v ⟨hu, hd⟩ (.inl hi) ho) k'
theorem write_done {s : St} (h : Wf s) {j k : Nat} {t : Tx} (ht : s.tx j = some t) (hk : k < 64) {kind x : Int} (hr : (s.write j t kind k x).1 = 0)
    (hold : ∀ k' c, t.cells k' = some c → c.own = none → c.old.isSome = true) (hsee : kind = 4 → (s.sees t k).isSome = true) :
    ∃ t1, Wrote s (s.write j t kind k x).2 j k t t1 (if kind = 4 then none else some x) := by
  have hW := (h.write ht hk kind x).1 hr
  revert hr hW
  unfold St.write St.take
  cases hc : t.cells k with
  | some c =>
    have hh : Has s j k t c := ⟨ht, hc⟩
    simp only
    by_cases h4 : kind = 4
    · rw [if_pos h4, if_pos h4]
      intro _ hW
      exact ⟨_, Wrote.mk' (c := { c with there := false }) h hW ht hk (Quiet.same rfl) (fun i => setTx_tx _ _ _ _) rfl rfl hold (fun ho => hold k c hc ho) rfl (fun _ _ _ _ _ _ _ _ hf => hf)⟩
    · rw [if_neg h4, if_neg h4]
      cases ho : c.own with
      | none =>
        simp only
        by_cases hs : s.slots ≤ (s.l.length : Int)
        · rw [if_pos hs]; intro hr; exact absurd (show (5 : Int) = 0 from hr) (by decide)
        · rw [if_neg hs]
          intro _ hW
          refine ⟨_, Wrote.mk' (c := { c with own := some s.vs.length, there := true }) h hW ht hk ((Quiet.grown s ⟨k, x, t.id, 0, 0, false⟩ rfl).tx rfl) (fun i => setTx_tx _ _ _ _) rfl rfl hold (fun ho => by cases ho) ?_ (fun _ _ _ _ _ _ _ _ hf => hf)⟩
          show some ((s.grow ⟨k, x, t.id, 0, 0, false⟩).ver s.vs.length).value = some x
          rw [ver_grow_new]
      | some i =>
        simp only
        intro _ hW
        have hi := h.own j k t c i hh ho
        refine ⟨_, Wrote.mk' (c := ⟨some i, c.old, true⟩) h hW ht hk ((Quiet.set s i x hi.2.2.2.1.1).tx rfl) (fun i => setTx_tx _ _ _ _) rfl rfl hold (fun ho' => by cases ho') ?_ (fun i' k' u d v hd hne hv => ?_)⟩
        · show some ((s.setVal i x).ver i).value = some x
          rw [ver_setVal, if_pos ⟨rfl, h.lin i hi.1⟩]
        · intro e
          subst e
          obtain ⟨e1, e2⟩ := h.inj i' k' j k u t d c v hd hh hv ho
          rcases hne with x | x
          · exact x e1
          · exact x e2
  | none =>
    simp only
    cases hot : (s.others j k || s.later k t.beg) with
    | true => simp only [if_true]; intro hr; exact absurd (show (2 : Int) = 0 from hr) (by decide)
    | false =>
      simp only [Bool.false_eq_true, if_false]
      have hsees : s.sees t k = s.at k t.beg := by unfold St.sees; rw [hc]
      by_cases h4 : kind = 4
      · rw [if_pos h4, if_pos h4]
        intro _ hW
        rw [put_again] at hW ⊢
        refine ⟨_, Wrote.mk' (c := { s.newCel t k with there := false }) h hW ht hk (Quiet.same rfl) (fun i => setTx_tx _ _ _ _) rfl rfl hold (fun _ => ?_) rfl (fun _ _ _ _ _ _ _ _ hf => hf)⟩
        have := hsee h4
        rw [hsees] at this
        exact this
      · rw [if_neg h4, if_neg h4]
        rw [show (s.newCel t k).own = none from rfl]
        simp only
        by_cases hs : s.slots ≤ (s.l.length : Int)
        · rw [if_pos hs]; intro hr; exact absurd (show (5 : Int) = 0 from hr) (by decide)
        · rw [if_neg hs]
          intro _ hW
          rw [put_again] at hW ⊢
          refine ⟨_, Wrote.mk' (c := { s.newCel t k with own := some s.vs.length, there := true }) h hW ht hk ((Quiet.grown s ⟨k, x, t.id, 0, 0, false⟩ rfl).tx rfl) (fun i => setTx_tx _ _ _ _) rfl rfl hold (fun ho => by cases ho) ?_ (fun _ _ _ _ _ _ _ _ hf => hf)⟩
          show some ((s.grow ⟨k, x, t.id, 0, 0, false⟩).ver s.vs.length).value = some x
          rw [ver_grow_new]
theorem anyC_has {f : Nat → Option Cel} {p : Cel → Bool} : anyC f p = true ↔ ∃ k c, k < 64 ∧ f k = some c ∧ p c = true := by
  unfold anyC
  rw [List.any_eq_true]
  constructor
  · rintro ⟨k, hk, hp⟩
    cases hf : f k with
    | none => rw [hf] at hp; cases hp
    | some c => rw [hf] at hp; exact ⟨k, c, by simpa using hk, hf, hp⟩
  · rintro ⟨k, c, hk, hf, hp⟩
    exact ⟨k, by simpa using hk, by rw [hf]; exact hp⟩
/-- What a commit makes of the versions. -/
structure Done (s s' : St) (j : Nat) (t : Tx) : Prop where
  len : s'.vs.length = s.vs.length
  key : ∀ i, i < s.vs.length → (s'.ver i).key = (s.ver i).key ∧ (s'.ver i).value = (s.ver i).value
  own : ∀ i k c, i < s.vs.length → t.cells k = some c → c.own = some i → (s'.ver i).beg = s.now + 1
  beg : ∀ i, i < s.vs.length → (s'.ver i).beg = (s.ver i).beg ∨ ((s'.ver i).beg = s.now + 1 ∧ ∃ k c, t.cells k = some c ∧ c.own = some i)
  old : ∀ i k c, i < s.vs.length → t.cells k = some c → c.old = some i → (s'.ver i).fin = s.now + 1
  gone : ∀ i k c, i < s.vs.length → t.cells k = some c → c.own = some i → c.there = false → (s'.ver i).fin = s.now + 1
  fin : ∀ i, i < s.vs.length → (s'.ver i).fin = (s.ver i).fin ∨ ((s'.ver i).fin = s.now + 1 ∧ ((∃ k c, t.cells k = some c ∧ c.old = some i) ∨ ∃ k c, t.cells k = some c ∧ c.own = some i ∧ c.there = false))
theorem Done.of {s : St} (h : Wf s) {j : Nat} {t : Tx} (ht : s.tx j = some t) : Done s (s.tick.done j t) j t := by
  have hv : ∀ i, i < s.vs.length → (s.tick.done j t).ver i = doneV t.cells (s.now + 1) i (s.ver i) := fun i hi => ver_done (s := s.tick) hi
  refine ⟨by show (s.vs.mapIdx _).length = _; simp, fun i hi => by rw [hv i hi]; exact ⟨rfl, rfl⟩, fun i k c hi hc ho => ?_, fun i hi => ?_, fun i k c hi hc ho => ?_, fun i k c hi hc ho hth => ?_, fun i hi => ?_⟩
  · rw [hv i hi]
    show (if anyC t.cells (isOwn i) then s.now + 1 else (s.ver i).beg) = _
    rw [if_pos (anyC_has.2 ⟨k, c, h.kin j k t c ⟨ht, hc⟩, hc, by simp [isOwn, ho]⟩)]
  · rw [hv i hi]
    show (if anyC t.cells (isOwn i) then s.now + 1 else (s.ver i).beg) = _ ∨ _
    by_cases ha : anyC t.cells (isOwn i) = true
    · obtain ⟨k, c, _, hc, ho⟩ := anyC_has.1 ha
      exact .inr ⟨by show (if _ then _ else _) = _; rw [if_pos ha], k, c, hc, by simpa [isOwn] using ho⟩
    · exact .inl (by rw [if_neg ha])
  · rw [hv i hi]
    show (if anyC t.cells (isOld i) || anyC t.cells (isGone i) then s.now + 1 else (s.ver i).fin) = _
    rw [anyC_has.2 ⟨k, c, h.kin j k t c ⟨ht, hc⟩, hc, by simp [isOld, ho]⟩]; rfl
  · rw [hv i hi]
    show (if anyC t.cells (isOld i) || anyC t.cells (isGone i) then s.now + 1 else (s.ver i).fin) = _
    rw [anyC_has (p := isGone i).2 ⟨k, c, h.kin j k t c ⟨ht, hc⟩, hc, by simp [isGone, ho, hth]⟩, Bool.or_true]; rfl
  · rw [hv i hi]
    show (if anyC t.cells (isOld i) || anyC t.cells (isGone i) then s.now + 1 else (s.ver i).fin) = _ ∨ _
    by_cases ha : anyC t.cells (isOld i) = true
    · obtain ⟨k, c, _, hc, ho⟩ := anyC_has.1 ha
      exact .inr ⟨by show (if _ then _ else _) = _; rw [ha]; rfl, .inl ⟨k, c, hc, by simpa [isOld] using ho⟩⟩
    · by_cases hg : anyC t.cells (isGone i) = true
      · obtain ⟨k, c, _, hc, ho⟩ := anyC_has.1 hg
        simp [isGone] at ho
        exact .inr ⟨by show (if _ then _ else _) = _; rw [hg, Bool.or_true]; rfl, .inr ⟨k, c, hc, ho.1, ho.2⟩⟩
      · refine .inl ?_
        have h1 : anyC t.cells (isOld i) = false := by simpa using ha
        have h2 : anyC t.cells (isGone i) = false := by simpa using hg
        rw [h1, h2]; rfl
theorem Wf.cell_old {s : St} (h : Wf s) {j k i : Nat} {t : Tx} {c : Cel} (hh : Has s j k t c) (ho : c.old = some i) : i < s.vs.length ∧ (s.ver i).key = (k : Int) ∧ 0 < (s.ver i).beg ∧ (s.ver i).beg ≤ t.beg ∧ (s.ver i).fin = 0 := by
  rw [h.old j k t c hh] at ho
  obtain ⟨hi, hv⟩ := h.at_some.1 ho
  have hl := h.lin i hi
  have hb := h.bar j k t c i hh hl hv.1
  have := h.fin_le hl
  have := hv.2.2.2
  exact ⟨hl, hv.1, hv.2.1, hv.2.2.1, by omega⟩
/-- Up to now nothing turns by a commit. -/
theorem done_before {s s' : St} (h : Wf s) (h' : Wf s') {j : Nat} {t : Tx} (ht : s.tx j = some t) (D : Done s s' j t) {a : Int} (ha : a ≤ s.now) (k : Nat) : valAt s' a k = valAt s a k := by
  have iff : ∀ i, i < s.vs.length → (Vis (s'.ver i) k a ↔ Vis (s.ver i) k a) := by
    intro i hi
    unfold Vis
    rw [(D.key i hi).1]
    have hF := D.fin i hi
    rcases D.beg i hi with hb | ⟨hb, k', c, hc, ho⟩
    · rw [hb]
      rcases hF with hf | ⟨hf, ⟨k', c, hc, ho⟩ | ⟨k', c, hc, ho, _⟩⟩
      · rw [hf]
      · have := h.cell_old ⟨ht, hc⟩ ho
        rw [hf]
        constructor
        · rintro ⟨a1, a2, a3, a4⟩; exact ⟨a1, a2, a3, by omega⟩
        · rintro ⟨a1, a2, a3, a4⟩; exact ⟨a1, a2, a3, by omega⟩
      · have := (h.own j k' t c i ⟨ht, hc⟩ ho).2.2.2.1.1
        constructor <;> (rintro ⟨a1, a2, a3, a4⟩; omega)
    · have := (h.own j k' t c i ⟨ht, hc⟩ ho).2.2.2.1.1
      rw [hb]
      constructor <;> (rintro ⟨a1, a2, a3, a4⟩; omega)
  refine valAt_eq h h' (fun i hi hv => ⟨i, by rw [D.len]; exact hi, (iff i hi).2 hv, (D.key i hi).2⟩) (fun i hi hv => ?_)
  rw [D.len] at hi
  exact ⟨i, hi, (iff i hi).1 hv, (D.key i hi).2.symm⟩
/-- At its own time a commit shows what its transaction saw of what it wrote, and what was there else. -/
theorem done_at {s s' : St} (h : Wf s) (h' : Wf s') {j : Nat} {t : Tx} (ht : s.tx j = some t) (D : Done s s' j t) (k : Nat) (hk : k < 64) : valAt s' (s.now + 1) k = if (t.cells k).isSome then seenBy s t k else valAt s s.now k := by
  have hn := h.beg j t ht
  rw [seenBy_eq h ht]
  cases hc : t.cells k with
  | none =>
    simp only [Option.isSome_none, Bool.false_eq_true, if_false]
    have iff : ∀ i, i < s.vs.length → (Vis (s'.ver i) k (s.now + 1) ↔ Vis (s.ver i) k s.now) := by
      intro i hi
      unfold Vis
      rw [(D.key i hi).1]
      have hfl := h.fin_le hi
      have no : (s.ver i).key = (k : Int) → ∀ k' c, t.cells k' = some c → (s.ver i).key = (k' : Int) → False := by
        intro e k' c hc' e'
        obtain rfl : k' = k := by omega
        rw [hc] at hc'; cases hc'
      rcases D.beg i hi with hb | ⟨hb, k', c, hc', ho⟩
      · rw [hb]
        rcases D.fin i hi with hf | ⟨hf, ⟨k', c, hc', ho⟩ | ⟨k', c, hc', ho, _⟩⟩
        · rw [hf]
          constructor <;> (rintro ⟨a1, a2, a3, a4⟩; exact ⟨a1, a2, by omega, by omega⟩)
        · have e := (h.cell_old ⟨ht, hc'⟩ ho).2.1
          constructor <;> (rintro ⟨a1, _⟩; exact (no a1 k' c hc' e).elim)
        · have e := (h.own j k' t c i ⟨ht, hc'⟩ ho).2.1
          constructor <;> (rintro ⟨a1, _⟩; exact (no a1 k' c hc' e).elim)
      · have e := (h.own j k' t c i ⟨ht, hc'⟩ ho).2.1
        constructor <;> (rintro ⟨a1, _⟩; exact (no a1 k' c hc' e).elim)
    refine valAt_eq h h' (fun i hi hv => ⟨i, by rw [D.len]; exact hi, (iff i hi).2 hv, (D.key i hi).2⟩) (fun i hi hv => ?_)
    rw [D.len] at hi
    exact ⟨i, hi, (iff i hi).1 hv, (D.key i hi).2.symm⟩
  | some c =>
    simp only [Option.isSome_some, if_true]
    have hh : Has s j k t c := ⟨ht, hc⟩
    cases hth : c.there with
    | true =>
      simp only [if_true]
      have hos := h.there j k t c hh hth
      cases ho : c.own with
      | none => rw [ho] at hos; cases hos
      | some i =>
        simp only [Option.map_some]
        obtain ⟨o1, o2, o3, o4, o5⟩ := h.own j k t c i hh ho
        have hi := h.lin i o1
        rw [valAt_some h']
        refine ⟨i, by rw [D.len]; exact hi, ⟨by rw [(D.key i hi).1]; exact o2, ?_, ?_, ?_⟩, (D.key i hi).2⟩
        · rw [D.own i k c hi hc ho]; omega
        · rw [D.own i k c hi hc ho]; omega
        · rcases D.fin i hi with hf | ⟨hf, ⟨k', c', hc', ho'⟩ | ⟨k', c', hc', ho', hg⟩⟩
          · rw [hf, o4.2]; exact .inl rfl
          · have := (h.cell_old ⟨ht, hc'⟩ ho').2.2.1
            have := o4.1
            omega
          · obtain ⟨_, rfl⟩ := h.inj j k j k' t t c c' i hh ⟨ht, hc'⟩ ho ho'
            rw [hc] at hc'; injection hc' with hc'; subst hc'
            rw [hth] at hg; cases hg
    | false =>
      simp only [Bool.false_eq_true, if_false]
      cases hv : valAt s' (s.now + 1) k with
      | none => rfl
      | some x =>
        exfalso
        obtain ⟨i, hi, hvis, _⟩ := (valAt_some h').1 hv
        rw [D.len] at hi
        obtain ⟨v1, v2, v3, v4⟩ := hvis
        rw [(D.key i hi).1] at v1
        have hb := h.bar j k t c i hh hi v1
        rcases D.beg i hi with hbe | ⟨hbe, k', c', hc', ho'⟩
        · have hfn : (s.ver i).fin ≠ 0 → False := by
            intro hf0
            rcases D.fin i hi with hf | ⟨hf, _⟩
            · rw [hf] at v4; omega
            · rw [hf] at v4; omega
          have hf0 : (s.ver i).fin = 0 := Classical.byContradiction (fun x => hfn x)
          have hvt : Vis (s.ver i) k t.beg := ⟨v1, by omega, hb.1, .inl hf0⟩
          have hat := h.at_some.2 ⟨h.in_l hi hvt (.inr ⟨j, t, ht, Int.le_refl _⟩), hvt⟩
          have hold : c.old = some i := by rw [h.old j k t c hh]; exact hat
          rw [D.old i k c hi hc hold] at v4
          omega
        · have e := (h.own j k' t c' i ⟨ht, hc'⟩ ho').2.1
          obtain rfl : k' = k := by omega
          rw [hc] at hc'; injection hc' with hc'; subst hc'
          rw [D.gone i k' c hi hc ho' hth] at v4
          omega
/-- What others see stays by a commit. -/
theorem done_seen {s s' : St} (h : Wf s) (h' : Wf s') {j i : Nat} {t u : Tx} (ht : s.tx j = some t) (D : Done s s' j t) (hu : s.tx i = some u) (hu' : s'.tx i = some u) (k : Nat) : seenBy s' u k = seenBy s u k := by
  rw [seenBy_eq h hu, seenBy_eq h' hu']
  cases hc : u.cells k with
  | none => exact done_before h h' ht D (h.beg i u hu).2.1 k
  | some c =>
    simp only
    cases ho : c.own with
    | none => rfl
    | some v =>
      simp only [Option.map_some]
      rw [(D.key v (h.lin v (h.own i k u c v ⟨hu, hc⟩ ho).1)).2]
/-- What one who has a key's cell saw of it at its begin is there now. -/
theorem held_val {s : St} (h : Wf s) {j k : Nat} {t : Tx} (ht : s.tx j = some t) (hc : (t.cells k).isSome = true) : valAt s s.now k = valAt s t.beg k := by
  cases hx : t.cells k with
  | none => rw [hx] at hc; cases hc
  | some c =>
    have hn := h.beg j t ht
    have iff : ∀ i, i < s.vs.length → (Vis (s.ver i) k s.now ↔ Vis (s.ver i) k t.beg) := by
      intro i hi
      unfold Vis
      constructor
      · rintro ⟨a1, a2, a3, a4⟩
        have := h.bar j k t c i ⟨ht, hx⟩ hi a1
        exact ⟨a1, a2, by omega, by omega⟩
      · rintro ⟨a1, a2, a3, a4⟩
        have := h.bar j k t c i ⟨ht, hx⟩ hi a1
        exact ⟨a1, a2, by omega, by omega⟩
    exact valAt_eq h h (fun i hi hv => ⟨i, hi, (iff i hi).2 hv, rfl⟩) (fun i hi hv => ⟨i, hi, (iff i hi).1 hv, rfl⟩)
/-- What holds is there now as it was at the begin. -/
theorem holds_val {s : St} (h : Wf s) {j k : Nat} {t : Tx} (ht : s.tx j = some t) (hh : s.tick.holds t (s.now + 1) = true) (hl : t.level ≠ 1) (hk : k < 64) (hq : t.keysOf k = true) : valAt s s.now k = valAt s t.beg k := by
  unfold St.holds at hh
  rw [Bool.or_eq_true] at hh
  rcases hh with hh | hh
  · exact absurd (by simpa using hh) hl
  · have := List.all_eq_true.1 hh k (by simpa using hk)
    rw [hq] at this
    simp only [Bool.not_true, Bool.false_or, decide_eq_true_eq] at this
    have e1 : valAt s (s.now + 1) k = (s.tick.at k (s.now + 1)).map fun i => (s.ver i).value := by
      rw [← valAt_vs (s := s) (s' := s.tick) rfl]
      unfold valAt
      rw [full_at h.ticked (a := s.now + 1) (.inl rfl)]; rfl
    have e2 : valAt s t.beg k = (s.tick.at k t.beg).map fun i => (s.ver i).value := by
      rw [← valAt_vs (s := s) (s' := s.tick) rfl]
      unfold valAt
      rw [full_at h.ticked (.inr ⟨j, t, ht, Int.le_refl _⟩)]; rfl
    rw [← valAt_next h, e1, e2, this]
end Go.Proofs.Ytdjehgnkpbkdbaa
namespace Go.Proofs.Ytdjehgnkpbkdbaa
set_option linter.unusedVariables false
set_option linter.unusedSimpArgs false
/-- What all committed Deals lay up to a time. -/
def uptoF (l : List Dl) (cs : List Nat) (a : Int) : Fn := stF l (uptoR l cs a (-1)) (fun _ => none)
structure DI (s : St) (ds : List Dl) (cs : List Nat) : Prop where
  wf : Wf s
  ord : Ord ds cs
  ids : IdsOk ds
  made : s.made = (ds.length : Int)
  live : ∀ j t, s.tx j = some t → TxI (valAt s t.beg) (seenBy s t) t (dAt ds (t.id - 1).toNat)
  fins : ∀ i, i ∈ cs → 0 < (dAt ds i).beg ∧ (dAt ds i).beg < (dAt ds i).fin ∧ (dAt ds i).fin ≤ s.now
  st : ∀ a k, a ≤ s.now → k < 64 → uptoF ds cs a k = valAt s a k
  snap : ∀ i, i ∈ cs → goodF (dAt ds i).ops (valAt s (dAt ds i).beg) = true
  lev : ∀ i, i ∈ cs → (dAt ds i).level = 1 ∨ ((dAt ds i).level = 2 ∧ repF (valAt s ((dAt ds i).fin - 1)) (dAt ds i).ops [] = true) ∨ ((dAt ds i).level = 3 ∧ goodF (dAt ds i).ops (valAt s ((dAt ds i).fin - 1)) = true)
  wr : ∀ i k, i ∈ cs → k < 64 → wroteF (dAt ds i).ops k = true → ∃ v, v < s.vs.length ∧ (s.ver v).key = (k : Int) ∧ ((s.ver v).beg = (dAt ds i).fin ∨ (s.ver v).fin = (dAt ds i).fin)
  ap : ∀ i j k, i ∈ cs → j ∈ cs → i ≠ j → k < 64 → wroteF (dAt ds i).ops k = true → wroteF (dAt ds j).ops k = true → (dAt ds i).fin ≤ (dAt ds j).beg ∨ (dAt ds j).fin ≤ (dAt ds i).beg
  lvl : ∀ j t, s.tx j = some t → t.level = 1 ∨ t.level = 2 ∨ t.level = 3
theorem DI.idx {s : St} {ds : List Dl} {cs : List Nat} (h : DI s ds cs) {j : Nat} {t : Tx} (ht : s.tx j = some t) : ∃ i, i < ds.length ∧ t.id = (i : Int) + 1 ∧ (t.id - 1).toNat = i ∧ i ∉ cs := by
  have hb := h.wf.beg j t ht
  have hm := h.made
  refine ⟨(t.id - 1).toNat, by omega, by omega, rfl, fun hi => ?_⟩
  have h3 := ((h.ord.mem _).1 hi).2
  rw [(h.live j t ht).state] at h3
  cases h3
theorem dAt_set {l : List Dl} {i k : Nat} {d : Dl} (h : i < l.length) : dAt (l.set i d) k = if k = i then d else dAt l k := by
  unfold dAt
  rw [List.getD_eq_getElem?_getD, List.getD_eq_getElem?_getD, List.getElem?_set]
  by_cases e : i = k
  · subst e; rw [if_pos rfl, if_pos h, if_pos rfl]; rfl
  · rw [if_neg e, if_neg (fun x => e x.symm)]
theorem dAt_app {l : List Dl} {k : Nat} {d : Dl} : dAt (l ++ [d]) k = if k = l.length then d else dAt l k := by
  unfold dAt
  rw [List.getD_eq_getElem?_getD, List.getD_eq_getElem?_getD]
  by_cases e : k = l.length
  · subst e; rw [if_pos rfl]; simp
  · rw [if_neg e]
    by_cases hk : k < l.length
    · rw [List.getElem?_append_left hk]
    · rw [List.getElem?_eq_none (by simp; omega), List.getElem?_eq_none (by omega)]
theorem stF_congr {l l' : List Dl} : ∀ {r : List Nat} {f : Fn}, (∀ i, i ∈ r → (dAt l' i).ops = (dAt l i).ops) → stF l' r f = stF l r f
  | [], _, _ => rfl
  | k :: r, f, h => by
    show stF l' r ((dAt l' k).ops.foldl laidF f) = stF l r ((dAt l k).ops.foldl laidF f)
    rw [h k List.mem_cons_self]
    exact stF_congr (fun i hi => h i (List.mem_cons_of_mem _ hi))
theorem uptoR_congr {l l' : List Dl} {cs : List Nat} {a but : Int} (h : ∀ i, i ∈ cs → (dAt l' i).fin = (dAt l i).fin) : uptoR l' cs a but = uptoR l cs a but := by
  unfold uptoR
  exact List.filter_congr (fun i hi => by rw [h i hi])
theorem mem_uptoR {l : List Dl} {cs : List Nat} {a but : Int} {i : Nat} : i ∈ uptoR l cs a but ↔ i ∈ cs ∧ (dAt l i).fin ≤ a ∧ (i : Int) ≠ but := by
  unfold uptoR; rw [List.mem_filter]; simp
theorem upto_congr {l l' : List Dl} {cs : List Nat} {a : Int} (h : ∀ i, i ∈ cs → dAt l' i = dAt l i) : uptoF l' cs a = uptoF l cs a := by
  unfold uptoF
  have e : uptoR l' cs a (-1) = uptoR l cs a (-1) := uptoR_congr (fun i hi => by rw [h i hi])
  rw [e]
  exact stF_congr (fun i hi => congrArg Dl.ops (h i (mem_uptoR.1 hi).1))
theorem uptoR_same {l : List Dl} {cs : List Nat} {a b but but' : Int} (h : ∀ i, i ∈ cs → (((dAt l i).fin ≤ a ∧ (i : Int) ≠ but) ↔ ((dAt l i).fin ≤ b ∧ (i : Int) ≠ but'))) : uptoR l cs a but = uptoR l cs b but' := by
  unfold uptoR
  refine List.filter_congr (fun i hi => ?_)
  have := h i hi
  rw [Bool.eq_iff_iff]
  simpa using this
/-- The committed Deals stay; what is there by now stays; time may go on. -/
theorem DI.keep {s s' : St} {ds ds' : List Dl} {cs : List Nat} (h : DI s ds cs) (wf : Wf s') (hlen : ds.length ≤ ds'.length) (hd : ∀ i, i ∈ cs → dAt ds' i = dAt ds i) (hn : ∀ i, i < ds'.length → i ∉ cs → (dAt ds' i).state ≠ 3)
    (hok : ∀ i, i < ds'.length → ∀ c, c ∈ (dAt ds' i).ops → ClOk c) (ids : IdsOk ds') (made : s'.made = (ds'.length : Int)) (now : s.now ≤ s'.now)
    (val : ∀ a k, a ≤ s.now → valAt s' a k = valAt s a k) (late : ∀ a k, s.now < a → a ≤ s'.now → valAt s' a k = valAt s s.now k)
    (len : s.vs.length ≤ s'.vs.length) (ver : ∀ i, i < s.vs.length → (s'.ver i).key = (s.ver i).key ∧ (s'.ver i).beg = (s.ver i).beg ∧ (s'.ver i).fin = (s.ver i).fin)
    (live : ∀ j t, s'.tx j = some t → TxI (valAt s' t.beg) (seenBy s' t) t (dAt ds' (t.id - 1).toNat)) (lvl : ∀ j t, s'.tx j = some t → t.level = 1 ∨ t.level = 2 ∨ t.level = 3) : DI s' ds' cs := by
  have hvf : ∀ a, a ≤ s.now → valAt s' a = valAt s a := fun a ha => funext (fun k => val a k ha)
  refine ⟨wf, ⟨fun i => ?_, ?_, hok⟩, ids, made, live, fun i hi => ?_, fun a k ha hk => ?_, fun i hi => ?_, fun i hi => ?_, fun i k hi hk hw => ?_, fun i j k hi hj hne hk h1 h2 => ?_, lvl⟩
  · constructor
    · intro hi
      have := (h.ord.mem i).1 hi
      exact ⟨by omega, by rw [hd i hi]; exact this.2⟩
    · rintro ⟨h1, h2⟩
      exact Classical.byContradiction (fun hx => hn i h1 hx h2)
  · refine h.ord.pw.imp_of_mem ?_
    intro a b ha hb hab
    rw [hd a ha, hd b hb]; exact hab
  · rw [hd i hi]; have := h.fins i hi; omega
  · rw [upto_congr hd]
    by_cases hle : a ≤ s.now
    · rw [h.st a k hle hk, val a k hle]
    · rw [late a k (by omega) ha]
      have e : uptoR ds cs a (-1) = uptoR ds cs s.now (-1) := uptoR_same (fun i hi => by have := h.fins i hi; constructor <;> (rintro ⟨_, x⟩; exact ⟨by omega, x⟩))
      have := h.st s.now k (Int.le_refl _) hk
      unfold uptoF at *
      rw [e]; exact this
  · rw [hd i hi, hvf _ (by have := h.fins i hi; omega)]
    exact h.snap i hi
  · rw [hd i hi, hvf ((dAt ds i).fin - 1) (by have := h.fins i hi; omega)]
    exact h.lev i hi
  · rw [hd i hi] at hw ⊢
    obtain ⟨v, h1, h2, h3⟩ := h.wr i k hi hk hw
    obtain ⟨a1, a2, a3⟩ := ver v h1
    exact ⟨v, by omega, by rw [a1]; exact h2, by rw [a2, a3]; exact h3⟩
  · rw [hd i hi] at h1 ⊢
    rw [hd j hj] at h2 ⊢
    exact h.ap i j k hi hj hne hk h1 h2
theorem seenBy_vs {s s' : St} (hl : s'.l = s.l) (hv : s'.vs = s.vs) (t : Tx) (k : Nat) : seenBy s' t k = seenBy s t k := by
  unfold seenBy St.sees
  have ha : ∀ a, s'.at k a = s.at k a := fun a => by unfold St.at St.ver; rw [hl, hv]
  have hw : ∀ i, (s'.ver i).value = (s.ver i).value := fun i => by unfold St.ver; rw [hv]
  cases t.cells k with
  | none => simp only [ha, hw]
  | some c => simp only [hw]
theorem DI.new {slots limit : Int} (h : 0 < slots) : DI (newSt slots limit) [] [] := by
  refine ⟨Wf.new slots limit h, ⟨fun i => by simp, List.Pairwise.nil, fun i hi => by simp at hi⟩, fun i hi => by simp at hi, rfl, fun j t ht => (by cases ht), fun i hi => by simp at hi, fun a k _ _ => ?_, fun i hi => by simp at hi, fun i hi => by simp at hi, fun i k hi => by simp at hi, fun i j k hi => by simp at hi, fun j t ht => (by cases ht)⟩
  rfl
theorem DI.tick {s : St} {ds : List Dl} {cs : List Nat} (h : DI s ds cs) : DI s.tick ds cs := by
  refine h.keep h.wf.ticked (Nat.le_refl _) (fun _ _ => rfl) (fun i h1 h2 h3 => h2 ((h.ord.mem i).2 ⟨h1, h3⟩)) h.ord.ok h.ids h.made (by show s.now ≤ s.now + 1; omega) (fun a k _ => valAt_vs rfl a k) (fun a k h1 h2 => ?_) (Nat.le_refl _) (fun i _ => ⟨rfl, rfl, rfl⟩) (fun j t ht => ?_) h.lvl
  · rw [valAt_vs (s := s) rfl]
    obtain rfl : a = s.now + 1 := by have : a ≤ s.now + 1 := h2; omega
    exact valAt_next h.wf k
  · exact (h.live j t ht).frame (fun k _ => valAt_vs rfl _ k) (fun k _ => seenBy_vs rfl rfl t k)
theorem full_seen {s s' : St} (h : Wf s) (h' : Wf s') (hv : s'.vs = s.vs) {j : Nat} {t : Tx} (ht : s.tx j = some t) (ht' : s'.tx j = some t) (k : Nat) : seenBy s' t k = seenBy s t k := by
  rw [seenBy_eq h ht, seenBy_eq h' ht', valAt_vs hv]
  have hw : ∀ i, (s'.ver i).value = (s.ver i).value := fun i => by unfold St.ver; rw [hv]
  cases t.cells k with
  | none => rfl
  | some c => simp only [hw]
theorem DI.collect {s : St} {ds : List Dl} {cs : List Nat} (h : DI s ds cs) : DI s.collect ds cs := by
  refine h.keep h.wf.collected (Nat.le_refl _) (fun _ _ => rfl) (fun i h1 h2 h3 => h2 ((h.ord.mem i).2 ⟨h1, h3⟩)) h.ord.ok h.ids h.made (Int.le_refl _) (fun a k _ => valAt_vs rfl a k) (fun a k h1 h2 => ?_) (Nat.le_refl _) (fun i _ => ⟨rfl, rfl, rfl⟩) (fun j t ht => ?_) h.lvl
  · have : a ≤ s.now := h2
    omega
  · exact (h.live j t ht).frame (fun k _ => valAt_vs rfl _ k) (fun k _ => full_seen h.wf h.wf.collected rfl ht ht k)
/-- One more begins. -/
theorem DI.begin {s s' : St} {ds : List Dl} {cs : List Nat} (h : DI s ds cs) {j level id : Int} (hb : s.begin j level = (id, 0, s')) : id = (ds.length : Int) + 1 ∧ 0 < s'.now ∧ DI s' (ds ++ [⟨id, level, 1, s'.now, 0, []⟩]) cs := by
  have hW := h.wf.begin j level
  rw [hb] at hW
  have hlev : levelB level = true ∧ sessB j = true ∧ s.tx j.toNat = none ∧ id = s.made + 1 ∧ s' = { s with made := s.made + 1, now := s.now + 1, tx := upd s.tx j.toNat (some (newTx (s.made + 1) level (s.now + 1))) } := by
    unfold St.begin at hb
    by_cases h1 : (sessB j && levelB level) = true
    · rw [if_pos h1] at hb
      by_cases h2 : (s.tx j.toNat).isSome = true
      · rw [if_pos h2] at hb; simp at hb
      · rw [if_neg h2] at hb
        by_cases h3 : 2000 ≤ s.made
        · rw [if_pos h3] at hb; simp at hb
        · rw [if_neg h3] at hb
          by_cases h4 : s.limit ≤ s.now
          · rw [if_pos h4] at hb; simp at hb
          · rw [if_neg h4] at hb
            simp only [Prod.mk.injEq, true_and] at hb
            simp only [Bool.and_eq_true] at h1
            exact ⟨h1.2, h1.1, by simpa using h2, hb.1.symm, hb.2.symm⟩
    · rw [if_neg h1] at hb; simp at hb
  obtain ⟨l1, l2, l3, l4, l5⟩ := hlev
  have hm := h.made
  have hnow := h.wf.now
  have hid : id = (ds.length : Int) + 1 := by omega
  have T := h.tick
  have hN : s'.now = s.now + 1 := by rw [l5]
  have hTx : ∀ i, s'.tx i = if i = j.toNat then some (newTx id level s'.now) else s.tx i := by
    intro i; rw [l5, l4]; rfl
  have hvs : s'.vs = s.tick.vs := by rw [l5]; rfl
  refine ⟨hid, by omega, T.keep hW (by simp) (fun i hi => ?_) (fun i h1 h2 => ?_) (fun i hi c hc => ?_) (fun i hi => ?_) (by rw [l5]; simp; exact hm) (by show s.now + 1 ≤ s'.now; omega) (fun a k _ => valAt_vs hvs a k) (fun a k h1 h2 => ?_) (by rw [hvs]; exact Nat.le_refl _) (fun i _ => by unfold St.ver; rw [hvs]; exact ⟨rfl, rfl, rfl⟩) (fun i t ht => ?_) (fun i t ht => ?_)⟩
  · rw [dAt_app, if_neg]
    have := ((h.ord.mem i).1 hi).1; omega
  · rw [dAt_app]
    split
    · intro e; cases e
    · rename_i hne
      rw [List.length_append] at h1
      exact fun e => h2 ((h.ord.mem i).2 ⟨by simp at h1; omega, e⟩)
  · rw [dAt_app] at hc
    split at hc
    · simp at hc
    · exact h.ord.ok i (by simp at hi; omega) c hc
  · show (dAt _ i).id = _
    rw [dAt_app]
    split
    · rename_i e; subst e; exact hid
    · exact h.ids i (by simp at hi; omega)
  · have : s.now + 1 < a := h1
    omega
  · rw [hTx] at ht
    split at ht
    · rename_i e
      injection ht with ht; subst ht
      have hidx : ((newTx id level s'.now).id - 1).toNat = ds.length := by show (id - 1).toNat = _; omega
      rw [hidx, dAt_app, if_pos rfl]
      refine ⟨rfl, rfl, rfl, fun c hc => by simp at hc, fun k hk => ?_, fun k _ => rfl, fun _ _ => rfl, fun _ _ => rfl, fun k c hc => by cases hc⟩
      rw [seenBy_eq hW (j := j.toNat) (by rw [hTx, if_pos rfl])]
      rfl
    · rename_i e
      have hb := h.wf.beg i t ht
      have hidx : ¬ (t.id - 1).toNat = ds.length := by omega
      rw [dAt_app, if_neg hidx]
      exact (T.live i t ht).frame (fun k _ => valAt_vs hvs _ k) (fun k _ => full_seen T.wf hW hvs ht (by rw [hTx, if_neg e]; exact ht) k)
  · rw [hTx] at ht
    split at ht
    · injection ht with ht; subst ht
      show level = 1 ∨ level = 2 ∨ level = 3
      unfold levelB at l1; simp at l1; omega
    · exact h.lvl i t ht
/-- What a live one did is told by its Deal. -/
theorem DI.opped {s s' : St} {ds : List Dl} {cs : List Nat} (h : DI s ds cs) {j : Nat} {t t' : Tx} (ht : s.tx j = some t) (hW : Wf s') (htx : ∀ i, s'.tx i = if i = j then some t' else s.tx i) (hid : t'.id = t.id) (hl : t'.level = t.level)
    (now : s'.now = s.now) (made : s'.made = s.made) (val : ∀ a k, valAt s' a k = valAt s a k) (len : s.vs.length ≤ s'.vs.length) (ver : ∀ i, i < s.vs.length → (s'.ver i).key = (s.ver i).key ∧ (s'.ver i).beg = (s.ver i).beg ∧ (s'.ver i).fin = (s.ver i).fin)
    (oth : ∀ i u, i ≠ j → s.tx i = some u → ∀ k, seenBy s' u k = seenBy s u k) {c : Cl} (hc : ClOk c) (T : TxI (valAt s t'.beg) (seenBy s' t') t' { dAt ds (t.id - 1).toNat with ops := (dAt ds (t.id - 1).toNat).ops ++ [c] }) :
    DI s' (ds.set (t.id - 1).toNat { dAt ds (t.id - 1).toNat with ops := (dAt ds (t.id - 1).toNat).ops ++ [c] }) cs := by
  obtain ⟨n, hn, e1, e2, e3⟩ := h.idx ht
  rw [e2] at T ⊢
  have hS : ∀ i, dAt (ds.set n { dAt ds n with ops := (dAt ds n).ops ++ [c] }) i = if i = n then { dAt ds n with ops := (dAt ds n).ops ++ [c] } else dAt ds i := fun i => dAt_set hn
  have hst : (dAt ds n).state = 1 := by have := (h.live j t ht).state; rw [e2] at this; exact this
  refine h.keep hW (by simp) (fun i hi => by rw [hS, if_neg (fun e => e3 (by rw [← e]; exact hi))]) (fun i h1 h2 => ?_) (fun i hi x hx => ?_) (fun i hi => ?_) (by simp; rw [made]; exact h.made) (by omega) (fun a k _ => val a k) (fun a k h1 h2 => by omega) len ver (fun i u hu => ?_) (fun i u hu => ?_)
  · rw [hS]
    split
    · show (dAt ds n).state ≠ 3; rw [hst]; decide
    · simp at h1
      exact fun e => h2 ((h.ord.mem i).2 ⟨h1, e⟩)
  · rw [hS] at hx
    split at hx
    · rcases List.mem_append.1 hx with hx | hx
      · exact h.ord.ok n hn x hx
      · rw [List.mem_singleton.1 hx]; exact hc
    · exact h.ord.ok i (by simpa using hi) x hx
  · show (dAt _ i).id = _
    rw [hS]
    split
    · rename_i e; subst e; exact h.ids i hn
    · exact h.ids i (by simpa using hi)
  · rw [htx] at hu
    split at hu
    · injection hu with hu; subst hu
      rw [hid, e2, hS, if_pos rfl]
      exact T.frame (fun k _ => val _ k) (fun k _ => rfl)
    · rename_i hij
      have hne : ¬ (u.id - 1).toNat = n := by
        intro e
        have hb := h.wf.beg i u hu
        exact hij (h.wf.ids i j u t hu ht (by omega))
      rw [hS, if_neg hne]
      exact (h.live i u hu).frame (fun k _ => val _ k) (fun k _ => oth i u hij hu k)
  · rw [htx] at hu
    split at hu
    · injection hu with hu; subst hu; rw [hl]; exact h.lvl j t ht
    · exact h.lvl i u hu
/-- One is ended badly. -/
theorem DI.killed {s : St} {ds : List Dl} {cs : List Nat} (h : DI s ds cs) {j : Nat} {t : Tx} (ht : s.tx j = some t) : DI (s.kill j t) (ds.set (t.id - 1).toNat { dAt ds (t.id - 1).toNat with state := 4 }) cs := by
  obtain ⟨n, hn, e1, e2, e3⟩ := h.idx ht
  rw [e2]
  have hS : ∀ i, dAt (ds.set n { dAt ds n with state := 4 }) i = if i = n then { dAt ds n with state := 4 } else dAt ds i := fun i => dAt_set hn
  have hW := h.wf.killed ht
  have q := Quiet.killed s j t
  have htx : ∀ i, (s.kill j t).tx i = if i = j then none else s.tx i := fun i => rfl
  refine h.keep hW (by simp) (fun i hi => by rw [hS, if_neg (fun e => e3 (by rw [← e]; exact hi))]) (fun i h1 h2 => ?_) (fun i hi x hx => ?_) (fun i hi => ?_) (by simp; exact h.made) (Int.le_refl _) (fun a k _ => q.valAt h.wf hW a k) (fun a k h1 h2 => by have : a ≤ s.now := h2; omega) q.len q.ver (fun i u hu => ?_) (fun i u hu => ?_)
  · rw [hS]
    split
    · intro e; cases e
    · simp at h1
      exact fun e => h2 ((h.ord.mem i).2 ⟨h1, e⟩)
  · rw [hS] at hx
    split at hx
    · exact h.ord.ok n hn x hx
    · exact h.ord.ok i (by simpa using hi) x hx
  · show (dAt _ i).id = _
    rw [hS]
    split
    · rename_i e; subst e; exact h.ids i hn
    · exact h.ids i (by simpa using hi)
  · rw [htx] at hu
    split at hu
    · cases hu
    · rename_i hij
      have hne : ¬ (u.id - 1).toNat = n := by
        intro e
        have hb := h.wf.beg i u hu
        exact hij (h.wf.ids i j u t hu ht (by omega))
      rw [hS, if_neg hne]
      exact (h.live i u hu).frame (fun k _ => q.valAt h.wf hW _ k) (fun k _ => q.seen h.wf hW hu (by rw [htx, if_neg hij]; exact hu) (fun _ _ _ _ _ hf => hf) k)
  · rw [htx] at hu
    split at hu
    · cases hu
    · exact h.lvl i u hu
/-- One commits. -/
theorem DI.done {s : St} {ds : List Dl} {cs : List Nat} (h : DI s ds cs) {j : Nat} {t : Tx} (ht : s.tx j = some t) (hh : s.tick.holds t (s.now + 1) = true) :
    DI (s.tick.done j t) (ds.set (t.id - 1).toNat { dAt ds (t.id - 1).toNat with state := 3, fin := s.now + 1 }) (cs ++ [(t.id - 1).toNat]) := by
  obtain ⟨n, hn, e1, e2, e3⟩ := h.idx ht
  have T := h.live j t ht
  rw [e2] at T ⊢
  have hW := h.wf.committed ht
  have D := Done.of h.wf ht
  obtain ⟨s', hs'⟩ : ∃ s', s' = s.tick.done j t := ⟨_, rfl⟩
  have htx : ∀ i, s'.tx i = if i = j then none else s.tx i := fun i => by rw [hs']; rfl
  have hnow : s'.now = s.now + 1 := by rw [hs']; rfl
  have hmade : s'.made = s.made := by rw [hs']; rfl
  rw [← hs'] at hW D ⊢
  clear hs'
  have hb := h.wf.beg j t ht
  have hfl := fun i hi => h.wf.fin_le (i := i) hi
  obtain ⟨dn, hdn⟩ : ∃ d : Dl, d = { dAt ds n with state := 3, fin := s.now + 1 } := ⟨_, rfl⟩
  have dops : dn.ops = (dAt ds n).ops := by rw [hdn]
  have dfin : dn.fin = s.now + 1 := by rw [hdn]
  have dbeg : dn.beg = t.beg := by rw [hdn]; exact T.beg
  have dlev : dn.level = t.level := by rw [hdn]; exact T.level
  have dst : dn.state = 3 := by rw [hdn]
  have did : dn.id = (dAt ds n).id := by rw [hdn]
  rw [← hdn]
  clear hdn
  have hS : ∀ i, dAt (ds.set n dn) i = if i = n then dn else dAt ds i := fun i => dAt_set hn
  have hin : ∀ i, i ∈ cs → dAt (ds.set n dn) i = dAt ds i := fun i hi => by rw [hS, if_neg (fun e => e3 (by rw [← e]; exact hi))]
  have hnn : dAt (ds.set n dn) n = dn := by rw [hS, if_pos rfl]
  have bef : ∀ a k, a ≤ s.now → valAt s' a k = valAt s a k := fun a k ha => done_before h.wf hW ht D ha k
  have hvf : ∀ a, a ≤ s.now → valAt s' a = valAt s a := fun a ha => funext (fun k => bef a k ha)
  have mem : ∀ i, i ∈ cs ++ [n] → i ∈ cs ∨ i = n := fun i hi => by simpa using hi
  -- what one who wrote a key left stays as it was
  have wrOld : ∀ i k, i ∈ cs → k < 64 → wroteF (dAt ds i).ops k = true → ∃ v, v < s.vs.length ∧ (s.ver v).key = (k : Int) ∧ ((s.ver v).beg = (dAt ds i).fin ∨ (s.ver v).fin = (dAt ds i).fin) := h.wr
  have hap : ∀ i k, i ∈ cs → k < 64 → wroteF (dAt ds i).ops k = true → wroteF dn.ops k = true → (dAt ds i).fin ≤ t.beg := by
    intro i k hi hk h1 h2
    rw [dops, T.wrote k hk] at h2
    cases hc : t.cells k with
    | none => rw [hc] at h2; cases h2
    | some c =>
      obtain ⟨v, v1, v2, v3⟩ := wrOld i k hi hk h1
      have := h.wf.bar j k t c v ⟨ht, hc⟩ v1 v2
      omega
  refine ⟨hW, ⟨fun i => ?_, ?_, fun i hi x hx => ?_⟩, fun i hi => ?_, by simp; rw [hmade]; exact h.made, fun i u hu => ?_, fun i hi => ?_, fun a k ha hk => ?_, fun i hi => ?_, fun i hi => ?_, fun i k hi hk hw => ?_, fun i i' k hi hi' hne hk h1 h2 => ?_, fun i u hu => ?_⟩
  · rw [List.mem_append, List.mem_singleton, List.length_set]
    by_cases e : i = n
    · subst e
      rw [hnn]
      exact ⟨fun _ => ⟨hn, dst⟩, fun _ => .inr rfl⟩
    · rw [hS, if_neg e, ← h.ord.mem]
      exact ⟨fun hx => hx.resolve_right e, .inl⟩
  · rw [List.pairwise_append]
    refine ⟨h.ord.pw.imp_of_mem ?_, by simp, fun a ha b hb => ?_⟩
    · intro a b ha hb hab
      rw [hin a ha, hin b hb]; exact hab
    · rw [List.mem_singleton.1 hb, hin a ha, hnn, dfin]
      have := h.fins a ha; omega
  · rw [hS] at hx
    split at hx
    · rw [dops] at hx; exact h.ord.ok n hn x hx
    · exact h.ord.ok i (by simpa using hi) x hx
  · show (dAt _ i).id = _
    rw [hS]
    split
    · rename_i e; subst e; rw [did]; exact h.ids i hn
    · exact h.ids i (by simpa using hi)
  · rw [htx] at hu
    split at hu
    · cases hu
    · rename_i hij
      have hne : ¬ (u.id - 1).toNat = n := by
        intro e
        have hb := h.wf.beg i u hu
        exact hij (h.wf.ids i j u t hu ht (by omega))
      rw [hS, if_neg hne]
      have hub := h.wf.beg i u hu
      exact (h.live i u hu).frame (fun k _ => bef _ k hub.2.1) (fun k _ => done_seen h.wf hW ht D hu (by rw [htx, if_neg hij]; exact hu) k)
  · rcases mem i hi with hi | rfl
    · rw [hin i hi, hnow]; have := h.fins i hi; omega
    · rw [hnn, dfin, dbeg, hnow]; omega
  · have hU : uptoR (ds.set n dn) (cs ++ [n]) a (-1) = uptoR ds cs a (-1) ++ (if s.now + 1 ≤ a then [n] else []) := by
      unfold uptoR
      rw [List.filter_append, List.filter_congr (q := fun i => decide ((dAt ds i).fin ≤ a) && !decide ((i : Int) = -1)) (fun i hi => by rw [hin i hi])]
      congr 1
      by_cases hle : s.now + 1 ≤ a
      · rw [if_pos hle, List.filter_cons_of_pos]
        · rfl
        · rw [hnn, dfin]; simp [hle]
      · rw [if_neg hle, List.filter_cons_of_neg]
        · rfl
        · rw [hnn, dfin]; simp [hle]
    have hSt : stF (ds.set n dn) (uptoR ds cs a (-1)) (fun _ => none) = uptoF ds cs a := stF_congr (fun i hi => by rw [hin i (mem_uptoR.1 hi).1])
    unfold uptoF
    rw [hU]
    by_cases hle : s.now + 1 ≤ a
    · obtain rfl : a = s.now + 1 := by omega
      rw [if_pos hle]
      have hA : stF (ds.set n dn) (uptoR ds cs (s.now + 1) (-1) ++ [n]) (fun _ => none) = dn.ops.foldl laidF (uptoF ds cs (s.now + 1)) := by
        unfold stF
        rw [List.foldl_append]
        show (dAt (ds.set n dn) n).ops.foldl laidF (stF (ds.set n dn) (uptoR ds cs (s.now + 1) (-1)) (fun _ => none)) = _
        rw [hSt, hnn]
      have hB : uptoF ds cs (s.now + 1) = uptoF ds cs s.now := by
        unfold uptoF
        rw [uptoR_same (b := s.now) (but' := -1) (fun i hi => by have := h.fins i hi; constructor <;> (rintro ⟨_, x⟩; exact ⟨by omega, x⟩))]
      rw [hA, hB, dops, done_at h.wf hW ht D k hk]
      have hbase := h.st s.now k (Int.le_refl _) hk
      cases hw : wroteF (dAt ds n).ops k with
      | true =>
        have hw' := T.wrote k hk
        rw [hw] at hw'
        rw [if_pos hw'.symm, laidAll_wrote _ _ (valAt s t.beg) k T.ok hw, T.sees k hk]
      | false =>
        have hw' := T.wrote k hk
        rw [hw] at hw'
        rw [← hw', laidAll_not _ _ k T.ok hw, hbase]; rfl
    · rw [if_neg hle, List.append_nil, hSt, h.st a k (by omega) hk, bef a k (by omega)]
  · rcases mem i hi with hi | rfl
    · rw [hin i hi, hvf _ (by have := h.fins i hi; omega)]
      exact h.snap i hi
    · rw [hnn, dops, dbeg, hvf _ hb.2.1]
      exact T.good _ (fun _ _ _ => rfl)
  · rcases mem i hi with hi | rfl
    · rw [hin i hi, hvf ((dAt ds i).fin - 1) (by have := h.fins i hi; omega)]
      exact h.lev i hi
    · rw [hnn, dops, dlev, dfin, show s.now + 1 - 1 = s.now by omega, hvf _ (Int.le_refl _)]
      rcases h.lvl j t ht with hl | hl | hl
      · exact .inl hl
      · refine .inr (.inl ⟨hl, T.rep _ (fun k hk hx => ?_)⟩)
        rcases hx with hx | hx
        · exact holds_val h.wf ht hh (by omega) hk (by unfold Tx.keysOf; rw [if_pos hl]; exact hx)
        · exact held_val h.wf ht hx
      · refine .inr (.inr ⟨hl, T.good _ (fun k hk hx => ?_)⟩)
        rcases hx with hx | hx
        · exact holds_val h.wf ht hh (by omega) hk (by unfold Tx.keysOf; rw [if_neg (by omega)]; exact hx)
        · exact held_val h.wf ht hx
  · rcases mem i hi with hi | rfl
    · rw [hin i hi] at hw ⊢
      obtain ⟨v, v1, v2, v3⟩ := wrOld i k hi hk hw
      have hf := h.fins i hi
      refine ⟨v, by rw [D.len]; exact v1, by rw [(D.key v v1).1]; exact v2, ?_⟩
      rcases v3 with v3 | v3
      · rcases D.beg v v1 with x | ⟨_, k', c, hc, ho⟩
        · exact .inl (x.trans v3)
        · have := (h.wf.own j k' t c v ⟨ht, hc⟩ ho).2.2.2.1.1; omega
      · rcases D.fin v v1 with x | ⟨_, ⟨k', c, hc, ho⟩ | ⟨k', c, hc, ho, _⟩⟩
        · exact .inr (x.trans v3)
        · have := (h.wf.cell_old ⟨ht, hc⟩ ho).2.2.2.2; omega
        · have := (h.wf.own j k' t c v ⟨ht, hc⟩ ho).2.2.2.1.2; omega
    · rw [hnn] at hw ⊢
      rw [dops, T.wrote k hk] at hw
      rw [dfin, D.len]
      cases hc : t.cells k with
      | none => rw [hc] at hw; cases hw
      | some c =>
        cases ho : c.own with
        | some v =>
          obtain ⟨o1, o2, _⟩ := h.wf.own j k t c v ⟨ht, hc⟩ ho
          have hv := h.wf.lin v o1
          exact ⟨v, hv, by rw [(D.key v hv).1]; exact o2, .inl (D.own v k c hv hc ho)⟩
        | none =>
          have hos := T.olds k c hc ho
          cases hq : c.old with
          | none => rw [hq] at hos; cases hos
          | some v =>
            obtain ⟨o1, o2, _⟩ := h.wf.cell_old ⟨ht, hc⟩ hq
            exact ⟨v, o1, by rw [(D.key v o1).1]; exact o2, .inr (D.old v k c o1 hc hq)⟩
  · have hm := mem i hi
    have hm' := mem i' hi'
    clear hi hi'
    rcases hm with hi | hi
    · rcases hm' with hi' | hi'
      · rw [hin i hi] at h1 ⊢
        rw [hin i' hi'] at h2 ⊢
        exact h.ap i i' k hi hi' hne hk h1 h2
      · rw [hi'] at h2 ⊢
        rw [hin i hi] at h1 ⊢
        rw [hnn] at h2 ⊢
        rw [dbeg]
        exact .inl (hap i k hi hk h1 h2)
    · rcases hm' with hi' | hi'
      · rw [hi] at h1 ⊢
        rw [hin i' hi'] at h2 ⊢
        rw [hnn] at h1 ⊢
        rw [dbeg]
        exact .inr (hap i' k hi' hk h2 h1)
      · exact absurd (hi.trans hi'.symm) hne
  · rw [htx] at hu
    split at hu
    · cases hu
    · exact h.lvl i u hu
end Go.Proofs.Ytdjehgnkpbkdbaa
namespace Go.Proofs.Ytdjehgnkpbkdbaa
set_option linter.unusedVariables false
set_option linter.unusedSimpArgs false
theorem seenBy_tx {s s' : St} (hl : s'.l = s.l) (hv : s'.vs = s.vs) {t t' : Tx} (hc : t'.cells = t.cells) (hb : t'.beg = t.beg) (k : Nat) : seenBy s' t' k = seenBy s t k := by
  rw [seenBy_vs hl hv]
  unfold seenBy St.sees
  rw [hc, hb]
theorem olds_of {f0 g : Fn} {t t' : Tx} {d : Dl} (T : TxI f0 g t d) (hc : t'.cells = t.cells) : ∀ k c, t'.cells k = some c → c.own = none → c.old.isSome = true := by
  intro k c h; rw [hc] at h; exact T.olds k c h
/-- A call that writes nothing. -/
theorem DI.read {s : St} {ds : List Dl} {cs : List Nat} (h : DI s ds cs) {j : Nat} {t t' : Tx} (ht : s.tx j = some t) (hcl : t'.cells = t.cells) (hb : t'.beg = t.beg) (hid : t'.id = t.id) (hl : t'.level = t.level) {c : Cl} (hc : ClOk c)
    (hw : writesB c = false) (hlay : ∀ g : Fn, laidF g c = g) (hr : rightF c (seenBy s t) = true) (hlook : ∀ k, k < 64 → t.looked k = true → t'.looked k = true) (hgot : ∀ k, k < 64 → t.got k = true → t'.got k = true)
    (hdep : ∀ k, k < 64 → dep c k → t'.looked k = true ∨ (t'.cells k).isSome = true) (hget : c.op.kind = 1 → c.res.e = 0 → t.cells c.op.key.toNat = none → t'.got c.op.key.toNat = true) :
    DI (s.setTx j (some t')) (ds.set (t.id - 1).toNat { dAt ds (t.id - 1).toNat with ops := (dAt ds (t.id - 1).toNat).ops ++ [c] }) cs := by
  have T := h.live j t ht
  refine h.opped ht (h.wf.retx ht hcl hb hid) (fun i => setTx_tx _ _ _ _) hid hl rfl rfl (fun a k => valAt_vs rfl a k) (Nat.le_refl _) (fun i _ => ⟨rfl, rfl, rfl⟩) (fun i u _ _ k => seenBy_vs rfl rfl u k) hc ?_
  rw [hb]
  exact T.step hc hr (fun k hk => by rw [hlay]; exact seenBy_tx rfl rfl hcl hb k) hl hb (fun k hk => by rw [hcl, hw, Bool.and_false, Bool.or_false]) hlook hgot hdep hget (olds_of T hcl)
theorem laidF_read {c : Cl} (h : c.op.kind = 1 ∨ c.op.kind = 5) (g : Fn) : laidF g c = g := by
  unfold laidF
  split
  · rw [if_neg (by omega), if_neg (by omega)]
  · rfl
theorem laidF_err {c : Cl} (h : c.res.e ≠ 0) (g : Fn) : laidF g c = g := by unfold laidF; rw [if_neg h]
theorem DI.get {s : St} {ds : List Dl} {cs : List Nat} (h : DI s ds cs) {j : Nat} {t : Tx} (ht : s.tx j = some t) {o : MOp} (ho : opOkB o = true) (hk : o.kind = 1) :
    (s.get j t.op o.key.toNat).1.over = 0 ∧ DI (s.get j t.op o.key.toNat).2 (ds.set (t.id - 1).toNat { dAt ds (t.id - 1).toNat with ops := (dAt ds (t.id - 1).toNat).ops ++ [⟨o, (s.get j t.op o.key.toNat).1⟩] }) cs := by
  have hky := opOk_key ho
  have hs : s.sees t.op o.key.toNat = s.sees t o.key.toNat := rfl
  have lk := look_beg t.op o.key.toNat
  have lc : (t.op.look o.key.toNat).cells = t.cells := lk.2.2
  have ll : (t.op.look o.key.toNat).level = t.level := by unfold Tx.look; split <;> rfl
  have look1 : ∀ k, t.looked k = true → (t.op.look o.key.toNat).looked k = true := fun k hx => by
    unfold Tx.look
    split
    · show upd t.looked o.key.toNat true k = true
      unfold upd; split
      · rfl
      · exact hx
    · exact hx
  have look2 : (t.op.look o.key.toNat).looked o.key.toNat = true ∨ ((t.op.look o.key.toNat).cells o.key.toNat).isSome = true := by
    unfold Tx.look
    split
    · exact .inl (upd_same _ _ _)
    · rename_i hx; right
      cases hc : t.op.cells o.key.toNat with
      | none => rw [hc] at hx; exact absurd rfl hx
      | some c => rfl
  have hdep : ∀ (r : Res) (k : Nat), dep ⟨o, r⟩ k → k = o.key.toNat := fun r k hd => by
    unfold dep at hd
    rw [if_neg (show ¬ (o.kind = 5) by omega)] at hd
    have : o.key = (k : Int) := hd
    omega
  unfold St.get
  cases hv : s.sees t.op o.key.toNat with
  | none =>
    refine ⟨rfl, h.read ht lc lk.1 (look_id _ _) ll (c := ⟨o, .err 11⟩) ho ?_ (laidF_read (.inl hk)) ?_ (fun k _ hx => look1 k hx) (fun k _ hx => ?_) (fun k _ hd => by rw [hdep _ k hd]; exact look2) (fun _ he => by cases he)⟩
    · simp [writesB, Res.err]
    · have : seenBy s t o.key.toNat = none := by unfold seenBy; rw [← hs, hv]; rfl
      unfold rightF
      simp [hk, this, Res.err]
    · show (t.op.look _).got k = true
      unfold Tx.look; split <;> exact hx
  | some i =>
    have mk := mark_beg (t.op.look o.key.toNat) o.key.toNat
    have ml : ((t.op.look o.key.toNat).mark o.key.toNat).looked = (t.op.look o.key.toNat).looked := by unfold Tx.mark; split <;> rfl
    refine ⟨rfl, h.read ht (mk.2.2.trans lc) (mk.1.trans lk.1) ((mark_id _ _).trans (look_id _ _)) ?_ (c := ⟨o, ⟨0, (s.ver i).value, [], 0, 0⟩⟩) ho ?_ (laidF_read (.inl hk)) ?_ (fun k _ hx => by rw [ml]; exact look1 k hx) (fun k _ hx => ?_) (fun k _ hd => by rw [hdep _ k hd, ml, mk.2.2]; exact look2) (fun _ _ hn => ?_)⟩
    · show ((t.op.look _).mark _).level = _
      unfold Tx.mark; split
      · exact ll
      · exact ll
    · simp [writesB, hk]
    · have : seenBy s t o.key.toNat = some (s.ver i).value := by unfold seenBy; rw [← hs, hv]; rfl
      unfold rightF
      simp [hk, this]
    · have : (t.op.look o.key.toNat).got k = true := by unfold Tx.look; split <;> exact hx
      unfold Tx.mark
      split
      · show upd _ _ true k = true
        unfold upd; split
        · rfl
        · exact this
      · exact this
    · unfold Tx.mark
      rw [if_pos (by rw [lc]; rw [show t.cells o.key.toNat = none from hn]; rfl)]
      exact upd_same _ _ _
theorem DI.scan {s : St} {ds : List Dl} {cs : List Nat} (h : DI s ds cs) {j : Nat} {t : Tx} (ht : s.tx j = some t) {o : MOp} (ho : opOkB o = true) (hk : o.kind = 5) :
    (s.scan j t.op o.key.toNat (o.hi + 1 - o.key).toNat).1.over = 0 ∧ DI (s.scan j t.op o.key.toNat (o.hi + 1 - o.key).toNat).2 (ds.set (t.id - 1).toNat { dAt ds (t.id - 1).toNat with ops := (dAt ds (t.id - 1).toNat).ops ++ [⟨o, (s.scan j t.op o.key.toNat (o.hi + 1 - o.key).toNat).1⟩] }) cs := by
  have hky := opOk_key ho
  unfold St.scan
  refine ⟨rfl, h.read ht rfl rfl rfl rfl (t' := t.op.lookAll o.key.toNat (o.hi + 1 - o.key).toNat) (c := ⟨o, ⟨0, 0, (keysFrom o.key.toNat (o.hi + 1 - o.key).toNat).filterMap (s.pairOf t.op), 0, 0⟩⟩) ho ?_ (laidF_read (.inr hk)) ?_ (fun k _ hx => ?_) (fun k _ hx => hx) (fun k _ hd => .inl ?_) (fun h1 => ?_)⟩
  · simp [writesB, hk]
  · have : (keysFrom o.key.toNat (o.hi + 1 - o.key).toNat).filterMap (s.pairOf t.op) = listFrom (seenBy s t) o.key.toNat (o.hi + 1 - o.key).toNat := by
      unfold listFrom
      congr 1
      funext k
      unfold St.pairOf seenBy
      rw [show s.sees t.op k = s.sees t k from rfl]
      cases s.sees t k <;> rfl
    unfold rightF
    simp [hk, this]
  · show (t.looked k || _) = true
    rw [hx]; rfl
  · unfold dep at hd
    rw [if_pos hk] at hd
    have : o.key ≤ (k : Int) ∧ (k : Int) ≤ o.hi := hd
    show (t.looked k || (decide (o.key.toNat ≤ k) && decide (k < o.key.toNat + (o.hi + 1 - o.key).toNat))) = true
    rw [Bool.or_eq_true]; right
    simp; omega
  · have : o.kind = 1 := h1
    omega
theorem opOk_change {o : MOp} (ho : opOkB o = true) (h6 : o.kind ≠ 6) (h7 : o.kind ≠ 7) (h1 : o.kind ≠ 1) (h5 : o.kind ≠ 5) : o.kind = 2 ∨ o.kind = 3 ∨ o.kind = 4 := by
  unfold opOkB at ho
  by_cases h2 : o.kind = 2
  · exact .inl h2
  · by_cases h3 : o.kind = 3
    · exact .inr (.inl h3)
    · by_cases h4 : o.kind = 4
      · exact .inr (.inr h4)
      · simp [h1, h2, h3, h4, h5, h6, h7] at ho
theorem seenBy_isSome (s : St) (t : Tx) (k : Nat) : (seenBy s t k).isSome = (s.sees t k).isSome := by unfold seenBy; cases s.sees t k <;> rfl
/-- A change, of whatever end. -/
theorem DI.change {s : St} {ds : List Dl} {cs : List Nat} (h : DI s ds cs) {j : Nat} {t : Tx} (ht : s.tx j = some t) {o : MOp} (ho : opOkB o = true) (hk : o.kind = 2 ∨ o.kind = 3 ∨ o.kind = 4) :
    ((((s.setTx j (some t.op)).change j t.op o.kind o.key.toNat o.value).1.over = 0 ∧ DI ((s.setTx j (some t.op)).change j t.op o.kind o.key.toNat o.value).2 (ds.set (t.id - 1).toNat { dAt ds (t.id - 1).toNat with ops := (dAt ds (t.id - 1).toNat).ops ++ [⟨o, ((s.setTx j (some t.op)).change j t.op o.kind o.key.toNat o.value).1⟩] }) cs)
      ∨ (((s.setTx j (some t.op)).change j t.op o.kind o.key.toNat o.value).1.over = 4 ∧ DI ((s.setTx j (some t.op)).change j t.op o.kind o.key.toNat o.value).2 (ds.set (t.id - 1).toNat { dAt ds (t.id - 1).toNat with state := 4 }) cs)) := by
  have hky := opOk_key ho
  have hk64 : o.key.toNat < 64 := by omega
  obtain ⟨s0, hs0⟩ : ∃ s0, s0 = s.setTx j (some t.op) := ⟨_, rfl⟩
  have W0 : Wf s0 := by rw [hs0]; exact h.wf.retx ht rfl rfl rfl
  have ht0 : s0.tx j = some t.op := by rw [hs0]; exact setTx_same _ _ _
  have hl0 : s0.l = s.l := by rw [hs0]; rfl
  have hv0 : s0.vs = s.vs := by rw [hs0]; rfl
  have htx0 : ∀ i, s0.tx i = if i = j then some t.op else s.tx i := fun i => by rw [hs0]; exact setTx_tx _ _ _ _
  have T := h.live j t ht
  have hsee : (seenBy s t o.key.toNat).isSome = (s0.sees t.op o.key.toNat).isSome := by
    rw [← seenBy_isSome s0, seenBy_tx hl0 hv0 (t := t) (t' := t.op) rfl rfl]
  rw [← hs0]
  unfold St.change
  by_cases hth : (s0.sees t.op o.key.toNat).isSome = decide (o.kind = 2)
  · rw [if_pos hth]
    left
    refine ⟨rfl, ?_⟩
    have lk := look_beg t.op o.key.toNat
    have ll : (t.op.look o.key.toNat).level = t.level := by unfold Tx.look; split <;> rfl
    have he : (if (s0.sees t.op o.key.toNat).isSome = true then (12 : Int) else 11) ≠ 0 := by split <;> decide
    rw [hs0, setTx_again, ← hs0]
    refine h.read ht lk.2.2 lk.1 (look_id _ _) ll (c := ⟨o, .err (if (s0.sees t.op o.key.toNat).isSome then 12 else 11)⟩) ho ?_ (laidF_err he) ?_ (fun k _ hx => ?_) (fun k _ hx => ?_) (fun k _ hd => ?_) (fun h1 => ?_)
    · show (decide ((if (s0.sees t.op o.key.toNat).isSome = true then (12 : Int) else 11) = 0) && _) = false
      rw [decide_eq_false he]; rfl
    · unfold rightF
      rw [hsee]
      show (if o.kind = 1 then _ else _) = true
      rcases hk with e | e | e
      · have hth' : (s0.sees t.op o.key.toNat).isSome = true := by rw [hth]; simp [e]
        simp [e, hth', Res.err]
      · have hth' : (s0.sees t.op o.key.toNat).isSome = false := by rw [hth]; simp [e]
        simp [e, hth', Res.err]
      · have hth' : (s0.sees t.op o.key.toNat).isSome = false := by rw [hth]; simp [e]
        simp [e, hth', Res.err]
    · unfold Tx.look
      split
      · show upd t.looked o.key.toNat true k = true
        unfold upd; split
        · rfl
        · exact hx
      · exact hx
    · unfold Tx.look; split <;> exact hx
    · have : k = o.key.toNat := by
        unfold dep at hd
        rw [if_neg (show ¬ (o.kind = 5) by omega)] at hd
        have : o.key = (k : Int) := hd
        omega
      subst this
      unfold Tx.look
      split
      · exact .inl (upd_same _ _ _)
      · rename_i hx; right
        cases hc : t.op.cells o.key.toNat with
        | none => rw [hc] at hx; exact absurd rfl hx
        | some c => rfl
    · have : o.kind = 1 := h1
      omega
  · rw [if_neg hth]
    by_cases hr : (s0.write j t.op o.kind o.key.toNat o.value).1 = 0
    · have hWd := write_done W0 ht0 hk64 hr (fun k c hc ho => T.olds k c hc ho) (fun e => by
        cases hx : (s0.sees t.op o.key.toNat).isSome with
        | true => rfl
        | false => exact absurd (by rw [hx]; simp [e]) hth)
      have hW1 := (W0.write ht0 hk64 o.kind o.value).1 hr
      rcases hq : s0.write j t.op o.kind o.key.toNat o.value with ⟨r, s1⟩
      rw [hq] at hr hWd hW1
      simp only at hr hWd hW1 ⊢
      subst hr
      simp only [if_true]
      left
      refine ⟨rfl, ?_⟩
      obtain ⟨t1, w⟩ := hWd
      have hc : ClOk ⟨o, .zero⟩ := ho
      have hwr : writesB ⟨o, .zero⟩ = true := by
        unfold writesB
        rcases hk with e | e | e <;> simp [e, Res.zero]
      refine h.opped ht hW1 (fun i => ?_) w.id w.level (by rw [w.now, hs0]; rfl) (by rw [w.made, hs0]; rfl) (fun a k => (w.val a k).trans (valAt_vs hv0 a k)) (by have := w.len; rw [hv0] at this; exact this) (fun i hi => ?_) (fun i u hi hu k => ?_) hc ?_
      · by_cases e : i = j
        · subst e; rw [if_pos rfl]; exact w.tx
        · rw [if_neg e, w.oth i e, htx0, if_neg e]
      · have := w.ver i (by rw [hv0]; exact hi)
        have hvv : s0.ver i = s.ver i := by unfold St.ver; rw [hv0]
        rw [hvv] at this
        exact this
      · rw [w.others i u hi (by rw [htx0, if_neg hi]; exact hu) k]
        exact seenBy_vs hl0 hv0 u k
      · rw [show t1.beg = t.beg from w.beg]
        refine T.step hc ?_ (fun k hk' => ?_) w.level w.beg (fun k hk' => ?_) (fun k _ hx => by rw [w.looked]; exact hx) (fun k _ hx => by rw [w.got]; exact hx) (fun k hk' hd => .inr ?_) (fun h1 => ?_) w.olds
        · unfold rightF
          rw [hsee]
          have hth' : (s0.sees t.op o.key.toNat).isSome = !decide (o.kind = 2) := by
            cases hx : (s0.sees t.op o.key.toNat).isSome <;> cases hy : decide (o.kind = 2) <;> simp_all
          show (if o.kind = 1 then _ else _) = true
          rcases hk with e | e | e
          · rw [e] at hth'; simp [e, hth', Res.zero]
          · rw [e] at hth'; simp [e, hth', Res.zero]
          · rw [e] at hth'; simp [e, hth', Res.zero]
        · rw [w.seen k hk', seenBy_tx hl0 hv0 (t := t) (t' := t.op) rfl rfl]
          unfold laidF
          rw [if_pos (show (Cl.mk o .zero).res.e = 0 from rfl)]
          by_cases e4 : o.kind = 4
          · rw [if_pos e4, if_neg (show ¬ (o.kind = 2 ∨ o.kind = 3) by omega), if_pos e4]; rfl
          · rw [if_neg e4, if_pos (show o.kind = 2 ∨ o.kind = 3 by omega)]; rfl
        · rw [w.cells k hk', hwr, Bool.and_true]
          show _ = ((t.cells k).isSome || decide (o.key = (k : Int)))
          congr 1
          rw [decide_eq_decide]; omega
        · have : k = o.key.toNat := by
            unfold dep at hd
            rw [if_neg (show ¬ (o.kind = 5) by omega)] at hd
            have : o.key = (k : Int) := hd
            omega
          rw [w.cells k hk', this]; simp
        · have : o.kind = 1 := h1
          omega
    · have hF := (W0.write ht0 hk64 o.kind o.value).2 hr
      rcases hq : s0.write j t.op o.kind o.key.toNat o.value with ⟨r, s1⟩
      rw [hq] at hr hF
      simp only at hr hF ⊢
      rw [if_neg hr]
      right
      refine ⟨rfl, ?_⟩
      have hG : s1.fell j = s.kill j t := by
        rw [hF, hs0]; exact kill_congr s j (some t.op) t t.op (fun _ => rfl)
      have hD := h.killed ht
      rw [← hG] at hD
      exact hD
/-- A call that is answered. -/
theorem DI.did {s s' : St} {ds : List Dl} {cs : List Nat} (h : DI s ds cs) {j : Int} {o : MOp} {r : Res} (hd : s.do_ j o = (r, 0, s')) :
    ∃ t n, s.tx j.toNat = some t ∧ sessB j = true ∧ n < ds.length ∧ t.id = (n : Int) + 1 ∧ ∃ cs',
      (r.over = 3 ∧ DI s' (ds.set n { dAt ds n with state := 3, fin := s'.now }) cs') ∨ (r.over = 4 ∧ DI s' (ds.set n { dAt ds n with state := 4 }) cs') ∨ (r.over = 0 ∧ DI s' (ds.set n { dAt ds n with ops := (dAt ds n).ops ++ [⟨o, r⟩] }) cs') := by
  unfold St.do_ at hd
  by_cases hs : sessB j = true
  · rw [if_pos hs] at hd
    cases ht : s.tx j.toNat with
    | none => rw [ht] at hd; simp at hd
    | some t =>
      rw [ht] at hd
      simp only at hd
      by_cases ho : opOkB o = true
      · rw [if_pos ho] at hd
        by_cases hm : (decide (12 ≤ t.ops) && !endsB o) = true
        · rw [if_pos hm] at hd; simp at hd
        · rw [if_neg hm] at hd
          simp only [Prod.mk.injEq, true_and] at hd
          obtain ⟨hr, hs'⟩ := hd
          obtain ⟨n, hn, e1, e2, e3⟩ := h.idx ht
          refine ⟨t, n, rfl, hs, hn, e1, ?_⟩
          rw [← hr, ← hs']
          clear hr hs'
          rw [← e2]
          unfold St.call
          by_cases h6 : o.kind = 6
          · rw [if_pos h6]
            unfold St.commit
            by_cases hl : s.limit ≤ s.now
            · rw [if_pos hl]
              exact ⟨cs, .inr (.inl ⟨rfl, h.killed ht⟩)⟩
            · rw [if_neg hl]
              by_cases hh : s.tick.holds t (s.now + 1) = true
              · rw [if_pos hh]
                exact ⟨_, .inl ⟨rfl, h.done ht hh⟩⟩
              · rw [if_neg hh]
                exact ⟨cs, .inr (.inl ⟨rfl, h.tick.killed (j := j.toNat) (t := t) ht⟩)⟩
          · rw [if_neg h6]
            by_cases h7 : o.kind = 7
            · rw [if_pos h7]
              exact ⟨cs, .inr (.inl ⟨rfl, h.killed ht⟩)⟩
            · rw [if_neg h7]
              by_cases h1 : o.kind = 1
              · rw [if_pos h1]
                exact ⟨cs, .inr (.inr (h.get ht ho h1))⟩
              · rw [if_neg h1]
                by_cases h5 : o.kind = 5
                · rw [if_pos h5]
                  exact ⟨cs, .inr (.inr (h.scan ht ho h5))⟩
                · rw [if_neg h5]
                  rcases h.change ht ho (opOk_change ho h6 h7 h1 h5) with x | x
                  · exact ⟨cs, .inr (.inr x)⟩
                  · exact ⟨cs, .inr (.inl x)⟩
      · rw [if_neg ho] at hd; simp at hd
  · rw [if_neg hs] at hd; simp at hd
theorem DI.holdsB {s : St} {ds : List Dl} {cs : List Nat} (h : DI s ds cs) {i : Nat} (hi : i ∈ cs) {a : Int} (ha : a < (dAt ds i).fin) (hg : goodF (dAt ds i).ops (valAt s a) = true) : holdsB ds i a = true ∧ stateP ds a i = listOf (uptoF ds cs a) := by
  have e : stateP ds a i = listOf (uptoF ds cs a) := by
    rw [h.ord.stateP]
    unfold uptoF
    rw [uptoR_same (b := a) (but' := -1) (fun k hk => ?_)]
    constructor
    · rintro ⟨x, _⟩; exact ⟨x, by omega⟩
    · rintro ⟨x, _⟩
      refine ⟨x, fun e => ?_⟩
      have : k = i := by omega
      subst this; omega
  have hf := h.fins i hi
  refine ⟨?_, e⟩
  unfold Go.Proofs.Ytdjehgnkpbkdbaa.holdsB
  rw [e]
  show goodB (dAt ds i).ops _ = true
  rw [goodB_listOf _ _ (h.ord.ok i ((h.ord.mem i).1 hi).1), goodF_congr (h.ord.ok i ((h.ord.mem i).1 hi).1) (fun k hk => h.st a k (by omega) hk)]
  exact hg
end Go.Proofs.Ytdjehgnkpbkdbaa
namespace Go.Proofs.Ytdjehgnkpbkdbaa
open Go.RowKit
set_option linter.unusedVariables false
set_option linter.unusedSimpArgs false
def grid (c : Nat → List Value) (n : Nat) : List Value := (List.range n).flatMap c
theorem grid_succ (c : Nat → List Value) (n : Nat) : grid c (n + 1) = grid c n ++ c n := by
  unfold grid; rw [List.range_succ, List.flatMap_append]; simp
theorem grid_len {c : Nat → List Value} {w : Nat} (h : ∀ i, (c i).length = w) : ∀ n, (grid c n).length = n * w
  | 0 => by simp [grid]
  | n + 1 => by rw [grid_succ, List.length_append, grid_len h n, h n, Nat.add_mul, Nat.one_mul]
theorem grid_get {c : Nat → List Value} {w : Nat} (h : ∀ i, (c i).length = w) : ∀ n i f, i < n → f < w → (grid c n)[i * w + f]? = (c i)[f]?
  | 0, i, f, hi, hf => by omega
  | n + 1, i, f, hi, hf => by
    rw [grid_succ]
    by_cases e : i < n
    · have : i * w + f < n * w := by
        have h1 : (i + 1) * w ≤ n * w := Nat.mul_le_mul_right _ e
        rw [Nat.add_mul, Nat.one_mul] at h1
        omega
      rw [List.getElem?_append_left (by rw [grid_len h n]; exact this), grid_get h n i f e hf]
    · obtain rfl : i = n := by omega
      rw [List.getElem?_append_right (by rw [grid_len h i]; omega), grid_len h i, Nat.add_sub_cancel_left]
theorem grid_congr {c c' : Nat → List Value} : ∀ n, (∀ i, i < n → c i = c' i) → grid c n = grid c' n
  | 0, _ => rfl
  | n + 1, h => by rw [grid_succ, grid_succ, grid_congr n (fun i hi => h i (by omega)), h n (by omega)]
theorem grid_ext {c : Nat → List Value} {w n : Nat} (h : ∀ i, (c i).length = w) (hw : 0 < w) {l : List Value} (hl : l.length = n * w) (hg : ∀ i f, i < n → f < w → l[i * w + f]? = (c i)[f]?) : l = grid c n := by
  apply List.ext_getElem?
  intro j
  by_cases hj : j < n * w
  · have h1 : j / w < n := (Nat.div_lt_iff_lt_mul hw).2 hj
    have h2 : j % w < w := Nat.mod_lt _ hw
    have e : j = j / w * w + j % w := by rw [Nat.mul_comm]; exact (Nat.div_add_mod j w).symm
    rw [e, hg _ _ h1 h2, grid_get h n _ _ h1 h2]
  · rw [List.getElem?_eq_none (by omega), List.getElem?_eq_none (by rw [grid_len h n]; omega)]
theorem grid_set {c c' : Nat → List Value} {w n i f : Nat} {v : Value} (h : ∀ i, (c i).length = w) (hi : i < n) (hf : f < w) (he : ∀ k, k < n → k ≠ i → c' k = c k) (hc : c' i = (c i).set f v) (h' : ∀ i, (c' i).length = w) : (grid c n).set (i * w + f) v = grid c' n := by
  refine grid_ext h' (by omega) (by rw [List.length_set, grid_len h n]) (fun k g hk hg => ?_)
  rw [List.getElem?_set]
  by_cases e : i * w + f = k * w + g
  · have e1 : i = k := by
      rcases Nat.lt_trichotomy i k with x | x | x
      · have : (i + 1) * w ≤ k * w := Nat.mul_le_mul_right _ x
        rw [Nat.add_mul, Nat.one_mul] at this
        omega
      · exact x
      · have : (k + 1) * w ≤ i * w := Nat.mul_le_mul_right _ x
        rw [Nat.add_mul, Nat.one_mul] at this
        omega
    subst e1
    have e2 : f = g := by omega
    subst e2
    rw [if_pos rfl, hc, List.getElem?_set, if_pos rfl, grid_len h n, h i]
    have : i * w + f < n * w := by
      have h1 : (i + 1) * w ≤ n * w := Nat.mul_le_mul_right _ hi
      rw [Nat.add_mul, Nat.one_mul] at h1
      omega
    rw [if_pos this, if_pos hf]
  · rw [if_neg e, grid_get h n k g hk hg]
    by_cases ek : k = i
    · subst ek
      rw [hc, List.getElem?_set, if_neg (by omega)]
    · rw [he k hk ek]
def dlRow (ds : List Dl) (oa : Nat → Option Addr) (oc : Nat → Nat) : List Value := grid (fun i => dlCells (dAt ds i) (oa i) (oc i)) ds.length
def clRow (ops : List Cl) (pa : Nat → Option Addr) (pc : Nat → Nat) : List Value := grid (fun i => clCells (ops.getD i default) (pa i) (pc i)) ops.length
theorem dlCells_len (d : Dl) (a : Option Addr) (c : Nat) : (dlCells d a c).length = 6 := rfl
theorem clCells_len (d : Cl) (a : Option Addr) (c : Nat) : (clCells d a c).length = 9 := rfl
structure DAd where
  oa : Nat → Option Addr
  oc : Nat → Nat
  pa : Nat → Nat → Option Addr
  pc : Nat → Nat → Nat
abbrev DAd.opV (A : DAd) (ds : List Dl) (i : Nat) : Value := .slice (A.oa i) (dAt ds i).ops.length (A.oc i)
/-- Deals lie in rows of the law's own: R: the rows' blocks, S: the blocks of the answers' pairs. -/
structure DO (B : Nat) (w : World) (R S : Nat → Prop) (va : Option Addr) (vc : Nat) (ds : List Dl) (A : DAd) : Prop where
  row : w.ownsRow B 59 6 (.slice va ds.length vc) ds.length (dlRow ds A.oa A.oc)
  ops : ∀ i, i < ds.length → w.ownsRow B 70 9 (A.opV ds i) (dAt ds i).ops.length (clRow (dAt ds i).ops (A.pa i) (A.pc i))
  inj : ∀ i j, i < ds.length → j < ds.length → i ≠ j → Apart (rowOf (A.opV ds i)) (rowOf (A.opV ds j))
  pr : ∀ i m, i < ds.length → m < (dAt ds i).ops.length → PairsIn w (A.pa i m) ((dAt ds i).ops.getD m default).res.pairs ∧ (((dAt ds i).ops.getD m default).res.pairs ≠ [] → ∀ x, A.pa i m = some x → S x.block)
  rR : ∀ b, rowOf (.slice va ds.length vc) b → R b
  oR : ∀ i, i < ds.length → ∀ b, rowOf (A.opV ds i) b → R b
  ap : Apart R S
  uR : Under R w.heap.size
  uS : Under S w.heap.size
  aR : Above R B
  aS : Above S B
theorem PairsIn.onlyS {w w' : World} {a : Option Addr} {ps : List (Int × Int)} {S T : Nat → Prop} (h : PairsIn w a ps) (o : Only T w w') (hS : ps ≠ [] → ∀ x, a = some x → S x.block) (ha : Apart S T) : PairsIn w' a ps := by
  by_cases e : ps = []
  · exact .inl e
  · exact h.only o (fun x hx => ha _ (hS e x hx))
theorem DO.only {B : Nat} {w w' : World} {R S T : Nat → Prop} {va : Option Addr} {vc : Nat} {ds : List Dl} {A : DAd} (h : DO B w R S va vc ds A) (o : Only T w w') (h1 : Apart R T) (h2 : Apart S T) : DO B w' R S va vc ds A :=
  ⟨rows_only h.row o (fun b hb => h1 b (h.rR b hb)), fun i hi => rows_only (h.ops i hi) o (fun b hb => h1 b (h.oR i hi b hb)), h.inj, fun i m hi hm => ⟨(h.pr i m hi hm).1.onlyS o (h.pr i m hi hm).2 h2, (h.pr i m hi hm).2⟩, h.rR, h.oR, h.ap, h.uR.mono o.size, h.uS.mono o.size, h.aR, h.aS⟩
theorem DO.only0 {B : Nat} {w w' : World} {R S : Nat → Prop} {va : Option Addr} {vc : Nat} {ds : List Dl} {A : DAd} (h : DO B w R S va vc ds A) (o : Only0 w w') : DO B w' R S va vc ds A :=
  h.only (T := fun _ => False) o (fun _ _ hf => hf) (fun _ _ hf => hf)
theorem DO.nil (B : Nat) (w : World) : DO B w (fun _ => False) (fun _ => False) none 0 [] ⟨fun _ => none, fun _ => 0, fun _ _ => none, fun _ _ => 0⟩ :=
  ⟨World.ownsRow_nil _ _ _ _, fun i hi => by simp at hi, fun i j hi => by simp at hi, fun i m hi => by simp at hi, fun b hb => absurd hb (rowOf_none _ _ _), fun i hi => by simp at hi, fun _ hf => hf.elim, fun _ hf => hf.elim, fun _ hf => hf.elim, fun _ hf => hf.elim, fun _ hf => hf.elim⟩
theorem DO.callsIn {B : Nat} {w : World} {R S : Nat → Prop} {va : Option Addr} {vc : Nat} {ds : List Dl} {A : DAd} (h : DO B w R S va vc ds A) {i : Nat} (hi : i < ds.length) : CallsIn w (A.oa i) (dAt ds i).ops ∧ (dAt ds i).ops.length ≤ A.oc i := by
  have H := h.ops i hi
  rcases H.2 with ⟨e, h0⟩ | ⟨g, cap, cur, hv, _, _, h1, _⟩
  · injection e with e1 e2 e3
    exact ⟨.inl (List.eq_nil_of_length_eq_zero h0), by omega⟩
  · have hv' := hv
    injection hv with e1 e2 e3
    have H' := H
    rw [show A.opV ds i = .slice (some ⟨g, 0, none⟩) (dAt ds i).ops.length (A.oc i) by unfold DAd.opV; rw [e1]] at H'
    refine ⟨.inr ⟨g, e1, fun m hm => ⟨A.pa i m, A.pc i m, (h.pr i m hi hm).1, fun f v hv => ?_⟩⟩, by omega⟩
    have hf : f < 9 := by
      have := (List.getElem?_eq_some_iff.1 hv).1
      rw [clCells_len] at this; exact this
    rw [H'.cellAt (m * 9 + f) (by omega)]
    unfold clRow
    rw [grid_get (fun k => clCells_len _ _ _) _ _ _ hm hf]
    exact hv
theorem DO.deals {B : Nat} {w : World} {R S : Nat → Prop} {va : Option Addr} {vc : Nat} {ds : List Dl} {A : DAd} (h : DO B w R S va vc ds A) : DealsIn w va ds ∧ ds.length ≤ vc := by
  have H := h.row
  rcases H.2 with ⟨e, h0⟩ | ⟨g, cap, cur, hv, _, _, h1, _⟩
  · injection e with e1 e2 e3
    exact ⟨.inl (List.eq_nil_of_length_eq_zero h0), by omega⟩
  · injection hv with e1 e2 e3
    have H' := H
    rw [e1] at H'
    refine ⟨.inr ⟨g, e1, fun i hi => ⟨A.oa i, A.oc i, (h.callsIn hi).1, (h.callsIn hi).2, fun f v hv => ?_⟩⟩, by omega⟩
    have hf : f < 6 := by
      have := (List.getElem?_eq_some_iff.1 hv).1
      rw [dlCells_len] at this; exact this
    rw [H'.cellAt (i * 6 + f) (by omega)]
    unfold dlRow
    rw [grid_get (fun k => dlCells_len _ _ _) _ _ _ hi hf]
    exact hv
/-- One Deal more. -/
theorem DO.push {B gg cap : Nat} {w w1 : World} {R S : Nat → Prop} {va : Option Addr} {vc : Nat} {ds : List Dl} {A : DAd} (h : DO B w R S va vc ds A) {d : Dl} (hd : d.ops = [])
    (hown : w1.ownsRow B 59 6 (.slice (some ⟨gg, 0, none⟩) (ds.length + 1) cap) (ds.length + 1) (dlRow ds A.oa A.oc ++ dlCells d none 0)) (hg : w.grownBy w1 (Value.slice va ds.length vc).ownBlock) (hat : (Value.slice va ds.length vc).ownBlock = some gg ∨ w.heap.size ≤ gg) (hlt : gg < w1.heap.size) :
    ∃ A', DO B w1 (fun b => R b ∨ b = gg) S (some ⟨gg, 0, none⟩) cap (ds ++ [d]) A' ∧ Only R w w1 := by
  have o1 : Only (rowOf (.slice va ds.length vc)) w w1 := ⟨hg.os, hg.tape, hg.output, hg.size, fun b hb hn => hg.block b hb (fun e => hn e.symm)⟩
  have oR : Only R w w1 := o1.toward h.rR
  have hap : Apart S (rowOf (.slice va ds.length vc)) := fun b hb hr => h.ap b (h.rR b hr) hb
  have rapt : ∀ i, i < ds.length → Apart (rowOf (A.opV ds i)) (rowOf (.slice va ds.length vc)) := fun i hi => (rows_apart h.row (h.ops i hi) (by decide)).symm
  refine ⟨⟨fun i => if i = ds.length then none else A.oa i, fun i => if i = ds.length then 0 else A.oc i, A.pa, A.pc⟩, ?_, oR⟩
  have hat' : ∀ i, i < ds.length → dAt (ds ++ [d]) i = dAt ds i := fun i hi => by rw [dAt_app, if_neg (by omega)]
  have hat2 : dAt (ds ++ [d]) ds.length = d := by rw [dAt_app, if_pos rfl]
  have hV : ∀ i, i < ds.length → DAd.opV ⟨fun i => if i = ds.length then none else A.oa i, fun i => if i = ds.length then 0 else A.oc i, A.pa, A.pc⟩ (ds ++ [d]) i = A.opV ds i := fun i hi => by
    unfold DAd.opV
    simp only [if_neg (show ¬ i = ds.length by omega), hat' i hi]
  have hV2 : DAd.opV ⟨fun i => if i = ds.length then none else A.oa i, fun i => if i = ds.length then 0 else A.oc i, A.pa, A.pc⟩ (ds ++ [d]) ds.length = .slice none 0 0 := by
    unfold DAd.opV
    simp only [if_true, hat2, hd, List.length_nil]
  have hn : (ds ++ [d]).length = ds.length + 1 := by simp
  have hrow : dlRow (ds ++ [d]) (fun i => if i = ds.length then none else A.oa i) (fun i => if i = ds.length then 0 else A.oc i) = dlRow ds A.oa A.oc ++ dlCells d none 0 := by
    unfold dlRow
    rw [hn, grid_succ]
    congr 1
    · exact grid_congr _ (fun i hi => by simp only [if_neg (show ¬ i = ds.length by omega), hat' i hi])
    · simp only [if_true, hat2]
  refine ⟨?_, fun i hi => ?_, fun i j hi hj hne => ?_, fun i m hi hm => ?_, fun b hb => ?_, fun i hi b hb => ?_, fun b hb hS => ?_, fun b hb => ?_, h.uS.mono o1.size, fun b hb => ?_, h.aS⟩
  · rw [hrow, hn]; exact hown
  · by_cases e : i = ds.length
    · subst e
      rw [hV2, hat2, hd]
      exact World.ownsRow_nil _ _ _ _
    · have hi' : i < ds.length := by simp at hi; omega
      rw [hV i hi', hat' i hi']
      exact rows_only (h.ops i hi') o1 (rapt i hi')
  · by_cases e : i = ds.length
    · subst e; rw [hV2]; exact fun b hb => absurd hb (rowOf_none _ _ _)
    · by_cases e' : j = ds.length
      · subst e'; rw [hV2]; exact fun b _ hb => rowOf_none _ _ _ hb
      · have hi' : i < ds.length := by simp at hi; omega
        have hj' : j < ds.length := by simp at hj; omega
        rw [hV i hi', hV j hj']; exact h.inj i j hi' hj' hne
  · by_cases e : i = ds.length
    · subst e; rw [hat2, hd] at hm; simp at hm
    · have hi' : i < ds.length := by simp at hi; omega
      rw [hat' i hi'] at hm ⊢
      exact ⟨(h.pr i m hi' hm).1.onlyS o1 (h.pr i m hi' hm).2 hap, (h.pr i m hi' hm).2⟩
  · exact .inr (rowOf_some.1 hb)
  · by_cases e : i = ds.length
    · subst e; rw [hV2] at hb; exact absurd hb (rowOf_none _ _ _)
    · have hi' : i < ds.length := by simp at hi; omega
      rw [hV i hi'] at hb
      exact .inl (h.oR i hi' b hb)
  · rcases hb with hb | rfl
    · exact h.ap b hb hS
    · rcases hat with x | x
      · exact h.ap b (h.rR b x) hS
      · have := h.uS b hS; omega
  · rcases hb with hb | rfl
    · exact Nat.lt_of_lt_of_le (h.uR b hb) o1.size
    · exact hlt
  · rcases hb with hb | rfl
    · exact h.aR b hb
    · exact (hown.lt b rfl).1
end Go.Proofs.Ytdjehgnkpbkdbaa
namespace Go.Proofs.Ytdjehgnkpbkdbaa
open Go.RowKit
set_option linter.unusedVariables false
set_option linter.unusedSimpArgs false
/-- The main row's address. -/
theorem DO.at_ {B : Nat} {w : World} {R S : Nat → Prop} {va : Option Addr} {vc : Nat} {ds : List Dl} {A : DAd} (h : DO B w R S va vc ds A) (hn : 0 < ds.length) : ∃ g, va = some ⟨g, 0, none⟩ ∧ R g ∧ g < w.heap.size ∧ (∀ o, w.frozen? ⟨g, o, none⟩ = false) ∧
    ∀ i, i < ds.length → ∀ f v, (dlCells (dAt ds i) (A.oa i) (A.oc i))[f]? = some v → w.cell? ⟨g, i * 6 + f, none⟩ = some v := by
  rcases h.row.2 with ⟨e, h0⟩ | ⟨g, cap, cur, hv, _, hg, _⟩
  · omega
  · injection hv with e1 e2 e3
    have H' := h.row
    rw [e1] at H'
    refine ⟨g, e1, h.rR g (by rw [e1]; exact rowOf_some.2 rfl), lt_of_block hg, fun o => H'.frozenAt o, fun i hi f v hv => ?_⟩
    have hf : f < 6 := by
      have := (List.getElem?_eq_some_iff.1 hv).1
      rw [dlCells_len] at this; exact this
    rw [H'.cellAt (i * 6 + f) (by omega)]
    unfold dlRow
    rw [grid_get (fun k => dlCells_len _ _ _) _ _ _ hi hf]
    exact hv
/-- A cell of a Deal turns; its calls stay. -/
theorem DO.turn {B g : Nat} {w : World} {R S : Nat → Prop} {vc : Nat} {ds : List Dl} {A : DAd} (h : DO B w R S (some ⟨g, 0, none⟩) vc ds A) {i f : Nat} {v : Value} (hi : i < ds.length) (hf : f < 6) {d' : Dl} (hops : d'.ops = (dAt ds i).ops) (hc : ∀ a c, dlCells d' a c = (dlCells (dAt ds i) a c).set f v) :
    DO B (w.setCell ⟨g, i * 6 + f, none⟩ v) R S (some ⟨g, 0, none⟩) vc (ds.set i d') A ∧ Only R w (w.setCell ⟨g, i * 6 + f, none⟩ v) := by
  have hn : (ds.set i d').length = ds.length := List.length_set
  have hS : ∀ k, dAt (ds.set i d') k = if k = i then d' else dAt ds k := fun k => dAt_set hi
  have hgR : R g := h.rR g (rowOf_some.2 rfl)
  have o1 : Only (rowOf (.slice (some ⟨g, 0, none⟩) ds.length vc)) w (w.setCell ⟨g, i * 6 + f, none⟩ v) := Only.setCell (S := rowOf (.slice (some ⟨g, 0, none⟩) ds.length vc)) (Only.refl _ w) (fun _ => rowOf_some.2 rfl) v
  have oR : Only R w (w.setCell ⟨g, i * 6 + f, none⟩ v) := o1.toward h.rR
  have hO : ∀ k, (dAt (ds.set i d') k).ops = (dAt ds k).ops := fun k => by
    rw [hS]; split
    · rename_i e; subst e; exact hops
    · rfl
  have hV : ∀ k, A.opV (ds.set i d') k = A.opV ds k := fun k => by unfold DAd.opV; rw [hO]
  have hap : Apart S (rowOf (.slice (some ⟨g, 0, none⟩) ds.length vc)) := fun b hb hr => h.ap b (h.rR b hr) hb
  have rapt : ∀ k, k < ds.length → Apart (rowOf (A.opV ds k)) (rowOf (.slice (some ⟨g, 0, none⟩) ds.length vc)) := fun k hk => (rows_apart h.row (h.ops k hk) (by decide)).symm
  refine ⟨⟨?_, fun k hk => ?_, fun k j hk hj hne => ?_, fun k m hk hm => ?_, fun b hb => ?_, fun k hk b hb => ?_, h.ap, h.uR.mono o1.size, h.uS.mono o1.size, h.aR, h.aS⟩, oR⟩
  · have := (h.row.stored (i * 6 + f) v).1
    have e : (dlRow ds A.oa A.oc).set (i * 6 + f) v = dlRow (ds.set i d') A.oa A.oc := by
      unfold dlRow
      rw [hn]
      exact grid_set (fun k => dlCells_len _ _ _) hi hf (fun k hk hne => by rw [hS, if_neg hne]) (by rw [hS, if_pos rfl]; exact hc _ _) (fun k => dlCells_len _ _ _)
    rw [e] at this
    rw [hn]; exact this
  · rw [hn] at hk
    rw [hV, hO]
    exact rows_only (h.ops k hk) o1 (rapt k hk)
  · rw [hn] at hk hj
    rw [hV, hV]; exact h.inj k j hk hj hne
  · rw [hn] at hk
    rw [hO] at hm ⊢
    exact ⟨(h.pr k m hk hm).1.onlyS o1 (h.pr k m hk hm).2 hap, (h.pr k m hk hm).2⟩
  · rw [hn] at hb; exact h.rR b hb
  · rw [hn] at hk
    rw [hV] at hb; exact h.oR k hk b hb
/-- One call more: the row of calls has grown, and the Deal is told. -/
theorem DO.call {B g gg cap : Nat} {w w1 : World} {R S : Nat → Prop} {vc : Nat} {ds : List Dl} {A : DAd} (h : DO B w R S (some ⟨g, 0, none⟩) vc ds A) {i : Nat} (hi : i < ds.length) {c : Cl} {pa : Option Addr} {pc : Nat}
    (hp : PairsIn w pa c.res.pairs) (hpn : c.res.pairs ≠ [] → ∀ x, pa = some x → ¬ R x.block ∧ x.block < w.heap.size ∧ B ≤ x.block)
    (hown : w1.ownsRow B 70 9 (.slice (some ⟨gg, 0, none⟩) ((dAt ds i).ops.length + 1) cap) ((dAt ds i).ops.length + 1) (clRow (dAt ds i).ops (A.pa i) (A.pc i) ++ clCells c pa pc)) (hg : w.grownBy w1 (A.opV ds i).ownBlock) (hat : (A.opV ds i).ownBlock = some gg ∨ w.heap.size ≤ gg) (hlt : gg < w1.heap.size) :
    ∃ A', DO B (w1.setCell ⟨g, i * 6 + 5, none⟩ (.slice (some ⟨gg, 0, none⟩) ((dAt ds i).ops.length + 1) cap)) (fun b => R b ∨ b = gg) (fun b => S b ∨ (c.res.pairs ≠ [] ∧ ∃ x, pa = some x ∧ x.block = b)) (some ⟨g, 0, none⟩) vc (ds.set i { dAt ds i with ops := (dAt ds i).ops ++ [c] }) A'
      ∧ Only R w (w1.setCell ⟨g, i * 6 + 5, none⟩ (.slice (some ⟨gg, 0, none⟩) ((dAt ds i).ops.length + 1) cap)) := by
  obtain ⟨ops, hops⟩ : ∃ ops, ops = (dAt ds i).ops := ⟨_, rfl⟩
  rw [← hops] at hown ⊢
  obtain ⟨d', hd'⟩ : ∃ d' : Dl, d' = { dAt ds i with ops := ops ++ [c] } := ⟨_, rfl⟩
  have hd'o : d'.ops = ops ++ [c] := by rw [hd']
  have hd'c : ∀ a c1, dlCells d' a c1 = (dlCells (dAt ds i) a c1).set 5 (.slice a (ops.length + 1) c1) := fun a c1 => by rw [hd']; unfold dlCells; simp
  rw [← hd']
  have o1 : Only (rowOf (A.opV ds i)) w w1 := ⟨hg.os, hg.tape, hg.output, hg.size, fun b hb hn => hg.block b hb (fun e => hn e.symm)⟩
  have hrow1 := rows_only h.row o1 (rows_apart h.row (h.ops i hi) (by decide))
  have hgR : R g := h.rR g (rowOf_some.2 rfl)
  have hglt : g < w.heap.size := h.uR g hgR
  have hgne : gg ≠ g := fun e => by
    have := rows_apart hrow1 hown (by decide)
    exact this g (rowOf_some.2 rfl) (rowOf_some.2 e.symm)
  have o2 : Only (fun b => b = g) w1 (w1.setCell ⟨g, i * 6 + 5, none⟩ (.slice (some ⟨gg, 0, none⟩) (ops.length + 1) cap)) := Only.setCell (S := fun b => b = g) (Only.refl _ w1) (fun _ => rfl) _
  obtain ⟨W, hW⟩ : ∃ W, W = w1.setCell ⟨g, i * 6 + 5, none⟩ (.slice (some ⟨gg, 0, none⟩) (ops.length + 1) cap) := ⟨_, rfl⟩
  have hst := (hrow1.stored (i * 6 + 5) (.slice (some ⟨gg, 0, none⟩) (ops.length + 1) cap)).1
  rw [← hW] at o2 hst ⊢
  have oR : Only R w W := (o1.toward (h.oR i hi)).trans (o2.mono (fun b _ hb => by subst hb; exact hgR)) 
  have hn : (ds.set i d').length = ds.length := List.length_set
  have hS : ∀ k, dAt (ds.set i d') k = if k = i then d' else dAt ds k := fun k => dAt_set hi
  have hne5 : ∀ k, k < ds.length → k ≠ i → Apart (rowOf (A.opV ds k)) (rowOf (A.opV ds i)) := fun k hk hne => h.inj k i hk hi hne
  have hSR : Apart S (rowOf (A.opV ds i)) := fun b hb hr => h.ap b (h.oR i hi b hr) hb
  have hSg : Apart S (fun b => b = g) := fun b hb e => by subst e; exact h.ap b hgR hb
  obtain ⟨A', hA'⟩ : ∃ A' : DAd, A' = ⟨fun k => if k = i then some ⟨gg, 0, none⟩ else A.oa k, fun k => if k = i then cap else A.oc k, fun k m => if k = i ∧ m = ops.length then pa else A.pa k m, fun k m => if k = i ∧ m = ops.length then pc else A.pc k m⟩ := ⟨_, rfl⟩
  have hVi : A'.opV (ds.set i d') i = .slice (some ⟨gg, 0, none⟩) (ops.length + 1) cap := by
    unfold DAd.opV; rw [hS, if_pos rfl, hd'o, hA']; simp
  have hVk : ∀ k, k ≠ i → A'.opV (ds.set i d') k = A.opV ds k := fun k hk => by
    unfold DAd.opV; rw [hS, if_neg hk, hA']; simp only [if_neg hk]
  have hggR : ∀ b, b = gg → R b ∨ b = gg := fun b e => .inr e
  have ggw : ∀ k, k < ds.length → k ≠ i → ¬ rowOf (A.opV ds k) gg := fun k hk hne hx => by
    rcases hat with x | x
    · exact hne5 k hk hne gg hx x
    · have := h.uR gg (h.oR k hk gg hx); omega
  have ggS : ¬ S gg := fun hx => by
    rcases hat with x | x
    · exact h.ap gg (h.oR i hi gg x) hx
    · have := h.uS gg hx; omega
  have hpx : c.res.pairs ≠ [] → ∀ x, pa = some x → x.block ≠ gg := fun hne x hx e => by
    obtain ⟨p1, p2, p3⟩ := hpn hne x hx
    rcases hat with y | y
    · exact p1 (by rw [e]; exact h.oR i hi gg y)
    · omega
  have hw1 : w.heap.size ≤ W.heap.size := Nat.le_trans o1.size o2.size
  refine ⟨A', ⟨?_, fun k hk => ?_, fun k j hk hj hne => ?_, fun k m hk hm => ?_, fun b hb => ?_, fun k hk b hb => ?_, fun b hb hs => ?_, fun b hb => ?_, fun b hb => ?_, fun b hb => ?_, fun b hb => ?_⟩, oR⟩
  · have e : (dlRow ds A.oa A.oc).set (i * 6 + 5) (.slice (some ⟨gg, 0, none⟩) (ops.length + 1) cap) = dlRow (ds.set i d') A'.oa A'.oc := by
      unfold dlRow
      rw [hn]
      refine grid_set (fun k => dlCells_len _ _ _) hi (by decide) (fun k hk hne => ?_) ?_ (fun k => dlCells_len _ _ _)
      · rw [hS, if_neg hne, hA']; simp only [if_neg hne]
      · rw [hS, if_pos rfl, hd'c, hA']; simp only [if_true]; unfold dlCells; simp
    rw [e] at hst
    rw [hn]; exact hst
  · rw [hn] at hk
    by_cases e : k = i
    · subst e
      have hrow : clRow (ops ++ [c]) (A'.pa k) (A'.pc k) = clRow ops (A.pa k) (A.pc k) ++ clCells c pa pc := by
        unfold clRow
        rw [show (ops ++ [c]).length = ops.length + 1 by simp, grid_succ]
        congr 1
        · refine grid_congr _ (fun m hm => ?_)
          have hm2 : ¬ m = ops.length := by omega
          have e1 : A'.pa k m = A.pa k m := by rw [hA']; simp [hm2]
          have e2 : A'.pc k m = A.pc k m := by rw [hA']; simp [hm2]
          have e3 : (ops ++ [c]).getD m default = ops.getD m default := by
            rw [List.getD_eq_getElem?_getD, List.getD_eq_getElem?_getD, List.getElem?_append_left hm]
          show clCells _ _ _ = clCells _ _ _
          rw [e1, e2, e3]
        · rw [hA']
          simp only [and_self, if_true]
          rw [List.getD_eq_getElem?_getD, List.getElem?_append_right (Nat.le_refl _)]; simp
      rw [hVi, hS, if_pos rfl, hd'o, hrow, show (ops ++ [c]).length = ops.length + 1 by simp]
      exact rows_only hown o2 (fun b hb e => hgne ((rowOf_some.1 hb).symm.trans e))
    · rw [hVk k e, hS, if_neg e]
      have h1 := rows_only (h.ops k hk) o1 (hne5 k hk e)
      have h2 := rows_only h1 o2 (fun b hb e => by
        subst e
        exact (rows_apart h.row (h.ops k hk) (by decide)) b (rowOf_some.2 rfl) hb)
      have e3 : clRow (dAt ds k).ops (A'.pa k) (A'.pc k) = clRow (dAt ds k).ops (A.pa k) (A.pc k) := by
        unfold clRow
        refine grid_congr _ (fun m hm => ?_)
        rw [hA']
        simp only [show ¬ (k = i ∧ m = ops.length) from fun x => e x.1, if_false]
      rw [e3]; exact h2
  · rw [hn] at hk hj
    by_cases e : k = i
    · subst e
      rw [hVi, hVk j (fun x => hne x.symm)]
      exact fun b hb hb' => ggw j hj (fun x => hne x.symm) (by rw [← rowOf_some.1 hb]; exact hb')
    · by_cases e' : j = i
      · subst e'
        rw [hVi, hVk k e]
        exact fun b hb hb' => ggw k hk e (by rw [← rowOf_some.1 hb']; exact hb)
      · rw [hVk k e, hVk j e']; exact h.inj k j hk hj hne
  · rw [hn] at hk
    have old : ∀ m, m < (dAt ds k).ops.length → PairsIn W (A.pa k m) ((dAt ds k).ops.getD m default).res.pairs ∧ (((dAt ds k).ops.getD m default).res.pairs ≠ [] → ∀ x, A.pa k m = some x → S x.block ∨ (c.res.pairs ≠ [] ∧ ∃ y, pa = some y ∧ y.block = x.block)) := fun m hm => by
      obtain ⟨p1, p2⟩ := h.pr k m hk hm
      exact ⟨(p1.onlyS o1 p2 hSR).onlyS o2 p2 hSg, fun hne x hx => .inl (p2 hne x hx)⟩
    by_cases e : k = i
    · subst e
      rw [hS, if_pos rfl, hd'o] at hm ⊢
      by_cases em : m = ops.length
      · subst em
        have e1 : A'.pa k ops.length = pa := by rw [hA']; simp
        rw [e1, show (ops ++ [c]).getD ops.length default = c by rw [List.getD_eq_getElem?_getD, List.getElem?_append_right (Nat.le_refl _)]; simp]
        refine ⟨?_, fun hne x hx => .inr ⟨hne, x, hx, rfl⟩⟩
        by_cases hne : c.res.pairs = []
        · exact .inl hne
        · refine (hp.only o1 (fun x hx hr => (hpn hne x hx).1 (h.oR k hi _ hr))).only o2 (fun x hx e => (hpn hne x hx).1 (by rw [e]; exact hgR))
      · have hm' : m < ops.length := by simp at hm; omega
        have e1 : A'.pa k m = A.pa k m := by rw [hA']; simp [em]
        have e2 : (ops ++ [c]).getD m default = (dAt ds k).ops.getD m default := by
          rw [← hops, List.getD_eq_getElem?_getD, List.getD_eq_getElem?_getD, List.getElem?_append_left hm']
        rw [e1, e2]
        exact old m (by rw [← hops]; exact hm')
    · rw [hS, if_neg e] at hm ⊢
      have e1 : A'.pa k m = A.pa k m := by rw [hA']; simp [e]
      rw [e1]
      exact old m hm
  · rw [hn] at hb; exact .inl (h.rR b hb)
  · rw [hn] at hk
    by_cases e : k = i
    · subst e; rw [hVi] at hb; exact .inr (rowOf_some.1 hb)
    · rw [hVk k e] at hb; exact .inl (h.oR k hk b hb)
  · rcases hb with hb | rfl
    · rcases hs with hs | ⟨hne, x, hx, rfl⟩
      · exact h.ap b hb hs
      · exact (hpn hne x hx).1 hb
    · rcases hs with hs | ⟨hne, x, hx, e⟩
      · exact ggS hs
      · exact hpx hne x hx e
  · rcases hb with hb | rfl
    · exact Nat.lt_of_lt_of_le (h.uR b hb) hw1
    · exact Nat.lt_of_lt_of_le hlt o2.size
  · rcases hb with hb | ⟨hne, x, hx, rfl⟩
    · exact Nat.lt_of_lt_of_le (h.uS b hb) hw1
    · exact Nat.lt_of_lt_of_le (hpn hne x hx).2.1 hw1
  · rcases hb with hb | rfl
    · exact h.aR b hb
    · exact (hown.lt b rfl).1
  · rcases hb with hb | ⟨hne, x, hx, rfl⟩
    · exact h.aS b hb
    · exact (hpn hne x hx).2.2
end Go.Proofs.Ytdjehgnkpbkdbaa
namespace Go.Proofs.Ytdjehgnkpbkdbaa
open Go.RowKit
set_option linter.unusedVariables false
set_option linter.unusedSimpArgs false
def statAll (s : St) (j : Int) : Array Value := if sessB j then statV (s.tx j.toNat) else statV none
/-- The id that Status tells; 0: none. -/
def idV (s : St) (j : Int) : Int := if sessB j then (match s.tx j.toNat with | some t => t.id | none => 0) else 0
theorem statAll_shape (s : St) (j : Int) : ∃ l lv st bg op, statAll s j = #[.bool l, .bool false, .bool false, .int .i64 (idV s j), .int .i64 lv, .int .i64 st, .int .u64 bg, .int .u64 0, .int .i64 op] := by
  unfold statAll idV
  cases sessB j with
  | false => exact ⟨_, _, _, _, _, rfl⟩
  | true =>
    simp only [if_true]
    cases s.tx j.toNat with
    | none => exact ⟨_, _, _, _, _, rfl⟩
    | some t => exact ⟨_, _, _, _, _, rfl⟩
set_option maxRecDepth 100000 in
set_option maxHeartbeats 8000000 in
theorem md_statusA {B m : Nat} {w : World} {P : Nat → Prop} {s : St} (h : MAt B w P m s) (j : Int) :
    Calls Try.prog 19 #[.pointer (some ⟨m, 0, none⟩), .int .i64 j] w fun e w' => e = .returned (.agg (statAll s j)) ∧ Only0 w w' := by
  cases hs : sessB j with
  | true =>
    obtain ⟨jn, rfl⟩ : ∃ n : Nat, j = n := ⟨j.toNat, by simp [sessB] at hs; omega⟩
    have hj : jn < 8 := by simp [sessB] at hs; omega
    have e : statAll s (jn : Int) = statV (s.tx jn) := by unfold statAll; rw [hs]; rfl
    rw [e]
    exact md_status h jn hj
  | false =>
    have HS : Hid (statAll s j = statV none) := Lib.hid (by unfold statAll; rw [hs]; rfl)
    obtain ⟨W, hW⟩ : ∃ W, W = w.alloc (.cells #[.bool false, .bool false, .bool false, .int .i64 0, .int .i64 0, .int .i64 0, .int .u64 0, .int .u64 0, .int .i64 0] 62) := ⟨_, rfl⟩
    obtain ⟨n0, hn0⟩ : ∃ n0, n0 = w.heap.size := ⟨_, rfl⟩
    have oW : Only0 w W := by rw [hW]; exact (Only0.refl w).alloc _
    have BX : Blk W n0 62 #[.bool false, .bool false, .bool false, .int .i64 0, .int .i64 0, .int .i64 0, .int .u64 0, .int .u64 0, .int .i64 0] := by rw [hW, hn0]; exact Blk.new _ _ _
    have HN := Lib.hid hn0
    have HO := Lib.hid oW
    have CS := md_sess j W
    rw [hs] at CS
    have b0 : W.cell? ⟨n0, 0, none⟩ = some (.bool false) := BX.cell 0
    have b1 : W.cell? ⟨n0, 1, none⟩ = some (.bool false) := BX.cell 1
    have b2 : W.cell? ⟨n0, 2, none⟩ = some (.bool false) := BX.cell 2
    have b3 : W.cell? ⟨n0, 3, none⟩ = some (.int .i64 0) := BX.cell 3
    have b4 : W.cell? ⟨n0, 4, none⟩ = some (.int .i64 0) := BX.cell 4
    have b5 : W.cell? ⟨n0, 5, none⟩ = some (.int .i64 0) := BX.cell 5
    have b6 : W.cell? ⟨n0, 6, none⟩ = some (.int .u64 0) := BX.cell 6
    have b7 : W.cell? ⟨n0, 7, none⟩ = some (.int .u64 0) := BX.cell 7
    have b8 : W.cell? ⟨n0, 8, none⟩ = some (.int .i64 0) := BX.cell 8
    have bf := fun i => BX.free i
    have HBX := Lib.hid BX
    clear BX hn0 h oW hs
    go_enter Try.func19, Try.ntmps19
    go_upto_region 1 with (fail)
    rw [← hW, ← HN.out]
    clear hW
    go_wp2_with fail
    refine CS.mono ?_
    rintro e w1 ⟨rfl, rfl⟩
    go_wp2_with fail
    obtain ⟨B9, o9⟩ := set9 HBX.out (.bool false) (.bool false) (.bool false) (.int .i64 0) (.int .i64 0) (.int .i64 0) (.int .u64 0) (.int .u64 0) (.int .i64 0)
    exact bodyPost_ret (v := .agg (statV none)) (results_cell_row Try.results19 _ _ n0 _ _ _ _ rfl B9 Try.underlying62 rfl info_stat) rfl ⟨by rw [HS.out], HO.out.box (by rw [HN.out]; exact Nat.le_refl _) o9⟩
end Go.Proofs.Ytdjehgnkpbkdbaa
namespace Go.Proofs.Ytdjehgnkpbkdbaa
open Go.RowKit
set_option linter.unusedVariables false
set_option linter.unusedSimpArgs false
theorem md_dopq {B m : Nat} {w : World} {P : Nat → Prop} {s : St} (h : MAt B w P m s) (j kind key hi value : Int) {re rv ro rr er : Int} {ps : List (Int × Int)} {s' : St} (hs : s.do_ j ⟨kind, key, hi, value⟩ = (⟨re, rv, ps, ro, rr⟩, er, s')) :
    Calls Try.prog 20 #[.pointer (some ⟨m, 0, none⟩), .int .i64 j, .agg #[.int .i64 kind, .int .i64 key, .int .i64 hi, .int .i64 value]] w fun e w' => ∃ (P' : Nat → Prop) (a : Option Addr) (c : Nat), e = .returned (.tuple #[.agg #[.int .i64 re, .int .i64 rv, .slice a ps.length c, .int .i64 ro, .int .i64 rr], .int .i64 er]) ∧ MAt B w' P' m s' ∧ Only P w w' ∧ Grew w.heap.size P P' ∧ PairsIn w' a ps ∧ ∀ y, a = some y → w.heap.size ≤ y.block ∧ ¬ P' y.block := by
  refine (md_do h j kind key hi value).mono ?_
  rintro e w' ⟨P', a, c, he, h', o, g, p, q⟩
  rw [hs] at he h' p
  exact ⟨P', a, c, he, h', o, g, p, q⟩
/-- w: the world at the start; P0: the Model's blocks then. -/
structure DL (B : Nat) (w w' : World) (P0 P R S : Nat → Prop) (m : Nat) (s : St) (va : Option Addr) (vc : Nat) (ds : List Dl) (A : DAd) : Prop where
  o : Only P0 w w'
  g : Grew w.heap.size P0 P
  mat : MAt B w' P m s
  dd : DO w.heap.size w' R S va vc ds A
  pr : Apart P R
  ps : Apart P S
theorem DL.start {B m : Nat} {w : World} {P : Nat → Prop} {s : St} (h : MAt B w P m s) : DL B w w P P (fun _ => False) (fun _ => False) m s none 0 [] ⟨fun _ => none, fun _ => 0, fun _ _ => none, fun _ _ => 0⟩ :=
  ⟨Only.refl _ _, Grew.refl _ _, h, DO.nil _ _, fun _ _ hf => hf, fun _ _ hf => hf⟩
theorem DL.only0 {B m : Nat} {w w' w2 : World} {P0 P R S : Nat → Prop} {s : St} {va : Option Addr} {vc : Nat} {ds : List Dl} {A : DAd} (h : DL B w w' P0 P R S m s va vc ds A) (o : Only0 w' w2) : DL B w w2 P0 P R S m s va vc ds A :=
  ⟨h.o.trans (o.any _), h.g, MAt.only0 h.mat o, h.dd.only0 o, h.pr, h.ps⟩
/-- The Model turns. -/
theorem DL.model {B m : Nat} {w w' w2 : World} {P0 P P2 R S : Nat → Prop} {s s2 : St} {va : Option Addr} {vc : Nat} {ds : List Dl} {A : DAd} (h : DL B w w' P0 P R S m s va vc ds A) (M : MAt B w2 P2 m s2) (o : Only P w' w2) (g : Grew w'.heap.size P P2) : DL B w w2 P0 P2 R S m s2 va vc ds A :=
  ⟨h.o.grewTrans h.g o, h.g.trans g h.o.size, M, h.dd.only o h.pr.symm h.ps.symm, h.pr.grew g h.dd.uR, h.ps.grew g h.dd.uS⟩
/-- The Deals turn. -/
theorem DL.deal {B m : Nat} {w w' w2 : World} {P0 P R R2 S S2 : Nat → Prop} {s : St} {va va2 : Option Addr} {vc vc2 : Nat} {ds ds2 : List Dl} {A A2 : DAd} (h : DL B w w' P0 P R S m s va vc ds A) (D : DO w.heap.size w2 R2 S2 va2 vc2 ds2 A2) (o : Only R w' w2)
    (gR : Grew w'.heap.size R R2) (gS : ∀ b, S2 b → S b ∨ ¬ P b) : DL B w w2 P0 P R2 S2 m s va2 vc2 ds2 A2 := by
  refine ⟨⟨o.os.trans h.o.os, o.tape.trans h.o.tape, o.output.trans h.o.output, Nat.le_trans h.o.size o.size, fun k hk hn => (o.block k (Nat.lt_of_lt_of_le hk h.o.size) (fun hr => by have := h.dd.aR k hr; omega)).trans (h.o.block k hk hn)⟩, h.g, MAt.only h.mat o h.pr, D, (h.pr.symm.grew gR (MAt.under h.mat)).symm, fun b hb hs => ?_⟩
  rcases gS b hs with x | x
  · exact h.ps b hb x
  · exact x hb
end Go.Proofs.Ytdjehgnkpbkdbaa
namespace Go
section
variable {P : Program} {ops : Array Oper} {Q : Exit → Act → World → Prop} {md : Region.Mode} {S : World → Prop} {l : Nat}
def heldL (P : Program) (md : Region.Mode) (ops : Array Oper) (Q : Exit → Act → World → Prop) (S : World → Prop) (l : Nat) : Nat → Array Bool → Act → World → Prop
  | 0, d, a, w => Region.ready md ops d = [] ∧ Q .normal a w
  | n + 1, d, a, w => (Region.ready md ops d = [] → Q .normal a w) ∧
    ∀ i ∈ Region.ready md ops d, wpOp P ops Q i (fun a' w' => (i = l ∨ S w') ∧ heldL P md ops Q S l n (d.setIfInBounds i true) a' w') a w
theorem any_of_heldL : ∀ (n : Nat) (d : Array Bool) (a : Act) (w : World), heldL P md ops Q S l n d a w → wpAny P md ops Q n d a w
  | 0, _, _, _, h => h
  | n + 1, _, _, _, h => ⟨h.1, fun i hi => wpOp_mono (fun a' w' h' => any_of_heldL n _ a' w' h'.2) (h.2 i hi)⟩
/-- l waits for i. -/
def waitsB (md : Region.Mode) (ops : Array Oper) (l i : Nat) : Bool := match ops[l]? with
  | some o => o.after.toList.any fun e => Region.binds md e && (e.on == i)
  | none => true
theorem not_ready_of_waits {k i : Nat} {d : Array Bool} (h : waitsB md ops k i = true) (hi : d.getD i true = false) : k ∉ Region.ready md ops d := by
  intro hl
  obtain ⟨_, o, ho, hall⟩ := mem_ready.1 hl
  unfold waitsB at h
  rw [ho] at h
  simp only [List.any_eq_true, Bool.and_eq_true, beq_iff_eq] at h
  obtain ⟨e, he, hb, heq⟩ := h
  have h1 := hall e (by simpa using he) hb
  have h0 := hi
  rw [heq] at h1
  rcases Nat.lt_or_ge i d.size with h' | h'
  · simp [h'] at h0 h1; rw [h0] at h1; cases h1
  · simp [Array.getElem?_eq_none h'] at h1
/-- A chain of operations, each of which waits for the one ahead of it; none is done. -/
def chainB (md : Region.Mode) (ops : Array Oper) (d : Array Bool) : Nat → List Nat → Bool
  | i, [] => !d.getD i true
  | i, k :: c => !d.getD i true && (waitsB md ops k i && chainB md ops d k c)
theorem chain_head {d : Array Bool} {i : Nat} {c : List Nat} (h : chainB md ops d i c = true) : d.getD i true = false := by
  cases c with
  | nil => simpa [chainB] using h
  | cons k c => simp only [chainB, Bool.and_eq_true] at h; simpa using h.1
theorem chain_not_ready {d : Array Bool} : ∀ (c : List Nat) (i : Nat), chainB md ops d i c = true → ∀ k ∈ c, k ∉ Region.ready md ops d := by
  intro c
  induction c with
  | nil => intro i _ k hk; cases hk
  | cons k0 c ih =>
    intro i h k hk
    have h0 := chain_head h
    simp only [chainB, Bool.and_eq_true] at h
    rcases List.mem_cons.1 hk with rfl | hk
    · exact not_ready_of_waits h.2.1 h0
    · exact ih k0 h.2.2 k hk
theorem chain_step {d : Array Bool} {j : Nat} (hj : j ∈ Region.ready md ops d) : ∀ (c : List Nat) (i : Nat), j ≠ i → chainB md ops d i c = true → chainB md ops (d.setIfInBounds j true) i c = true := by
  intro c
  induction c with
  | nil =>
    intro i hne h
    have h0 := chain_head h
    unfold chainB
    rw [getD_set_ne true hne, h0]; rfl
  | cons k c ih =>
    intro i hne h
    have h0 := chain_head h
    have hk : k ∉ Region.ready md ops d := chain_not_ready (k :: c) i h k (by simp)
    unfold chainB at h ⊢
    simp only [Bool.and_eq_true] at h ⊢
    refine ⟨by rw [getD_set_ne true hne, h0]; rfl, h.2.1, ih k (fun e => hk (e ▸ hj)) h.2.2⟩
theorem heldL_first {i : Nat} {oi : Oper} {v : Value} (hi : ops[i]? = some oi) (hsel : ∀ (j : Nat) (o : Oper) cs b, ops[j]? = some o → o.op ≠ .select cs b)
    (hQ : ∀ c a w, Q (.panic c) (a.put oi.dst v) w → Q (.panic c) a w) (ch : List Nat) (hl : l ∈ ch) :
    ∀ (n : Nat) (d : Array Bool) (a : Act) (w : World), chainB md ops d i ch = true →
      (∀ j oj, ops[j]? = some oj → j ≠ i → d.getD j true = false → (∀ e ∈ oj.after, Region.binds md e = true → e.on ≠ i) → oi.apart ops oj = true) →
      i ∈ Region.ready md ops d → YieldsIf P ops S oi v a → S w →
      heldL P md ops Q S l n (d.setIfInBounds i true) (a.put oi.dst v) w → heldL P md ops Q S l (n + 1) d a w := by
  intro n
  induction n with
  | zero =>
    intro d a w hch _ hr hy hS H
    refine ⟨fun h => (by rw [h] at hr; cases hr), fun j hj => ?_⟩
    by_cases hji : j = i
    · subst hji; exact hy.wpOp hi hS ⟨.inr hS, H⟩
    · have := ready_mono hj hji
      rw [H.1] at this
      cases this
  | succ n ih =>
    intro d a w hch hfree hr hy hS H
    refine ⟨fun h => (by rw [h] at hr; cases hr), fun j hj => ?_⟩
    by_cases hji : j = i
    · subst hji; exact hy.wpOp hi hS ⟨.inr hS, H⟩
    · have hjl : j ≠ l := fun e => chain_not_ready ch i hch l hl (e ▸ hj)
      have h1 := H.2 j (ready_mono hj hji)
      obtain ⟨hjun, oj, hoj, hall⟩ := mem_ready.1 hj
      have hnot : ∀ e ∈ oj.after, Region.binds md e = true → e.on ≠ i := fun e he hb heq => by
        have h1 := hall e he hb
        have h0 := (mem_ready.1 hr).1
        rw [heq] at h1
        rcases Nat.lt_or_ge i d.size with h' | h'
        · simp [h'] at h0 h1; rw [h0] at h1; cases h1
        · simp [Array.getElem?_eq_none h'] at h1
      have h2 := wpOp_putIf hoj (hfree j oj hoj hji hjun hnot) (fun cs b => hsel i oi cs b hi) (fun cs b => hsel j oj cs b hoj) hQ hy (wpOp_mono (fun a' w' h3 => (⟨h3.1.resolve_left hjl, h3.2⟩ : S w' ∧ _)) h1)
      have hfree' : ∀ k ok, ops[k]? = some ok → k ≠ i → (d.setIfInBounds j true).getD k true = false →
          (∀ e ∈ ok.after, Region.binds md e = true → e.on ≠ i) → oi.apart ops ok = true := fun k ok hk hki hun hno => by
        refine hfree k ok hk hki ?_ hno
        by_cases hjk : j = k
        · subst hjk; exact hjun
        · rw [getD_set_ne true hjk] at hun; exact hun
      refine wpOp_mono (fun a' w' h3 => ⟨.inr h3.2.1, ih (d.setIfInBounds j true) a' w' (chain_step hj ch i hji hch) hfree' (ready_mono hr (Ne.symm hji)) h3.1 h3.2.1 ?_⟩) h2
      rw [Array.setIfInBounds_comm _ _ hji]
      exact h3.2.2
theorem heldL_take {i : Nat} {oi : Oper} {v : Value} {n : Nat} {d : Array Bool} {a : Act} {w : World} (hi : ops[i]? = some oi)
    (hs : Region.noSelect ops = true) (hf : Region.free md ops d i = true) (hr : (Region.ready md ops d).contains i = true) (ch : List Nat) (hl : ch.contains l = true) (hch : chainB md ops d i ch = true)
    (hQ : ∀ c a w, Q (.panic c) (a.put oi.dst v) w → Q (.panic c) a w) (hy : YieldsIf P ops S oi v a) (hS : S w)
    (h : heldL P md ops Q S l n (d.setIfInBounds i true) (a.put oi.dst v) w) : heldL P md ops Q S l (n + 1) d a w :=
  heldL_first hi (Region.noSelect_spec hs) hQ ch (by simpa using hl) n d a w hch (Region.free_spec hi hf) (by simpa using hr) hy hS h
/-- One operation alone may come up; it keeps S. -/
theorem heldL_step {i : Nat} {o : Oper} {n : Nat} {d : Array Bool} {a : Act} {w : World} (hr : Region.ready md ops d = [i]) (ho : ops[i]? = some o)
    (h : ∀ K' : Act → World → Prop, Shut (∀ a w, S w → (S w → heldL P md ops Q S l n (d.setIfInBounds i true) a w) → K' a w) → if Region.wanted o (yielded ops a.tmps) = true then Oper.wp P o a w K' Q else K' (a.put o.dst undef) w) :
    heldL P md ops Q S l (n + 1) d a w := by
  refine ⟨fun h0 => (by rw [h0] at hr; cases hr), fun j hj => ?_⟩
  rw [hr] at hj
  obtain rfl : j = i := by simpa using hj
  exact wpOp_step ho (fun K' hK => h K' (fun a w hS hW => hK a w ⟨.inr hS, hW hS⟩))
/-- The last one. -/
theorem heldL_last {o : Oper} {n : Nat} {d : Array Bool} {a : Act} {w : World} (hr : Region.ready md ops d = [l]) (ho : ops[l]? = some o) (hd : Region.ready md ops (d.setIfInBounds l true) = [])
    (h : ∀ K' : Act → World → Prop, Shut (∀ a w, Q .normal a w → K' a w) → if Region.wanted o (yielded ops a.tmps) = true then Oper.wp P o a w K' Q else K' (a.put o.dst undef) w) :
    heldL P md ops Q S l (n + 1) d a w := by
  refine ⟨fun h0 => (by rw [h0] at hr; cases hr), fun j hj => ?_⟩
  rw [hr] at hj
  obtain rfl : j = l := by simpa using hj
  refine wpOp_step ho (fun K' hK => h K' (fun a w hq => hK a w ⟨.inl rfl, ?_⟩))
  cases n with
  | zero => exact ⟨hd, hq⟩
  | succ n => exact ⟨fun _ => hq, by rw [hd]; simp⟩
theorem wp_region_heldL {id : Nat} {a : Act} {w : World} (l : Nat) (hm : P.follows .mixedOrders = true) (hS : S w.drew)
    (h : S w.drew → heldL P .any ops Q S l ops.size (Array.replicate ops.size false) a w.drew) : (Code.region id ops true).wp P Q a w :=
  wp_region_any hm (any_of_heldL _ _ _ _ (h hS))
end
end Go

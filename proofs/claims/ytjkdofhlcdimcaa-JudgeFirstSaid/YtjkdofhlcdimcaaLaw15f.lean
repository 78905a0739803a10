/-
  The walk of JudgeFirst.
-/
import Derived.Test.YtjkdofhlcdimcaaFirst
import Derived.Deep.AppendLies
namespace Go.Proofs.Ytjkdofhlcdimcaa
open Go.RowKit
set_option linter.unusedVariables false
set_option linter.unusedSimpArgs false

/-- All memory of JudgeFirst: the set, the box of the order and its row, the box of the word. -/
structure FW (w0 w : World) (P : Nat → Prop) (s bo b3 X : Nat) (v : Value) (ord keys : List Int) (lk : Nat → Int) : Prop where
  set : SW w0 w P s keys lk []
  box : Blk w bo 28 #[v]
  chg : Blk w b3 22 #[.int .u64 X]
  row : w.ownsRow w0.heap.size 3 1 v ord.length (ord.map (Value.int .i64))
  ap : ∀ b, P b → b ≠ bo ∧ b ≠ b3 ∧ ¬ rowOf v b
  bob : w0.heap.size ≤ bo
  lks : ∀ k ∈ keys, lk k.toNat = k + 5
theorem FW.add {w0 w w' : World} {P P' : Nat → Prop} {s bo b3 X : Nat} {v : Value} {ord keys : List Int} {lk : Nat → Int} (h : FW w0 w P s bo b3 X v ord keys lk) (p : Nat) (h' : SetAt w0.heap.size w' P' s (addK keys p) (addL keys lk p ((p : Int) + 5)) []) (o : Only P w w') (g : Grew w.heap.size P P') : FW w0 w' P' s bo b3 X v ord (addK keys p) (addL keys lk p ((p : Int) + 5)) := by
  refine ⟨h.set.step h' o, o.blk h.box (fun hp => (h.ap _ hp).1 rfl), o.blk h.chg (fun hp => (h.ap _ hp).2.1 rfl), rows_only h.row o (fun b hb hp => (h.ap b hp).2.2 hb), fun b hb => ?_, h.bob, fun k hk => ?_⟩
  · rcases g b hb with hb | hb
    · exact h.ap b hb
    · refine ⟨fun e => ?_, fun e => ?_, fun e => ?_⟩
      · have := h.box.lt; omega
      · have := h.chg.lt; omega
      · have := (h.row.lt b e).2; omega
  · unfold addK at hk
    unfold addL
    split at hk
    · rename_i hm
      rw [if_pos hm]; exact h.lks k hk
    · rename_i hm
      rw [if_neg hm]
      rcases List.mem_append.1 hk with hk | hk
      · have hr := h.set.set.kr k hk
        have : ¬ k.toNat = p := fun e => hm (by rw [← e]; rw [Int.toNat_of_nonneg hr.1]; exact hk)
        rw [lkSet, if_neg this]; exact h.lks k hk
      · obtain rfl : k = (p : Int) := by simpa using hk
        simp [lkSet]
theorem FW.app {w0 w w2 : World} {P : Nat → Prop} {s bo b3 X g cap : Nat} {v : Value} {ord keys : List Int} {lk : Nat → Int} (h : FW w0 w P s bo b3 X v ord keys lk) (p : Nat) (ob : Obj)
    (hown : w2.ownsRow w0.heap.size 3 1 (.slice (some ⟨g, 0, none⟩) (ord.length + 1) cap) (ord.length + 1) (ord.map (Value.int .i64) ++ [.int .i64 p])) (hgrow : (w.alloc ob).grownBy w2 v.ownBlock) (hat : v.ownBlock = some g ∨ g = w.heap.size + 1) :
    FW w0 (w2.setCell ⟨bo, 0, none⟩ (.slice (some ⟨g, 0, none⟩) (ord.length + 1) cap)) P s bo b3 X (.slice (some ⟨g, 0, none⟩) (ord.length + 1) cap) (ord ++ [(p : Int)]) keys lk := by
  have o2 : Only (rowOf v) w w2 := Only.grownP ((Only.refl _ w).alloc ob) hgrow (fun k hk _ => hk)
  have nb : ¬ rowOf v bo := rows_ne h.row h.box (by decide)
  have nc : ¬ rowOf v b3 := rows_ne h.row h.chg (by decide)
  have box2 := o2.blk h.box nb
  have n2 : ¬ rowOf (.slice (some ⟨g, 0, none⟩) (ord.length + 1) cap) bo := rows_ne hown box2 (by decide)
  have bc : bo ≠ b3 := fun e => absurd (Blk.inj h.box (e ▸ h.chg)).2 (by decide)
  have oS : Only (fun b => b = bo) w2 (w2.setCell ⟨bo, 0, none⟩ (.slice (some ⟨g, 0, none⟩) (ord.length + 1) cap)) := (Only.refl (fun b => b = bo) w2).setCell (p := ⟨bo, 0, none⟩) (fun _ => rfl) _
  have oA : Only (fun b => rowOf v b ∨ b = bo) w (w2.setCell ⟨bo, 0, none⟩ (.slice (some ⟨g, 0, none⟩) (ord.length + 1) cap)) := (o2.toward (fun b hb => .inl hb)).trans (oS.toward (fun b hb => .inr hb))
  have apQ : Apart P (fun b => rowOf v b ∨ b = bo) := fun b hp hq => by
    rcases hq with hq | hq
    · exact (h.ap b hp).2.2 hq
    · exact (h.ap b hp).1 hq
  have hbel := h.set.bel
  refine ⟨⟨h.set.set.only oA apQ, hbel.trans (oA.below _ hbel.size (fun b hb => by
    rcases hb with hb | hb
    · exact (h.row.lt b hb).1
    · have := h.bob; omega))⟩, by simpa using box2.set 0 (.slice (some ⟨g, 0, none⟩) (ord.length + 1) cap), oA.blk h.chg (fun e => e.elim nc (fun e => bc e.symm)), ?_, fun b hb => ⟨(h.ap b hb).1, (h.ap b hb).2.1, fun e => ?_⟩, h.bob, h.lks⟩
  · have := rows_only hown oS (fun b hb e => n2 (e ▸ hb))
    simpa using this
  · have e' := rowOf_some.1 e
    rcases hat with ha | ha
    · exact (h.ap b hb).2.2 (by rw [e']; exact ha)
    · have := h.set.set.under b hb; omega
theorem FW.only0 {w0 w w' : World} {P : Nat → Prop} {s bo b3 X : Nat} {v : Value} {ord keys : List Int} {lk : Nat → Int} (h : FW w0 w P s bo b3 X v ord keys lk) (o : Only0 w w') : FW w0 w' P s bo b3 X v ord keys lk :=
  ⟨h.set.only0 o, o.blk h.box (fun hf => hf), o.blk h.chg (fun hf => hf), rows_only h.row (S := fun _ => False) o (fun _ _ hf => hf), h.ap, h.bob, h.lks⟩
theorem addK_no {keys : List Int} {p : Nat} (h : (p : Int) ∉ keys) : addK keys p = keys ++ [(p : Int)] := if_neg h
theorem addK_old {keys : List Int} {p : Nat} (h : (p : Int) ∈ keys) : addK keys p = keys := if_pos h
/-- The word of those that were seen. -/
def SeenOk (S : Nat) (keys : List Int) : Prop := ∀ j : Nat, S.testBit j = decide ((j : Int) ∈ keys)
theorem SeenOk.step {S p : Nat} {keys : List Int} (h : SeenOk S keys) : SeenOk (S ||| 2 ^ p) (addK keys p) := by
  intro j
  rw [testBit_or_pow, h j]
  unfold addK
  split
  · rename_i hm
    by_cases e : p = j
    · subst e; simp [hm]
    · simp [e]
  · by_cases e : p = j
    · subst e; simp
    · simp [e, show ¬ (j : Int) = (p : Int) by omega]

/-- How many rounds are left by the number in a box. -/
def mBox (n : Nat) (u : Value) (w : World) : Nat := match u with | .pointer (some a) => n - (intOf ((w.cell? a).getD undef)).toNat | _ => 0
theorem mBox_eq {n b i : Nat} {t : TypeId} {w : World} (h : Blk w b t #[.int .i64 i]) : mBox n (.pointer (some ⟨b, 0, none⟩)) w = n - i := by
  simp [mBox, h.cell, intOf]

set_option maxRecDepth 100000 in
set_option maxHeartbeats 8000000 in
theorem judgeFirst_walk (a : Option Addr) (c : Nat) (z : List Int) (x : Int) (w : World) (i1 : Ints .i64 w a z) (f1 : ∀ n ∈ z, (Lit.int .i64 n).wf = true) (s1 : z.length * 8 ≤ 140737488351232) (l1 : z.length ≤ c) (m1 : c ≤ 9223372036854775807) (o1 : a = none → c = 0) (w1 : (Lit.int .u64 x).wf = true) :
    Calls Try.prog 8 #[.slice a z.length c, .int .u64 x] w fun e w' => e = .returned (.bool true) ∧ Below w.heap.size w w' := by
  obtain ⟨X, rfl, hX⟩ := u64_nat w1
  obtain ⟨i0, hi0, hz0, hz1, hz2⟩ := info_parts info_int
  have HI := Lib.hid i1
  clear w1 f1 o1 i1
  have hB := Blk.new w 22 #[.int .u64 (X : Int)]
  have o0 : Only0 w (w.alloc (.cells #[.int .u64 (X : Int)] 22)) := (Only0.refl w).alloc _
  obtain ⟨W, hW⟩ : ∃ W, W = w.alloc (.cells #[.int .u64 (X : Int)] 22) := ⟨_, rfl⟩
  have N1 := set_new W
  rw [← hW] at hB o0
  have hlt := hB.lt
  rw [hW] at N1
  have HB := Lib.hid hB
  have HO := Lib.hid o0
  clear hB o0
  go_enter Try.func8, Try.ntmps8
  go_wp2_with fail
  refine N1.mono ?_
  rintro e w3 ⟨rfl, h3, o3, -⟩
  rw [← hW] at h3 o3 ⊢
  have H3 := SW.new HO.out.below h3 o3
  have B3 := o3.blk HB.out (fun hf => hf)
  have hs1 := H3.set.under _ rfl
  clear h3 o3 N1 hW
  generalize W.heap.size = s at *
  go_wp2_with fail
  obtain ⟨w4, hw4⟩ : ∃ w4, w4 = w3.alloc (.cells #[.slice none 0 0] 28) := ⟨_, rfl⟩
  rw [← hw4]
  have F4 : FW w w4 (fun b => b = s) s w3.heap.size w.heap.size X (.slice none 0 0) [] [] (fun _ => 0) := by
    have o : Only0 w3 w4 := by rw [hw4]; exact (Only0.refl w3).alloc _
    exact ⟨H3.only0 o, by rw [hw4]; exact Blk.new _ _ _, o.blk B3 (fun hf => hf), World.ownsRow_nil _ _ _ _, fun b hb => ⟨by omega, by omega, rowOf_none _ _ _⟩, H3.bel.size, fun k hk => by simp at hk⟩
  clear hw4 H3 B3
  generalize w3.heap.size = bo at *
  go_loopw [6, 8] (fun u i wr => ∃ (k S : Nat) (v : Value) (P : Nat → Prop) (ord : List Int) (lk : Nat → Int), k ≤ z.length ∧ k ≤ 40 ∧ u = .int .u64 S ∧ i = .int .i64 k ∧ S < 18446744073709551616 ∧ SeenOk S ord ∧ FW w wr P s bo w.heap.size X v ord ord lk) (fun _ i _ => z.length - (intOf i).toNat)
  case atStart => exact ⟨0, 0, _, _, [], _, by omega, by omega, rfl, rfl, by omega, fun j => by simp, F4⟩
  case round =>
    obtain ⟨k, S, v, P, ord, lk, hk, hk4, rfl, rfl, hS, hseen, hF⟩ := hrel
    have HSn := Lib.hid hseen
    clear F4 hseen
    by_cases hgo : k < z.length ∧ k < 40
    · obtain ⟨g1, g2⟩ := hgo
      obtain ⟨b, off, rfl, hc⟩ := (HI.out.below hF.set.bel).at (by omega)
      have q := hc k g1
      have x1 := i64_and63 (z.getD k 0)
      obtain ⟨p, hp, hp1⟩ : ∃ p : Nat, z.getD k 0 % 64 = (p : Int) ∧ p < 64 := ⟨(z.getD k 0 % 64).toNat, by omega, by omega⟩
      rw [hp] at x1
      generalize z.getD k 0 = y at q x1
      clear hc hp
      obtain ⟨Bk, e1, e2, e3⟩ := or_pow S p hS hp1
      have hw1 : IntKind.u64.wrap (p : Int) = (p : Int) := by rw [IntKind.wrap_u64]; omega
      have hw2 : IntKind.u64.wrap ((p : Int) + 5) = (p : Int) + 5 := by rw [IntKind.wrap_u64]; omega
      have HS2 := Lib.hid (HSn.out.step (p := p))
      have hfew := hF.set.set.few
      rcases bit_fact S p with ⟨br, tr⟩ | ⟨br, tr⟩
      · have hnm : (p : Int) ∉ ord := by rw [HSn.out p] at tr; simpa using tr
        have cb : wr.cell? ⟨bo, 0, none⟩ = some v := hF.box.cell 0
        have fb : wr.frozen? ⟨bo, 0, none⟩ = false := hF.box.free 0
        have hown := hF.row
        have hbl := hF.box.lt
        have nv : v.ownBlock ≠ some bo := rows_ne hF.row hF.box (by decide)
        have hsz := hF.set.bel.size
        have FA := Lib.hid (fun w2 g cap ob h1 h2 h3 => hF.app (w2 := w2) (g := g) (cap := cap) p ob h1 h2 h3)
        have HNM := Lib.hid hnm
        have fba := fun ob => (hF.box.alloc ob).free 0
        generalize S ||| 2 ^ p = S2 at e2 e3 HS2
        clear tr hnm hF HSn
        go_wp2_with (at_builtin; refine wpList_append_lies _ rfl _ _ 28 rfl w.heap.size 3 i0 (.int .i64 0) 1 8 Try.underlying28 hi0 hz0 hz1 hz2 rfl (by decide) v ord.length (ord.map (Value.int .i64)) rfl (hown.alloc _) ⟨wr.heap.size, 0, none⟩ 1 1 [.int .i64 p] rfl rfl ?c1 ?c2 (by decide) ?c3 ?c4 ?c5 (wr.heap.size + 1) ?c6 ?_)
        case c1 =>
          intro j u hj
          match j, hj with
          | 0, hj => simp at hj; subst hj; simp [Addr.add]
        case c2 => intro u hu; simp at hu; subst hu; rfl
        case c3 => unfold maxLen; omega
        case c4 => omega
        case c5 => simp; omega
        case c6 => simp
        intro g cap w2 hown2 hgrow hat hglt
        have cb2 := (hgrow.cell_far ⟨bo, 0, none⟩ (by simp; omega) (Ne.symm nv)).trans (Lib.cell?_alloc_some _ cb)
        have fb2 := (hgrow.frozen_far ⟨bo, 0, none⟩ (by simp; omega) (Ne.symm nv)).trans (fba _)
        have F2 := FA.out _ _ _ _ hown2 hgrow hat
        have A := set_add F2.set.set p hp1 ((p : Int) + 5)
        have FD := Lib.hid (fun w' P' => F2.add p (w' := w') (P' := P'))
        clear FA hown2 hgrow hat hglt F2 cb fb fba hown hbl hfew br
        go_wp2_with fail
        refine A.mono ?_
        rintro e w6 ⟨rfl, P6, h6, o6, g6⟩
        have F6 := FD.out _ _ h6 o6 g6
        rw [← addK_no HNM.out] at F6
        clear A FD h6 o6 g6 cb2 fb2
        go_wp2_with fail
        go_roundw
        case rel => exact ⟨k + 1, S2, _, P6, _, _, by omega, by omega, rfl, by go_num, e3, HS2.out, F6⟩
        case measure => simp [intOf]; omega
      · have hnm : (p : Int) ∈ ord := by rw [HSn.out p] at tr; simpa using tr
        have A := set_add hF.set.set p hp1 ((p : Int) + 5)
        have FD := Lib.hid (fun w' P' => hF.add p (w' := w') (P' := P'))
        have HNM := Lib.hid hnm
        generalize S ||| 2 ^ p = S2 at e2 e3 HS2
        clear hF tr hnm HSn hfew
        go_wp2_with fail
        refine A.mono ?_
        rintro e w6 ⟨rfl, P6, h6, o6, g6⟩
        have F6 := FD.out _ _ h6 o6 g6
        rw [addK_old HNM.out] at F6 HS2
        clear A FD h6 o6 g6
        go_wp2_with fail
        go_roundw
        case rel => exact ⟨k + 1, S2, _, P6, _, _, by omega, by omega, rfl, by go_num, e3, HS2.out, F6⟩
        case measure => simp [intOf]; omega
    · have HF := Lib.hid hF
      have hways : ¬ k < z.length ∨ (k < z.length ∧ ¬ k < 40) := by omega
      clear hgo HSn hF
      obtain ⟨va, vc, rfl⟩ : ∃ va vc, v = .slice va ord.length vc := by
        rcases HF.out.row.2 with ⟨h0, hz⟩ | ⟨g, cap, cur, hv, _⟩
        · exact ⟨none, 0, by rw [h0, hz]⟩
        · exact ⟨_, _, hv⟩
      obtain ⟨wL, hwL⟩ : ∃ wL : World, wL = wr := ⟨_, rfl⟩
      rw [← hwL] at HF ⊢
      clear hwL
      have hfew := HF.out.set.set.few
      have IO := Lib.hid (ints_of_own HF.out.row)
      have hcL : Blk (wL.alloc (.cells #[.int .i64 0] 3)) wL.heap.size 3 #[.int .i64 ((0 : Nat) : Int)] := Blk.new _ _ _
      rcases hways with g1 | ⟨g1, g2⟩
      all_goals
        go_wp2_with fail
        go_loopw [10] (fun u wr => ∃ (i bi : Nat), i ≤ ord.length ∧ wL.heap.size ≤ bi ∧ u = .pointer (some ⟨bi, 0, none⟩) ∧ Blk wr bi 3 #[.int .i64 i] ∧ Only0 wL wr) (fun u wr => mBox ord.length u wr)
        case atStart => exact ⟨0, wL.heap.size, by omega, by omega, rfl, hcL, (Only0.refl _).alloc _⟩
        case round =>
          obtain ⟨i, bi, hi, hbi, rfl, hbx, o2⟩ := hrel
          have F2 := HF.out.only0 o2
          have cbi : wr.cell? ⟨bi, 0, none⟩ = some (.int .i64 i) := hbx.cell 0
          have cbo : wr.cell? ⟨bo, 0, none⟩ = some (.slice va ord.length vc) := F2.box.cell 0
          have cbx : wr.cell? ⟨w.heap.size, 0, none⟩ = some (.int .u64 X) := F2.chg.cell 0
          clear hcL
          by_cases hin : i < ord.length
          · have HF2 := Lib.hid F2
            have HBX := Lib.hid hbx
            have hblt := hbx.lt
            have HMB := Lib.hid (mBox_eq (n := ord.length) hbx)
            have HIN := Lib.hid hin
            clear F2 hbx
            go_wp2_with fail
            obtain ⟨wo, hwo⟩ : ∃ wo : World, wo = wr := ⟨_, rfl⟩
            rw [← hwo] at o2 cbi cbo cbx HF2 HBX hblt ⊢
            clear hwo
            go_loopw [12, 13] (fun u j wr => ∃ (t m : Nat), i ≤ t ∧ t ≤ ord.length ∧ j = .int .i64 ((t : Int) - 1) ∧ u = .int .i64 (wantF ord X t) ∧ wr = wo.drewN m) (fun _ j _ => (intOf j + 1).toNat)
            case atStart => exact ⟨ord.length, 0, hi, by omega, rfl, by rw [wantF_end], rfl⟩
            case round =>
              obtain ⟨t, m, ht1, ht2, rfl, rfl, rfl⟩ := hrel
              by_cases hit : i < t
              · obtain ⟨r, rfl⟩ : ∃ r, t = r + 1 := ⟨t - 1, by omega⟩
                have ej : ((r + 1 : Nat) : Int) - 1 = (r : Int) := by omega
                rw [ej]
                clear ej
                obtain ⟨g, off, hva, hc⟩ := (IO.out.below o2.below).at (by omega)
                subst hva
                have q := hc r (by omega)
                have hmem : ord.getD r 0 ∈ ord := by rw [List.getD_eq_getElem?_getD, List.getElem?_eq_getElem (by omega)]; exact List.getElem_mem _
                have hkr := HF2.out.set.set.kr _ hmem
                have HY := Lib.hid (fun h => wantF_yes (ord := ord) (X := X) (t := r) (by omega) h)
                have HN := Lib.hid (fun h => wantF_no (ord := ord) (X := X) (t := r) (by omega) h)
                have hbI : bitI X (ord.getD r 0) = X.testBit (ord.getD r 0).toNat := rfl
                obtain ⟨y, hy⟩ : ∃ y, y = ord.getD r 0 := ⟨_, rfl⟩
                rw [← hy] at q hkr HY HN hbI
                obtain ⟨yn, rfl⟩ := Int.eq_ofNat_of_zero_le hkr.1
                rw [show ((yn : Int)).toNat = yn from rfl] at hbI
                have r0 : (0 : Int) ≤ (r : Int) := by omega
                have r1 : (r : Int) < (ord.length : Int) := by omega
                have y64 : yn < 64 := by have := hkr.2; omega
                clear hc hmem hy hkr
                rcases bit_fact X yn with ⟨br, tr⟩ | ⟨br, tr⟩
                · have HW := Lib.hid (HN.out (by rw [hbI, tr]))
                  clear HY HN hbI tr
                  go_wp2_with fail
                  go_quiet (fail)
                  go_wp2_with fail
                  go_roundw
                  case rel => exact ⟨r, _, by omega, by omega, rfl, by rw [HW.out], rfl⟩
                  case measure => simp [intOf]
                · have HW := Lib.hid (HY.out (by rw [hbI, tr]))
                  clear HY HN hbI tr
                  go_wp2_with fail
                  go_quiet (fail)
                  go_wp2_with fail
                  go_roundw
                  case rel => exact ⟨r, _, by omega, by omega, rfl, by rw [HW.out], rfl⟩
                  case measure => simp [intOf]
              · obtain rfl : t = i := by omega
                have HFR := Lib.hid (fun (l : Int) (hl : l = 2 ∨ l = 3) => first_res (X := X) (i := t) hl HF2.out.set.set.kr HF2.out.set.set.nd HF2.out.lks (fun _ _ => []))
                obtain ⟨Wv, hWv⟩ : ∃ Wv, Wv = wantF ord X t := ⟨_, rfl⟩
                rw [← hWv] at HFR ⊢
                obtain ⟨W4, hW4⟩ : ∃ W4, W4 = (wo.drewN m).alloc (.cells #[.int .i64 2, .int .i64 3] 3) := ⟨_, rfl⟩
                have o4 : Only0 wo W4 := by rw [hW4]; exact ((Only0.refl wo).drewN m).alloc _
                have L4 : Blk W4 wo.heap.size 3 #[.int .i64 2, .int .i64 3] := by rw [hW4]; exact Blk.new (wo.drewN m) _ _
                have O4 := Lib.hid o4
                clear hWv hit ht1 ht2 hin
                go_wp2_with fail
                rw [← hW4]
                clear hW4 o4
                go_loopw [87] (fun q wr => ∃ (e : Nat), e ≤ 2 ∧ q = .int .i64 e ∧ Only0 W4 wr) (fun q _ => 2 - (intOf q).toNat)
                case atStart => exact ⟨0, by omega, rfl, Only0.refl _⟩
                case round =>
                  obtain ⟨e, he, rfl, o5⟩ := hrel
                  obtain ⟨wr5, hwr5⟩ : ∃ wr5 : World, wr5 = wr := ⟨_, rfl⟩
                  rw [← hwr5] at o5 ⊢
                  clear hwr5
                  have o45 := O4.out.trans o5
                  have F5 := HF2.out.only0 o45
                  by_cases h2 : e < 2
                  · have he2 : e = 0 ∨ e = 1 := by omega
                    rcases he2 with rfl | rfl
                    · have cE : wr5.cell? ⟨wo.heap.size, 0, none⟩ = some (.int .i64 2) := (o5.blk L4 (fun hf => hf)).cell 0
                      rw [show ((0 : Nat) : Int) = 0 from rfl]
                      have A := all_any F5.set.set 2 (first_now bi bo w.heap.size t X va vc ord wr5 hi hfew (o45.blk HBX.out (fun hf => hf)) F5.box F5.chg (IO.out.below (o2.trans o45).below)) (nil_span wr5)
                      rw [HFR.out 2 (by omega)] at A
                      have e0 : (0 : Int) ≤ 0 := by omega
                      have e1 : (0 : Int) < 2 := by omega
                      clear F5
                      go_wp2_with fail
                      refine A.mono ?_
                      rintro e w6 ⟨rfl, o6⟩
                      clear A
                      go_wp2_with fail
                      go_roundw
                      case rel => exact ⟨0 + 1, by omega, rfl, o5.trans o6⟩
                      case measure => simp [intOf]
                    · have cE : wr5.cell? ⟨wo.heap.size, 1, none⟩ = some (.int .i64 3) := (o5.blk L4 (fun hf => hf)).cell 1
                      rw [show ((1 : Nat) : Int) = 1 from rfl]
                      have A := all_any F5.set.set 3 (first_now bi bo w.heap.size t X va vc ord wr5 hi hfew (o45.blk HBX.out (fun hf => hf)) F5.box F5.chg (IO.out.below (o2.trans o45).below)) (nil_span wr5)
                      rw [HFR.out 3 (by omega)] at A
                      have e0 : (0 : Int) ≤ 1 := by omega
                      have e1 : (1 : Int) < 2 := by omega
                      clear F5
                      go_wp2_with fail
                      refine A.mono ?_
                      rintro e w6 ⟨rfl, o6⟩
                      clear A
                      go_wp2_with fail
                      go_roundw
                      case rel => exact ⟨1 + 1, by omega, rfl, o5.trans o6⟩
                      case measure => simp [intOf]
                  · obtain rfl : e = 2 := by omega
                    rw [show ((2 : Nat) : Int) = 2 from rfl]
                    have A := all_any F5.set.set 1 (first_now bi bo w.heap.size t X va vc ord wr5 hi hfew (o45.blk HBX.out (fun hf => hf)) F5.box F5.chg (IO.out.below (o2.trans o45).below)) (nil_span wr5)
                    rw [show allRes 1 ord lk [] (nowF ord t X) (fun _ _ => []) = (true, -1) from rfl] at A
                    clear F5 HFR
                    go_wp2_with fail
                    refine A.mono ?_
                    rintro e w6 ⟨rfl, o6⟩
                    have o46 := o45.trans o6
                    have c6 : w6.cell? ⟨bi, 0, none⟩ = some (.int .i64 t) := (o46.blk HBX.out (fun hf => hf)).cell 0
                    have OL := Lib.hid (o2.trans o46)
                    have hz6 := (o2.trans o46).size
                    clear A o46 o45 o6 o5
                    go_wp2_with fail
                    have e1 : ((t + 1 : Nat) : Int) = (t : Int) + 1 := by omega
                    have BN : Blk (w6.alloc (.cells #[.int .i64 ((t : Int) + 1)] 3)) w6.heap.size 3 #[.int .i64 ((t + 1 : Nat) : Int)] := by rw [e1]; exact Blk.new _ _ _
                    have hlt' := HIN.out
                    exact ⟨⟨t + 1, w6.heap.size, by omega, hz6, rfl, BN, OL.out.alloc _⟩, by rw [HMB.out, mBox_eq BN]; omega⟩
          · obtain rfl : i = ord.length := by omega
            have hbel := F2.set.bel
            clear F2 hbx
            go_wp2_with fail
            refine (awake15_any _).mono ?_
            rintro e w9 ⟨rfl, rfl⟩
            go_wp2_with fail
            go_ret
            exact ⟨rfl, hbel⟩
end Go.Proofs.Ytjkdofhlcdimcaa

/-
  judge.All, over whatever functions tell what is there now.
-/
import Derived.Test.YtjkdofhlcdimcaaNeeds
namespace Go.Proofs.Ytjkdofhlcdimcaa
open Go.RowKit
set_option linter.unusedVariables false
set_option linter.unusedSimpArgs false

/-- A function that tells a key's link. -/
def NowIs (w0 : World) (nv : Value) (nowf : Int → Int) : Prop :=
  (nv = Value.nilFunc ∧ ∀ k, nowf k = 0) ∨ ∃ F cap, nv = .func (.func F) #[] cap ∧ (∀ k w, (callFunc F (#[.int .i64 k] ++ cap)).run Try.prog w = .ok (.enter F (#[.int .i64 k] ++ cap)) w) ∧ ∀ w k, Only0 w0 w → 0 ≤ k → k ≤ 63 → Calls Try.prog F (#[.int .i64 k] ++ cap) w fun e w' => e = .returned (.int .u64 (nowf k)) ∧ Only0 w w'
/-- A function that tells a range's links. -/
def SpanIs (w0 : World) (sv : Value) (spanf : Int → Int → List Int) : Prop :=
  (sv = Value.nilFunc ∧ ∀ lo hi, spanf lo hi = []) ∨ ∃ F cap, sv = .func (.func F) #[] cap ∧ (∀ lo hi w, (callFunc F (#[.int .i64 lo, .int .i64 hi] ++ cap)).run Try.prog w = .ok (.enter F (#[.int .i64 lo, .int .i64 hi] ++ cap)) w) ∧ ∀ w lo hi, Only0 w0 w → Calls Try.prog F (#[.int .i64 lo, .int .i64 hi] ++ cap) w fun e w' => (∃ a c, e = .returned (.slice a (spanf lo hi).length c) ∧ Ints .u64 w' a (spanf lo hi) ∧ (spanf lo hi).length ≤ 1000000) ∧ Only0 w w'
def badK (l : Int) (lk : Nat → Int) (nowf : Int → Int) (k : Int) : Bool := !jkey l (lk k.toNat) (nowf k)
def badR (l : Int) (spanf : Int → Int → List Int) (r : Rg) : Bool := !jspan l r.ls (spanf r.lo r.hi)
def allRes (l : Int) (keys : List Int) (lk : Nat → Int) (rs : List Rg) (nowf : Int → Int) (spanf : Int → Int → List Int) : Bool × Int :=
  if lvl l then (match (needK l keys lk).find? (badK l lk nowf) with
    | some k => (false, k)
    | none => match (needR l rs).find? (badR l spanf) with
      | some r => (false, r.lo)
      | none => (true, -1)) else (false, -1)
theorem find_none_of {α : Type} {p : α → Bool} {xs : List α} {d : α} (h : ∀ j, j < xs.length → p (xs.getD j d) = false) : xs.find? p = none := by
  rw [List.find?_eq_none]
  intro x hx
  obtain ⟨i, hi, rfl⟩ := List.getElem_of_mem hx
  have := h i hi
  rw [List.getD_eq_getElem?_getD, List.getElem?_eq_getElem hi] at this
  simpa using this
theorem find_some_of {α : Type} {p : α → Bool} {d : α} : ∀ {xs : List α} {k : Nat}, k < xs.length → (∀ j, j < k → p (xs.getD j d) = false) → p (xs.getD k d) = true → xs.find? p = some (xs.getD k d)
  | [], k, hk, _, _ => by simp at hk
  | x :: xs, 0, _, _, h1 => by
    have h1' : p x = true := by simpa using h1
    simp [List.find?_cons, h1']
  | x :: xs, k + 1, hk, h, h1 => by
    have h0 : p x = false := by simpa using h 0 (by omega)
    simp only [List.find?_cons, h0, List.getD_cons_succ]
    exact find_some_of (by simpa using hk) (fun j hj => by simpa using h (j + 1) (by omega)) (by simpa using h1)

theorem neq_now_fun (F : FuncId) (cap : Array Value) (w : World) : (binOp .neq 51 (.func (.func F) #[] cap) .nilFunc).run Try.prog w = .ok (.bool true) w := by kernel_rfl
theorem neq_now_nil (w : World) : (binOp .neq 51 .nilFunc .nilFunc).run Try.prog w = .ok (.bool false) w := by kernel_rfl
theorem neq_span_fun (F : FuncId) (cap : Array Value) (w : World) : (binOp .neq 58 (.func (.func F) #[] cap) .nilFunc).run Try.prog w = .ok (.bool true) w := by kernel_rfl
theorem neq_span_nil (w : World) : (binOp .neq 58 .nilFunc .nilFunc).run Try.prog w = .ok (.bool false) w := by kernel_rfl

set_option maxRecDepth 100000 in
set_option maxHeartbeats 4000000 in
theorem all_fun {B : Nat} {w : World} {P : Nat → Prop} {s : Nat} {keys : List Int} {lk : Nat → Int} {rs : List Rg} (h : SetAt B w P s keys lk rs) (l : Int) (hl : lvl l = true) {nv sv : Value} {nowf : Int → Int} {spanf : Int → Int → List Int} (hn : NowIs w nv nowf) (hs : SpanIs w sv spanf) :
    Calls Try.prog 30 #[.int .i64 l, .pointer (some ⟨s, 0, none⟩), nv, sv] w fun e w' => e = .returned (.tuple #[.bool (allRes l keys lk rs nowf spanf).1, .int .i64 (allRes l keys lk rs nowf spanf).2]) ∧ Only0 w w' := by
  have L := level_any l w
  rw [hl] at L
  have NE := needs_any h l
  have HH := Lib.hid h
  have hfew := h.few
  have hmost := h.most
  have HN := Lib.hid hn
  have HSp := Lib.hid hs
  clear h hn hs
  go_enter Try.func30, Try.ntmps30
  go_wp2_with fail
  refine L.mono ?_
  rintro e w1 ⟨rfl, rfl⟩
  clear L
  go_wp2_with fail
  refine NE.mono ?_
  rintro e w1 ⟨⟨a, b, ss, rfl, hia, -, hso⟩, b1⟩
  have hnl := needK_len l keys lk
  have hrl := needR_len l rs
  have HM := Lib.hid (fun (k : Int) (h : k ∈ needK l keys lk) => HH.out.kr k (needK_mem h))
  have HNM := Lib.hid (fun (k : Int) (h : k ∈ needK l keys lk) => needK_mem h)
  obtain ⟨nk, hnk⟩ : ∃ nk, nk = needK l keys lk := ⟨_, rfl⟩
  obtain ⟨nr, hnr⟩ : ∃ nr, nr = needR l rs := ⟨_, rfl⟩
  rw [← hnk] at hia hnl HM HNM ⊢
  rw [← hnr] at hso hrl ⊢
  have HR := Lib.hid (show allRes l keys lk rs nowf spanf = (match nk.find? (badK l lk nowf) with
    | some k => (false, k)
    | none => match nr.find? (badR l spanf) with
      | some r => (false, r.lo)
      | none => (true, -1)) by simp only [allRes, hl, if_true, hnk, hnr])
  have hsp := hso.spans
  have hlen := hso.len
  rw [← hlen] at hrl ⊢
  have HIA := Lib.hid hia
  have HSO := Lib.hid hso
  have B1 := b1
  clear NE hnk hnr hia hso hsp hlen b1
  go_wp2_with fail
  go_loopw [35] (fun i wr => ∃ (k : Nat), k ≤ nk.length ∧ i = .int .i64 k ∧ (∀ j, j < k → badK l lk nowf (nk.getD j 0) = false) ∧ Only0 w1 wr) (fun i _ => nk.length - (intOf i).toNat)
  case atStart => exact ⟨0, by omega, rfl, fun j hj => absurd hj (by omega), Only0.refl _⟩
  case round =>
    obtain ⟨k, hk, rfl, hbad, o1⟩ := hrel
    have HB := Lib.hid hbad
    clear hbad
    have o0 : Only0 w wr := (Below.only0 B1).trans o1
    by_cases hlt : k < nk.length
    · obtain ⟨ba, off, rfl, hc⟩ := (HIA.out.below o1.below).at (by omega)
      have q := hc k hlt
      have hmem : nk.getD k 0 ∈ nk := by rw [List.getD_eq_getElem?_getD, List.getElem?_eq_getElem hlt]; exact List.getElem_mem _
      have A := set_link (HH.out.only0 o0) (nk.getD k 0)
      have hmk := HNM.out _ hmem
      rw [if_pos hmk, decide_eq_true hmk] at A
      obtain ⟨y0, y1⟩ := HM.out _ hmem
      have HBK := Lib.hid (show badK l lk nowf (nk.getD k 0) = !jkey l (lk (nk.getD k 0).toNat) (nowf (nk.getD k 0)) from rfl)
      have hyk := Lib.hid (rfl : nk.getD k 0 = nk.getD k 0)
      obtain ⟨y, hy⟩ : ∃ y, y = nk.getD k 0 := ⟨_, rfl⟩
      rw [← hy] at q A y0 y1 HBK
      have HY := Lib.hid hy
      clear hc hmem hmk hy hyk
      rcases HN.out with ⟨rfl, hnil⟩ | ⟨F, cap, rfl, hcf, hF⟩
      · have q1 := neq_now_nil
        have hny : nowf y = 0 := hnil y
        go_wp2_with fail
        refine A.mono ?_
        rintro e w2 ⟨rfl, m, rfl⟩
        have o3 : Only0 w (wr.drewN m) := o0.drewN m
        have o13 : Only0 w1 (wr.drewN m) := o1.drewN m
        clear A hnil
        have K := fun wx => key_any l (lk y.toNat) 0 wx
        rw [hny] at HBK
        cases hj : jkey l (lk y.toNat) 0
        · rw [hj] at K HBK
          have HF := Lib.hid (show allRes l keys lk rs nowf spanf = (false, y) by
            rw [HR.out, find_some_of hlt HB.out (by rw [← HY.out, HBK.out]; rfl), ← HY.out])
          clear HBK HB hj
          go_wp2_with fail
          refine (K _).mono ?_
          rintro e w4 ⟨rfl, rfl⟩
          go_wp2_with fail
          go_ret2
          exact ⟨by rw [HF.out]; rfl, o3⟩
        · rw [hj] at K HBK
          have HB2 := Lib.hid (show ∀ j, j < k + 1 → badK l lk nowf (nk.getD j 0) = false from fun j hj => by
            rcases Nat.lt_succ_iff_lt_or_eq.mp hj with hj | rfl
            · exact HB.out j hj
            · rw [← HY.out, HBK.out]; rfl)
          clear HBK HB hj
          go_wp2_with fail
          refine (K _).mono ?_
          rintro e w4 ⟨rfl, rfl⟩
          go_wp2_with fail
          go_roundw
          case rel => exact ⟨k + 1, by omega, by go_num, HB2.out, o13⟩
          case measure => simp [intOf]; omega
      · have q1 := neq_now_fun F cap
        have hcf1 := hcf y
        have hF1 := fun m => hF (wr.drewN m) y (o0.drewN m) y0 y1
        clear hcf hF
        go_wp2_with fail
        refine A.mono ?_
        rintro e w2 ⟨rfl, m, rfl⟩
        clear A
        go_wp2_with fail
        refine (hF1 m).mono ?_
        rintro e w3 ⟨rfl, of⟩
        have o3 : Only0 w w3 := (o0.drewN m).trans of
        have o13 : Only0 w1 w3 := (o1.drewN m).trans of
        clear hF1 hcf1
        have K := fun wx => key_any l (lk y.toNat) (nowf y) wx
        cases hj : jkey l (lk y.toNat) (nowf y)
        · rw [hj] at K HBK
          have HF := Lib.hid (show allRes l keys lk rs nowf spanf = (false, y) by
            rw [HR.out, find_some_of hlt HB.out (by rw [← HY.out, HBK.out]; rfl), ← HY.out])
          clear HBK HB hj
          go_wp2_with fail
          refine (K _).mono ?_
          rintro e w4 ⟨rfl, rfl⟩
          go_wp2_with fail
          go_ret2
          exact ⟨by rw [HF.out]; rfl, o3⟩
        · rw [hj] at K HBK
          have HB2 := Lib.hid (show ∀ j, j < k + 1 → badK l lk nowf (nk.getD j 0) = false from fun j hj => by
            rcases Nat.lt_succ_iff_lt_or_eq.mp hj with hj | rfl
            · exact HB.out j hj
            · rw [← HY.out, HBK.out]; rfl)
          clear HBK HB hj
          go_wp2_with fail
          refine (K _).mono ?_
          rintro e w4 ⟨rfl, rfl⟩
          go_wp2_with fail
          go_roundw
          case rel => exact ⟨k + 1, by omega, by go_num, HB2.out, o13⟩
          case measure => simp [intOf]; omega
    · obtain rfl : k = nk.length := by omega
      have HNB := Lib.hid (show nk.find? (badK l lk nowf) = none from find_none_of HB.out)
      have HR2 := Lib.hid (show allRes l keys lk rs nowf spanf = (match nr.find? (badR l spanf) with
        | some r => (false, r.lo)
        | none => (true, -1)) by rw [HR.out, HNB.out])
      clear HB HNB HR hlt hk
      go_wp2_with fail
      obtain ⟨wo, hwo⟩ : ∃ wo : World, wo = wr := ⟨_, rfl⟩
      rw [← hwo] at o1 o0 ⊢
      clear hwo
      go_loopw [59] (fun i wr => ∃ (k : Nat), k ≤ ss.length ∧ i = .int .i64 k ∧ (∀ j, j < k → badR l spanf (nr.getD j default) = false) ∧ Only0 w1 wr) (fun i _ => ss.length - (intOf i).toNat)
      case atStart => exact ⟨0, by omega, rfl, fun j hj => absurd hj (by omega), o1⟩
      case round =>
        obtain ⟨k, hk, rfl, hbad, o2⟩ := hrel
        have HB := Lib.hid hbad
        have hlnr := HSO.out.len
        have HLN := Lib.hid hlnr
        clear hbad hlnr o1 o0
        have o0 : Only0 w wr := (Below.only0 B1).trans o2
        by_cases hlt : k < ss.length
        · have hknr : k < nr.length := by have := HLN.out; omega
          rcases (HSO.out.spans.only o2) with h0 | ⟨bb, off, rfl, hc⟩
          · rw [h0] at hlt; simp at hlt
          obtain ⟨q0, q1, q2⟩ := hc k hlt
          have R := HSO.out.at_ k hlt
          obtain ⟨cpl, hol⟩ := R.own
          have I1 : Ints .u64 wr (ss.getD k default).la (nr.getD k default).ls := (ints_of_own hol).below o2.below
          rw [R.lo] at q0
          rw [R.hi] at q1
          rw [R.n] at q2
          have hsh := R.short
          have HBK := Lib.hid (show badR l spanf (nr.getD k default) = !jspan l (nr.getD k default).ls (spanf (nr.getD k default).lo (nr.getD k default).hi) from rfl)
          obtain ⟨r, hr⟩ : ∃ r, r = nr.getD k default := ⟨_, rfl⟩
          rw [← hr] at q0 q1 q2 I1 hsh HBK
          have HY := Lib.hid hr
          obtain ⟨lo, hlo⟩ : ∃ x, x = r.lo := ⟨_, rfl⟩
          obtain ⟨hi, hhi⟩ : ∃ x, x = r.hi := ⟨_, rfl⟩
          obtain ⟨ls, hls⟩ : ∃ x, x = r.ls := ⟨_, rfl⟩
          obtain ⟨la, hla⟩ : ∃ x, x = (ss.getD k default).la := ⟨_, rfl⟩
          obtain ⟨lc, hlc⟩ : ∃ x, x = (ss.getD k default).lc := ⟨_, rfl⟩
          rw [← hlo] at q0 HBK
          rw [← hhi] at q1 HBK
          rw [← hls] at q2 I1 hsh HBK
          rw [← hla] at q2 I1
          rw [← hlc] at q2
          have HLO := Lib.hid hlo
          clear hc R hol hr hlo hhi hls hla hlc
          have hlen9 : ls.length ≤ 1000000000 := by omega
          obtain ⟨W, hW⟩ : ∃ W, W = (wr.alloc (.cells #[.int .i64 lo, .int .i64 hi, .slice la ls.length lc] 40)) := ⟨_, rfl⟩
          have oW : Only0 wr W := by rw [hW]; exact (Only0.refl wr).alloc _
          have BX : Blk W wr.heap.size 40 #[.int .i64 lo, .int .i64 hi, .slice la ls.length lc] := by rw [hW]; exact Blk.new _ _ _
          have IW := I1.below oW.below
          have XW := Lib.hid (show ∀ wx, Only0 W wx → wx.cell? ⟨wr.heap.size, 0, none⟩ = some (.int .i64 lo) ∧ wx.cell? ⟨wr.heap.size, 2, none⟩ = some (.slice la ls.length lc) ∧ Ints .u64 wx la ls ∧ Only0 w wx ∧ Only0 w1 wx from fun wx o => ⟨(o.blk BX (fun hf => hf)).cell 0, (o.blk BX (fun hf => hf)).cell 2, IW.below o.below, (o0.trans oW).trans o, (o2.trans oW).trans o⟩)
          clear I1 IW BX
          rcases HSp.out with ⟨rfl, hnil⟩ | ⟨F, cap, rfl, hcf, hF⟩
          · have q3 := neq_span_nil
            have hny : spanf lo hi = [] := hnil lo hi
            rw [hny] at HBK
            obtain ⟨x0, x2, xi, xo, xo1⟩ := XW.out W (Only0.refl _)
            rw [hW] at x0 x2 xi xo xo1
            have K := span_any l la none lc 0 ls [] _ xi (Ints.nil _ _ _) hlen9 (by simp)
            clear hnil
            cases hj : jspan l ls []
            · rw [hj] at K HBK
              have HF := Lib.hid (show allRes l keys lk rs nowf spanf = (false, lo) by
                rw [HR2.out, find_some_of hknr HB.out (by rw [← HY.out, HBK.out]; rfl), ← HY.out, HLO.out])
              clear HBK HB hj HLO HY
              go_wp2_with fail
              refine K.mono ?_
              rintro e w4 ⟨rfl, m, hw4⟩
              have y0 : w4.cell? ⟨wr.heap.size, 0, none⟩ = some (.int .i64 lo) := by rw [hw4]; exact x0
              have o4 : Only0 w w4 := by rw [hw4]; exact xo.drewN m
              clear hw4
              clear x0 x2 xi K
              go_wp2_with fail
              go_quiet (fail)
              go_wp2_with fail
              go_ret2
              exact ⟨by rw [HF.out]; rfl, o4.drewN _⟩
            · rw [hj] at K HBK
              have HB2 := Lib.hid (show ∀ j, j < k + 1 → badR l spanf (nr.getD j default) = false from fun j hj => by
                rcases Nat.lt_succ_iff_lt_or_eq.mp hj with hj | rfl
                · exact HB.out j hj
                · rw [← HY.out, HBK.out]; rfl)
              clear HBK HB hj HLO HY
              go_wp2_with fail
              refine K.mono ?_
              rintro e w4 ⟨rfl, m, rfl⟩
              clear x0 x2 xi K
              go_wp2_with fail
              go_roundw
              case rel => exact ⟨k + 1, by omega, by go_num, HB2.out, xo1.drewN m⟩
              case measure => simp [intOf]; omega
          · have q3 := neq_span_fun F cap
            have hcf1 := hcf lo hi
            have hF1 := hF W lo hi (o0.trans oW)
            rw [hW] at hF1
            clear hcf hF
            go_wp2_with fail
            refine hF1.mono ?_
            rintro e w3 ⟨⟨ia, ic, rfl, hia, his⟩, of⟩
            rw [← hW] at of
            obtain ⟨x0, x2, xi, xo, xo1⟩ := XW.out w3 of
            have K := span_any l la ia lc ic ls (spanf lo hi) w3 xi hia hlen9 (by omega)
            clear hF1 hcf1
            cases hj : jspan l ls (spanf lo hi)
            · rw [hj] at K HBK
              have HF := Lib.hid (show allRes l keys lk rs nowf spanf = (false, lo) by
                rw [HR2.out, find_some_of hknr HB.out (by rw [← HY.out, HBK.out]; rfl), ← HY.out, HLO.out])
              clear HBK HB hj HLO HY
              go_wp2_with fail
              refine K.mono ?_
              rintro e w4 ⟨rfl, m, hw4⟩
              have y0 : w4.cell? ⟨wr.heap.size, 0, none⟩ = some (.int .i64 lo) := by rw [hw4]; exact x0
              have o4 : Only0 w w4 := by rw [hw4]; exact xo.drewN m
              clear hw4
              clear x0 x2 xi K
              go_wp2_with fail
              go_quiet (fail)
              go_wp2_with fail
              go_ret2
              exact ⟨by rw [HF.out]; rfl, o4.drewN _⟩
            · rw [hj] at K HBK
              have HB2 := Lib.hid (show ∀ j, j < k + 1 → badR l spanf (nr.getD j default) = false from fun j hj => by
                rcases Nat.lt_succ_iff_lt_or_eq.mp hj with hj | rfl
                · exact HB.out j hj
                · rw [← HY.out, HBK.out]; rfl)
              clear HBK HB hj HLO HY
              go_wp2_with fail
              refine K.mono ?_
              rintro e w4 ⟨rfl, m, rfl⟩
              clear x0 x2 xi K
              go_wp2_with fail
              go_roundw
              case rel => exact ⟨k + 1, by omega, by go_num, HB2.out, xo1.drewN m⟩
              case measure => simp [intOf]; omega
        · obtain rfl : k = ss.length := by omega
          have HF := Lib.hid (show allRes l keys lk rs nowf spanf = (true, -1) by
            rw [HR2.out, find_none_of (d := default) (p := badR l spanf) (xs := nr) (fun j hj => HB.out j (by have := HLN.out; omega))])
          clear HB HR2 hlt
          go_wp2_with fail
          go_ret2
          exact ⟨by rw [HF.out]; rfl, o0⟩
theorem all_any {B : Nat} {w : World} {P : Nat → Prop} {s : Nat} {keys : List Int} {lk : Nat → Int} {rs : List Rg} (h : SetAt B w P s keys lk rs) (l : Int) {nv sv : Value} {nowf : Int → Int} {spanf : Int → Int → List Int} (hn : NowIs w nv nowf) (hs : SpanIs w sv spanf) :
    Calls Try.prog 30 #[.int .i64 l, .pointer (some ⟨s, 0, none⟩), nv, sv] w fun e w' => e = .returned (.tuple #[.bool (allRes l keys lk rs nowf spanf).1, .int .i64 (allRes l keys lk rs nowf spanf).2]) ∧ Only0 w w' := by
  by_cases hl : lvl l = true
  · exact all_fun h l hl hn hs
  · rw [Bool.not_eq_true] at hl
    have L := level_any l w
    rw [hl] at L
    have HF := Lib.hid (show allRes l keys lk rs nowf spanf = (false, -1) by simp [allRes, hl])
    clear h hn hs
    go_enter Try.func30, Try.ntmps30
    go_wp2_with fail
    refine L.mono ?_
    rintro e w1 ⟨rfl, rfl⟩
    clear L
    go_wp2_with fail
    go_ret2
    exact ⟨by rw [HF.out]; rfl, Only0.refl _⟩
end Go.Proofs.Ytjkdofhlcdimcaa

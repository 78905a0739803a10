/-
  tower's Range, Steps.
-/
import Derived.Test.YtoemmnojgfnmiaaDoorTowerL
namespace Go.Proofs.YtoemmnojgfnmiaaDoor
open Go.RowKit
set_option linter.unusedVariables false

theorem getD_toInts (l : List Nat) (i : Nat) : (toInts l).getD i 0 = ((l.getD i 0 : Nat) : Int) := getD_map l i
/-- The keys from one to another. -/
def inR (lo hi : Int) (k : Nat) : Bool := decide (lo ≤ (k : Int)) && decide ((k : Int) ≤ hi)
def rangeK (H : Nat → Nat) (lo hi : Int) : List Nat := (kl H 0).filter (inR lo hi)
theorem filter_take_succ (p : Nat → Bool) (l : List Nat) (i : Nat) (hi : i < l.length) : (l.take (i + 1)).filter p = (l.take i).filter p ++ if p (l.getD i 0) then [l.getD i 0] else [] := by
  rw [List.take_succ_eq_append_getElem hi, List.filter_append]
  rw [List.getD_eq_getElem?_getD, List.getElem?_eq_getElem hi]
  simp only [Option.getD_some, List.filter_cons, List.filter_nil]
theorem Told.cellAt {B : Nat} {w : World} {l : List Nat} {a : Option Addr} {n c : Nat} (h : Told B (.slice a n c) w l) (i : Nat) (hi : i < l.length) : ∃ g, a = some ⟨g, 0, none⟩ ∧ w.cell? ⟨g, i, none⟩ = some (.int .i64 (l.getD i 0 : Nat)) := by
  rcases h.2 with ⟨_, h1⟩ | ⟨g, cap, cur, hv, hB, hg, hc, hm, _⟩
  · omega
  · injection hv with e1 e2 e3
    subst e1; subst e2; subst e3
    refine ⟨g, rfl, ?_⟩
    have := World.ownsRow.cellAt h i (by omega)
    rw [this, List.getElem?_map, ← getD_toInts, List.getD_eq_getElem?_getD]
    rw [List.getElem?_eq_getElem (by rw [toInts_length]; exact hi)]; rfl
theorem Told.only {B : Nat} {v : Value} {w w' : World} {l : List Nat} {S : Nat → Prop} (h : Told B v w l) (o : Only S w w') (hs : ∀ k, v.ownBlock = some k → ¬ S k) : Told B v w' l := by
  obtain ⟨h1, h2⟩ := h
  refine ⟨h1, ?_⟩
  rcases h2 with h2 | ⟨g, cap, cur, rfl, hg, hh, r⟩
  · exact .inl h2
  · exact .inr ⟨g, cap, cur, rfl, hg, by rw [o.block g (lt_of_block hh) (hs g rfl)]; exact hh, r⟩

set_option maxRecDepth 100000 in
set_option maxHeartbeats 4000000 in
theorem th_range {w : World} {t a b : Nat} {H : Nat → Nat} (h : IsTH w t a b H) (hT : Tab w) (ga : ¬ Two a b 0) (lo hi : Int) :
    Calls Tryd.prog 19 #[.pointer (some ⟨t, 0, none⟩), .int .i64 lo, .int .i64 hi] w fun e w' => ∃ v, e = .returned v ∧ Told w.heap.size v w' (rangeK H lo hi) ∧ IsTH w' t a b H ∧ Only (Two a b) w w' := by
  obtain ⟨i0, hi', hz0, hz1, hz2⟩ := info_parts info_int
  have L := th_load h 0 (by omega)
  have c0 := th_ptr h
  have C := fun w h => keys_any (hw H 0) w (mask_lt _) h
  rw [keysOf_hw] at C
  have hl := kl_len H 0
  obtain ⟨ks, hks⟩ : ∃ ks, ks = kl H 0 := ⟨_, rfl⟩
  have HR := Lib.hid (show rangeK H lo hi = ks.filter (inR lo hi) by rw [hks]; rfl)
  rw [← hks] at C hl
  generalize hw H 0 = x at L C
  have CC := Lib.hid C
  have HT := Lib.hid hT
  clear C hT hks
  have zlt : w.heap.size ≤ w.heap.size := Nat.le_refl _
  go_enter Tryd.func19, Tryd.ntmps19
  go_wp2_with fail
  refine L.mono ?_
  rintro e w1 ⟨rfl, h1, o1⟩
  go_wp2_with fail
  refine (CC.out w1 (HT.out.only o1 ga)).mono ?_
  rintro e w2 ⟨v, rfl, hv, o2⟩
  obtain ⟨sa, sc, rfl, hlc, hc63, hI, hge⟩ := hv.form
  have hvv : Told w1.heap.size (.slice sa ks.length sc) w2 ks := hv
  have h2 := h1.only o2 (fun h => h) (fun h => h) (fun h => h)
  have o12 := o1.trans (o2.any (Two a b))
  have z1 := o1.size
  clear hv hI hge c0 L
  go_wp2_with fail
  go_loopw [7, 17] (fun u i wr => ∃ (k : Nat) (u0 : Value), u0 = u ∧ k ≤ ks.length ∧ i = .int .i64 k ∧ Told w2.heap.size u0 wr ((ks.take k).filter (inR lo hi)) ∧ Only0 w2 wr) (fun _ i _ => ks.length - (intOf i).toNat)
  case atStart => exact ⟨0, _, rfl, Nat.zero_le _, rfl, Told.nil _ _, Only0.refl _⟩
  case round =>
    obtain ⟨k, u, rfl, hk, rfl, hown, ho⟩ := hrel
    by_cases hlt : k < ks.length
    · obtain ⟨g, rfl, hcell⟩ := (hvv.only ho (fun _ _ h => h)).cellAt k hlt
      have hst := filter_take_succ (inR lo hi) ks k hlt
      have hal : ((ks.take k).filter (inR lo hi)).length ≤ 64 := by
        have := List.length_filter_le (inR lo hi) (ks.take k)
        have := List.length_take_le k ks
        omega
      generalize (ks.take k).filter (inR lo hi) = acc at *
      generalize ks.getD k 0 = m at *
      have b0 : (0 : Int) ≤ (k : Int) := by omega
      by_cases hin : lo ≤ (m : Int) ∧ (m : Int) ≤ hi
      · obtain ⟨q1, q2⟩ := hin
        have hp : inR lo hi m = true := by simp [inR, q1, q2]
        rw [hp, if_pos rfl] at hst
        have HS := Lib.hid hst
        have hown' : wr.ownsRow w2.heap.size 3 1 u acc.length ((toInts acc).map (Value.int .i64)) := hown
        clear hst hp hvv hown
        go_wp2_with (at_builtin; refine wpList_append_own _ rfl _ _ 40 rfl w2.heap.size 3 i0 (.int .i64 0) 1 8 Tryd.underlying40 hi' hz0 hz1 hz2 rfl (by decide) _ _ _ rfl (hown'.alloc _) ⟨wr.heap.size, 0, none⟩ 1 1 [.int .i64 (m : Int)] rfl rfl ?c1 ?c2 ?c3 ?c4 ?c5 ?_)
        case c1 =>
          intro j u hj
          match j, hj with
          | 0, hj => simp at hj; subst hj; simp [Addr.add]
        case c2 => intro u hu; simp at hu; subst hu; rfl
        case c3 => unfold maxLen; omega
        case c4 => omega
        case c5 => have := ho.size; simp; omega
        intro v' w3 hown3 hgrow _
        have ho3 : Only0 w2 w3 := (ho.alloc _).grown hgrow (fun k hk => (hown'.lt k hk).1)
        have T3 : Told w2.heap.size v' w3 ((ks.take (k + 1)).filter (inR lo hi)) := by
          rw [HS.out]; unfold Told; simpa [toInts] using hown3
        clear hown' hgrow ho hown3 HS
        go_wp2_with fail
        go_roundw
        case rel => exact ⟨k + 1, _, rfl, by omega, by go_num, T3, ho3⟩
        case measure => simp [intOf]; omega
      · have hp : inR lo hi m = false := by simp [inR]; omega
        rw [hp] at hst
        simp only [Bool.false_eq_true, if_false, List.append_nil] at hst
        have T3 : Told w2.heap.size u wr ((ks.take (k + 1)).filter (inR lo hi)) := by rw [hst]; exact hown
        have hd : (m : Int) < lo ∨ (lo ≤ (m : Int) ∧ hi < (m : Int)) := by omega
        clear hst hp hvv hown hin
        rcases hd with hd | ⟨hd1, hd2⟩
        all_goals
          go_wp2_with fail
          go_roundw
          case rel => exact ⟨k + 1, _, rfl, by omega, by go_num, T3, ho⟩
          case measure => simp [intOf]; omega
    · obtain rfl : k = ks.length := by omega
      have T3 : Told w2.heap.size u wr (rangeK H lo hi) := by rw [HR.out]; simpa using hown
      clear hvv hown
      go_wp2_with fail
      go_ret
      have z2 := o2.size
      exact ⟨u, rfl, T3.mono (by omega), h2.only ho (fun h => h) (fun h => h) (fun h => h), o12.trans (ho.any _)⟩

/-- The last of a row, or what was. -/
def lastOf (l : List Nat) (d : Int) : Int := match l.getLast? with
  | none => d
  | some k => (k : Int)
theorem lastOf_nil (d : Int) : lastOf [] d = d := rfl
theorem lastOf_take (l : List Nat) (d : Int) (i : Nat) (hi : i < l.length) : lastOf (l.take (i + 1)) d = ((l.getD i 0 : Nat) : Int) := by
  rw [List.take_succ_eq_append_getElem hi, lastOf, List.getLast?_append, List.getLast?_singleton]
  simp [List.getD_eq_getElem?_getD, hi]
/-- The keys of a level that a look for one goes by. -/
def stK (H : Nat → Nat) (key : Int) (l : Nat) (last : Int) : List Nat := (List.range 64).filter (fun k => decide (l < H k) && decide ((k : Int) < key) && decide (last < (k : Int)))
def stepsAux (H : Nat → Nat) (key : Int) : Nat → Nat → Int → Nat
  | 0, n, _ => n
  | l + 1, n, last => stepsAux H key l (n + (stK H key l last).length) (lastOf (stK H key l last) last)
def stepsK (H : Nat → Nat) (key : Int) : Nat := stepsAux H key 4 0 (-1)
theorem stK_len (H : Nat → Nat) (key : Int) (l : Nat) (last : Int) : (stK H key l last).length ≤ 64 := by
  have := List.length_filter_le (fun k => decide (l < H k) && decide ((k : Int) < key) && decide (last < (k : Int))) (List.range 64)
  simpa [stK] using this
theorem stK_mem {H : Nat → Nat} {key : Int} {l : Nat} {last : Int} {k : Nat} (h : k ∈ stK H key l last) : k < 64 := by
  rw [stK, List.mem_filter] at h; exact List.mem_range.1 h.1
theorem lastOf_bd (H : Nat → Nat) (key : Int) (l : Nat) (last : Int) (h0 : -1 ≤ last) (h1 : last ≤ 63) : -1 ≤ lastOf (stK H key l last) last ∧ lastOf (stK H key l last) last ≤ 63 := by
  unfold lastOf
  cases h : (stK H key l last).getLast? with
  | none => exact ⟨h0, h1⟩
  | some k =>
    have := stK_mem (List.mem_of_getLast? h)
    simp only; omega
theorem keysOf_st (H : Nat → Nat) (key : Int) (l : Nat) (last : Int) : keysOf ((hw H l &&& belowN key) &&& (18446744073709551615 - belowN (last + 1))) = stK H key l last := by
  apply List.filter_congr
  intro k hk
  have hk := List.mem_range.1 hk
  rw [Nat.testBit_and, Nat.testBit_and, testBit_not _ _ (belowN_lt _) hk, testBit_belowN key k hk, testBit_belowN (last + 1) k hk, hw, testBit_mask, ← decide_not]
  have : (¬ (k : Int) < last + 1) ↔ last < (k : Int) := by omega
  simp only [hk, this, decide_true, Bool.true_and]

set_option maxHeartbeats 4000000 in
theorem th_steps {w : World} {t a b : Nat} {H : Nat → Nat} (h : IsTH w t a b H) (hT : Tab w) (ga : ¬ Two a b 0) (key : Int) :
    Calls Tryd.prog 13 #[.pointer (some ⟨t, 0, none⟩), .int .i64 key] w fun e w' => e = .returned (.int .i64 (stepsK H key)) ∧ IsTH w' t a b H ∧ Only (Two a b) w w' := by
  have BK := Lib.hid (below_any key)
  have HT := Lib.hid hT
  clear hT
  go_enter Tryd.func13, Tryd.ntmps13
  go_wp2_with fail
  go_loopw [5, 6, 7] (fun n d i wr => ∃ (j m : Nat) (last : Int), j ≤ 4 ∧ i = .int .i64 ((j : Int) - 1) ∧ n = .int .i64 m ∧ m ≤ 64 * (4 - j) ∧ d = .int .i64 last ∧ -1 ≤ last ∧ last ≤ 63 ∧ Hid (stepsAux H key j m last = stepsK H key) ∧ IsTH wr t a b H ∧ Only (Two a b) w wr) (fun _ _ i _ => (intOf i + 1).toNat)
  case atStart => exact ⟨4, 0, -1, by omega, rfl, rfl, by omega, rfl, by omega, by omega, Lib.hid rfl, h, Only.refl _ _⟩
  case round =>
    obtain ⟨j, m, last, hj, rfl, rfl, hm, rfl, d1, d2, HS, h1, o1⟩ := hrel
    by_cases hlt : 0 < j
    · obtain ⟨l, rfl⟩ : ∃ l, j = l + 1 := ⟨j - 1, by omega⟩
      have e1 : ((l + 1 : Nat) : Int) - 1 = (l : Int) := by omega
      rw [e1]; clear e1
      have L := th_load h1 l (by omega)
      have c0 := th_ptr h1
      have hx : hw H l < 18446744073709551616 := mask_lt _
      have g1 := u64_and_nat (hw H l) (belowN key) hx (belowN_lt key)
      have hy : hw H l &&& belowN key < 18446744073709551616 := Nat.lt_of_le_of_lt Nat.and_le_left hx
      have g2 := u64_andNot_nat (hw H l &&& belowN key) (belowN (last + 1)) hy (belowN_lt _)
      have hz : (hw H l &&& belowN key) &&& (18446744073709551615 - belowN (last + 1)) < 18446744073709551616 := Nat.lt_of_le_of_lt Nat.and_le_left hy
      have C := fun w h => keys_any _ w hz h
      rw [keysOf_st] at C
      have hkl := stK_len H key l last
      have hbd := lastOf_bd H key l last d1 d2
      have HN : Hid (stepsAux H key l (m + (stK H key l last).length) (lastOf (stK H key l last) last) = stepsK H key) := Lib.hid HS.out
      have B2 := below_any (last + 1)
      have BK' := BK.out
      generalize stK H key l last = ks at C hkl hbd HN
      generalize (hw H l &&& belowN key) &&& (18446744073709551615 - belowN (last + 1)) = z at g2 hz C
      generalize hw H l &&& belowN key = y at g1 g2 hy
      generalize hw H l = x at L g1 hx
      generalize belowN key = p at g1 BK'
      generalize belowN (last + 1) = q at g2 B2
      have CC := Lib.hid C
      have B1 := Lib.hid BK'
      have B3 := Lib.hid B2
      clear C BK' B2 HS
      go_wp2_with fail
      refine L.mono ?_
      rintro e w1 ⟨rfl, h2, o2⟩
      go_wp2_with fail
      refine (B1.out w1).mono ?_
      rintro e w2 ⟨rfl, rfl⟩
      go_wp2_with fail
      refine (B3.out w1).mono ?_
      rintro e w2 ⟨rfl, rfl⟩
      go_wp2_with fail
      refine (CC.out w1 (HT.out.only (o1.trans o2) ga)).mono ?_
      rintro e w2 ⟨v, rfl, hv, o3⟩
      obtain ⟨sa, sc, rfl, hlc, hc63, hI, hge⟩ := hv.form
      have h3 := h2.only o3 (fun h => h) (fun h => h) (fun h => h)
      have o4 := (o1.trans o2).trans (o3.any (Two a b))
      clear hI hge c0 L h2 o3 h1 o2 o1 g1 g2
      go_wp2_with fail
      obtain ⟨wo, rfl⟩ : ∃ wo : World, wo = wr := ⟨_, rfl⟩
      go_loopw [5, 6, 29] (fun n d i wr => ∃ (k : Nat), k ≤ ks.length ∧ i = .int .i64 k ∧ n = .int .i64 ((m + k : Nat) : Int) ∧ d = .int .i64 (lastOf (ks.take k) last) ∧ wr = w2) (fun _ _ i _ => ks.length - (intOf i).toNat)
      case atStart => exact ⟨0, Nat.zero_le _, rfl, rfl, rfl, rfl⟩
      case round =>
        obtain ⟨k, hk, rfl, rfl, rfl, rfl⟩ := hrel
        by_cases hlk : k < ks.length
        · obtain ⟨g, rfl, hcell⟩ := hv.cellAt k hlk
          have hst := lastOf_take ks last k hlk
          generalize ks.getD k 0 = r at *
          generalize lastOf (ks.take k) last = la at *
          have HST := Lib.hid hst
          clear hst
          go_wp2_with fail
          go_roundw
          case rel => exact ⟨k + 1, by omega, by go_num, by go_num, by rw [HST.out], trivial⟩
          case measure => simp [intOf]; omega
        · obtain rfl : k = ks.length := by omega
          rw [List.take_length]
          go_wp2_with fail
          go_roundw
          case rel => exact ⟨l, _, _, by omega, rfl, rfl, by omega, rfl, hbd.1, hbd.2, HN, h3, o4⟩
          case measure => simp [intOf] <;> omega
    · obtain rfl : j = 0 := by omega
      have E : m = stepsK H key := HS.out
      have HE := Lib.hid E
      clear E HS
      go_wp2_with fail
      go_ret
      exact ⟨ret_int (by rw [HE.out]), h1, o1⟩
end Go.Proofs.YtoemmnojgfnmiaaDoor

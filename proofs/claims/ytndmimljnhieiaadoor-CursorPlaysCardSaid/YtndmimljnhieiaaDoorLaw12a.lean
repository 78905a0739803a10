/-
  The walk of CursorAhead.
-/
import Derived.Test.YtndmimljnhieiaaDoorCursorW
import Derived.Test.YtndmimljnhieiaaDoorLaw11
import Derived.Test.YtndmimljnhieiaaDoorLaw11n
namespace Go.Proofs.YtndmimljnhieiaaDoor
open Go.RowKit
set_option linter.unusedVariables false
set_option linter.unusedSimpArgs false
attribute [local go_sem ↓] Go.wp_at_zero Go.wp_at_succ

theorem bit_is0 {X k : Nat} (h : X.testBit k = false) : bits .and .u64 ((X : Int) / 2 ^ k) 1 = 0 := by
  rcases bit_fact X k with ⟨br, tr⟩ | ⟨br, tr⟩
  · exact br
  · rw [h] at tr; cases tr
theorem bit_is1 {X k : Nat} (h : X.testBit k = true) : bits .and .u64 ((X : Int) / 2 ^ k) 1 = 1 := by
  rcases bit_fact X k with ⟨br, tr⟩ | ⟨br, tr⟩
  · rw [h] at tr; cases tr
  · exact br
theorem fromK_cases (H : Nat → Nat) (q : Nat) : (∃ j, j < 64 ∧ q ≤ j ∧ 0 < H j ∧ (∀ i, q ≤ i → i < j → H i = 0) ∧ fromK H (q : Int) = some j) ∨ ((∀ i, q ≤ i → i < 64 → H i = 0) ∧ fromK H (q : Int) = none) := by
  cases h : fromK H (q : Int) with
  | none =>
    right
    refine ⟨fun i h1 h2 => ?_, rfl⟩
    rw [fromK, List.find?_range_eq_none] at h
    have := h i h2
    simp at this
    omega
  | some j =>
    left
    have h' := h
    rw [fromK, List.find?_range_eq_some] at h'
    obtain ⟨h1, h2, h3⟩ := h'
    simp at h1
    refine ⟨j, List.mem_range.1 h2, by omega, by omega, fun i h4 h5 => ?_, rfl⟩
    have := h3 i h5
    simp at this
    omega
/-- The word says which keys are there. -/
def NB (H : Nat → Nat) (Z : Nat) : Prop := ∀ i, i < 64 → Z.testBit i = decide (0 < H i)
theorem tw_drop_any {w0 w : World} {t a b : Nat} {H : Nat → Nat} (h : TW w0 w t a b H) (hT : Tab w0) (k : Nat) (hk : k < 64) :
    Calls Tryd.prog 15 #[.pointer (some ⟨t, 0, none⟩), .int .i64 k] w fun e w' => (∃ r, e = .returned (.bool r)) ∧ TW w0 w' t a b (upd H k 0) ∧ Only (Two a b) w w' := by
  by_cases h0 : 0 < H k
  · refine (tw_drop h hT k hk h0).mono ?_
    rintro e w' ⟨rfl, h1, o⟩
    exact ⟨⟨_, rfl⟩, h1, o⟩
  · have hz : H k = 0 := by omega
    refine (tw_drop_no h hT k (by rw [hgt_nat H k hk]; exact hz)).mono ?_
    rintro e w' ⟨rfl, h1, o⟩
    refine ⟨⟨_, rfl⟩, ?_, o⟩
    rw [← hz, upd_self]; exact h1
theorem tw_put_any {w0 w : World} {t a b : Nat} {H : Nat → Nat} (h : TW w0 w t a b H) (hT : Tab w0) (k n : Nat) (hk : k < 64) (h1 : 1 ≤ n) (h2 : n ≤ 4) :
    Calls Tryd.prog 13 #[.pointer (some ⟨t, 0, none⟩), .int .i64 k, .int .i64 n] w fun e w' => (∃ r, e = .returned (.tuple #[.bool r, .int .i64 0])) ∧ (∃ H', TW w0 w' t a b H' ∧ (∀ j, j ≠ k → H' j = H j) ∧ 0 < H' k) ∧ Only (Two a b) w w' := by
  by_cases h0 : 0 < H k
  · refine (tw_put_old h hT k n hk h1 h2 h0).mono ?_
    rintro e w' ⟨rfl, h3, o⟩
    exact ⟨⟨_, rfl⟩, ⟨H, h3, fun _ _ => rfl, h0⟩, o⟩
  · refine (tw_put_new h hT k n hk h1 h2 (by omega)).mono ?_
    rintro e w' ⟨rfl, h3, o⟩
    exact ⟨⟨_, rfl⟩, ⟨_, h3, fun j hj => upd_ne H hj, by rw [upd_same]; omega⟩, o⟩
theorem NB.event {H H' : Nat → Nat} {Z g m : Nat} (h : NB H Z) (hg : g < 64) (hm : m < 64) (h1 : ∀ j, j ≠ m → H' j = upd H g 0 j) (h2 : 0 < H' m) : NB H' ((Z &&& (18446744073709551615 - 2 ^ g)) ||| 2 ^ m) := by
  intro i hi
  rw [Nat.testBit_or, Nat.testBit_and, testBit_not_pow g i hg, Nat.testBit_two_pow, h i hi]
  by_cases e : i = m
  · subst e; simp [h2]
  · have e' : ¬ m = i := fun h => e h.symm
    rw [h1 i e]
    by_cases eg : i = g
    · subst eg; simp [upd_same, e']
    · simp [upd_ne H eg, e', hi, eg]
/-- Put from below up to j. -/
def hUp (X j : Nat) (v : Nat → Nat) : Nat → Nat := fun i => if i < j ∧ i < 64 ∧ X.testBit i = true then v i else 0
theorem hUp_yes (X j : Nat) (v : Nat → Nat) (hj : j < 64) (h : X.testBit j = true) : upd (hUp X j v) j (v j) = hUp X (j + 1) v := by
  funext i; simp only [upd, hUp]
  by_cases e : i = j
  · subst e; simp [hj, h]
  · have : i < j ↔ i < j + 1 := by omega
    simp only [e, if_false, this]
theorem hUp_no (X j : Nat) (v : Nat → Nat) (h : X.testBit j = false) : hUp X j v = hUp X (j + 1) v := by
  funext i; simp only [hUp]
  by_cases e : i = j
  · subst e; simp [h]
  · have : i < j ↔ i < j + 1 := by omega
    simp only [this]
theorem hUp_off (X j : Nat) (v : Nat → Nat) : hUp X j v j = 0 := by simp [hUp]
theorem hUp_0 (X : Nat) (v : Nat → Nat) : hUp X 0 v = fun _ => 0 := by funext i; simp [hUp]
theorem hUp_NB (X : Nat) (v : Nat → Nat) (hv : ∀ i, 0 < v i) : NB (hUp X 64 v) X := by
  intro i hi
  simp only [hUp, hi, true_and]
  cases hb : X.testBit i
  · simp
  · simp [hv i]
theorem fromAt0 (q : Nat) : fromAt 0 ((q : Int) - 1) = (q : Int) := by unfold fromAt; split <;> omega

set_option maxRecDepth 100000 in
set_option maxHeartbeats 16000000 in
theorem cursorAhead_walk (keys at_ come go1 : Int) (w : World) (h0 : (Lit.int .u64 keys).wf = true) (_h1 : (Lit.int .i64 at_).wf = true) (_h2 : (Lit.int .i64 come).wf = true) (_h3 : (Lit.int .i64 go1).wf = true) (hT : Tab w) :
    Calls Tryd.prog 10 #[.int .u64 keys, .int .i64 at_, .int .i64 come, .int .i64 go1] w fun e w' => e = .returned (.bool true) ∧ Below w.heap.size w w' := by
  obtain ⟨X, rfl, hX⟩ := u64_nat h0
  obtain ⟨mm, hm, hm2⟩ := nat_rem come 64 (by omega)
  obtain ⟨g, hg, hg2⟩ := nat_rem go1 64 (by omega)
  obtain ⟨p, hp, hp2⟩ := nat_rem at_ 256 (by omega)
  have m1 := i64_and63 come
  have m2 := i64_and63 go1
  have m3 := i64_and255 at_
  rw [hm] at m1; rw [hg] at m2; rw [hp] at m3
  have hm3 : mm < 64 := by omega
  have hg3 : g < 64 := by omega
  obtain ⟨A, hA⟩ : ∃ A : Nat, (p : Int) % 20 = A := ⟨((p : Int) % 20).toNat, by omega⟩
  clear hm hg hp
  have wg := wrap_pow g hg3
  have wm := wrap_pow mm hm3
  have HT := Lib.hid hT
  have bg0 : (0 : Int) ≤ (g : Int) := by omega
  have bm0 : (0 : Int) ≤ (mm : Int) := by omega
  clear hT h0
  go_enter Tryd.func10, Tryd.ntmps10
  go_wp2_with fail
  refine (tw_new w HT.out (Below.refl _ _)).mono ?_
  rintro e w1 ⟨t, a, b, rfl, k1, o1, g1, g2, g3⟩
  clear o1 g1 g2 g3
  rw [← hUp_0 X (fun _ => 1)] at k1
  go_wp2_with fail
  go_loopw [10] (fun i wr => ∃ j : Nat, j ≤ 64 ∧ i = .int .i64 j ∧ TW w wr t a b (hUp X j (fun _ => 1))) (fun i _ => 64 - (intOf i).toNat)
  case atStart => exact ⟨0, by omega, rfl, k1⟩
  case round =>
    obtain ⟨k, hj, rfl, k2⟩ := hrel
    by_cases hlt : k < 64
    · rcases bit_fact X k with ⟨br, tr⟩ | ⟨br, tr⟩
      · rw [hUp_no X k _ tr] at k2
        clear tr
        go_wp2_with fail
        go_roundw
        case rel => exact ⟨k + 1, by omega, by go_num, k2⟩
        case measure => simp [intOf]; omega
      · have C := tw_put_new k2 HT.out k 1 (by omega) (by omega) (by omega) (hUp_off X k _)
        rw [hUp_yes X k (fun _ => 1) hlt tr] at C
        clear tr
        go_wp2_with fail
        refine C.mono ?_
        rintro e w2 ⟨rfl, k3, o3⟩
        go_wp2_with fail
        go_roundw
        case rel => exact ⟨k + 1, by omega, by go_num, k3⟩
        case measure => simp [intOf]; omega
    · have e64 : (k : Int) = 64 := by omega
      rw [e64]; clear e64
      obtain rfl : k = 64 := by omega
      have nb := hUp_NB X (fun _ => 1) (fun _ => by omega)
      generalize hUp X 64 (fun _ => 1) = H0 at k2 nb
      clear k1
      go_wp2_with fail
      refine (cw_new k2 HT.out 0 63 (by omega) (by omega) (by omega)).mono ?_
      rintro e w2 ⟨rfl, c2, o2⟩
      clear o2 k2
      generalize wr.heap.size = c at c2
      have NBH := Lib.hid nb
      clear nb
      go_wp2_with fail
      rw [hA]
      go_loopw [13, 14, 15] (fun l n z wr => ∃ (q m Z : Nat) (H : Nat → Nat), q ≤ 64 ∧ m ≤ q ∧ l = .int .i64 ((q : Int) - 1) ∧ n = .int .i64 m ∧ z = .int .u64 Z ∧ Z < 18446744073709551616 ∧ Hid (NB H Z) ∧ CW w wr c t a b 0 63 ((q : Int) - 1) false H) (fun l _ _ _ => (64 - intOf l).toNat)
      case atStart => exact ⟨0, 0, X, H0, by omega, by omega, rfl, rfl, rfl, hX, NBH, c2⟩
      case round =>
        clear NBH c2
        obtain ⟨q, m, Z, H, hq, hmq, rfl, rfl, rfl, hZ, NBH, c3⟩ := hrel
        by_cases hn : (m : Int) = (A : Int)
        · have hb : ((m : Int) == (A : Int)) = true := by simp [hn]
          have D := tw_drop_any c3.tw HT.out g hg3
          have gz := u64_andNot_nat Z (2 ^ g) hZ (Nat.pow_lt_pow_right (m := g) (n := 64) (by decide) hg3)
          have hz1 : Z &&& (18446744073709551615 - 2 ^ g) < 18446744073709551616 := Nat.lt_of_le_of_lt Nat.and_le_left hZ
          have gz2 := u64_or_nat (Z &&& (18446744073709551615 - 2 ^ g)) (2 ^ mm) hz1 (Nat.pow_lt_pow_right (m := mm) (n := 64) (by decide) hm3)
          have hz2 : (Z &&& (18446744073709551615 - 2 ^ g)) ||| 2 ^ mm < 18446744073709551616 := Nat.or_lt_two_pow (n := 64) hz1 (Nat.pow_lt_pow_right (m := mm) (n := 64) (by decide) hm3)
          have EV := Lib.hid (fun H' h1 h2 => NB.event (H' := H') NBH.out hg3 hm3 h1 h2)
          generalize (Z &&& (18446744073709551615 - 2 ^ g)) ||| 2 ^ mm = Z2 at gz2 hz2 EV
          generalize Z &&& (18446744073709551615 - 2 ^ g) = Z1 at gz gz2 hz1
          have wg' := wg
          have wm' := wm
          generalize 2 ^ g = Bg at gz wg'
          generalize 2 ^ mm = Bm at gz2 wm'
          clear hn wg wm
          go_wp2_with fail
          refine D.mono ?_
          rintro e w3 ⟨⟨r3, rfl⟩, k3, o3⟩
          have P := tw_put_any k3 HT.out mm 2 hm3 (by omega) (by omega)
          clear D
          go_wp2_with fail
          refine P.mono ?_
          rintro e w4 ⟨⟨r4, rfl⟩, ⟨H', k4, e1, e2⟩, o4⟩
          have c4 := (c3.turned k3 o3).turned k4 o4
          have NBH' : Hid (NB H' Z2) := Lib.hid (EV.out H' e1 e2)
          clear P e1 e2 EV NBH k3 k4 o3 o4 c3
          go_wp2_with fail
          refine wp_region_held_drew (S := (fun _ => True)) (by kernel_rfl) ?_ (fun hHeld => ?_)
          · trivial
          refine wpAnyH_take (i := 0) (v := ?_) rfl (by kernel_rfl) (by kernel_rfl) (by kernel_rfl) (fun _ _ _ h => h) (Or.inl ⟨by rfl, ?_⟩) (by assumption) ?_; rotate_left; (focus (intro w hSw; (try dsimp only at hSw); go_simp; try with_reducible rfl))
          try simp only [Act.put, List.getElem_toArray, List.getElem_cons_zero, List.getElem_cons_succ, List.setIfInBounds_toArray, List.set_cons_zero, List.set_cons_succ]
          refine wpAnyH_take (i := 1) (v := ?_) rfl (by kernel_rfl) (by kernel_rfl) (by kernel_rfl) (fun _ _ _ h => h) (Or.inl ⟨by rfl, ?_⟩) (by assumption) ?_; rotate_left; (focus (intro w hSw; (try dsimp only at hSw); go_simp; try with_reducible rfl))
          try simp only [Act.put, List.getElem_toArray, List.getElem_cons_zero, List.getElem_cons_succ, List.setIfInBounds_toArray, List.set_cons_zero, List.set_cons_succ]
          refine wpAnyH_take (i := 2) (v := ?_) rfl (by kernel_rfl) (by kernel_rfl) (by kernel_rfl) (fun _ _ _ h => h) (Or.inl ⟨by rfl, ?_⟩) (by assumption) ?_; rotate_left; (focus (intro w hSw; (try dsimp only at hSw); go_simp; try with_reducible rfl))
          try simp only [Act.put, List.getElem_toArray, List.getElem_cons_zero, List.getElem_cons_succ, List.setIfInBounds_toArray, List.set_cons_zero, List.set_cons_succ]
          refine wpAnyH_take (i := 3) (v := ?_) rfl (by kernel_rfl) (by kernel_rfl) (by kernel_rfl) (fun _ _ _ h => h) (Or.inl ⟨by rfl, ?_⟩) (by assumption) ?_; rotate_left; (focus (intro w hSw; (try dsimp only at hSw); go_simp; try with_reducible rfl))
          try simp only [Act.put, List.getElem_toArray, List.getElem_cons_zero, List.getElem_cons_succ, List.setIfInBounds_toArray, List.set_cons_zero, List.set_cons_succ]
          refine wpAnyH_take (i := 4) (v := ?_) rfl (by kernel_rfl) (by kernel_rfl) (by kernel_rfl) (fun _ _ _ h => h) (Or.inl ⟨by rfl, ?_⟩) (by assumption) ?_; rotate_left; (focus (intro w hSw; (try dsimp only at hSw); go_simp; try with_reducible rfl))
          try simp only [Act.put, List.getElem_toArray, List.getElem_cons_zero, List.getElem_cons_succ, List.setIfInBounds_toArray, List.set_cons_zero, List.set_cons_succ]
          refine wpAnyH_take (i := 5) (v := ?_) rfl (by kernel_rfl) (by kernel_rfl) (by kernel_rfl) (fun _ _ _ h => h) (Or.inl ⟨by rfl, ?_⟩) (by assumption) ?_; rotate_left; (focus (intro w hSw; (try dsimp only at hSw); go_simp; try with_reducible rfl))
          try simp only [Act.put, List.getElem_toArray, List.getElem_cons_zero, List.getElem_cons_succ, List.setIfInBounds_toArray, List.set_cons_zero, List.set_cons_succ]
          refine wpAnyH_take (i := 6) (v := ?_) rfl (by kernel_rfl) (by kernel_rfl) (by kernel_rfl) (fun _ _ _ h => h) (Or.inl ⟨by rfl, ?_⟩) (by assumption) ?_; rotate_left; (focus (intro w hSw; (try dsimp only at hSw); go_simp; try with_reducible rfl))
          try simp only [Act.put, List.getElem_toArray, List.getElem_cons_zero, List.getElem_cons_succ, List.setIfInBounds_toArray, List.set_cons_zero, List.set_cons_succ]
          refine wpAnyH_take (i := 7) (v := ?_) rfl (by kernel_rfl) (by kernel_rfl) (by kernel_rfl) (fun _ _ _ h => h) (Or.inl ⟨by rfl, ?_⟩) (by assumption) ?_; rotate_left; (focus (intro w hSw; (try dsimp only at hSw); go_simp; try with_reducible rfl))
          try simp only [Act.put, List.getElem_toArray, List.getElem_cons_zero, List.getElem_cons_succ, List.setIfInBounds_toArray, List.set_cons_zero, List.set_cons_succ]
          refine wpAnyH_done (by kernel_rfl) ?_ _
          have c5 := c4.drew HT.out
          clear c4 gz gz2 wg' wm' hz1
          rcases fromK_cases H' q with ⟨j, hj, hqj, hpos, hbet, hf⟩ | ⟨hall, hf⟩
          · have C := cw_some c5 HT.out j (by rw [fromAt0]; exact hf) (by omega)
            have ZB := Lib.hid (fun i (h1 : q ≤ i) (h2 : i < j) => (show Z2.testBit i = false by rw [NBH'.out i (by omega), hbet i h1 h2]; rfl))
            have ZJ := bit_is1 (show Z2.testBit j = true by rw [NBH'.out j hj]; exact decide_eq_true hpos)
            clear hpos hbet hf c5
            go_wp2_with fail
            refine C.mono ?_
            rintro e w6 ⟨rfl, c6, o6⟩
            have c7 : CW w w6 c t a b 0 63 (((j + 1 : Nat) : Int) - 1) false H' := by rw [show ((j + 1 : Nat) : Int) - 1 = (j : Int) by omega]; exact c6
            clear C c6 o6
            go_wp2_with fail
            obtain ⟨wo, rfl⟩ : ∃ wo : World, wo = wr := ⟨_, rfl⟩
            go_loopw [18] (fun s wr => ∃ p : Nat, q ≤ p ∧ p ≤ j ∧ s = .int .i64 p ∧ wr = w6) (fun s _ => j - (intOf s).toNat)
            case atStart => exact ⟨q, Nat.le_refl _, hqj, rfl, rfl⟩
            case round =>
              obtain ⟨p, hp1, hp2, rfl, rfl⟩ := hrel
              by_cases hl : p < j
              · have ZP := bit_is0 (ZB.out p hp1 hl)
                clear ZJ
                go_wp2_with fail
                go_roundw
                case rel => exact ⟨p + 1, by omega, by omega, by go_num, trivial⟩
                case measure => simp [intOf]; omega
              · obtain rfl : p = j := by omega
                go_wp2_with fail
                go_roundw
                case rel => exact ⟨p + 1, m + 1, Z2, H', by omega, by omega, by go_num, by go_num, rfl, by assumption, NBH', c7⟩
                case measure => simp [intOf]; omega
          · have C := cw_none c5 HT.out (fun k hk => by rw [fromAt0, hf] at hk; cases hk)
            have ZB := Lib.hid (fun i (h1 : q ≤ i) (h2 : i < 64) => (show Z2.testBit i = false by rw [NBH'.out i h2, hall i h1 h2]; rfl))
            clear hall hf c5
            go_wp2_with fail
            refine C.mono ?_
            rintro e w6 ⟨rfl, c6, o6⟩
            clear C o6
            go_wp2_with fail
            obtain ⟨wo, rfl⟩ : ∃ wo : World, wo = wr := ⟨_, rfl⟩
            go_loopw [18] (fun s wr => ∃ p : Nat, q ≤ p ∧ p ≤ 64 ∧ s = .int .i64 p ∧ wr = w6) (fun s _ => 64 - (intOf s).toNat)
            case atStart => exact ⟨q, Nat.le_refl _, hq, rfl, rfl⟩
            case round =>
              obtain ⟨p, hp1, hp2, rfl, rfl⟩ := hrel
              by_cases hl : p < 64
              · have ZP := bit_is0 (ZB.out p hp1 hl)
                go_wp2_with fail
                go_roundw
                case rel => exact ⟨p + 1, by omega, by omega, by go_num, trivial⟩
                case measure => simp [intOf]; omega
              · have e64 : (p : Int) = 64 := by omega
                rw [e64]; clear e64 hl hp1 hp2
                go_wp2_with fail
                refine (cur_done c6.cur).mono ?_
                rintro e w7 ⟨rfl, rfl⟩
                go_wp2_with fail
                refine (awake12_any w _ HT.out c6.tw.bel).mono ?_
                rintro e wb ⟨rfl, hb⟩
                go_wp2_with fail
                exact bodyPost_ret (results_tmp rfl _ _ _) rfl ⟨rfl, hb⟩
        · have hb : ((m : Int) == (A : Int)) = false := by simp; omega
          clear hn wg wm
          rcases fromK_cases H q with ⟨j, hj, hqj, hpos, hbet, hf⟩ | ⟨hall, hf⟩
          · have C := cw_some c3 HT.out j (by rw [fromAt0]; exact hf) (by omega)
            have ZB := Lib.hid (fun i (h1 : q ≤ i) (h2 : i < j) => (show Z.testBit i = false by rw [NBH.out i (by omega), hbet i h1 h2]; rfl))
            have ZJ := bit_is1 (show Z.testBit j = true by rw [NBH.out j hj]; exact decide_eq_true hpos)
            clear hpos hbet hf c3
            go_wp2_with fail
            refine C.mono ?_
            rintro e w6 ⟨rfl, c6, o6⟩
            have c7 : CW w w6 c t a b 0 63 (((j + 1 : Nat) : Int) - 1) false H := by rw [show ((j + 1 : Nat) : Int) - 1 = (j : Int) by omega]; exact c6
            clear C c6 o6
            go_wp2_with fail
            obtain ⟨wo, rfl⟩ : ∃ wo : World, wo = wr := ⟨_, rfl⟩
            go_loopw [18] (fun s wr => ∃ p : Nat, q ≤ p ∧ p ≤ j ∧ s = .int .i64 p ∧ wr = w6) (fun s _ => j - (intOf s).toNat)
            case atStart => exact ⟨q, Nat.le_refl _, hqj, rfl, rfl⟩
            case round =>
              obtain ⟨p, hp1, hp2, rfl, rfl⟩ := hrel
              by_cases hl : p < j
              · have ZP := bit_is0 (ZB.out p hp1 hl)
                clear ZJ
                go_wp2_with fail
                go_roundw
                case rel => exact ⟨p + 1, by omega, by omega, by go_num, trivial⟩
                case measure => simp [intOf]; omega
              · obtain rfl : p = j := by omega
                go_wp2_with fail
                go_roundw
                case rel => exact ⟨p + 1, m + 1, Z, H, by omega, by omega, by go_num, by go_num, rfl, by assumption, NBH, c7⟩
                case measure => simp [intOf]; omega
          · have C := cw_none c3 HT.out (fun k hk => by rw [fromAt0, hf] at hk; cases hk)
            have ZB := Lib.hid (fun i (h1 : q ≤ i) (h2 : i < 64) => (show Z.testBit i = false by rw [NBH.out i h2, hall i h1 h2]; rfl))
            clear hall hf c3
            go_wp2_with fail
            refine C.mono ?_
            rintro e w6 ⟨rfl, c6, o6⟩
            clear C o6
            go_wp2_with fail
            obtain ⟨wo, rfl⟩ : ∃ wo : World, wo = wr := ⟨_, rfl⟩
            go_loopw [18] (fun s wr => ∃ p : Nat, q ≤ p ∧ p ≤ 64 ∧ s = .int .i64 p ∧ wr = w6) (fun s _ => 64 - (intOf s).toNat)
            case atStart => exact ⟨q, Nat.le_refl _, hq, rfl, rfl⟩
            case round =>
              obtain ⟨p, hp1, hp2, rfl, rfl⟩ := hrel
              by_cases hl : p < 64
              · have ZP := bit_is0 (ZB.out p hp1 hl)
                go_wp2_with fail
                go_roundw
                case rel => exact ⟨p + 1, by omega, by omega, by go_num, trivial⟩
                case measure => simp [intOf]; omega
              · have e64 : (p : Int) = 64 := by omega
                rw [e64]; clear e64 hl hp1 hp2
                go_wp2_with fail
                refine (cur_done c6.cur).mono ?_
                rintro e w7 ⟨rfl, rfl⟩
                go_wp2_with fail
                refine (awake12_any w _ HT.out c6.tw.bel).mono ?_
                rintro e wb ⟨rfl, hb⟩
                go_wp2_with fail
                exact bodyPost_ret (results_tmp rfl _ _ _) rfl ⟨rfl, hb⟩
end Go.Proofs.YtndmimljnhieiaaDoor

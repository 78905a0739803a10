/-
  The walk of CursorWhole.
-/
import Derived.Test.YtndmimljnhieiaaDoorLaw12a
import Derived.Deep.DeepCutAuto
namespace Go.Proofs.YtndmimljnhieiaaDoor
open Go.RowKit
set_option linter.unusedVariables false
set_option linter.unusedSimpArgs false
attribute [local go_sem ↓] Go.wp_at_zero Go.wp_at_succ

theorem NB.zero {H : Nat → Nat} {Z i : Nat} (h : NB H Z) (hi : i < 64) (hb : Z.testBit i = false) : H i = 0 := by
  have := h i hi
  rw [hb] at this; simp at this; omega
theorem NB.pos {H : Nat → Nat} {Z i : Nat} (h : NB H Z) (hi : i < 64) (hb : Z.testBit i = true) : 0 < H i := by
  have := h i hi
  rw [hb] at this; simpa using this.symm
theorem find_cases (X U q : Nat) : (∃ j, q ≤ j ∧ j ≤ U ∧ X.testBit j = true ∧ ∀ i, q ≤ i → i < j → X.testBit i = false) ∨ (∀ i, q ≤ i → i ≤ U → X.testBit i = false) := by
  by_cases h : ∃ j, q ≤ j ∧ j ≤ U ∧ X.testBit j = true
  · left
    obtain ⟨j, h1, h2, h3⟩ := h
    induction j using Nat.strongRecOn with
    | _ j ih =>
      by_cases h4 : ∃ i, q ≤ i ∧ i < j ∧ X.testBit i = true
      · obtain ⟨i, h5, h6, h7⟩ := h4
        exact ih i h6 h5 (by omega) h7
      · exact ⟨j, h1, h2, h3, fun i h5 h6 => by
          cases hb : X.testBit i
          · rfl
          · exact absurd ⟨i, h5, h6, hb⟩ h4⟩
  · right
    intro i h1 h2
    cases hb : X.testBit i
    · rfl
    · exact absurd ⟨i, h1, h2, hb⟩ h
theorem fromK_above {H : Nat → Nat} {q k : Nat} {U : Nat} (h : fromK H (q : Int) = some k) (h0 : ∀ i, q ≤ i → i ≤ U → H i = 0) : (U : Int) < (k : Int) := by
  rw [fromK, List.find?_range_eq_some] at h
  obtain ⟨h1, h2, h3⟩ := h
  simp at h1
  by_cases e : k ≤ U
  · have := h0 k (by omega) e; omega
  · omega
/-- How a cursor stands to what the law reckons. -/
def INV (U q : Nat) (lo at_ : Int) (dn : Bool) : Prop := (dn = false → fromAt lo at_ = (q : Int) ∧ q ≤ U + 1) ∧ (dn = true → U < q)
theorem fromAt_ge (lo at_ : Int) : lo ≤ fromAt lo at_ := by unfold fromAt; split <;> omega
theorem INV.hit {U q j : Nat} {lo : Int} (h : lo ≤ (q : Int)) (h1 : q ≤ j) (h2 : j ≤ U) : INV U (j + 1) lo (j : Int) false :=
  ⟨fun _ => ⟨by unfold fromAt; rw [if_pos (by omega)]; omega, by omega⟩, fun h => by cases h⟩
theorem CW.other {w0 w w' : World} {c d t a b : Nat} {lo hi at_ lo' hi' at' : Int} {dn dn' : Bool} {H : Nat → Nat} (h : CW w0 w d t a b lo hi at_ dn H) (h' : CW w0 w' c t a b lo' hi' at' dn' H) (o : Only (Three a b c) w w') (ne : d ≠ c) : CW w0 w' d t a b lo hi at_ dn H :=
  ⟨h'.tw, o.blk h.cur (by rintro (e | e); exact h.nc e; exact ne e), h.gc, h.ct, h.nc, h.p1, h.p2⟩

set_option maxRecDepth 100000 in
set_option maxHeartbeats 16000000 in
theorem cursorWhole_walk (keys aa bb turns : Int) (w : World) (h0 : (Lit.int .u64 keys).wf = true) (_h1 : (Lit.int .i64 aa).wf = true) (_h2 : (Lit.int .i64 bb).wf = true) (h3 : (Lit.int .u64 turns).wf = true) (hT : Tab w) :
    Calls Tryd.prog 9 #[.int .u64 keys, .int .i64 aa, .int .i64 bb, .int .u64 turns] w fun e w' => e = .returned (.bool true) ∧ Below w.heap.size w w' := by
  obtain ⟨X, rfl, hX⟩ := u64_nat h0
  obtain ⟨TT, rfl, hTT⟩ := u64_nat h3
  obtain ⟨l, hl, hl2⟩ := nat_rem aa 64 (by omega)
  obtain ⟨u, hu, hu2⟩ := nat_rem bb 64 (by omega)
  have m1 := i64_and63 aa
  have m2 := i64_and63 bb
  rw [hl] at m1; rw [hu] at m2
  clear hl hu
  have HT := Lib.hid hT
  clear hT h0 h3
  go_enter Tryd.func9, Tryd.ntmps9
  go_wp2_with fail
  refine (tw_new w HT.out (Below.refl _ _)).mono ?_
  rintro e w1 ⟨t, a, b, rfl, k1, o1, g1, g2, g3⟩
  clear o1 g1 g2 g3
  rw [← hUp_0 X (fun i => i % 2 + 1)] at k1
  go_wp2_with fail
  go_loopw [10] (fun i wr => ∃ j : Nat, j ≤ 64 ∧ i = .int .i64 j ∧ TW w wr t a b (hUp X j (fun i => i % 2 + 1))) (fun i _ => 64 - (intOf i).toNat)
  case atStart => exact ⟨0, by omega, rfl, k1⟩
  case round =>
    obtain ⟨k, hj, rfl, k2⟩ := hrel
    by_cases hlt : k < 64
    · rcases bit_fact X k with ⟨br, tr⟩ | ⟨br, tr⟩
      · rw [hUp_no X k _ tr] at k2
        clear tr
        go_wp2_with fail
        go_roundw
        case rel => exact ⟨k + 1, by omega, by go_num, k2⟩
        case measure => simp [intOf]; omega
      · obtain ⟨r, hr, hr2⟩ := nat_rem (k : Int) 2 (by omega)
        have m3 := i64_and1 (k : Int)
        rw [hr] at m3
        obtain ⟨P, hP⟩ : ∃ P : Nat, (r : Int) + 1 = P := ⟨r + 1, by omega⟩
        have hP2 : k % 2 + 1 = P := by omega
        have C := tw_put_new k2 HT.out k P (by omega) (by omega) (by omega) (hUp_off X k _)
        have hY := hUp_yes X k (fun i => i % 2 + 1) hlt tr
        simp only [hP2] at hY
        rw [hY] at C
        clear tr hr hP2 hY
        go_wp2_with fail
        refine C.mono ?_
        rintro e w2 ⟨rfl, k3, o3⟩
        go_wp2_with fail
        go_roundw
        case rel => exact ⟨k + 1, by omega, by go_num, k3⟩
        case measure => simp [intOf]; omega
    · have e64 : (k : Int) = 64 := by omega
      rw [e64]; clear e64
      obtain rfl : k = 64 := by omega
      have nb := hUp_NB X (fun i => i % 2 + 1) (fun _ => by omega)
      generalize hUp X 64 (fun i => i % 2 + 1) = H at k2 nb
      have NBH := Lib.hid nb
      clear k1 nb
      go_upto_if 46 with (fail)
      go_cut [1, 2] (fun s1 s2 wx => ∃ L U : Nat, L ≤ U ∧ U < 64 ∧ s1 = .int .i64 L ∧ s2 = .int .i64 U ∧ wx = wr)
      case first =>
        by_cases hs : (u : Int) < (l : Int)
        · go_wp2_with fail
          go_meet
          case rel => exact ⟨u, l, by omega, by omega, rfl, rfl, rfl⟩
        · go_wp2_with fail
          go_meet
          case rel => exact ⟨l, u, by omega, by omega, rfl, rfl, rfl⟩
      case rest =>
        obtain ⟨L, U, hLU, hU, rfl, rfl, rfl⟩ := hcut
        have hU63 : (U : Int) ≤ 63 := by omega
        go_wp2_with fail
        refine (cw_new k2 HT.out L U (by omega) (by omega) (by omega)).mono ?_
        rintro e w2 ⟨rfl, c2, o2⟩
        go_wp2_with fail
        refine (cw_new c2.tw HT.out 0 63 (by omega) (by omega) (by omega)).mono ?_
        rintro e w3 ⟨rfl, d3, o3⟩
        have c3 := c2.only HT.out (S := fun _ => False) o3 (fun _ h => h.elim) (fun h => h) (fun h => h) (fun h => h) (fun h => h)
        have hcd : wc.heap.size ≠ w2.heap.size := by have := c2.cur.lt; omega
        clear o2 o3 c2 k2
        generalize wc.heap.size = c at c3 hcd
        generalize w2.heap.size = d at d3 hcd
        go_wp2_with fail
        go_loopw [15, 16, 17] (fun x y i wr => ∃ (n qc qd : Nat) (atc atd : Int) (dnc dnd : Bool), n ≤ 140 ∧ qc ≤ 66 + n ∧ qd ≤ 66 + n ∧ i = .int .i64 n ∧ x = .int .i64 qc ∧ y = .int .i64 qd ∧ Hid (INV U qc L atc dnc) ∧ Hid (INV 63 qd 0 atd dnd) ∧ CW w wr c t a b L U atc dnc H ∧ CW w wr d t a b 0 63 atd dnd H) (fun _ _ i _ => 140 - (intOf i).toNat)
        case atStart => exact ⟨0, L, 0, -1, -1, false, false, by omega, by omega, by omega, rfl, rfl, rfl, Lib.hid ⟨fun _ => ⟨by unfold fromAt; split <;> omega, by omega⟩, fun h => by cases h⟩, Lib.hid ⟨fun _ => ⟨by decide, by omega⟩, fun h => by cases h⟩, c3, d3⟩
        case round =>
          clear c3 d3
          obtain ⟨n, qc, qd, atc, atd, dnc, dnd, hn, hqc, hqd, rfl, rfl, rfl, IC, ID, KC, KD⟩ := hrel
          by_cases hlt : n < 140
          · obtain ⟨s, hs, hs2⟩ := nat_rem (n : Int) 64 (by omega)
            have m3 := i64_and63 (n : Int)
            rw [hs] at m3
            clear hs
            rcases bit_fact TT s with ⟨bt, tt⟩ | ⟨bt, tt⟩
            · clear tt
              rcases find_cases X 63 qd with ⟨j, hj1, hj2, hjb, hbet⟩ | hall
              · cases dnd with
                | true => exact absurd (ID.out.2 rfl) (by omega)
                | false =>
                  obtain ⟨f1, f2⟩ := ID.out.1 rfl
                  have C := cw_some KD HT.out j (by rw [f1]; exact fromK_some (by omega) hj1 (fun i h1 h2 => NBH.out.zero (by omega) (hbet i h1 h2)) (NBH.out.pos (by omega) hjb)) (by omega)
                  have ZB := Lib.hid (fun i (h1 : qd ≤ i) (h2 : i < j) => hbet i h1 h2)
                  have ZJ := bit_is1 hjb
                  have IN : Hid (INV 63 (j + 1) 0 j false) := Lib.hid (INV.hit (by rw [← f1]; exact fromAt_ge _ _) hj1 hj2)
                  clear hbet hjb f1 f2 ID
                  have Hq := Lib.hid hj1
                  go_wp2_with fail
                  obtain ⟨wo, rfl⟩ : ∃ wo : World, wo = wr := ⟨_, rfl⟩
                  go_loopw [16] (fun s wr => ∃ p : Nat, qd ≤ p ∧ p ≤ j ∧ s = .int .i64 p ∧ wr = wo) (fun s _ => j - (intOf s).toNat)
                  case atStart => exact ⟨qd, Nat.le_refl _, hj1, rfl, rfl⟩
                  case round =>
                    obtain ⟨p, hp1, hp2, rfl, rfl⟩ := hrel
                    by_cases hl : p < j
                    · have ZP := bit_is0 (ZB.out p hp1 hl)
                      have pU : (p : Int) ≤ 63 := by omega
                      clear ZJ
                      go_wp2_with fail
                      go_roundw
                      case rel => exact ⟨p + 1, by omega, by omega, by go_num, trivial⟩
                      case measure => simp [intOf]; omega
                    · obtain rfl : p = j := by omega
                      have pU : (p : Int) ≤ 63 := by omega
                      go_wp2_with fail
                      refine C.mono ?_
                      rintro e w6 ⟨rfl, c6, o6⟩
                      have k6 := KC.other c6 o6 hcd
                      go_wp2_with fail
                      go_roundw
                      case rel => exact ⟨n + 1, qc, p + 1, atc, (p : Int), dnc, false, by omega, by omega, by omega, by go_num, rfl, by go_num, IC, IN, k6, c6⟩
                      case measure => simp [intOf]; omega
              · have C : Calls Tryd.prog 31 #[.pointer (some ⟨d, 0, none⟩)] wr fun e w' => e = .returned (.tuple #[.int .i64 0, .bool false]) ∧ CW w w' d t a b 0 63 atd true H ∧ Only (Three a b d) wr w' := by
                  cases dnd with
                  | true =>
                    refine (cw_over KD).mono ?_
                    rintro e w' ⟨rfl, rfl⟩
                    exact ⟨rfl, KD, Only.refl _ _⟩
                  | false =>
                    obtain ⟨f1, f2⟩ := ID.out.1 rfl
                    exact cw_none KD HT.out (fun k hk => by rw [f1] at hk; have hab := fromK_above (U := 63) hk (fun i h1 h2 => NBH.out.zero (by omega) (hall i h1 h2)); omega)
                obtain ⟨J, hJ1, hJ2, hJ3, hJ4⟩ : ∃ J : Nat, qd ≤ J ∧ 63 < J ∧ J ≤ 66 + n ∧ (J = qd ∨ J = 63 + 1) := by
                  by_cases hq : qd ≤ 63
                  · exact ⟨63 + 1, by omega, by omega, by omega, .inr rfl⟩
                  · exact ⟨qd, Nat.le_refl _, by omega, by omega, .inl rfl⟩
                have ZB := Lib.hid (fun i (h1 : qd ≤ i) (h2 : i ≤ 63) => hall i h1 h2)
                have IN : Hid (INV 63 (J + 1) 0 atd true) := Lib.hid ⟨(fun h => by cases h), (fun _ => by omega)⟩
                clear hall ID
                go_wp2_with fail
                obtain ⟨wo, rfl⟩ : ∃ wo : World, wo = wr := ⟨_, rfl⟩
                go_loopw [16] (fun s wr => ∃ p : Nat, qd ≤ p ∧ p ≤ J ∧ s = .int .i64 p ∧ wr = wo) (fun s _ => J - (intOf s).toNat)
                case atStart => exact ⟨qd, Nat.le_refl _, hJ1, rfl, rfl⟩
                case round =>
                  obtain ⟨p, hp1, hp2, rfl, rfl⟩ := hrel
                  by_cases hl : p < J
                  · have pUN : p ≤ 63 := by omega
                    have ZP := bit_is0 (ZB.out p hp1 pUN)
                    have pU : (p : Int) ≤ 63 := by omega
                    have p64 : (p : Int) < 64 := by omega
                    clear hJ4
                    go_wp2_with fail
                    go_roundw
                    case rel => exact ⟨p + 1, by omega, by omega, by go_num, trivial⟩
                    case measure => simp [intOf]; omega
                  · obtain rfl : p = J := by omega
                    have pU : 63 < (p : Int) := by omega
                    clear hJ4
                    go_wp2_with fail
                    refine C.mono ?_
                    rintro e w6 ⟨rfl, c6, o6⟩
                    have k6 := KC.other c6 o6 hcd
                    go_wp2_with fail
                    go_roundw
                    case rel => exact ⟨n + 1, qc, p + 1, atc, atd, dnc, true, by omega, by omega, by omega, by go_num, rfl, by go_num, IC, IN, k6, c6⟩
                    case measure => simp [intOf]; omega
            · clear tt
              rcases find_cases X U qc with ⟨j, hj1, hj2, hjb, hbet⟩ | hall
              · cases dnc with
                | true => exact absurd (IC.out.2 rfl) (by omega)
                | false =>
                  obtain ⟨f1, f2⟩ := IC.out.1 rfl
                  have C := cw_some KC HT.out j (by rw [f1]; exact fromK_some (by omega) hj1 (fun i h1 h2 => NBH.out.zero (by omega) (hbet i h1 h2)) (NBH.out.pos (by omega) hjb)) (by omega)
                  have ZB := Lib.hid (fun i (h1 : qc ≤ i) (h2 : i < j) => hbet i h1 h2)
                  have ZJ := bit_is1 hjb
                  have IN : Hid (INV U (j + 1) (L : Int) j false) := Lib.hid (INV.hit (by rw [← f1]; exact fromAt_ge _ _) hj1 hj2)
                  clear hbet hjb f1 f2 IC
                  have Hq := Lib.hid hj1
                  go_wp2_with fail
                  obtain ⟨wo, rfl⟩ : ∃ wo : World, wo = wr := ⟨_, rfl⟩
                  go_loopw [15] (fun s wr => ∃ p : Nat, qc ≤ p ∧ p ≤ j ∧ s = .int .i64 p ∧ wr = wo) (fun s _ => j - (intOf s).toNat)
                  case atStart => exact ⟨qc, Nat.le_refl _, hj1, rfl, rfl⟩
                  case round =>
                    obtain ⟨p, hp1, hp2, rfl, rfl⟩ := hrel
                    by_cases hl : p < j
                    · have ZP := bit_is0 (ZB.out p hp1 hl)
                      have pU : (p : Int) ≤ (U : Int) := by omega
                      clear ZJ
                      go_wp2_with fail
                      go_roundw
                      case rel => exact ⟨p + 1, by omega, by omega, by go_num, trivial⟩
                      case measure => simp [intOf]; omega
                    · obtain rfl : p = j := by omega
                      have pU : (p : Int) ≤ (U : Int) := by omega
                      go_wp2_with fail
                      refine C.mono ?_
                      rintro e w6 ⟨rfl, c6, o6⟩
                      have k6 := KD.other c6 o6 hcd.symm
                      go_wp2_with fail
                      go_roundw
                      case rel => exact ⟨n + 1, p + 1, qd, (p : Int), atd, false, dnd, by omega, by omega, by omega, by go_num, by go_num, rfl, IN, ID, c6, k6⟩
                      case measure => simp [intOf]; omega
              · have C : Calls Tryd.prog 31 #[.pointer (some ⟨c, 0, none⟩)] wr fun e w' => e = .returned (.tuple #[.int .i64 0, .bool false]) ∧ CW w w' c t a b (L : Int) (U : Int) atc true H ∧ Only (Three a b c) wr w' := by
                  cases dnc with
                  | true =>
                    refine (cw_over KC).mono ?_
                    rintro e w' ⟨rfl, rfl⟩
                    exact ⟨rfl, KC, Only.refl _ _⟩
                  | false =>
                    obtain ⟨f1, f2⟩ := IC.out.1 rfl
                    exact cw_none KC HT.out (fun k hk => by rw [f1] at hk; have hab := fromK_above (U := U) hk (fun i h1 h2 => NBH.out.zero (by omega) (hall i h1 h2)); omega)
                obtain ⟨J, hJ1, hJ2, hJ3, hJ4⟩ : ∃ J : Nat, qc ≤ J ∧ U < J ∧ J ≤ 66 + n ∧ (J = qc ∨ J = U + 1) := by
                  by_cases hq : qc ≤ U
                  · exact ⟨U + 1, by omega, by omega, by omega, .inr rfl⟩
                  · exact ⟨qc, Nat.le_refl _, by omega, by omega, .inl rfl⟩
                have ZB := Lib.hid (fun i (h1 : qc ≤ i) (h2 : i ≤ U) => hall i h1 h2)
                have IN : Hid (INV U (J + 1) (L : Int) atc true) := Lib.hid ⟨(fun h => by cases h), (fun _ => by omega)⟩
                clear hall IC
                go_wp2_with fail
                obtain ⟨wo, rfl⟩ : ∃ wo : World, wo = wr := ⟨_, rfl⟩
                go_loopw [15] (fun s wr => ∃ p : Nat, qc ≤ p ∧ p ≤ J ∧ s = .int .i64 p ∧ wr = wo) (fun s _ => J - (intOf s).toNat)
                case atStart => exact ⟨qc, Nat.le_refl _, hJ1, rfl, rfl⟩
                case round =>
                  obtain ⟨p, hp1, hp2, rfl, rfl⟩ := hrel
                  by_cases hl : p < J
                  · have pUN : p ≤ U := by omega
                    have ZP := bit_is0 (ZB.out p hp1 pUN)
                    have pU : (p : Int) ≤ (U : Int) := by omega
                    have p64 : (p : Int) < 64 := by omega
                    clear hJ4
                    go_wp2_with fail
                    go_roundw
                    case rel => exact ⟨p + 1, by omega, by omega, by go_num, trivial⟩
                    case measure => simp [intOf]; omega
                  · obtain rfl : p = J := by omega
                    have pU : (U : Int) < (p : Int) := by omega
                    clear hJ4
                    go_wp2_with fail
                    refine C.mono ?_
                    rintro e w6 ⟨rfl, c6, o6⟩
                    have k6 := KD.other c6 o6 hcd.symm
                    go_wp2_with fail
                    go_roundw
                    case rel => exact ⟨n + 1, p + 1, qd, atc, atd, true, dnd, by omega, by omega, by omega, by go_num, by go_num, rfl, IN, ID, c6, k6⟩
                    case measure => simp [intOf]; omega
          · go_wp2_with fail
            refine (awake12_any w _ HT.out KC.tw.bel).mono ?_
            rintro e wb ⟨rfl, hb⟩
            go_wp2_with fail
            go_ret
            exact ⟨rfl, hb⟩
end Go.Proofs.YtndmimljnhieiaaDoor

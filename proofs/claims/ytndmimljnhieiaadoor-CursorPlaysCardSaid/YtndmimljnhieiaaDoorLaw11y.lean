/-
  The walk of TowerAnyway.
-/
import Derived.Test.YtndmimljnhieiaaDoorLaw12a
namespace Go.Proofs.YtndmimljnhieiaaDoor
open Go.RowKit
set_option linter.unusedVariables false

/-- Two Towers of the law's own, in blocks apart. -/
structure TwoT (w0 w : World) (t a b t' a' b' : Nat) (H H' : Nat → Nat) : Prop where
  x : TW w0 w t a b H
  y : TW w0 w t' a' b' H'
  d1 : ¬ Two a b t'
  d2 : ¬ Two a b a'
  d3 : ¬ Two a b b'
  e1 : ¬ Two a' b' t
  e2 : ¬ Two a' b' a
  e3 : ¬ Two a' b' b
theorem TwoT.one {w0 w w' : World} {t a b t' a' b' : Nat} {H H' H2 : Nat → Nat} (h : TwoT w0 w t a b t' a' b' H H') (hT : Tab w0) (h1 : TW w0 w' t a b H2) (o : Only (Two a b) w w') : TwoT w0 w' t a b t' a' b' H2 H' :=
  ⟨h1, h.y.keep hT o (fun k hk => by rcases hk with rfl | rfl; exact h.x.ga; exact h.x.gb) h.d1 h.d2 h.d3, h.d1, h.d2, h.d3, h.e1, h.e2, h.e3⟩
theorem TwoT.two {w0 w w' : World} {t a b t' a' b' : Nat} {H H' H2 : Nat → Nat} (h : TwoT w0 w t a b t' a' b' H H') (hT : Tab w0) (h1 : TW w0 w' t' a' b' H2) (o : Only (Two a' b') w w') : TwoT w0 w' t a b t' a' b' H H2 :=
  ⟨h.x.keep hT o (fun k hk => by rcases hk with rfl | rfl; exact h.y.ga; exact h.y.gb) h.e1 h.e2 h.e3, h1, h.d1, h.d2, h.d3, h.e1, h.e2, h.e3⟩
theorem TwoT.drewN {w0 w : World} {t a b t' a' b' : Nat} {H H' : Nat → Nat} (h : TwoT w0 w t a b t' a' b' H H') (hT : Tab w0) (n : Nat) : TwoT w0 (w.drewN n) t a b t' a' b' H H' :=
  ⟨h.x.drewN hT n, h.y.drewN hT n, h.d1, h.d2, h.d3, h.e1, h.e2, h.e3⟩
theorem TW.lts {w0 w : World} {t a b : Nat} {H : Nat → Nat} (h : TW w0 w t a b H) : t < w.heap.size ∧ a < w.heap.size ∧ b < w.heap.size := by
  obtain ⟨c, hA⟩ := h.th.tow.arena
  exact ⟨h.th.tow.ptr.lt, hA.head.lt, hA.words.lt⟩
theorem tw_put_is {w0 w : World} {t a b : Nat} {H : Nat → Nat} (h : TW w0 w t a b H) (hT : Tab w0) (k n : Nat) (hk : k < 64) (h1 : 1 ≤ n) (h2 : n ≤ 4) (hH : H k = 0 ∨ H k = n) :
    Calls Tryd.prog 13 #[.pointer (some ⟨t, 0, none⟩), .int .i64 k, .int .i64 n] w fun e w' => (∃ r, e = .returned (.tuple #[.bool r, .int .i64 0])) ∧ TW w0 w' t a b (upd H k n) ∧ Only (Two a b) w w' := by
  rcases hH with hz | hz
  · refine (tw_put_new h hT k n hk h1 h2 hz).mono ?_
    rintro e w' ⟨rfl, h3, o⟩
    exact ⟨⟨_, rfl⟩, h3, o⟩
  · refine (tw_put_old h hT k n hk h1 h2 (by omega)).mono ?_
    rintro e w' ⟨rfl, h3, o⟩
    refine ⟨⟨_, rfl⟩, ?_, o⟩
    rw [← hz, upd_self]; exact h3
/-- Put in the turned order up to j. -/
def hPerm (X Y c j : Nat) : Nat → Nat := fun x => if ((List.range j).any fun i => (37 * i + c) % 64 == x) && X.testBit x then hh Y x else 0
theorem hPerm_yes (X Y c j k : Nat) (hk : (37 * j + c) % 64 = k) (h : X.testBit k = true) : upd (hPerm X Y c j) k (hh Y k) = hPerm X Y c (j + 1) := by
  funext x; simp only [upd, hPerm, List.range_succ, List.any_append, List.any_cons, List.any_nil, Bool.or_false, hk]
  by_cases e : x = k
  · subst e; simp [h]
  · have : (k == x) = false := by simp; omega
    simp [e, this]
theorem hPerm_no (X Y c j k : Nat) (hk : (37 * j + c) % 64 = k) (h : X.testBit k = false) : hPerm X Y c j = hPerm X Y c (j + 1) := by
  funext x; simp only [hPerm, List.range_succ, List.any_append, List.any_cons, List.any_nil, Bool.or_false, hk]
  by_cases e : x = k
  · subst e; simp [h]
  · have : (k == x) = false := by simp; omega
    simp [this]
theorem hPerm_or (X Y c j k : Nat) : hPerm X Y c j k = 0 ∨ hPerm X Y c j k = hh Y k := by
  simp only [hPerm]; split <;> simp
theorem hPerm_0 (X Y c : Nat) : hPerm X Y c 0 = fun _ => 0 := by funext x; simp [hPerm]
theorem hPerm_64 (X Y c : Nat) (hc : c < 64) : hPerm X Y c 64 = hUp X 64 (hh Y) := by
  funext x; simp only [hPerm, hUp]
  by_cases hx : x < 64
  · have : ((List.range 64).any fun i => (37 * i + c) % 64 == x) = true := by
      rw [List.any_eq_true]
      refine ⟨45 * (x + 64 - c) % 64, List.mem_range.2 (by omega), ?_⟩
      simp; omega
    simp [this, hx]
  · have : ((List.range 64).any fun i => (37 * i + c) % 64 == x) = false := by
      rw [List.any_eq_false]
      intro i hi; simp; omega
    simp [this, hx]
theorem hUp_at (X : Nat) (v : Nat → Nat) (k : Nat) (hk : k < 64) (h : X.testBit k = true) : hUp X 64 v k = v k := by simp [hUp, hk, h]
theorem told_keep {B : Nat} {x : Option Addr} {n c : Nat} {w w' : World} {l : List Nat} {S : Nat → Prop} (h : Told B (.slice x n c) w l) (o : Only S w w') (hs : ∀ k, S k → k < B) : Ints .i64 w' x (toInts l) := by
  have h2 := h.only o (fun k hk => by
    intro hS
    have := (World.ownsRow.lt h k hk).1
    have := hs k hS; omega)
  obtain ⟨x', c', e, _, _, hi, _⟩ := h2.form
  injection e with e1 e2 e3
  subst e1; exact hi

set_option maxRecDepth 100000 in
set_option maxHeartbeats 16000000 in
theorem towerAnyway_walk (keys heights turn again : Int) (w : World) (h0 : (Lit.int .u64 keys).wf = true) (h1 : (Lit.int .u64 heights).wf = true) (_h2 : (Lit.int .i64 turn).wf = true) (h3 : (Lit.int .u64 again).wf = true) (hT : Tab w) :
    Calls Tryd.prog 4 #[.int .u64 keys, .int .u64 heights, .int .i64 turn, .int .u64 again] w fun e w' => e = .returned (.bool true) ∧ Below w.heap.size w w' := by
  obtain ⟨X, rfl, hX⟩ := u64_nat h0
  obtain ⟨Y, rfl, hY⟩ := u64_nat h1
  obtain ⟨G, rfl, hG⟩ := u64_nat h3
  obtain ⟨c, hc, hc2⟩ := nat_rem turn 64 (by omega)
  have m1 := i64_and63 turn
  rw [hc] at m1
  clear hc h0 h1 h3
  have hc3 : c < 64 := by omega
  have HT := Lib.hid hT
  clear hT
  go_enter Tryd.func4, Tryd.ntmps4
  go_wp2_with fail
  refine (tw_new w HT.out (Below.refl _ _)).mono ?_
  rintro e w1 ⟨t, a, b, rfl, k1, o1, g1, g2, g3⟩
  clear o1 g1 g2 g3
  go_wp2_with fail
  refine (tw_new w1 HT.out k1.bel).mono ?_
  rintro e w2 ⟨t', a', b', rfl, l1, o1, g1, g2, g3⟩
  obtain ⟨j1, j2, j3⟩ := k1.lts
  have K : TwoT w w2 t a b t' a' b' (hUp X 0 (hh Y)) (hPerm X Y c 0) := by
    rw [hUp_0, hPerm_0]
    refine ⟨k1.keep HT.out o1 (fun _ h => h.elim) (fun h => h) (fun h => h) (fun h => h), l1, ?_, ?_, ?_, ?_, ?_, ?_⟩ <;> (rintro (e | e) <;> omega)
  clear o1 k1 l1 g1 g2 g3 j1 j2 j3
  go_wp2_with fail
  go_loopw [11, 12] (fun i u wr => ∃ j : Nat, j ≤ 64 ∧ i = .int .i64 j ∧ TwoT w wr t a b t' a' b' (hUp X j (hh Y)) (hPerm X Y c j)) (fun i _ _ => 64 - (intOf i).toNat)
  case atStart => exact ⟨0, by omega, rfl, K⟩
  case round =>
    clear K
    obtain ⟨j, hj, rfl, K⟩ := hrel
    by_cases hlt : j < 64
    · obtain ⟨k, hk, hk2⟩ : ∃ k : Nat, ((j : Int) * 37 + (c : Int)) % 64 = (k : Int) ∧ k < 64 := ⟨(37 * j + c) % 64, by omega, by omega⟩
      have hk3 : (37 * j + c) % 64 = k := by omega
      rcases bit_fact X k with ⟨bk, tk⟩ | ⟨bk, tk⟩
      · rw [hPerm_no X Y c j k hk3 tk] at K
        clear hk3 tk
        rcases bit_fact X j with ⟨bj, tj⟩ | ⟨bj, tj⟩
        · rw [hUp_no X j _ tj] at K
          clear tj
          go_wp2_with fail
          go_roundw
          case rel => exact ⟨j + 1, by omega, by go_num, K⟩
          case measure => simp [intOf]; omega
        · obtain ⟨q, hq, bq, tq⟩ := two_fact Y j
          obtain ⟨P, hP⟩ : ∃ P : Nat, (q : Int) + 1 = P := ⟨q + 1, by omega⟩
          have hP2 : hh Y j = P := by rw [hh, tq]; omega
          have hU := hUp_yes X j (hh Y) hlt tj
          rw [hP2] at hU
          have C := tw_put_is K.x HT.out j P hlt (by omega) (by omega) (.inl (hUp_off X j _))
          rw [hU] at C
          clear tj tq hP2 hU
          go_wp2_with fail
          refine C.mono ?_
          rintro e w3 ⟨⟨r, rfl⟩, k3, o3⟩
          have K3 := K.one HT.out k3 o3
          go_wp2_with fail
          go_roundw
          case rel => exact ⟨j + 1, by omega, by go_num, K3⟩
          case measure => simp [intOf]; omega
      · obtain ⟨qk, hqk, bqk, tqk⟩ := two_fact Y k
        obtain ⟨PK, hPK⟩ : ∃ P : Nat, (qk : Int) + 1 = P := ⟨qk + 1, by omega⟩
        have hPK2 : hh Y k = PK := by rw [hh, tqk]; omega
        have hPY := hPerm_yes X Y c j k hk3 tk
        have hor := hPerm_or X Y c j k
        rw [hPK2] at hPY hor
        have D := fun (wx : World) (Kx : TwoT w wx t a b t' a' b' (hUp X (j + 1) (hh Y)) (hPerm X Y c j)) => tw_put_is Kx.y HT.out k PK hk2 (by omega) (by omega) hor
        rw [hPY] at D
        have HD := Lib.hid D
        clear hk3 tk tqk hPK2 hPY hor D
        rcases bit_fact X j with ⟨bj, tj⟩ | ⟨bj, tj⟩
        · rw [hUp_no X j _ tj] at K
          clear tj
          go_wp2_with fail
          refine (HD.out _ K).mono ?_
          rintro e w3 ⟨⟨r, rfl⟩, k3, o3⟩
          have K3 := K.two HT.out k3 o3
          go_wp2_with fail
          go_roundw
          case rel => exact ⟨j + 1, by omega, by go_num, K3⟩
          case measure => simp [intOf]; omega
        · obtain ⟨q, hq, bq, tq⟩ := two_fact Y j
          obtain ⟨P, hP⟩ : ∃ P : Nat, (q : Int) + 1 = P := ⟨q + 1, by omega⟩
          have hP2 : hh Y j = P := by rw [hh, tq]; omega
          have hU := hUp_yes X j (hh Y) hlt tj
          rw [hP2] at hU
          have C := tw_put_is K.x HT.out j P hlt (by omega) (by omega) (.inl (hUp_off X j _))
          rw [hU] at C
          clear tj tq hP2 hU
          go_wp2_with fail
          refine C.mono ?_
          rintro e w3 ⟨⟨r, rfl⟩, k3, o3⟩
          have K3 := K.one HT.out k3 o3
          go_wp2_with fail
          refine (HD.out _ K3).mono ?_
          rintro e w4 ⟨⟨r4, rfl⟩, k4, o4⟩
          have K4 := K3.two HT.out k4 o4
          go_wp2_with fail
          go_roundw
          case rel => exact ⟨j + 1, by omega, by go_num, K4⟩
          case measure => simp [intOf]; omega
    · have e64 : (j : Int) = 64 := by omega
      rw [e64]; clear e64
      obtain rfl : j = 64 := by omega
      rw [hPerm_64 X Y c hc3] at K
      have HV : ∀ k, k < 64 → X.testBit k = true → hUp X 64 (hh Y) k = hh Y k := fun k h1 h2 => hUp_at X (hh Y) k h1 h2
      have HVH := Lib.hid HV
      generalize hUp X 64 (hh Y) = H at K HVH
      clear HV
      have gx := u64_and_nat X G hX hG
      have tz : ∀ i, (X &&& G).testBit i = true → X.testBit i = true := fun i hi => by
        rw [Nat.testBit_and] at hi; simp at hi; exact hi.1
      generalize X &&& G = Z at gx tz
      have TZ := Lib.hid tz
      clear tz
      go_wp2_with fail
      go_loopw [13] (fun i wr => ∃ j : Nat, j ≤ 64 ∧ i = .int .i64 j ∧ TwoT w wr t a b t' a' b' H H) (fun i _ => 64 - (intOf i).toNat)
      case atStart => exact ⟨0, by omega, rfl, K⟩
      case round =>
        clear K
        obtain ⟨k, hj, rfl, K⟩ := hrel
        by_cases hlt : k < 64
        · rcases bit_fact Z k with ⟨br, tr⟩ | ⟨br, tr⟩
          · clear tr
            go_wp2_with fail
            go_roundw
            case rel => exact ⟨k + 1, by omega, by go_num, K⟩
            case measure => simp [intOf]; omega
          · obtain ⟨q, hq, bq, tq⟩ := two_fact Y k
            obtain ⟨P, hP⟩ : ∃ P : Nat, (q : Int) + 1 = P := ⟨q + 1, by omega⟩
            have hP2 : H k = P := by rw [HVH.out k hlt (TZ.out k tr), hh, tq]; omega
            have C := tw_drop K.y HT.out k hlt (by omega)
            have hself : upd (upd H k 0) k P = H := by rw [upd_upd, ← hP2, upd_self]
            have HS := Lib.hid hself
            clear tr tq hP2 hself
            go_wp2_with fail
            refine C.mono ?_
            rintro e w3 ⟨rfl, k3, o3⟩
            have K3 := K.two HT.out k3 o3
            go_wp2_with fail
            refine (tw_has K3.y HT.out k false (by rw [hgt_nat _ k hlt, upd_same]; rfl)).mono ?_
            rintro e w4 ⟨rfl, k4, o4⟩
            have K4 := K3.two HT.out k4 o4
            clear K3 k3 o3 k4 o4 C
            go_wp2_with fail
            refine (tw_put_new K4.y HT.out k P hlt (by omega) (by omega) (upd_same _ _ _)).mono ?_
            rintro e w5 ⟨rfl, k5, o5⟩
            rw [HS.out] at k5
            have K5 := K4.two HT.out k5 o5
            go_wp2_with fail
            go_roundw
            case rel => exact ⟨k + 1, by omega, by go_num, K5⟩
            case measure => simp [intOf]; omega
        · have e64 : (k : Int) = 64 := by omega
          rw [e64]; clear e64 hlt hj
          clear gx HVH TZ
          go_wp2_with fail
          go_loopw [16] (fun i wr => ∃ l : Nat, l ≤ 4 ∧ i = .int .i64 ((l : Int) + 1) ∧ TwoT w wr t a b t' a' b' H H) (fun i _ => 5 - (intOf i).toNat)
          case atStart => exact ⟨0, by omega, by rfl, K⟩
          case round =>
            clear K
            obtain ⟨l, hl, rfl, K⟩ := hrel
            by_cases hlt : l < 4
            · go_wp2_with fail
              refine (tw_level K.x HT.out l hlt _ rfl).mono ?_
              rintro e w3 ⟨x, cc, rfl, q1, q2, t3, i3, k3, o3⟩
              have K3 := K.one HT.out k3 o3
              have L' := K.y.lts
              go_wp2_with fail
              refine (tw_level K3.y HT.out l hlt _ rfl).mono ?_
              rintro e w4 ⟨x', cc', rfl, q1', q2', t4, i4, k4, o4⟩
              have K4 := K3.two HT.out k4 o4
              have i5 := told_keep t3 o4 (fun k hk => by rcases hk with rfl | rfl <;> omega)
              have hkl := kl_len H l
              generalize kl H l = ks at *
              have e1 : (toInts ks).length = ks.length := toInts_length ks
              rw [← e1] at hkl ⊢
              clear t3 i3 t4 k3 o3 k4 o4 K3 K L' q1 q2 q1' q2' e1
              go_wp2_with fail
              refine (sameInts_any x x' cc cc' (toInts ks) (toInts ks) _ i5 i4 (by omega) (by omega)).mono ?_
              rintro e w5 ⟨rfl, m, rfl⟩
              rw [decide_eq_true rfl]
              have K5 := K4.drewN HT.out m
              clear i5 i4
              go_wp2_with fail
              go_roundw
              case rel => exact ⟨l + 1, by omega, by go_num, K5⟩
              case measure => simp [intOf]; omega
            · have e4 : (l : Int) + 1 = 5 := by omega
              rw [e4]; clear e4 hl hlt
              go_wp2_with fail
              refine (tw_range K.x HT.out 0 63 _ rfl).mono ?_
              rintro e w3 ⟨x, cc, rfl, q1, q2, t3, i3, k3, o3⟩
              have K3 := K.one HT.out k3 o3
              have L' := K.y.lts
              go_wp2_with fail
              refine (tw_range K3.y HT.out 0 63 _ rfl).mono ?_
              rintro e w4 ⟨x', cc', rfl, q1', q2', t4, i4, k4, o4⟩
              have K4 := K3.two HT.out k4 o4
              have i5 := told_keep t3 o4 (fun k hk => by rcases hk with rfl | rfl <;> omega)
              have hkl : (rangeK H 0 63).length ≤ 64 := by
                have := List.length_filter_le (inR 0 63) (kl H 0)
                have := kl_len H 0
                unfold rangeK; omega
              generalize rangeK H 0 63 = ks at *
              have e1 : (toInts ks).length = ks.length := toInts_length ks
              rw [← e1] at hkl ⊢
              clear t3 i3 t4 k3 o3 k4 o4 K3 K L' q1 q2 q1' q2' e1
              go_wp2_with fail
              refine (sameInts_any x x' cc cc' (toInts ks) (toInts ks) _ i5 i4 (by omega) (by omega)).mono ?_
              rintro e w5 ⟨rfl, m, rfl⟩
              rw [decide_eq_true rfl]
              have K5 := K4.drewN HT.out m
              clear i5 i4 hkl K4
              go_wp2_with fail
              refine (tw_len K5.x HT.out _ rfl).mono ?_
              rintro e w6 ⟨rfl, k6, o6⟩
              have K6 := K5.one HT.out k6 o6
              clear K5 k6 o6
              go_wp2_with fail
              refine (tw_len K6.y HT.out _ rfl).mono ?_
              rintro e w7 ⟨rfl, k7, o7⟩
              generalize (kl H 0).length = nn at *
              go_wp2_with fail
              refine (awake11_any w _ HT.out k7.bel).mono ?_
              rintro e wb ⟨rfl, hb⟩
              go_wp2_with fail
              go_ret
              exact ⟨rfl, hb⟩
end Go.Proofs.YtndmimljnhieiaaDoor

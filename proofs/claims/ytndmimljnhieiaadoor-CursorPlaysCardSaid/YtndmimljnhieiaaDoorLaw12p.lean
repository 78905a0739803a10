/-
  The walk of CursorPlays.
-/
import Derived.Test.YtndmimljnhieiaaDoorPlays
import Derived.Test.YtndmimljnhieiaaDoorCursorW
namespace Go.Proofs.YtndmimljnhieiaaDoor
open Go.RowKit Go.ChangeShapes Go.WideShapes Go.Deep
set_option linter.unusedVariables false
set_option linter.unusedSimpArgs false
attribute [local go_sem ↓] Go.wp_at_zero Go.wp_at_succ

def opKinds : List IntKind := [.i64, .i64]
theorem plain_op {H : Type} {enc : TypeId × Value → H} {W : World} : Plain enc Tryd.prog W 0 (fun _ => true) true 60 opKinds := by
  have i1 : Plain enc Tryd.prog W 0 (fun _ => true) true 3 [.i64] := Plain.int Tryd.underlying3 (by kernel_rfl)
  refine Plain.struct Tryd.underlying60 (by kernel_rfl) ?_
  change FP enc Tryd.prog W 0 _ true 0 [_, _] ([.i64] ++ ([.i64] ++ []))
  exact FP.cons i1 rfl (FP.cons i1 rfl (FP.nil _))
theorem take_Op {H : Type} {enc : TypeId × Value → H} {W : World} {a : Option Addr} {len cap : Nat} {d : DataW H} {p : List MemPlace} {ts : List TypeId} {ds : List (DataW H)} (j : Nat)
    (h : DataW.Trod enc Tryd.prog W 0 (fun _ => true) true 58 (.slice a len cap) d p) (hsz : (DataW.weightsEach Tryd.prog ts ds).all (· ≤ reachBytes) = true) (hj : ts[j]? = some 58) (hd : ds[j]? = some d) :
    ∃ rows : List (List Int), rows.length = len ∧ (Recs opKinds W a rows ∧ ∀ r ∈ rows, r.length = opKinds.length ∧ wfs opKinds r) ∧ len * 16 ≤ 140737488351232 ∧ len ≤ cap ∧ cap ≤ 9223372036854775807 :=
  take_recs j Tryd.underlying58 plain_op (by decide) (by kernel_rfl) h hsz hj hd
theorem rec2 {r : List Int} (hl : r.length = 2) : ∃ K I : Int, zipInts opKinds r = [.int .i64 K, .int .i64 I] := by
  match r, hl with
  | [K, I], _ => exact ⟨K, I, rfl⟩
theorem getD_mem' {l : List (List Int)} {k : Nat} (hk : k < l.length) : l.getD k [] ∈ l := by
  rw [List.getD_eq_getElem?_getD, List.getElem?_eq_getElem hk]; exact List.getElem_mem _

set_option maxHeartbeats 2000000 in
theorem cur_span {w : World} {c t : Nat} {lo hi at_ : Int} {dn : Bool} (h : IsCur w c t lo hi at_ dn) :
    Calls Tryd.prog 33 #[.pointer (some ⟨c, 0, none⟩)] w fun e w' => e = .returned (.agg #[.int .i64 lo, .int .i64 hi]) ∧ Only0 w w' := by
  obtain ⟨c0, c1, c2, c3, c7⟩ := cells_cur h
  have hlt : c < w.heap.size := Blk.lt h
  obtain ⟨W, hW⟩ : ∃ W, W = w.alloc (.cells #[.int .i64 0, .int .i64 0] 62) := ⟨_, rfl⟩
  have H1 : IsCur W c t lo hi at_ dn := by rw [hW]; exact Blk.alloc h _
  obtain ⟨d0, d1, d2, d3, d7⟩ := cells_cur H1
  have hne : w.heap.size ≠ c := by omega
  clear H1 h d0 d3 d7 c0 c3 c7
  go_enter Tryd.func33, Tryd.ntmps33
  go_wp2_with fail
  rw [← hW]
  go_region
  go_wp2_with fail
  exact bodyPost_ret (v := .agg #[.int .i64 lo, .int .i64 hi]) (by simp [results, Tryd.results33, go_sem]) rfl ⟨rfl, ((Only0.refl w).alloc _).drew⟩
set_option maxHeartbeats 1000000 in
theorem cur_new_bad (w : World) (t : Nat) (lo hi : Int) (hb : ¬ (0 ≤ lo ∧ hi ≤ 63 ∧ lo ≤ hi)) : Calls Tryd.prog 28 #[.pointer (some ⟨t, 0, none⟩), .int .i64 lo, .int .i64 hi] w fun e w' => e = .returned (.tuple #[.pointer none, .int .i64 1]) ∧ w = w' := by
  have hd : lo < 0 ∨ (0 ≤ lo ∧ 63 < lo) ∨ (0 ≤ lo ∧ lo ≤ 63 ∧ hi < 0) ∨ (0 ≤ lo ∧ lo ≤ 63 ∧ 0 ≤ hi ∧ 63 < hi) ∨ (0 ≤ lo ∧ lo ≤ 63 ∧ 0 ≤ hi ∧ hi ≤ 63 ∧ hi < lo) := by omega
  clear hb
  rcases hd with h | ⟨h1, h2⟩ | ⟨h1, h2, h3⟩ | ⟨h1, h2, h3, h4⟩ | ⟨h1, h2, h3, h4, h5⟩
  all_goals
    go_enter Tryd.func28, Tryd.ntmps28
    go_wp2_with fail
    go_ret2
    exact ⟨rfl, rfl⟩

/-- A Cursor over a Tower, and the document's Tower with the same heights. -/
structure CR (w0 w : World) (c t a b r : Nat) (lo hi at_ : Int) (dn : Bool) (H : Nat → Nat) : Prop where
  cw : CW w0 w c t a b lo hi at_ dn H
  rf : IsRef w r H
  gr : w0.heap.size ≤ r
  nr : ¬ Three a b c r
  nt : t ≠ r
theorem CR.only0 {w0 w w' : World} {c t a b r : Nat} {lo hi at_ : Int} {dn : Bool} {H : Nat → Nat} (h : CR w0 w c t a b r lo hi at_ dn H) (hT : Tab w0) (o : Only0 w w') : CR w0 w' c t a b r lo hi at_ dn H :=
  ⟨h.cw.only hT (S := fun _ => False) o (fun _ h => h.elim) (fun h => h) (fun h => h) (fun h => h) (fun h => h), Only.blk o h.rf (fun h => h), h.gr, h.nr, h.nt⟩
theorem CR.lts {w0 w : World} {c t a b r : Nat} {lo hi at_ : Int} {dn : Bool} {H : Nat → Nat} (h : CR w0 w c t a b r lo hi at_ dn H) : a < w.heap.size ∧ b < w.heap.size ∧ c < w.heap.size ∧ r < w.heap.size := by
  obtain ⟨c', hA⟩ := h.cw.tw.th.tow.arena
  exact ⟨hA.head.lt, hA.words.lt, Blk.lt h.cw.cur, Blk.lt h.rf⟩
/-- The Tower has turned, then the document's. -/
theorem CR.both {w0 w w1 w2 : World} {c t a b r : Nat} {lo hi at_ : Int} {dn : Bool} {H H' : Nat → Nat} (h : CR w0 w c t a b r lo hi at_ dn H) (hT : Tab w0) (h1 : TW w0 w1 t a b H') (o1 : Only (Two a b) w w1) (h2 : IsRef w2 r H') (o2 : Only (fun b => b = r) w1 w2) : CR w0 w2 c t a b r lo hi at_ dn H' :=
  ⟨(h.cw.turned h1 o1).only hT o2 (fun k hk => by subst hk; exact h.gr) h.nt (fun e => h.nr (.inl (.inl e.symm))) (fun e => h.nr (.inl (.inr e.symm))) (fun e => h.nr (.inr e.symm)), h2, h.gr, h.nr, h.nt⟩
theorem CR.next {w0 w w' : World} {c t a b r : Nat} {lo hi at_ at' : Int} {dn dn' : Bool} {H : Nat → Nat} (h : CR w0 w c t a b r lo hi at_ dn H) (h' : CW w0 w' c t a b lo hi at' dn' H) (o : Only (Three a b c) w w') : CR w0 w' c t a b r lo hi at' dn' H :=
  ⟨h', Only.blk o h.rf h.nr, h.gr, h.nr, h.nt⟩
/-- Where the next key is looked for, as the law reckons. -/
theorem fromAt_k (lo : Int) (k : Nat) (h : lo ≤ (k : Int)) : fromAt lo (k : Int) = (k : Int) + 1 := by unfold fromAt; rw [if_pos (by omega)]
theorem fromK_ge {H : Nat → Nat} {key : Int} {k : Nat} (h : fromK H key = some k) : key ≤ (k : Int) ∧ 0 < H k := by
  rw [fromK, List.find?_range_eq_some] at h
  have := h.1; simp at this; exact ⟨this.2, this.1⟩

set_option maxRecDepth 100000 in
set_option maxHeartbeats 32000000 in
theorem cursorPlays_walk (keys lo hi : Int) (la : Option Addr) (lc : Nat) (l : List (List Int)) (w : World) (h0 : (Lit.int .u64 keys).wf = true) (_h1 : (Lit.int .i64 lo).wf = true) (_h2 : (Lit.int .i64 hi).wf = true)
    (hl : Recs opKinds w la l ∧ ∀ r ∈ l, r.length = opKinds.length ∧ wfs opKinds r) (hr : l.length * 16 ≤ 140737488351232) (hlc : l.length ≤ lc) (hc63 : lc ≤ 9223372036854775807) (hT : Tab w) :
    Calls Tryd.prog 11 #[.int .u64 keys, .int .i64 lo, .int .i64 hi, .slice la l.length lc] w fun e w' => e = .returned (.bool true) ∧ Below w.heap.size w w' := by
  obtain ⟨X, rfl, hX⟩ := u64_nat h0
  obtain ⟨hl1, hl2⟩ := hl
  have HL1 := Lib.hid hl1
  have HL2 := Lib.hid hl2
  have HT := Lib.hid hT
  clear hT h0 hl1 hl2
  go_enter Tryd.func11, Tryd.ntmps11
  go_wp2_with fail
  refine (tw_new w HT.out (Below.refl _ _)).mono ?_
  rintro e w1 ⟨t, a, b, rfl, k1, o1, g1, g2, g3⟩
  clear o1 g1 g2 g3
  go_wp2_with fail
  obtain ⟨L1, L2, L3⟩ := k1.lts
  generalize hW : World.alloc w1 _ = W
  have hR : IsRef W w1.heap.size (fun _ => 0) := by rw [← hW]; exact Blk.new w1 46 _
  have k2 : TW w W t a b (fun _ => 0) := by rw [← hW]; exact k1.alloc HT.out _
  have gr := k1.bel.size
  have nt : t ≠ w1.heap.size := by omega
  have nr : ¬ Two a b w1.heap.size := by rintro (e | e) <;> omega
  generalize w1.heap.size = r at hR gr nt nr
  clear hW k1 L1 L2 L3
  refine (awake12_any W W k2.tab (Below.refl _ _)).mono ?_
  rintro e w2 ⟨rfl, hb⟩
  have K : RW w w2 t a b r (hUp X 0 (fun i => i % 4 + 1)) := by
    rw [hUp_0]
    exact RW.only0 ⟨k2, hR, gr, nr, nt⟩ HT.out (Below.only0 hb)
  clear k2 hR gr nr nt hb
  go_wp2_with fail
  go_loopw [11] (fun i wr => ∃ j : Nat, j ≤ 64 ∧ i = .int .i64 j ∧ RW w wr t a b r (hUp X j (fun i => i % 4 + 1))) (fun i _ => 64 - (intOf i).toNat)
  case atStart => exact ⟨0, by omega, rfl, K⟩
  case round =>
    clear K
    obtain ⟨k, hj, rfl, K⟩ := hrel
    by_cases hlt : k < 64
    · rcases bit_fact X k with ⟨br, tr⟩ | ⟨br, tr⟩
      · rw [hUp_no X k _ tr] at K
        clear tr
        go_wp2_with fail
        go_roundw
        case rel => exact ⟨k + 1, by omega, by go_num, K⟩
        case measure => simp [intOf]; omega
      · obtain ⟨q, hq, hq2⟩ := nat_rem (k : Int) 4 (by omega)
        have m3 := i64_and3 (k : Int)
        rw [hq] at m3
        obtain ⟨P, hP⟩ : ∃ P : Nat, (q : Int) + 1 = P := ⟨q + 1, by omega⟩
        have hP2 : k % 4 + 1 = P := by omega
        have hY := hUp_yes X k (fun i => i % 4 + 1) hlt tr
        simp only [hP2] at hY
        have C := tw_put_new K.tw HT.out k P (by omega) (by omega) (by omega) (hUp_off X k _)
        rw [hY] at C
        have HY := Lib.hid hY
        have HO := Lib.hid (hUp_off X k (fun i => i % 4 + 1))
        clear tr hq hP2 hY
        go_wp2_with fail
        refine C.mono ?_
        rintro e w3 ⟨rfl, k3, o3⟩
        have D := ref_put_new (Only.blk o3 K.rf K.nr : IsRef w3 r _) k P (by omega) (by omega) (by omega) HO.out
        rw [HY.out] at D
        clear C
        go_wp2_with fail
        refine D.mono ?_
        rintro e w4 ⟨rfl, r4, o4⟩
        have K4 := K.put HT.out k3 o3 r4 o4
        go_wp2_with fail
        go_roundw
        case rel => exact ⟨k + 1, by omega, by go_num, K4⟩
        case measure => simp [intOf]; omega
    · have e64 : (k : Int) = 64 := by omega
      rw [e64]; clear e64
      obtain rfl : k = 64 := by omega
      generalize hUp X 64 (fun i => i % 4 + 1) = H0 at K
      by_cases hg : 0 ≤ lo ∧ hi ≤ 63 ∧ lo ≤ hi
      · obtain ⟨g1, g2, g3⟩ := hg
        have C := cw_new K.tw HT.out lo hi g1 g3 g2
        go_wp2_with fail
        refine C.mono ?_
        rintro e w3 ⟨rfl, c3, o3⟩
        have KK : CR w w3 wr.heap.size t a b r lo hi (-1) false H0 := ⟨c3, Only.blk o3 K.rf (fun h => h), K.gr, by
          have := Blk.lt K.rf
          rintro (e | e)
          · exact K.nr e
          · omega, K.nt⟩
        clear C c3 o3 K
        generalize wr.heap.size = c at KK
        have f0 : lo = fromAt lo (-1) := by unfold fromAt; split <;> omega
        have F0 := Lib.hid f0
        clear f0
        go_wp2_with fail
        go_loopw [15, 16, 17, 18] (fun at1 fr1 dn1 i wr => ∃ (n : Nat) (atv : Int) (dn : Bool) (H : Nat → Nat), n ≤ l.length ∧ n ≤ 100 ∧ i = .int .i64 n ∧ at1 = .int .i64 atv ∧ fr1 = .int .i64 (fromAt lo atv) ∧ dn1 = .bool dn ∧ CR w wr c t a b r lo hi atv dn H) (fun _ _ _ i _ => 100 - (intOf i).toNat)
        case atStart => exact ⟨0, -1, false, H0, by omega, by omega, rfl, rfl, by rw [← F0.out], rfl, KK⟩
        case round =>
          clear KK
          obtain ⟨n, atv, dn, H, hn1, hn2, rfl, rfl, rfl, rfl, KR⟩ := hrel
          by_cases hlt : n < l.length ∧ n < 100
          · obtain ⟨hlt1, hlt2⟩ := hlt
            obtain ⟨bl, off, rfl, hcl⟩ := HL1.out.at (by omega)
            obtain ⟨Kd, I, hrow⟩ := rec2 (HL2.out _ (getD_mem' hlt1)).1
            have q0 := hcl n 0 hlt1 (by decide)
            have q1 := hcl n 1 hlt1 (by decide)
            rw [hrow] at q0 q1
            have hbw := block_lt_of_cell q0
            rw [← KR.cw.tw.bel.cell (p := ⟨bl, off + n * opKinds.length + 0, none⟩) hbw] at q0
            rw [← KR.cw.tw.bel.cell (p := ⟨bl, off + n * opKinds.length + 1, none⟩) hbw] at q1
            simp only [show opKinds.length = 2 from rfl, Nat.add_zero] at q0 q1
            have i0 : (0 : Int) ≤ (n : Int) := by omega
            have i1 : (n : Int) < (l.length : Int) := by omega
            have i2 : (n : Int) < 100 := by omega
            have hX1 := Blk.new wr 60 #[.int .i64 Kd, .int .i64 I]
            have KA := KR.only0 HT.out ((Only0.refl wr).alloc (.cells #[.int .i64 Kd, .int .i64 I] 60))
            obtain ⟨la1, lb1, lc1, lr1⟩ := KR.lts
            have HX := Lib.hid hX1
            clear hcl hrow hX1 KR
            by_cases hK1 : Kd = 1
            · subst hK1
              have C := tw_put_f KA.cw.tw HT.out I 2
              go_wp2_with fail
              refine C.mono ?_
              rintro e w5 ⟨rfl, k5, o5⟩
              have x5 : w5.cell? ⟨wr.heap.size, 1, none⟩ = some (.int .i64 I) := by
                rw [(o5.blk HX.out (by rintro (e | e) <;> omega)).cell]; rfl
              have D := ref_put_f (Only.blk o5 KA.rf (fun e => KA.nr (.inl e)) : IsRef w5 r H) I 2
              clear C
              go_wp2_with fail
              refine D.mono ?_
              rintro e w6 ⟨rfl, r6, o6⟩
              have K6 := KA.both HT.out k5 o5 r6 o6
              clear D KA x5 k5 o5 r6 o6 q0 q1
              go_wp2_with fail
              refine (cur_at K6.cw.cur).mono ?_
              rintro e wz ⟨rfl, rfl⟩
              go_wp2_with fail
              refine (cur_done K6.cw.cur).mono ?_
              rintro e wz ⟨rfl, rfl⟩
              go_wp2_with fail
              refine (cur_span K6.cw.cur).mono ?_
              rintro e wz ⟨rfl, oz⟩
              have KZ := K6.only0 HT.out oz
              clear K6
              go_wp2_with fail
              go_roundw
              case rel => exact ⟨n + 1, atv, dn, _, by omega, by omega, by go_num, rfl, rfl, rfl, KZ⟩
              case measure => simp [intOf]; omega
            · by_cases hK2 : Kd = 2
              · subst hK2
                have C := tw_drop_f KA.cw.tw HT.out I
                clear hK1
                go_wp2_with fail
                refine C.mono ?_
                rintro e w5 ⟨rfl, k5, o5⟩
                have x5 : w5.cell? ⟨wr.heap.size, 1, none⟩ = some (.int .i64 I) := by
                  rw [(o5.blk HX.out (by rintro (e | e) <;> omega)).cell]; rfl
                have r5 : IsRef w5 r H := Only.blk o5 KA.rf (fun e => KA.nr (.inl e))
                clear C
                by_cases hin : 0 ≤ I ∧ I ≤ 63
                · obtain ⟨in0, in1⟩ := hin
                  obtain ⟨k, rfl⟩ := Int.eq_ofNat_of_zero_le in0
                  have hk64 : k < 64 := by omega
                  have in2 : (k : Int) < 64 := by omega
                  have hdf : dropF H (k : Int) = upd H k 0 := by
                    have : isKeyB (k : Int) = true := (isKeyB_iff _).2 ⟨in0, in1⟩
                    simp [dropF, this]
                  rw [hdf] at k5
                  have y5 := r5.cell k hk64
                  have f5 := Blk.free r5 k
                  have s5 := Lib.hid (IsRef.set (Blk.drew r5) k 0 hk64)
                  have hne : wr.heap.size ≠ r := by omega
                  clear hdf r5
                  go_wp2_with fail
                  go_region
                  have K6 := KA.both HT.out k5 o5 s5.out (Only.setCell (p := ⟨r, k, none⟩) ((Only.refl (fun b => b = r) w5).drew) (fun _ => rfl) _)
                  clear KA x5 k5 o5 s5 y5 f5 q0 q1
                  go_wp2_with fail
                  refine (cur_at K6.cw.cur).mono ?_
                  rintro e wz ⟨rfl, rfl⟩
                  go_wp2_with fail
                  refine (cur_done K6.cw.cur).mono ?_
                  rintro e wz ⟨rfl, rfl⟩
                  go_wp2_with fail
                  refine (cur_span K6.cw.cur).mono ?_
                  rintro e wz ⟨rfl, oz⟩
                  have KZ := K6.only0 HT.out oz
                  clear K6
                  go_wp2_with fail
                  go_roundw
                  case rel => exact ⟨n + 1, atv, dn, _, by omega, by omega, by go_num, rfl, rfl, rfl, KZ⟩
                  case measure => simp [intOf]; omega
                · have hdf : dropF H I = H := by
                    have : isKeyB I = false := by
                      rw [← Bool.not_eq_true, isKeyB_iff]; exact hin
                    simp [dropF, this]
                  rw [hdf] at k5
                  have K6 := KA.both HT.out k5 o5 r5 (Only.refl _ w5)
                  have hd : I < 0 ∨ (0 ≤ I ∧ 63 < I) := by omega
                  clear hdf r5 hin KA k5 o5 q0 q1
                  rcases hd with hd | ⟨hd1, hd2⟩
                  · go_wp2_with fail
                    refine (cur_at K6.cw.cur).mono ?_
                    rintro e wz ⟨rfl, rfl⟩
                    go_wp2_with fail
                    refine (cur_done K6.cw.cur).mono ?_
                    rintro e wz ⟨rfl, rfl⟩
                    go_wp2_with fail
                    refine (cur_span K6.cw.cur).mono ?_
                    rintro e wz ⟨rfl, oz⟩
                    have KZ := K6.only0 HT.out oz
                    clear K6
                    go_wp2_with fail
                    go_roundw
                    case rel => exact ⟨n + 1, atv, dn, _, by omega, by omega, by go_num, rfl, rfl, rfl, KZ⟩
                    case measure => simp [intOf]; omega
                  · go_wp2_with fail
                    refine (cur_at K6.cw.cur).mono ?_
                    rintro e wz ⟨rfl, rfl⟩
                    go_wp2_with fail
                    refine (cur_done K6.cw.cur).mono ?_
                    rintro e wz ⟨rfl, rfl⟩
                    go_wp2_with fail
                    refine (cur_span K6.cw.cur).mono ?_
                    rintro e wz ⟨rfl, oz⟩
                    have KZ := K6.only0 HT.out oz
                    clear K6
                    go_wp2_with fail
                    go_roundw
                    case rel => exact ⟨n + 1, atv, dn, _, by omega, by omega, by go_num, rfl, rfl, rfl, KZ⟩
                    case measure => simp [intOf]; omega
              · have nk1 : (Kd == 1) = false := by simp [hK1]
                have nk2 : (Kd == 2) = false := by simp [hK2]
                have frr : ∃ fr, fr = fromAt lo atv := ⟨_, rfl⟩
                obtain ⟨fr, hfr⟩ := frr
                rw [← hfr]
                have RG := fun (wx : World) (rx : IsRef wx r H) => ref_range rx fr hi
                have HRG := Lib.hid RG
                clear RG
                cases dn with
                | true =>
                  have C := cw_over KA.cw
                  have FR := Lib.hid hfr
                  clear hfr
                  go_wp2_with fail
                  refine C.mono ?_
                  rintro e w5 ⟨rfl, rfl⟩
                  clear C
                  go_wp2_with fail
                  refine (HRG.out _ KA.rf).mono ?_
                  rintro e w6 ⟨v, rfl, tv, o6⟩
                  obtain ⟨sa, sc, rfl, _, _, _, _⟩ := tv.form
                  have K6 := KA.only0 HT.out o6
                  clear tv KA o6 q0 q1 HRG
                  go_wp2_with fail
                  refine (cur_at K6.cw.cur).mono ?_
                  rintro e wz ⟨rfl, rfl⟩
                  go_wp2_with fail
                  refine (cur_done K6.cw.cur).mono ?_
                  rintro e wz ⟨rfl, rfl⟩
                  go_wp2_with fail
                  refine (cur_span K6.cw.cur).mono ?_
                  rintro e wz ⟨rfl, oz⟩
                  have KZ := K6.only0 HT.out oz
                  clear K6
                  go_wp2_with fail
                  go_roundw
                  case rel => exact ⟨n + 1, atv, true, _, by omega, by omega, by go_num, rfl, (by rw [FR.out]), rfl, KZ⟩
                  case measure => simp [intOf]; omega
                | false =>
                  have hh := @range_from H fr hi
                  cases hf : fromK H fr with
                  | none =>
                    rw [hf] at hh
                    have hnil : rangeK H fr hi = [] := by simpa using hh
                    have C := cw_none KA.cw HT.out (fun k hk => by rw [← hfr, hf] at hk; cases hk)
                    have FR := Lib.hid hfr
                    have HN := Lib.hid hnil
                    clear hfr hh hnil hf
                    go_wp2_with fail
                    refine C.mono ?_
                    rintro e w5 ⟨rfl, c5, o5⟩
                    have K5 := KA.next c5 o5
                    clear C KA c5 o5
                    go_wp2_with fail
                    refine (HRG.out _ K5.rf).mono ?_
                    rintro e w6 ⟨v, rfl, tv, o6⟩
                    rw [HN.out] at tv
                    obtain ⟨sa, sc, rfl, _, _, _, _⟩ := tv.form
                    have K6 := K5.only0 HT.out o6
                    clear tv K5 o6 q0 q1 HRG
                    go_wp2_with fail
                    refine (cur_at K6.cw.cur).mono ?_
                    rintro e wz ⟨rfl, rfl⟩
                    go_wp2_with fail
                    refine (cur_done K6.cw.cur).mono ?_
                    rintro e wz ⟨rfl, rfl⟩
                    go_wp2_with fail
                    refine (cur_span K6.cw.cur).mono ?_
                    rintro e wz ⟨rfl, oz⟩
                    have KZ := K6.only0 HT.out oz
                    clear K6
                    go_wp2_with fail
                    go_roundw
                    case rel => exact ⟨n + 1, atv, true, _, by omega, by omega, by go_num, rfl, (by rw [FR.out]), rfl, KZ⟩
                    case measure => simp [intOf]; omega
                  | some k =>
                    rw [hf] at hh
                    by_cases hle : (k : Int) ≤ hi
                    · simp only [hle, if_true] at hh
                      obtain ⟨rest, hrest⟩ : ∃ rest, rangeK H fr hi = k :: rest := by
                        cases hr2 : rangeK H fr hi with
                        | nil => rw [hr2] at hh; simp at hh
                        | cons x xs => rw [hr2] at hh; simp at hh; exact ⟨xs, by rw [hh]⟩
                      have C := cw_some KA.cw HT.out k (by rw [← hfr]; exact hf) hle
                      have hge := fromK_ge hf
                      have hlok : lo ≤ (k : Int) := by have := hge.1; have h2 : lo ≤ fromAt lo atv := by unfold fromAt; split <;> omega
                                                       omega
                      have hk64 := fromK_lt hf
                      have HR := Lib.hid hrest
                      clear hfr hh hrest hf hge
                      go_wp2_with fail
                      refine C.mono ?_
                      rintro e w5 ⟨rfl, c5, o5⟩
                      have K5 := KA.next c5 o5
                      clear C KA c5 o5
                      go_wp2_with fail
                      refine (HRG.out _ K5.rf).mono ?_
                      rintro e w6 ⟨v, rfl, tv, o6⟩
                      rw [HR.out] at tv
                      have hlen : (k :: rest).length ≤ 64 := by
                        rw [← HR.out]
                        have := List.length_filter_le (inR fr hi) (kl H 0)
                        have := kl_len H 0
                        unfold rangeK; omega
                      obtain ⟨sa, sc, rfl, q2, q3, _, _⟩ := tv.form
                      obtain ⟨g, rfl, hg0⟩ := tv.cellAt 0 (by simp)
                      have hg1 : w6.cell? ⟨g, 0, none⟩ = some (.int .i64 k) := hg0
                      have K6 := K5.only0 HT.out o6
                      obtain ⟨N, hN⟩ : ∃ N, N = (k :: rest).length := ⟨_, rfl⟩
                      rw [← hN] at hlen q2 ⊢
                      have hN0 : 0 < N := by rw [hN]; simp
                      have hN1 : (0 : Int) < (N : Int) := by omega
                      have hN2 : ((N : Int) == 0) = false := by simp; omega
                      clear tv K5 o6 q0 q1 HRG hg0 hN HR
                      go_wp2_with fail
                      refine (cur_at K6.cw.cur).mono ?_
                      rintro e wz ⟨rfl, rfl⟩
                      go_wp2_with fail
                      refine (cur_done K6.cw.cur).mono ?_
                      rintro e wz ⟨rfl, rfl⟩
                      go_wp2_with fail
                      refine (cur_span K6.cw.cur).mono ?_
                      rintro e wz ⟨rfl, oz⟩
                      have KZ := K6.only0 HT.out oz
                      clear K6
                      go_wp2_with fail
                      go_roundw
                      case rel => exact ⟨n + 1, (k : Int), false, _, by omega, by omega, by go_num, rfl, (by rw [fromAt_k _ _ hlok]), rfl, KZ⟩
                      case measure => simp [intOf]; omega
                    · simp only [hle, if_false] at hh
                      have hnil : rangeK H fr hi = [] := by simpa using hh
                      have C := cw_none KA.cw HT.out (fun j hj => by rw [← hfr, hf] at hj; cases hj; omega)
                      have FR := Lib.hid hfr
                      have HN := Lib.hid hnil
                      clear hfr hh hnil hf
                      go_wp2_with fail
                      refine C.mono ?_
                      rintro e w5 ⟨rfl, c5, o5⟩
                      have K5 := KA.next c5 o5
                      clear C KA c5 o5
                      go_wp2_with fail
                      refine (HRG.out _ K5.rf).mono ?_
                      rintro e w6 ⟨v, rfl, tv, o6⟩
                      rw [HN.out] at tv
                      obtain ⟨sa, sc, rfl, _, _, _, _⟩ := tv.form
                      have K6 := K5.only0 HT.out o6
                      clear tv K5 o6 q0 q1 HRG
                      go_wp2_with fail
                      refine (cur_at K6.cw.cur).mono ?_
                      rintro e wz ⟨rfl, rfl⟩
                      go_wp2_with fail
                      refine (cur_done K6.cw.cur).mono ?_
                      rintro e wz ⟨rfl, rfl⟩
                      go_wp2_with fail
                      refine (cur_span K6.cw.cur).mono ?_
                      rintro e wz ⟨rfl, oz⟩
                      have KZ := K6.only0 HT.out oz
                      clear K6
                      go_wp2_with fail
                      go_roundw
                      case rel => exact ⟨n + 1, atv, true, _, by omega, by omega, by go_num, rfl, (by rw [FR.out]), rfl, KZ⟩
                      case measure => simp [intOf]; omega
          · have hd : n = l.length ∨ (n < l.length ∧ n = 100) := by omega
            have hbel := KR.cw.tw.bel
            clear KR hlt
            rcases hd with hd | ⟨hd1, hd2⟩
            · have hd2 : ¬ n < l.length := by omega
              go_wp2_with fail
              go_ret
              exact ⟨rfl, hbel⟩
            · have i1 : (n : Int) < (l.length : Int) := by omega
              have i2 : ¬ (n : Int) < 100 := by omega
              go_wp2_with fail
              go_ret
              exact ⟨rfl, hbel⟩
      · have C := cur_new_bad wr t lo hi hg
        have hd : lo < 0 ∨ (0 ≤ lo ∧ 63 < hi) ∨ (0 ≤ lo ∧ hi ≤ 63 ∧ hi < lo) := by omega
        clear hg
        rcases hd with hd | ⟨hd1, hd2⟩ | ⟨hd1, hd2, hd3⟩
        all_goals
          go_wp2_with fail
          refine C.mono ?_
          rintro e w3 ⟨rfl, rfl⟩
          go_wp2_with fail
          go_ret
          exact ⟨rfl, K.tw.bel⟩
end Go.Proofs.YtndmimljnhieiaaDoor

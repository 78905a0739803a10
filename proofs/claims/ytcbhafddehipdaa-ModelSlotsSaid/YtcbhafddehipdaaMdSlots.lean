/-
  ModelSlots: the walk.
-/
import Derived.Test.YtcbhafddehipdaaMdSlP
namespace Go.Proofs.Ytcbhafddehipdaa
open Go.RowKit
set_option linter.unusedVariables false
set_option linter.unusedSimpArgs false

theorem lev30 (x : Int) : ∃ q r : Nat, bits .and .i64 x 255 = (q : Int) ∧ q < 256 ∧ ((q : Int) % 30) = (r : Int) ∧ r < 30 := by
  have h := i64_and255 x
  refine ⟨(x % 256).toNat, (x % 256).toNat % 30, by rw [h]; omega, by omega, by omega, by omega⟩
set_option maxRecDepth 100000 in
set_option maxHeartbeats 16000000 in
theorem modelSlots_walk (slots : Int) (w : World) (_w0 : (Lit.int .i64 slots).wf = true) :
    Calls Try.prog 16 #[.int .i64 slots] w fun e w' => e = .returned (.bool true) ∧ Below w.heap.size w w' := by
  obtain ⟨q0, r, e0, hq0, f0, hr⟩ := lev30 slots
  go_enter Try.func16, Try.ntmps16
  go_wp2_with fail
  refine (md_new ((r : Int) + 1) 1000 _ (by simp [confB]; omega)).mono ?_
  rintro e w1 ⟨m, rfl, h1, o1, -⟩
  have HI := Lib.hid (show LW w w1 (fun b => b = m) m (newSt ((r : Int) + 1) 1000) ∧ SlS (r + 1) 0 (newSt ((r : Int) + 1) 1000) from ⟨LW.made (Only0.refl w) h1 o1, SlS.new _ _ (by omega)⟩)
  clear h1 o1
  go_wp2_with fail
  go_loopw [5] (fun s8 wr => ∃ (q : Nat) (P : Nat → Prop) (s : St), s8 = .int .i64 q ∧ q ≤ r + 1 ∧ Hid (LW w wr P m s ∧ SlS (r + 1) q s)) (fun s8 _ => 100 - (intOf s8).toNat)
  case atStart => exact ⟨0, _, _, rfl, by omega, HI⟩
  case round =>
    obtain ⟨q, P, s, rfl, hq, HL⟩ := hrel
    clear HI
    by_cases hlt : q < r + 1
    · obtain ⟨s1, hb1, B1⟩ := HL.out.2.begun (by omega)
      obtain ⟨s2, hd1, D1⟩ := B1.done hlt (by omega)
      obtain ⟨s3, hc1, C1⟩ := D1.commit (by omega)
      have hu : s3.l.length = q + 1 := by rw [C1.c.l]; simp
      have HB := Lib.hid hb1
      have HD := Lib.hid hd1
      have HC := Lib.hid hc1
      have HS := Lib.hid C1
      clear hb1 hd1 hc1 B1 D1 C1
      by_cases h0 : q = 0
      · subst h0
        go_wp2_with fail
        refine (lw_begin HL.out.1 0 1 HB.out).mono ?_
        rintro e w2 ⟨P2, rfl, L2, -, -⟩
        have L3 := L2.only0 (((Only0.refl w2).alloc (.cells #[.int .i64 2, .int .i64 1, .int .i64 0, .int .i64 0] 31)))
        clear HL L2
        go_wp2_with fail
        refine (lw_do L3 0 2 1 0 0 HD.out).mono ?_
        rintro e w3 ⟨P3, a3, c3, rfl, L4, -, -⟩
        have L4' := L4.alloc (.cells #[.int .i64 0, .int .i64 0, .slice a3 0 c3, .int .i64 0, .int .i64 0] 27)
        have X4 := L4.box 27 #[.int .i64 0, .int .i64 0, .slice a3 0 c3, .int .i64 0, .int .i64 0]
        clear L3 L4
        go_wp2_with fail
        refine (lw_do L4' 0 6 0 0 0 HC.out).mono ?_
        rintro e w4 ⟨P4, a4, c4, rfl, L5, o5, g5⟩
        have X5 := (X4.step o5 g5).alloc (.cells #[.int .i64 0, .int .i64 0, .slice a4 0 c4, .int .i64 3, .int .i64 0] 27)
        have x0 : (w4.alloc (.cells #[.int .i64 0, .int .i64 0, .slice a4 0 c4, .int .i64 3, .int .i64 0] 27)).cell? ⟨w3.heap.size, 0, none⟩ = some (.int .i64 0) := X5.1.cell 0
        have HL5 := Lib.hid (L5.alloc (.cells #[.int .i64 0, .int .i64 0, .slice a4 0 c4, .int .i64 3, .int .i64 0] 27))
        clear L4' L5 X4 X5 o5 g5
        go_wp2_with fail
        refine (md_used HL5.out.mat).mono ?_
        rintro e w5 ⟨rfl, rfl⟩
        rw [hu]
        go_wp2_with fail
        go_roundw
        case rel => exact ⟨0 + 1, _, _, by go_num, by omega, ⟨HL5.out, HS.out⟩⟩
        case measure => simp [intOf] <;> omega
      · have hqz : ¬ ((q : Int) = 0) := by omega
        go_wp2_with fail
        refine (lw_begin HL.out.1 0 1 HB.out).mono ?_
        rintro e w2 ⟨P2, rfl, L2, -, -⟩
        have L3 := L2.only0 (((Only0.refl w2).alloc (.cells #[.int .i64 3, .int .i64 1, .int .i64 0, .int .i64 (q : Int)] 31)))
        clear HL L2
        go_wp2_with fail
        refine (lw_do L3 0 3 1 0 (q : Int) (by have h := HD.out; rw [if_neg h0] at h; exact h)).mono ?_
        rintro e w3 ⟨P3, a3, c3, rfl, L4, -, -⟩
        have L4' := L4.alloc (.cells #[.int .i64 0, .int .i64 0, .slice a3 0 c3, .int .i64 0, .int .i64 0] 27)
        have X4 := L4.box 27 #[.int .i64 0, .int .i64 0, .slice a3 0 c3, .int .i64 0, .int .i64 0]
        clear L3 L4
        go_wp2_with fail
        refine (lw_do L4' 0 6 0 0 0 HC.out).mono ?_
        rintro e w4 ⟨P4, a4, c4, rfl, L5, o5, g5⟩
        have X5 := (X4.step o5 g5).alloc (.cells #[.int .i64 0, .int .i64 0, .slice a4 0 c4, .int .i64 3, .int .i64 0] 27)
        have x0 : (w4.alloc (.cells #[.int .i64 0, .int .i64 0, .slice a4 0 c4, .int .i64 3, .int .i64 0] 27)).cell? ⟨w3.heap.size, 0, none⟩ = some (.int .i64 0) := X5.1.cell 0
        have HL5 := Lib.hid (L5.alloc (.cells #[.int .i64 0, .int .i64 0, .slice a4 0 c4, .int .i64 3, .int .i64 0] 27))
        clear L4' L5 X4 X5 o5 g5
        go_wp2_with fail
        refine (md_used HL5.out.mat).mono ?_
        rintro e w5 ⟨rfl, rfl⟩
        rw [hu]
        go_wp2_with fail
        go_roundw
        case rel => exact ⟨q + 1, _, _, by go_num, by omega, ⟨HL5.out, HS.out⟩⟩
        case measure => simp [intOf] <;> omega
    · obtain rfl : q = r + 1 := by omega
      obtain ⟨s1, hb1, B1⟩ := HL.out.2.begun (by omega)
      obtain ⟨s2, hd1, E1⟩ := B1.full (by omega)
      have HB := Lib.hid hb1
      have HD := Lib.hid hd1
      have hl : s2.live.length = 0 := by rw [live_none E1.tx]; rfl
      have hu : s2.l.length = r + 1 := by rw [E1.c.l]; simp
      have hk : s2.kept.length = 1 := by rw [E1.kept hr]; rfl
      have hcl : s2.collect.l.length = 1 := hk
      have hp := E1.pairs hr
      have HP := Lib.hid (show s2.collect.pairs s2.collect.now = [(1, (r : Int))] from hp)
      clear hb1 hd1 B1 E1 hp
      go_wp2_with fail
      refine (lw_begin HL.out.1 0 1 HB.out).mono ?_
      rintro e w2 ⟨P2, rfl, L2, -, -⟩
      clear HL
      go_wp2_with fail
      refine (lw_do L2 0 2 2 0 1 HD.out).mono ?_
      rintro e w3 ⟨P3, a3, c3, rfl, L3, -, -⟩
      have L3' := L3.alloc (.cells #[.int .i64 14, .int .i64 0, .slice a3 0 c3, .int .i64 4, .int .i64 5] 27)
      clear L2 L3
      go_wp2_with fail
      refine (lw_live L3' hl).mono ?_
      rintro e w4 ⟨a4, c4, rfl, L4, -⟩
      clear L3'
      go_wp2_with fail
      refine (md_used L4.mat).mono ?_
      rintro e w5 ⟨rfl, rfl⟩
      rw [hu]
      go_wp2_with fail
      refine (lw_collect L4).mono ?_
      rintro e w6 ⟨rfl, L6, -⟩
      clear L4
      rw [hu, hk]
      go_wp2_with fail
      refine (md_used L6.mat).mono ?_
      rintro e w7 ⟨rfl, rfl⟩
      rw [hcl]
      go_wp2_with fail
      refine (md_now L6.mat).mono ?_
      rintro e w8 ⟨rfl, rfl⟩
      go_wp2_with fail
      refine (md_pairs L6.mat _).mono ?_
      rintro e w9 ⟨⟨a9, c9, rfl, hp9, -⟩, o9⟩
      rw [HP.out] at hp9 ⊢
      have L9 := L6.only0 o9
      clear L6 o9
      go_wp2_with fail
      refine (samePairs_any a9 (some ⟨w9.heap.size, 0, none⟩) c9 1 [(1, (r : Int))] [(1, (r : Int))] _ (hp9.only (S := fun _ => False) ((Only0.refl w9).alloc _) (fun _ _ h => h)) (PairsIn.lit w9 _) (by simp) (by simp)).mono ?_
      rintro e w10 ⟨rfl, n10, rfl⟩
      have HO := Lib.hid ((L9.alloc (.cells #[.int .i64 1, .int .i64 r] 48)).only0 ((Only0.refl _).drewN n10)).o
      clear L9 hp9
      go_wp2_with fail
      refine (awake19_any _).mono ?_
      rintro e w11 ⟨rfl, o11⟩
      have HO8 := Lib.hid (HO.out.trans o11)
      clear o11
      go_wp2_with fail
      go_ret
      exact ⟨rfl, HO8.out.below⟩
end Go.Proofs.Ytcbhafddehipdaa

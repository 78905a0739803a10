/-
  The walks of the laws of layer 4 (the clock): each returns true, and nothing that was there turns.
-/
import Derived.Test.YtkcdadmoaeeadaaClock
import Derived.Test.YtkcdadmoaeeadaaBits
import Derived.Test.YtkcdadmoaeeadaaOpen
namespace Go.Proofs.Ytkcdadmoaeeadaa
open Go.RowKit

theorem Only.belowTwo' {a b : Nat} {w w' : World} (h : Only (Two a b) w w') (B : Nat) (hB : B ≤ w.heap.size) (ha : B ≤ a) (hb : B ≤ b) : Below B w w' :=
  h.below B hB (fun k hk => by rcases hk with rfl | rfl <;> assumption)

set_option maxHeartbeats 800000 in
/-- awake: what the document fixes. -/
theorem awake4_any (w : World) : Calls Try.prog 21 #[] w fun e w' => e = .returned (.bool true) ∧ Below w.heap.size w w' := by
  go_enter Try.func21, Try.ntmps21
  go_wp2_with fail
  refine (arena_new 3 (by omega) (by omega) w).mono ?_
  rintro e w1 ⟨rfl, h1, hb, hs⟩
  go_wp2_with fail
  refine (clock_new h1 1 1 (by omega) (by simp [AS.zero]) (by omega) (by omega)).mono ?_
  rintro e w2 ⟨rfl, rfl⟩
  have hA := (WordAt.zero 3 h1 1 (by omega) (by omega)).alloc (.cells #[.pointer (some ⟨w.heap.size + 1, 0, none⟩), .int .i64 1, .int .u64 1] 70)
  have hC : IsClock (w1.alloc (.cells #[.pointer (some ⟨w.heap.size + 1, 0, none⟩), .int .i64 1, .int .u64 1] 70)) w1.heap.size (w.heap.size + 1) 1 1 := Blk.new _ _ _
  have b2 := hb.alloc (by omega) (.cells #[.pointer (some ⟨w.heap.size + 1, 0, none⟩), .int .i64 1, .int .u64 1] 70)
  have hsz : (w1.alloc (.cells #[.pointer (some ⟨w.heap.size + 1, 0, none⟩), .int .i64 1, .int .u64 1] 70)).heap.size = w.heap.size + 3 := by simp [hs]
  generalize w1.alloc (.cells #[.pointer (some ⟨w.heap.size + 1, 0, none⟩), .int .i64 1, .int .u64 1] 70) = w2 at hA hC b2 hsz ⊢
  have hn : w1.heap.size ≠ w.heap.size + 1 ∧ w1.heap.size ≠ w.heap.size := by omega
  have HS := Lib.hid hs
  have HZ := Lib.hid hsz
  clear hs hsz h1 hb
  go_wp2_with fail
  refine (clock_draw hC hA hn (by omega) (by omega) (by omega)).mono ?_
  rintro e w3 ⟨rfl, h3, o3⟩
  have hC3 := hC.only o3 (not_two hn)
  go_wp2_with fail
  refine (clock_draw_over hC3 h3 hn (by omega)).mono ?_
  rintro e w4 ⟨rfl, h4, o4⟩
  have hC4 := hC3.only o4 (not_two hn)
  go_wp2_with fail
  refine (WordAt.load h4).mono ?_
  rintro e w5 ⟨rfl, h5, o5⟩
  have hC5 := hC4.only o5 (not_two hn)
  go_wp2_with fail
  refine (clock_limit hC5).mono ?_
  rintro e w6 ⟨rfl, rfl⟩
  go_wp2_with fail
  go_ret
  have := HZ.out
  exact ⟨rfl, b2.trans (((o3.trans o4).trans o5).belowTwo' _ (by omega) (by omega) (by omega))⟩

set_option maxHeartbeats 4000000 in
theorem clockLast_walk (limit left : Int) (w : World) (_hl : (Lit.int .u64 limit).wf = true) (_hf : (Lit.int .i64 left).wf = true) :
    Calls Try.prog 7 #[.int .u64 limit, .int .i64 left] w fun e w' => e = .returned (.bool true) ∧ Below w.heap.size w w' := by
  have hm := u64_and40 limit
  have hm2 := i64_and31 left
  have l0 : 0 ≤ limit % 1099511627776 := by omega
  have l1 : limit % 1099511627776 < 1099511627776 := by omega
  have n0 : 0 ≤ left % 32 := by omega
  have n1 : left % 32 < 32 := by omega
  generalize limit % 1099511627776 = M at *
  generalize left % 32 = N at *
  by_cases hc : M + 1 < N
  · go_enter Try.func7, Try.ntmps7
    go_wp2_with fail
    refine (arena_new 1 (by omega) (by omega) w).mono ?_
    rintro e w1 ⟨rfl, h1, hb, hs⟩
    go_wp2_with fail
    refine (clock_new h1 0 (M + 1) (by omega) (by simp [AS.zero]) (by omega) (by omega)).mono ?_
    rintro e w2 ⟨rfl, rfl⟩
    have hA := (WordAt.zero 1 h1 0 (by omega) (by omega)).alloc (.cells #[.pointer (some ⟨w.heap.size + 1, 0, none⟩), .int .i64 0, .int .u64 (M + 1)] 70)
    have hC : IsClock (w1.alloc (.cells #[.pointer (some ⟨w.heap.size + 1, 0, none⟩), .int .i64 0, .int .u64 (M + 1)] 70)) w1.heap.size (w.heap.size + 1) 0 (M + 1) := Blk.new _ _ _
    have b2 := hb.alloc (by omega) (.cells #[.pointer (some ⟨w.heap.size + 1, 0, none⟩), .int .i64 0, .int .u64 (M + 1)] 70)
    have hsz : (w1.alloc (.cells #[.pointer (some ⟨w.heap.size + 1, 0, none⟩), .int .i64 0, .int .u64 (M + 1)] 70)).heap.size = w.heap.size + 3 := by simp [hs]
    generalize w1.alloc (.cells #[.pointer (some ⟨w.heap.size + 1, 0, none⟩), .int .i64 0, .int .u64 (M + 1)] 70) = w2 at hA hC b2 hsz ⊢
    have hn : w1.heap.size ≠ w.heap.size + 1 ∧ w1.heap.size ≠ w.heap.size := by omega
    have hZ : w.heap.size + 1 < w2.heap.size := by omega
    clear hs hsz h1 hb
    go_wp2_with fail
    refine (WordAt.store hA _).mono ?_
    rintro e w3 ⟨rfl, h3, o3⟩
    have hC3 := hC.only o3 (not_two hn)
    have b3 := b2.trans (o3.belowTwo' _ (by omega) (by omega) (by omega))
    clear hC hA b2 o3
    go_wp2_with fail
    go_loopw [10] (fun i wr => ∃ k : Int, 0 ≤ k ∧ k ≤ (M + 1) ∧ i = .int .u64 (k + 1) ∧ WordAt wr (w.heap.size + 1) w.heap.size 1 0 (M + 1 - (M + 1) + k) ∧ IsClock wr w1.heap.size (w.heap.size + 1) 0 (M + 1) ∧ Below w.heap.size w wr) (fun i _ => ((M + 1) + 1 - intOf i).toNat)
    case atStart => exact ⟨0, by omega, by omega, rfl, by simpa using h3, hC3, b3⟩
    case round =>
      obtain ⟨k, hk0, hk1, rfl, hA, hC, hb⟩ := hrel
      have hs := hb.size
      by_cases hlt : k < (M + 1)
      · have hle : k + 1 ≤ (M + 1) := by omega
        go_wp2_with fail
        refine (clock_draw hC hA hn (by omega) (by omega) (by omega)).mono ?_
        rintro e w4 ⟨rfl, h4, o4⟩
        have hC4 := hC.only o4 (not_two hn)
        have b4 := hb.trans (o4.belowTwo' w.heap.size (by omega) (by omega) (by omega))
        have ht : (M + 1 - (M + 1) + k + 1 == M + 1 - (M + 1) + (k + 1)) = true := by rw [beq_iff_eq]; omega
        have ht2 : (M + 1 - (M + 1) + k + 1 != M + 1 - (M + 1) + (k + 1)) = false := by rw [bne_eq_false_iff_eq]; omega
        go_wp2_with fail
        go_roundw
        case rel => exact ⟨k + 1, by omega, by omega, by go_num, by rw [← Int.add_assoc]; exact h4, hC4, b4⟩
        case measure => simp [intOf]; omega
      · have hge : (M + 1) < k + 1 := by omega
        have hke : Hid (M + 1 - (M + 1) + k = M + 1) := Lib.hid (by omega)
        go_wp2_with fail
        refine (clock_draw_over hC hA hn (by omega)).mono ?_
        rintro e w4 ⟨rfl, h4, o4⟩
        have hC4 := hC.only o4 (not_two hn)
        have b4 := hb.trans (o4.belowTwo' w.heap.size (by omega) (by omega) (by omega))
        go_wp2_with fail
        refine (clock_draw_over hC4 h4 hn (by omega)).mono ?_
        rintro e w5 ⟨rfl, h5, o5⟩
        have hC5 := hC4.only o5 (not_two hn)
        have s4 := b4.size
        have b5 := b4.trans (o5.belowTwo' w.heap.size (by omega) (by omega) (by omega))
        rw [hke.out] at h5
        go_wp2_with fail
        refine (clock_now hC5 h5).mono ?_
        rintro e w6 ⟨rfl, h6, o6⟩
        have s5 := b5.size
        have b6 := b5.trans (o6.belowTwo' w.heap.size (by omega) (by omega) (by omega))
        have s6 := b6.size
        go_wp2_with fail
        refine (awake4_any _).mono ?_
        rintro e w7 ⟨rfl, b7⟩
        go_wp2_with fail
        go_ret
        exact ⟨rfl, b6.trans (b7.mono s6)⟩
  · have hc' : N ≤ M + 1 := by omega
    clear hc
    go_enter Try.func7, Try.ntmps7
    go_wp2_with fail
    refine (arena_new 1 (by omega) (by omega) w).mono ?_
    rintro e w1 ⟨rfl, h1, hb, hs⟩
    go_wp2_with fail
    refine (clock_new h1 0 (M + 1) (by omega) (by simp [AS.zero]) (by omega) (by omega)).mono ?_
    rintro e w2 ⟨rfl, rfl⟩
    have hA := (WordAt.zero 1 h1 0 (by omega) (by omega)).alloc (.cells #[.pointer (some ⟨w.heap.size + 1, 0, none⟩), .int .i64 0, .int .u64 (M + 1)] 70)
    have hC : IsClock (w1.alloc (.cells #[.pointer (some ⟨w.heap.size + 1, 0, none⟩), .int .i64 0, .int .u64 (M + 1)] 70)) w1.heap.size (w.heap.size + 1) 0 (M + 1) := Blk.new _ _ _
    have b2 := hb.alloc (by omega) (.cells #[.pointer (some ⟨w.heap.size + 1, 0, none⟩), .int .i64 0, .int .u64 (M + 1)] 70)
    have hsz : (w1.alloc (.cells #[.pointer (some ⟨w.heap.size + 1, 0, none⟩), .int .i64 0, .int .u64 (M + 1)] 70)).heap.size = w.heap.size + 3 := by simp [hs]
    generalize w1.alloc (.cells #[.pointer (some ⟨w.heap.size + 1, 0, none⟩), .int .i64 0, .int .u64 (M + 1)] 70) = w2 at hA hC b2 hsz ⊢
    have hn : w1.heap.size ≠ w.heap.size + 1 ∧ w1.heap.size ≠ w.heap.size := by omega
    have hZ : w.heap.size + 1 < w2.heap.size := by omega
    clear hs hsz h1 hb
    go_wp2_with fail
    refine (WordAt.store hA _).mono ?_
    rintro e w3 ⟨rfl, h3, o3⟩
    have hC3 := hC.only o3 (not_two hn)
    have b3 := b2.trans (o3.belowTwo' _ (by omega) (by omega) (by omega))
    clear hC hA b2 o3
    go_wp2_with fail
    go_loopw [10] (fun i wr => ∃ k : Int, 0 ≤ k ∧ k ≤ N ∧ i = .int .u64 (k + 1) ∧ WordAt wr (w.heap.size + 1) w.heap.size 1 0 (M + 1 - N + k) ∧ IsClock wr w1.heap.size (w.heap.size + 1) 0 (M + 1) ∧ Below w.heap.size w wr) (fun i _ => (N + 1 - intOf i).toNat)
    case atStart => exact ⟨0, by omega, by omega, rfl, by simpa using h3, hC3, b3⟩
    case round =>
      obtain ⟨k, hk0, hk1, rfl, hA, hC, hb⟩ := hrel
      have hs := hb.size
      by_cases hlt : k < N
      · have hle : k + 1 ≤ N := by omega
        go_wp2_with fail
        refine (clock_draw hC hA hn (by omega) (by omega) (by omega)).mono ?_
        rintro e w4 ⟨rfl, h4, o4⟩
        have hC4 := hC.only o4 (not_two hn)
        have b4 := hb.trans (o4.belowTwo' w.heap.size (by omega) (by omega) (by omega))
        have ht : (M + 1 - N + k + 1 == M + 1 - N + (k + 1)) = true := by rw [beq_iff_eq]; omega
        have ht2 : (M + 1 - N + k + 1 != M + 1 - N + (k + 1)) = false := by rw [bne_eq_false_iff_eq]; omega
        go_wp2_with fail
        go_roundw
        case rel => exact ⟨k + 1, by omega, by omega, by go_num, by rw [← Int.add_assoc]; exact h4, hC4, b4⟩
        case measure => simp [intOf]; omega
      · have hge : N < k + 1 := by omega
        have hke : Hid (M + 1 - N + k = M + 1) := Lib.hid (by omega)
        go_wp2_with fail
        refine (clock_draw_over hC hA hn (by omega)).mono ?_
        rintro e w4 ⟨rfl, h4, o4⟩
        have hC4 := hC.only o4 (not_two hn)
        have b4 := hb.trans (o4.belowTwo' w.heap.size (by omega) (by omega) (by omega))
        go_wp2_with fail
        refine (clock_draw_over hC4 h4 hn (by omega)).mono ?_
        rintro e w5 ⟨rfl, h5, o5⟩
        have hC5 := hC4.only o5 (not_two hn)
        have s4 := b4.size
        have b5 := b4.trans (o5.belowTwo' w.heap.size (by omega) (by omega) (by omega))
        rw [hke.out] at h5
        go_wp2_with fail
        refine (clock_now hC5 h5).mono ?_
        rintro e w6 ⟨rfl, h6, o6⟩
        have s5 := b5.size
        have b6 := b5.trans (o6.belowTwo' w.heap.size (by omega) (by omega) (by omega))
        have s6 := b6.size
        go_wp2_with fail
        refine (awake4_any _).mono ?_
        rintro e w7 ⟨rfl, b7⟩
        go_wp2_with fail
        go_ret
        exact ⟨rfl, b6.trans (b7.mono s6)⟩
end Go.Proofs.Ytkcdadmoaeeadaa

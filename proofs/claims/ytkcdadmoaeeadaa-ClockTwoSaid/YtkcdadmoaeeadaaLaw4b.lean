/-
  The walks of ClockDraws and ClockTwo.
-/
import Derived.Test.YtkcdadmoaeeadaaLaw4
namespace Go.Proofs.Ytkcdadmoaeeadaa
open Go.RowKit

theorem wf_u64_bd {x : Int} (h : (Lit.int .u64 x).wf = true) : 0 ≤ x ∧ x ≤ 18446744073709551615 := bounds_u64 h
theorem wf_i64_bd {x : Int} (h : (Lit.int .i64 x).wf = true) : -9223372036854775808 ≤ x ∧ x ≤ 9223372036854775807 := bounds_i64 h

set_option maxHeartbeats 4000000 in
theorem clockDraws_bad (at_ limit start n : Int) (w : World) (hb : at_ < 0 ∨ (0 ≤ at_ ∧ 5 ≤ at_) ∨ (0 ≤ at_ ∧ at_ < 5 ∧ limit < 1) ∨ (0 ≤ at_ ∧ at_ < 5 ∧ 1 ≤ limit ∧ 1099511627776 < limit)) :
    Calls Try.prog 8 #[.int .i64 at_, .int .u64 limit, .int .u64 start, .int .i64 n] w fun e w' => e = .returned (.bool true) ∧ Below w.heap.size w w' := by
  have hb' : at_ < 0 ∨ (0 ≤ at_ ∧ (((AS.zero 5).ws.length : Nat) : Int) ≤ at_) ∨ (0 ≤ at_ ∧ at_ < (((AS.zero 5).ws.length : Nat) : Int) ∧ limit < 1) ∨ (0 ≤ at_ ∧ at_ < (((AS.zero 5).ws.length : Nat) : Int) ∧ 1 ≤ limit ∧ 1099511627776 < limit) := by simpa [AS.zero] using hb
  have HB := Lib.hid hb'
  clear hb'
  rcases hb with hb | ⟨h0, hb⟩ | ⟨h0, h1, hb⟩ | ⟨h0, h1, h2, hb⟩
  all_goals
    go_enter Try.func8, Try.ntmps8
    go_wp2_with fail
    refine (arena_new 5 (by omega) (by omega) w).mono ?_
    rintro e w1 ⟨rfl, h1, hbl, hs⟩
    go_wp2_with fail
    refine (clock_new_bad h1 at_ limit HB.out).mono ?_
    rintro e w2 ⟨rfl, rfl⟩
    go_wp2_with fail
    refine (clock_new_nil 0 5 w1).mono ?_
    rintro e w2 ⟨rfl, rfl⟩
    go_wp2_with fail
    refine (awake4_any w1).mono ?_
    rintro e w2 ⟨rfl, b2⟩
    go_wp2_with fail
    go_ret
    exact ⟨rfl, hbl.trans (b2.mono (by omega))⟩

set_option maxHeartbeats 4000000 in
theorem clockDraws_good (at_ limit start n : Int) (w : World) (hs : 0 ≤ start ∧ start ≤ 18446744073709551615) (h0 : 0 ≤ at_) (h5 : at_ < 5) (l1 : 1 ≤ limit) (l2 : limit ≤ 1099511627776) :
    Calls Try.prog 8 #[.int .i64 at_, .int .u64 limit, .int .u64 start, .int .i64 n] w fun e w' => e = .returned (.bool true) ∧ Below w.heap.size w w' := by
  obtain ⟨s0, s1⟩ := hs
  have hm := i64_and31 n
  have n0 : 0 ≤ n % 32 := by omega
  have n1 : n % 32 < 32 := by omega
  generalize n % 32 = N at *
  go_enter Try.func8, Try.ntmps8
  go_wp2_with fail
  refine (arena_new 5 (by omega) (by omega) w).mono ?_
  rintro e w1 ⟨rfl, h1, hb, hs⟩
  go_wp2_with fail
  refine (clock_new h1 at_ limit h0 (by simpa [AS.zero] using h5) l1 l2).mono ?_
  rintro e w2 ⟨rfl, rfl⟩
  have hA := (WordAt.zero 5 h1 at_ (by omega) (by omega)).alloc (.cells #[.pointer (some ⟨w.heap.size + 1, 0, none⟩), .int .i64 at_, .int .u64 limit] 70)
  have hC : IsClock (w1.alloc (.cells #[.pointer (some ⟨w.heap.size + 1, 0, none⟩), .int .i64 at_, .int .u64 limit] 70)) w1.heap.size (w.heap.size + 1) at_ limit := Blk.new _ _ _
  have b2 := hb.alloc (by omega) (.cells #[.pointer (some ⟨w.heap.size + 1, 0, none⟩), .int .i64 at_, .int .u64 limit] 70)
  have hsz : (w1.alloc (.cells #[.pointer (some ⟨w.heap.size + 1, 0, none⟩), .int .i64 at_, .int .u64 limit] 70)).heap.size = w.heap.size + 3 := by simp [hs]
  generalize w1.alloc (.cells #[.pointer (some ⟨w.heap.size + 1, 0, none⟩), .int .i64 at_, .int .u64 limit] 70) = w2 at hA hC b2 hsz ⊢
  have hn : w1.heap.size ≠ w.heap.size + 1 ∧ w1.heap.size ≠ w.heap.size := by omega
  have hZ : w.heap.size + 1 < w2.heap.size := by omega
  clear hs hsz h1 hb
  go_wp2_with fail
  refine (clock_new_nil 0 5 w2).mono ?_
  rintro e w2' ⟨rfl, rfl⟩
  go_wp2_with fail
  refine (WordAt.store hA start).mono ?_
  rintro e w3 ⟨rfl, h3, o3⟩
  have hC3 := hC.only o3 (not_two hn)
  have b3 := b2.trans (o3.belowTwo' _ (by omega) (by omega) (by omega))
  clear hC hA b2 o3
  go_wp2_with fail
  go_loopw [16, 17] (fun v i wr => ∃ (k now : Int), 0 ≤ k ∧ k ≤ N ∧ 0 ≤ now ∧ now ≤ 18446744073709551615 ∧ v = .int .u64 now ∧ i = .int .i64 k ∧ WordAt wr (w.heap.size + 1) w.heap.size 5 at_ now ∧ IsClock wr w1.heap.size (w.heap.size + 1) at_ limit ∧ Below w.heap.size w wr) (fun _ i _ => (N + 1 - intOf i).toNat)
  case atStart => exact ⟨0, start, by omega, by omega, s0, s1, rfl, rfl, h3, hC3, b3⟩
  case round =>
    obtain ⟨k, now, hk0, hk1, hn0, hn1, rfl, rfl, hA, hC, hb⟩ := hrel
    have hs := hb.size
    by_cases hlt : k < N
    · by_cases hov : limit ≤ now
      · go_wp2_with fail
        refine (clock_draw_over hC hA hn hov).mono ?_
        rintro e w4 ⟨rfl, h4, o4⟩
        have hC4 := hC.only o4 (not_two hn)
        have b4 := hb.trans (o4.belowTwo' w.heap.size (by omega) (by omega) (by omega))
        have s4 := b4.size
        go_wp2_with fail
        refine (clock_now hC4 h4).mono ?_
        rintro e w5 ⟨rfl, h5, o5⟩
        have hC5 := hC4.only o5 (not_two hn)
        have b5 := b4.trans (o5.belowTwo' w.heap.size (by omega) (by omega) (by omega))
        have s5 := b5.size
        go_wp2_with fail
        refine (WordAt.load h5).mono ?_
        rintro e w6 ⟨rfl, h6, o6⟩
        have hC6 := hC5.only o6 (not_two hn)
        have b6 := b5.trans (o6.belowTwo' w.heap.size (by omega) (by omega) (by omega))
        go_wp2_with fail
        go_roundw
        case rel => exact ⟨k + 1, now, by omega, by omega, hn0, hn1, rfl, by go_num, h6, hC6, b6⟩
        case measure => simp [intOf]; omega
      · have hov' : now < limit := by omega
        go_wp2_with fail
        refine (clock_draw hC hA hn hov' hn0 l2).mono ?_
        rintro e w4 ⟨rfl, h4, o4⟩
        have hC4 := hC.only o4 (not_two hn)
        have b4 := hb.trans (o4.belowTwo' w.heap.size (by omega) (by omega) (by omega))
        have s4 := b4.size
        go_wp2_with fail
        refine (clock_now hC4 h4).mono ?_
        rintro e w5 ⟨rfl, h5, o5⟩
        have hC5 := hC4.only o5 (not_two hn)
        have b5 := b4.trans (o5.belowTwo' w.heap.size (by omega) (by omega) (by omega))
        have s5 := b5.size
        go_wp2_with fail
        refine (WordAt.load h5).mono ?_
        rintro e w6 ⟨rfl, h6, o6⟩
        have hC6 := hC5.only o6 (not_two hn)
        have b6 := b5.trans (o6.belowTwo' w.heap.size (by omega) (by omega) (by omega))
        go_wp2_with fail
        go_roundw
        case rel => exact ⟨k + 1, now + 1, by omega, by omega, by omega, by omega, rfl, by go_num, h6, hC6, b6⟩
        case measure => simp [intOf]; omega
    · go_wp2_with fail
      refine (clock_limit hC).mono ?_
      rintro e w4 ⟨rfl, rfl⟩
      go_wp2_with fail
      refine (awake4_any _).mono ?_
      rintro e w7 ⟨rfl, b7⟩
      go_wp2_with fail
      go_ret
      exact ⟨rfl, hb.trans (b7.mono hs)⟩

theorem clockDraws_walk (at_ limit start n : Int) (w : World) (_h0 : (Lit.int .i64 at_).wf = true) (_h1 : (Lit.int .u64 limit).wf = true) (h2 : (Lit.int .u64 start).wf = true) (_h3 : (Lit.int .i64 n).wf = true) :
    Calls Try.prog 8 #[.int .i64 at_, .int .u64 limit, .int .u64 start, .int .i64 n] w fun e w' => e = .returned (.bool true) ∧ Below w.heap.size w w' := by
  by_cases g : 0 ≤ at_ ∧ at_ < 5 ∧ 1 ≤ limit ∧ limit ≤ 1099511627776
  · exact clockDraws_good at_ limit start n w (wf_u64_bd h2) g.1 g.2.1 g.2.2.1 g.2.2.2
  · exact clockDraws_bad at_ limit start n w (by omega)

set_option maxHeartbeats 4000000 in
theorem clockTwo_walk (a : Option Addr) (c : Nat) (l : List Bool) (w : World) (hl : Bools w a l) (hr : l.length * 1 ≤ 140737488351232) (_h1 : l.length ≤ c) (_h2 : c ≤ 9223372036854775807) :
    Calls Try.prog 5 #[.slice a l.length c] w fun e w' => e = .returned (.bool true) ∧ Below w.heap.size w w' := by
  go_enter Try.func5, Try.ntmps5
  go_wp2_with fail
  refine (arena_new 1 (by omega) (by omega) w).mono ?_
  rintro e w1 ⟨rfl, h1, hb, hs⟩
  replace hs : w.heap.size + 2 ≤ w1.heap.size := by omega
  go_wp2_with fail
  refine (clock_new h1 0 1000 (by omega) (by simp [AS.zero]) (by omega) (by omega)).mono ?_
  rintro e w2 ⟨rfl, rfl⟩
  have h2 := h1.alloc (.cells #[.pointer (some ⟨w.heap.size + 1, 0, none⟩), .int .i64 0, .int .u64 1000] 70)
  have hC : IsClock (w1.alloc (.cells #[.pointer (some ⟨w.heap.size + 1, 0, none⟩), .int .i64 0, .int .u64 1000] 70)) w1.heap.size (w.heap.size + 1) 0 1000 := Blk.new _ _ _
  have b2 := hb.alloc (by omega) (.cells #[.pointer (some ⟨w.heap.size + 1, 0, none⟩), .int .i64 0, .int .u64 1000] 70)
  have hsz : (w1.alloc (.cells #[.pointer (some ⟨w.heap.size + 1, 0, none⟩), .int .i64 0, .int .u64 1000] 70)).heap.size = w1.heap.size + 1 := by simp
  generalize w1.alloc (.cells #[.pointer (some ⟨w.heap.size + 1, 0, none⟩), .int .i64 0, .int .u64 1000] 70) = w2 at h2 hC b2 hsz ⊢
  have HZ1 := Lib.hid hsz
  clear hsz
  go_wp2_with fail
  refine (clock_new h2 0 20 (by omega) (by simp [AS.zero]) (by omega) (by omega)).mono ?_
  rintro e w3 ⟨rfl, rfl⟩
  have hA := (WordAt.zero 1 h2 0 (by omega) (by omega)).alloc (.cells #[.pointer (some ⟨w.heap.size + 1, 0, none⟩), .int .i64 0, .int .u64 20] 70)
  have hD : IsClock (w2.alloc (.cells #[.pointer (some ⟨w.heap.size + 1, 0, none⟩), .int .i64 0, .int .u64 20] 70)) w2.heap.size (w.heap.size + 1) 0 20 := Blk.new _ _ _
  have hC3 := hC.alloc (.cells #[.pointer (some ⟨w.heap.size + 1, 0, none⟩), .int .i64 0, .int .u64 20] 70)
  have s2 := b2.size
  have b3 := b2.alloc s2 (.cells #[.pointer (some ⟨w.heap.size + 1, 0, none⟩), .int .i64 0, .int .u64 20] 70)
  have hsz : (w2.alloc (.cells #[.pointer (some ⟨w.heap.size + 1, 0, none⟩), .int .i64 0, .int .u64 20] 70)).heap.size = w2.heap.size + 1 := by simp
  generalize w2.alloc (.cells #[.pointer (some ⟨w.heap.size + 1, 0, none⟩), .int .i64 0, .int .u64 20] 70) = w3 at hA hD hC3 b3 hsz ⊢
  have hn : w1.heap.size ≠ w.heap.size + 1 ∧ w1.heap.size ≠ w.heap.size := by omega
  have hn2 : w2.heap.size ≠ w.heap.size + 1 ∧ w2.heap.size ≠ w.heap.size := by have := HZ1.out; omega
  have hZ : w.heap.size + 1 < w3.heap.size := by have := HZ1.out; omega
  clear hs hsz h1 hb h2 hC b2 s2 HZ1
  go_wp2_with fail
  go_loopw [9, 10] (fun v i wr => ∃ (k : Nat) (now : Int), k ≤ l.length ∧ k ≤ 40 ∧ 0 ≤ now ∧ now ≤ k ∧ v = .int .u64 now ∧ i = .int .i64 k ∧ WordAt wr (w.heap.size + 1) w.heap.size 1 0 now ∧ IsClock wr w1.heap.size (w.heap.size + 1) 0 1000 ∧ IsClock wr w2.heap.size (w.heap.size + 1) 0 20 ∧ Below w.heap.size w wr) (fun _ i _ => l.length - (intOf i).toNat)
  case atStart => exact ⟨0, 0, by omega, by omega, by omega, by omega, rfl, rfl, hA, hC3, hD, b3⟩
  case round =>
    obtain ⟨k, now, hk, hk2, hn0, hn1, rfl, rfl, hA, hC, hD, hb⟩ := hrel
    have hs := hb.size
    by_cases hlt : k < l.length ∧ k < 40
    · obtain ⟨hlt, hlt2⟩ := hlt
      obtain ⟨b, off, rfl, hc⟩ := hl.at (by omega)
      have hc0 := hc k hlt
      have hbw := block_lt_of_cell hc0
      have hc1 := (hb.cell (p := ⟨b, off + k, none⟩) hbw).trans hc0
      generalize l.getD k false = x at hc1
      clear hc hl hc0
      cases x with
      | true =>
        go_wp2_with fail
        refine (clock_draw hC hA hn (by omega) hn0 (by omega)).mono ?_
        rintro e w4 ⟨rfl, h4, o4⟩
        have hC4 := hC.only o4 (not_two hn)
        have hD4 := hD.only o4 (not_two hn2)
        have b4 := hb.trans (o4.belowTwo' w.heap.size (by omega) (by omega) (by omega))
        clear hc1
        go_wp2_with fail
        go_roundw
        case rel => exact ⟨k + 1, now + 1, by omega, by omega, by omega, by omega, rfl, by go_num, h4, hC4, hD4, b4⟩
        case measure => simp [intOf]; omega
      | false =>
        by_cases hov : 20 ≤ now
        · go_wp2_with fail
          refine (clock_draw_over hD hA hn2 hov).mono ?_
          rintro e w4 ⟨rfl, h4, o4⟩
          have hC4 := hC.only o4 (not_two hn)
          have hD4 := hD.only o4 (not_two hn2)
          have b4 := hb.trans (o4.belowTwo' w.heap.size (by omega) (by omega) (by omega))
          clear hc1
          go_wp2_with fail
          go_roundw
          case rel => exact ⟨k + 1, now, by omega, by omega, by omega, by omega, rfl, by go_num, h4, hC4, hD4, b4⟩
          case measure => simp [intOf]; omega
        · have hov' : now < 20 := by omega
          go_wp2_with fail
          refine (clock_draw hD hA hn2 (by omega) hn0 (by omega)).mono ?_
          rintro e w4 ⟨rfl, h4, o4⟩
          have hC4 := hC.only o4 (not_two hn)
          have hD4 := hD.only o4 (not_two hn2)
          have b4 := hb.trans (o4.belowTwo' w.heap.size (by omega) (by omega) (by omega))
          clear hc1
          go_wp2_with fail
          go_roundw
          case rel => exact ⟨k + 1, now + 1, by omega, by omega, by omega, by omega, rfl, by go_num, h4, hC4, hD4, b4⟩
          case measure => simp [intOf]; omega
    · have hd : ¬ (k < l.length) ∨ (k < l.length ∧ ¬ (k < 40)) := by omega
      clear hlt
      rcases hd with hd | ⟨hd1, hd⟩
      all_goals
        go_wp2_with fail
        refine (clock_now hC hA).mono ?_
        rintro e w4 ⟨rfl, h4, o4⟩
        have hD4 := hD.only o4 (not_two hn2)
        have b4 := hb.trans (o4.belowTwo' w.heap.size (by omega) (by omega) (by omega))
        have s4 := b4.size
        go_wp2_with fail
        refine (clock_now hD4 h4).mono ?_
        rintro e w5 ⟨rfl, h5, o5⟩
        have b5 := b4.trans (o5.belowTwo' w.heap.size (by omega) (by omega) (by omega))
        have s5 := b5.size
        go_wp2_with fail
        refine (awake4_any _).mono ?_
        rintro e w7 ⟨rfl, b7⟩
        go_wp2_with fail
        go_ret
        exact ⟨rfl, b5.trans (b7.mono s5)⟩
end Go.Proofs.Ytkcdadmoaeeadaa

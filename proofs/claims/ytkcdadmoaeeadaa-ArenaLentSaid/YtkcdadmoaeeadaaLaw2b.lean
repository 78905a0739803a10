/-
  The walks of ArenaSums and ArenaEnds.
-/
import Derived.Test.YtkcdadmoaeeadaaLaw2
import Derived.Test.YtkcdadmoaeeadaaBits
namespace Go.Proofs.Ytkcdadmoaeeadaa
open Go.RowKit

theorem add2 {w : World} {a b : Nat} {x y c : Int} (h : IsArena w a b ⟨[x, y], c⟩) (v : Int) :
    Calls Try.prog 16 #[.pointer (some ⟨a, 0, none⟩), .int .i64 0, .int .u64 v] w fun e w' => e = .returned (.int .u64 ((x + v) % 18446744073709551616)) ∧ IsArena w' a b ⟨[(x + v) % 18446744073709551616, y], wrap64 (c + 1)⟩ ∧ Only (Two a b) w w' := by
  have := arena_add h 0 v
  simpa [AS.sum, AS.on, AS.add, AS.store, AS.load] using this
theorem load2a {w : World} {a b : Nat} {x y c : Int} (h : IsArena w a b ⟨[x, y], c⟩) :
    Calls Try.prog 14 #[.pointer (some ⟨a, 0, none⟩), .int .i64 0] w fun e w' => e = .returned (.int .u64 x) ∧ IsArena w' a b ⟨[x, y], wrap64 (c + 1)⟩ ∧ Only (Two a b) w w' := by
  have := arena_load h 0
  simpa [AS.load, AS.on, AS.tick] using this
theorem load2b {w : World} {a b : Nat} {x y c : Int} (h : IsArena w a b ⟨[x, y], c⟩) :
    Calls Try.prog 14 #[.pointer (some ⟨a, 0, none⟩), .int .i64 1] w fun e w' => e = .returned (.int .u64 y) ∧ IsArena w' a b ⟨[x, y], wrap64 (c + 1)⟩ ∧ Only (Two a b) w w' := by
  have := arena_load h 1
  simpa [AS.load, AS.on, AS.tick] using this
theorem cas2b {w : World} {a b : Nat} {x y c : Int} (h : IsArena w a b ⟨[x, y], c⟩) (v : Int) :
    Calls Try.prog 13 #[.pointer (some ⟨a, 0, none⟩), .int .i64 1, .int .u64 y, .int .u64 v] w fun e w' => e = .returned (.bool true) ∧ IsArena w' a b ⟨[x, v], wrap64 (c + 1)⟩ ∧ Only (Two a b) w w' := by
  have := arena_cas h 1 y v
  simpa [AS.casOk, AS.on, AS.cas, AS.store] using this

set_option maxHeartbeats 4000000 in
theorem arenaSums_walk (a : Option Addr) (c : Nat) (l : List Int) (w : World) (hl : Ints .u64 w a l) (hwf : ∀ n ∈ l, (Lit.int .u64 n).wf = true) (hr : l.length * 8 ≤ 140737488351232) (_h1 : l.length ≤ c) (_h2 : c ≤ 9223372036854775807) :
    Calls Try.prog 4 #[.slice a l.length c] w fun e w' => e = .returned (.bool true) ∧ Below w.heap.size w w' := by
  obtain ⟨n, hmin, hn1, hn2, hn3⟩ := min_named l.length 40
  rw [show ((40 : Nat) : Int) = 40 from rfl] at hmin
  go_enter Try.func4, Try.ntmps4
  go_wp2_with fail
  refine (arena_new 2 (by omega) (by omega) w).mono ?_
  rintro e w1 ⟨rfl, h1, hb, hs⟩
  have H1 : IsArena w1 (w.heap.size + 1) w.heap.size ⟨[0, 0], 0⟩ := h1
  replace hs : w.heap.size + 2 ≤ w1.heap.size := by omega
  clear h1
  go_wp2_with fail
  clear hmin
  go_loopw [5, 7] (fun v i wr => ∃ (k : Nat) (s cnt : Int), k ≤ n ∧ 0 ≤ s ∧ s < 18446744073709551616 ∧ cnt = 3 * k ∧ v = .int .u64 s ∧ i = .int .i64 k ∧ IsArena wr (w.heap.size + 1) w.heap.size ⟨[s, s], cnt⟩ ∧ Below w.heap.size w wr) (fun _ i _ => n - (intOf i).toNat)
  case atStart => exact ⟨0, 0, 0, by omega, by omega, by omega, rfl, rfl, rfl, H1, hb⟩
  case round =>
    obtain ⟨k, s, cnt, hk, hs0, hs1, hcnt, rfl, rfl, hA, hbel⟩ := hrel
    have HC := Lib.hid hcnt
    clear hcnt
    have hsz := hbel.size
    by_cases hlt : k < n
    · obtain ⟨b, off, rfl, hc⟩ := hl.at (by omega)
      have hc0 := hc k (by omega)
      have hbw := block_lt_of_cell hc0
      have hx : 0 ≤ l.getD k 0 ∧ l.getD k 0 ≤ 18446744073709551615 := bounds_u64 (hwf _ (by rw [List.getD_eq_getElem?_getD, List.getElem?_eq_getElem (by omega)]; exact List.getElem_mem _))
      generalize l.getD k 0 = x at hc0 hx
      have hc1 := (hbel.cell (p := ⟨b, off + k, none⟩) hbw).trans hc0
      obtain ⟨x0, x1⟩ := hx
      clear hc hl
      go_wp2_with fail
      refine (add2 hA x).mono ?_
      rintro e w2 ⟨rfl, h2, o2⟩
      have b2 := hbel.trans (o2.belowTwo w.heap.size (by omega) (by omega) (by omega))
      have hc2 := (b2.cell (p := ⟨b, off + k, none⟩) hbw).trans hc0
      clear hc1 hA
      go_wp2_with fail
      refine wp_loop_rounds 1 ?_
      rw [rounds_succ]
      go_wp2_with fail
      refine (load2b h2).mono ?_
      rintro e w3 ⟨rfl, h3, o3⟩
      have s2 := b2.size
      have b3 := b2.trans (o3.belowTwo w.heap.size (by omega) (by omega) (by omega))
      have hc3 := (b3.cell (p := ⟨b, off + k, none⟩) hbw).trans hc0
      clear hc2 h2
      go_wp2_with fail
      refine (cas2b h3 _).mono ?_
      rintro e w4 ⟨rfl, h4, o4⟩
      have s3 := b3.size
      have b4 := b3.trans (o4.belowTwo w.heap.size (by omega) (by omega) (by omega))
      clear hc3 h3
      go_wp2_with fail
      go_roundw
      case rel => exact ⟨k + 1, (s + x) % 18446744073709551616, 3 * ((k + 1 : Nat) : Int), by omega, by omega, by omega, rfl, rfl, by go_num, by
        have e1 : wrap64 (wrap64 (wrap64 (cnt + 1) + 1) + 1) = 3 * ((k + 1 : Nat) : Int) := by have := HC.out; unfold wrap64; omega
        rw [← e1]; exact h4, b4⟩
      case measure => simp [intOf]; omega
    · have hkn : k = n := by omega
      have e0 : cnt + 1 + 1 = 3 * (n : Int) + 2 := by have := HC.out; omega
      have E0 := Lib.hid e0
      have hc3 : wrap64 (wrap64 (cnt + 1) + 1) = 3 * (n : Int) + 2 := by have := HC.out; unfold wrap64; omega
      have HC3 := Lib.hid hc3
      clear e0 hc3 hkn
      go_wp2_with fail
      refine (load2a hA).mono ?_
      rintro e w3 ⟨rfl, h3, o3⟩
      have b3 := hbel.trans (o3.belowTwo w.heap.size (by omega) (by omega) (by omega))
      go_wp2_with fail
      refine (load2b h3).mono ?_
      rintro e w4 ⟨rfl, h4, o4⟩
      have s3 := b3.size
      have b4 := b3.trans (o4.belowTwo w.heap.size (by omega) (by omega) (by omega))
      have s4 := b4.size
      rw [HC3.out] at h4
      go_wp2_with fail
      refine (arena_count h4).mono ?_
      rintro e w5 ⟨rfl, rfl⟩
      go_wp2_with fail
      refine (awake2_any _).mono ?_
      rintro e w6 ⟨rfl, b6⟩
      go_wp2_with fail
      go_ret
      exact ⟨rfl, b4.trans (b6.mono s4)⟩

theorem AS.zero_cnt (n : Nat) : (AS.zero n).cnt = 0 := rfl
theorem off_zero3 (i : Int) (h : i < 0 ∨ 3 ≤ i) : (AS.zero 3).on i = false := by
  rw [AS.on_not]; simpa [AS.zero] using h
theorem store_off {w : World} {a b : Nat} (h : IsArena w a b (AS.zero 3)) (i v : Int) (hi : i < 0 ∨ 3 ≤ i) :
    Calls Try.prog 12 #[.pointer (some ⟨a, 0, none⟩), .int .i64 i, .int .u64 v] w fun e w' => e = .returned (.tuple #[]) ∧ IsArena w' a b (AS.zero 3) ∧ Only (Two a b) w w' := by
  have := arena_store h i v
  simpa [AS.store, off_zero3 i hi] using this
theorem load_off {w : World} {a b : Nat} (h : IsArena w a b (AS.zero 3)) (i : Int) (hi : i < 0 ∨ 3 ≤ i) :
    Calls Try.prog 14 #[.pointer (some ⟨a, 0, none⟩), .int .i64 i] w fun e w' => e = .returned (.int .u64 0) ∧ IsArena w' a b (AS.zero 3) ∧ Only (Two a b) w w' := by
  have := arena_load h i
  simpa [AS.load, AS.tick, off_zero3 i hi] using this
theorem cas_off {w : World} {a b : Nat} (h : IsArena w a b (AS.zero 3)) (i x y : Int) (hi : i < 0 ∨ 3 ≤ i) :
    Calls Try.prog 13 #[.pointer (some ⟨a, 0, none⟩), .int .i64 i, .int .u64 x, .int .u64 y] w fun e w' => e = .returned (.bool false) ∧ IsArena w' a b (AS.zero 3) ∧ Only (Two a b) w w' := by
  have := arena_cas h i x y
  simpa [AS.cas, AS.casOk, AS.tick, off_zero3 i hi] using this
theorem add_off {w : World} {a b : Nat} (h : IsArena w a b (AS.zero 3)) (i v : Int) (hi : i < 0 ∨ 3 ≤ i) :
    Calls Try.prog 16 #[.pointer (some ⟨a, 0, none⟩), .int .i64 i, .int .u64 v] w fun e w' => e = .returned (.int .u64 0) ∧ IsArena w' a b (AS.zero 3) ∧ Only (Two a b) w w' := by
  have := arena_add h i v
  simpa [AS.sum, AS.add, AS.store, off_zero3 i hi] using this

set_option maxHeartbeats 8000000 in
theorem arenaEnds_walk (n at_ : Int) (w : World) (_h0 : (Lit.int .i64 n).wf = true) (_h1 : (Lit.int .i64 at_).wf = true) :
    Calls Try.prog 6 #[.int .i64 n, .int .i64 at_] w fun e w' => e = .returned (.bool true) ∧ Below w.heap.size w w' := by
  have hm := i64_and7 n
  have n0 : 0 ≤ n % 8 := by omega
  have n1 : n % 8 < 8 := by omega
  generalize n % 8 = N at *
  have ho : at_ < 0 ∨ 3 ≤ at_ ∨ (0 ≤ at_ ∧ at_ < 3) := by omega
  by_cases hN : N ≤ 4
  · rcases ho with ho | ho | ⟨hp, ho⟩
    all_goals
      go_enter Try.func6, Try.ntmps6
      go_wp2_with fail
      refine (arena_new (99996 + N) (by omega) (by omega) w).mono ?_
      rintro e w1 ⟨rfl, _, b1, s1⟩
      replace s1 : w.heap.size ≤ w1.heap.size := by omega
      go_wp2_with fail
      refine (arena_new 3 (by omega) (by omega) _).mono ?_
      rintro e w2 ⟨rfl, h2, b2, s2⟩
      replace b2 := b1.trans (b2.mono (by omega))
      replace s2 : w1.heap.size + 2 ≤ w2.heap.size := by omega
      replace h2 : IsArena w2 (w1.heap.size + 1) w1.heap.size (AS.zero 3) := h2
      go_wp2_with fail
      refine (store_off h2 _ 7 (by omega)).mono ?_
      rintro e w3 ⟨rfl, h3, o3⟩
      have b3 := b2.trans (o3.belowTwo w.heap.size (by omega) (by omega) (by omega))
      have z3 := o3.size
      go_wp2_with fail
      refine (load_off h3 _ (by omega)).mono ?_
      rintro e w4 ⟨rfl, h4, o4⟩
      have b4 := b3.trans (o4.belowTwo w.heap.size (by omega) (by omega) (by omega))
      have z4 := o4.size
      go_wp2_with fail
      refine (cas_off h4 _ 0 1 (by omega)).mono ?_
      rintro e w5 ⟨rfl, h5, o5⟩
      have b5 := b4.trans (o5.belowTwo w.heap.size (by omega) (by omega) (by omega))
      have z5 := o5.size
      go_wp2_with fail
      refine (add_off h5 _ 1 (by omega)).mono ?_
      rintro e w6 ⟨rfl, h6, o6⟩
      have b6 := b5.trans (o6.belowTwo w.heap.size (by omega) (by omega) (by omega))
      have z6 := o6.size
      go_wp2_with fail
      refine (arena_count h6).mono ?_
      rintro e w7 ⟨rfl, rfl⟩
      go_wp2_with fail
      refine (arena_words h6).mono ?_
      rintro e w7 ⟨cc, rfl, hcc, hB, b7⟩
      have i7 := Ints.of_blk hB
      have b8 := b6.trans (b7.mono (by omega))
      have z7 := b7.size
      go_wp2_with fail
      have nb := (Below.refl w7.heap.size w7).alloc (Nat.le_refl _) (.cells #[.int .u64 0, .int .u64 0, .int .u64 0] 22)
      have i8 := i7.below nb
      have i9 : Ints .u64 (w7.alloc (.cells #[.int .u64 0, .int .u64 0, .int .u64 0] 22)) (some ⟨w7.heap.size, 0, none⟩) [0, 0, 0] := Ints.of_blk (Blk.new _ _ _)
      refine (same_any _ _ 3 3 (AS.zero 3).ws [0, 0, 0] _ i8 i9 (by simp [AS.zero]) (by simp)).mono ?_
      rintro e w9 ⟨rfl, m, rfl⟩
      have e3 : decide ((AS.zero 3).ws = [0, 0, 0]) = true := by decide
      rw [e3]
      go_wp2_with fail
      refine (awake2_any _).mono ?_
      rintro e w10 ⟨rfl, b10⟩
      go_wp2_with fail
      go_ret
      exact ⟨rfl, (b8.trans (nb.mono (by omega))).trans ((below_drewN (Below.refl _ _) m).trans (b10.mono (by simp; omega)))⟩
  · have hN' : 4 < N := by omega
    rcases ho with ho | ho | ⟨hp, ho⟩
    all_goals
      go_enter Try.func6, Try.ntmps6
      go_wp2_with fail
      refine (arena_new_bad (99996 + N) (by omega) w).mono ?_
      rintro e w1 ⟨rfl, rfl⟩
      have b1 := Below.refl w.heap.size w
      go_wp2_with fail
      refine (arena_new 3 (by omega) (by omega) _).mono ?_
      rintro e w2 ⟨rfl, h2, b2, s2⟩
      replace b2 := b1.trans (b2.mono (by omega))
      replace s2 : w.heap.size + 2 ≤ w2.heap.size := by omega
      replace h2 : IsArena w2 (w.heap.size + 1) w.heap.size (AS.zero 3) := h2
      go_wp2_with fail
      refine (store_off h2 _ 7 (by omega)).mono ?_
      rintro e w3 ⟨rfl, h3, o3⟩
      have b3 := b2.trans (o3.belowTwo w.heap.size (by omega) (by omega) (by omega))
      have z3 := o3.size
      go_wp2_with fail
      refine (load_off h3 _ (by omega)).mono ?_
      rintro e w4 ⟨rfl, h4, o4⟩
      have b4 := b3.trans (o4.belowTwo w.heap.size (by omega) (by omega) (by omega))
      have z4 := o4.size
      go_wp2_with fail
      refine (cas_off h4 _ 0 1 (by omega)).mono ?_
      rintro e w5 ⟨rfl, h5, o5⟩
      have b5 := b4.trans (o5.belowTwo w.heap.size (by omega) (by omega) (by omega))
      have z5 := o5.size
      go_wp2_with fail
      refine (add_off h5 _ 1 (by omega)).mono ?_
      rintro e w6 ⟨rfl, h6, o6⟩
      have b6 := b5.trans (o6.belowTwo w.heap.size (by omega) (by omega) (by omega))
      have z6 := o6.size
      go_wp2_with fail
      refine (arena_count h6).mono ?_
      rintro e w7 ⟨rfl, rfl⟩
      go_wp2_with fail
      refine (arena_words h6).mono ?_
      rintro e w7 ⟨cc, rfl, hcc, hB, b7⟩
      have i7 := Ints.of_blk hB
      have b8 := b6.trans (b7.mono (by omega))
      have z7 := b7.size
      go_wp2_with fail
      have nb := (Below.refl w7.heap.size w7).alloc (Nat.le_refl _) (.cells #[.int .u64 0, .int .u64 0, .int .u64 0] 22)
      have i8 := i7.below nb
      have i9 : Ints .u64 (w7.alloc (.cells #[.int .u64 0, .int .u64 0, .int .u64 0] 22)) (some ⟨w7.heap.size, 0, none⟩) [0, 0, 0] := Ints.of_blk (Blk.new _ _ _)
      refine (same_any _ _ 3 3 (AS.zero 3).ws [0, 0, 0] _ i8 i9 (by simp [AS.zero]) (by simp)).mono ?_
      rintro e w9 ⟨rfl, m, rfl⟩
      have e3 : decide ((AS.zero 3).ws = [0, 0, 0]) = true := by decide
      rw [e3]
      go_wp2_with fail
      refine (awake2_any _).mono ?_
      rintro e w0 ⟨rfl, b10⟩
      go_wp2_with fail
      go_ret
      exact ⟨rfl, (b8.trans (nb.mono (by omega))).trans ((below_drewN (Below.refl _ _) m).trans (b10.mono (by simp; omega)))⟩
end Go.Proofs.Ytkcdadmoaeeadaa

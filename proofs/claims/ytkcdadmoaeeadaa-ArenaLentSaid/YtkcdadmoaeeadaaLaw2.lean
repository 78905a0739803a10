/-
  The walks of the laws of layer 2, all but ArenaPlays: each returns true, and nothing that was there turns.
-/
import Derived.Test.YtkcdadmoaeeadaaArenaNew
import Derived.Test.YtkcdadmoaeeadaaOpen
namespace Go.Proofs.Ytkcdadmoaeeadaa
open Go.RowKit

/-- The Only of two blocks of the call's own is Below. -/
theorem Only.belowTwo {a b : Nat} {w w' : World} (h : Only (Two a b) w w') (B : Nat) (hB : B ≤ w.heap.size) (ha : B ≤ a) (hb : B ≤ b) : Below B w w' :=
  h.below B hB (fun k hk => by rcases hk with rfl | rfl <;> assumption)

theorem cas1_hit {w : World} {a b : Nat} {x c : Int} (h : IsArena w a b ⟨[x], c⟩) (y : Int) :
    Calls Try.prog 13 #[.pointer (some ⟨a, 0, none⟩), .int .i64 0, .int .u64 x, .int .u64 y] w fun e w' => e = .returned (.bool true) ∧ IsArena w' a b ⟨[y], wrap64 (c + 1)⟩ ∧ Only (Two a b) w w' := by
  have := arena_cas h 0 x y
  simpa [AS.casOk, AS.on, AS.cas, AS.store] using this
theorem cas1_miss {w : World} {a b : Nat} {x c : Int} (h : IsArena w a b ⟨[x], c⟩) (o y : Int) (hne : ¬ x = o) :
    Calls Try.prog 13 #[.pointer (some ⟨a, 0, none⟩), .int .i64 0, .int .u64 o, .int .u64 y] w fun e w' => e = .returned (.bool false) ∧ IsArena w' a b ⟨[x], wrap64 (c + 1)⟩ ∧ Only (Two a b) w w' := by
  have := arena_cas h 0 o y
  simpa [AS.casOk, AS.on, AS.cas, AS.tick, hne] using this
theorem load1 {w : World} {a b : Nat} {x c : Int} (h : IsArena w a b ⟨[x], c⟩) :
    Calls Try.prog 14 #[.pointer (some ⟨a, 0, none⟩), .int .i64 0] w fun e w' => e = .returned (.int .u64 x) ∧ IsArena w' a b ⟨[x], wrap64 (c + 1)⟩ ∧ Only (Two a b) w w' := by
  have := arena_load h 0
  simpa [AS.load, AS.on, AS.tick] using this
theorem store1 {w : World} {a b : Nat} {x c : Int} (h : IsArena w a b ⟨[x], c⟩) (y : Int) :
    Calls Try.prog 12 #[.pointer (some ⟨a, 0, none⟩), .int .i64 0, .int .u64 y] w fun e w' => e = .returned (.tuple #[]) ∧ IsArena w' a b ⟨[y], wrap64 (c + 1)⟩ ∧ Only (Two a b) w w' := by
  have := arena_store h 0 y
  simpa [AS.store, AS.on] using this

set_option maxHeartbeats 400000 in
/-- awake: what the document fixes. -/
theorem awake2_any (w : World) : Calls Try.prog 15 #[] w fun e w' => e = .returned (.bool true) ∧ Below w.heap.size w w' := by
  go_enter Try.func15, Try.ntmps15
  go_wp2_with fail
  refine (arena_new 2 (by omega) (by omega) w).mono ?_
  rintro e w1 ⟨rfl, h1, hb, hs⟩
  have k0 := h1.head.lt
  have H1 : IsArena w1 (w.heap.size + 1) w.heap.size ⟨[0, 0], 0⟩ := h1
  have C1 := arena_cas H1 0 0 5
  simp only [show AS.casOk ⟨[0, 0], 0⟩ 0 0 = true from rfl, show AS.cas ⟨[0, 0], 0⟩ 0 0 5 = ⟨[5, 0], 1⟩ by simp [AS.cas, AS.casOk, AS.on, AS.store, wrap64]] at C1
  clear h1
  go_wp2_with fail
  refine C1.mono ?_
  rintro e w2 ⟨rfl, h2, o2⟩
  have C2 := arena_cas h2 0 0 6
  simp only [show AS.casOk ⟨[5, 0], 1⟩ 0 0 = false from rfl, show AS.cas ⟨[5, 0], 1⟩ 0 0 6 = ⟨[5, 0], 2⟩ by simp [AS.cas, AS.casOk, AS.on, AS.tick, wrap64]] at C2
  go_wp2_with fail
  refine C2.mono ?_
  rintro e w3 ⟨rfl, h3, o3⟩
  have C3 := arena_load h3 0
  simp only [show AS.load ⟨[5, 0], 2⟩ 0 = 5 from rfl, show AS.tick ⟨[5, 0], 2⟩ 0 = ⟨[5, 0], 3⟩ by simp [AS.on, AS.tick, wrap64]] at C3
  go_wp2_with fail
  refine C3.mono ?_
  rintro e w4 ⟨rfl, h4, o4⟩
  go_wp2_with fail
  refine (arena_count h4).mono ?_
  rintro e w5 ⟨rfl, rfl⟩
  go_wp2_with fail
  go_ret
  exact ⟨rfl, hb.trans ((((o2.trans o3).trans o4).belowTwo _ (by omega) (by omega) (by omega)))⟩

set_option maxHeartbeats 1000000 in
theorem arenaOne_walk (start : Int) (a : Option Addr) (c : Nat) (l : List Int) (w : World) (_hs : (Lit.int .u64 start).wf = true) (hl : Ints .u64 w a l) (_hw : ∀ n ∈ l, (Lit.int .u64 n).wf = true) (hr : l.length * 8 ≤ 140737488351232) (_h1 : l.length ≤ c) (_h2 : c ≤ 9223372036854775807) :
    Calls Try.prog 3 #[.int .u64 start, .slice a l.length c] w fun e w' => e = .returned (.bool true) ∧ Below w.heap.size w w' := by
  go_enter Try.func3, Try.ntmps3
  go_wp2_with fail
  refine (arena_new 1 (by omega) (by omega) w).mono ?_
  rintro e w1 ⟨rfl, h1, hb, hs⟩
  have H1 : IsArena w1 (w.heap.size + 1) w.heap.size ⟨[0], 0⟩ := h1
  clear h1
  go_wp2_with fail
  refine (store1 H1 start).mono ?_
  rintro e w2 ⟨rfl, h2, o2⟩
  have b2 := hb.trans (o2.belowTwo w.heap.size (by omega) (by omega) (by omega))
  go_wp2_with fail
  clear H1 o2 hb
  go_loopw [7, 8] (fun v i wr => ∃ (k : Nat) (now cnt : Int), k ≤ l.length ∧ k ≤ 40 ∧ v = .int .u64 now ∧ i = .int .i64 k ∧ IsArena wr (w.heap.size + 1) w.heap.size ⟨[now], cnt⟩ ∧ Below w.heap.size w wr) (fun _ i _ => l.length - (intOf i).toNat)
  case atStart => exact ⟨0, start, _, Nat.zero_le _, Nat.zero_le _, rfl, rfl, h2, b2⟩
  case round =>
    obtain ⟨k, now, cnt, hk, hk2, rfl, rfl, hA, hbel⟩ := hrel
    have hsz := hbel.size
    by_cases hlt : k < l.length ∧ k < 40
    · obtain ⟨hlt, hlt2⟩ := hlt
      obtain ⟨b, off, rfl, hc⟩ := hl.at (by omega)
      have hc0 := hc k hlt
      have hbw := block_lt_of_cell hc0
      have hc1 := (hbel.cell (p := ⟨b, off + k, none⟩) hbw).trans hc0
      generalize l.getD k 0 = x at hc0 hc1
      clear hc hl
      by_cases he : now = start
      · subst he
        go_wp2_with fail
        refine (cas1_hit hA x).mono ?_
        rintro e w3 ⟨rfl, h3, o3⟩
        have b3 := hbel.trans (o3.belowTwo w.heap.size (by omega) (by omega) (by omega))
        have hc3 := (b3.cell (p := ⟨b, off + k, none⟩) hbw).trans hc0
        clear hc1 hc0
        go_wp2_with fail
        go_roundw
        case rel => exact ⟨k + 1, x, _, by omega, by omega, rfl, by go_num, h3, b3⟩
        case measure => simp [intOf]; omega
      · have hb0 : (now == start) = false := by simpa using he
        go_wp2_with fail
        refine (cas1_miss hA start x he).mono ?_
        rintro e w3 ⟨rfl, h3, o3⟩
        have b3 := hbel.trans (o3.belowTwo w.heap.size (by omega) (by omega) (by omega))
        go_wp2_with fail
        go_roundw
        case rel => exact ⟨k + 1, now, _, by omega, by omega, rfl, by go_num, h3, b3⟩
        case measure => simp [intOf]; omega
    · have hd : ¬ (k < l.length) ∨ (k < l.length ∧ ¬ (k < 40)) := by omega
      clear hlt
      rcases hd with hd | ⟨hd1, hd⟩
      all_goals
        go_wp2_with fail
        refine (load1 hA).mono ?_
        rintro e w3 ⟨rfl, h3, o3⟩
        go_wp2_with fail
        refine (cas1_hit h3 9).mono ?_
        rintro e w4 ⟨rfl, h4, o4⟩
        go_wp2_with fail
        refine (load1 h4).mono ?_
        rintro e w5 ⟨rfl, h5, o5⟩
        go_wp2_with fail
        refine (awake2_any _).mono ?_
        rintro e w6 ⟨rfl, b6⟩
        go_wp2_with fail
        go_ret
        have b5 := hbel.trans (((o3.trans o4).trans o5).belowTwo w.heap.size (by omega) (by omega) (by omega))
        exact ⟨rfl, b5.trans (b6.mono b5.size)⟩
end Go.Proofs.Ytkcdadmoaeeadaa

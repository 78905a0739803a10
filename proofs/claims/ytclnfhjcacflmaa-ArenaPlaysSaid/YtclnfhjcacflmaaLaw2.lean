/-
  The walks of the laws of layer 2, all but ArenaPlays: each returns true, and nothing that was there turns.
-/
import Derived.Test.YtclnfhjcacflmaaArenaNew
import Derived.Test.YtclnfhjcacflmaaOpen
namespace Go.Proofs.Ytclnfhjcacflmaa
open Go.RowKit

/-- The Only of two blocks of the call's own is Below. -/
theorem Only.belowTwo {a b : Nat} {w w' : World} (h : Only (Two a b) w w') (B : Nat) (hB : B ≤ w.heap.size) (ha : B ≤ a) (hb : B ≤ b) : Below B w w' :=
  h.below B hB (fun k hk => by rcases hk with rfl | rfl <;> assumption)

theorem cas1_hit {w : World} {a b : Nat} {x c : Int} (h : IsArena w a b ⟨[x], c⟩) (y : Int) :
    Calls Try.prog 9 #[.pointer (some ⟨a, 0, none⟩), .int .i64 0, .int .u64 x, .int .u64 y] w fun e w' => e = .returned (.bool true) ∧ IsArena w' a b ⟨[y], wrap64 (c + 1)⟩ ∧ Only (Two a b) w w' := by
  have := arena_cas h 0 x y
  simpa [AS.casOk, AS.on, AS.cas, AS.store] using this
theorem cas1_miss {w : World} {a b : Nat} {x c : Int} (h : IsArena w a b ⟨[x], c⟩) (o y : Int) (hne : ¬ x = o) :
    Calls Try.prog 9 #[.pointer (some ⟨a, 0, none⟩), .int .i64 0, .int .u64 o, .int .u64 y] w fun e w' => e = .returned (.bool false) ∧ IsArena w' a b ⟨[x], wrap64 (c + 1)⟩ ∧ Only (Two a b) w w' := by
  have := arena_cas h 0 o y
  simpa [AS.casOk, AS.on, AS.cas, AS.tick, hne] using this
theorem load1 {w : World} {a b : Nat} {x c : Int} (h : IsArena w a b ⟨[x], c⟩) :
    Calls Try.prog 7 #[.pointer (some ⟨a, 0, none⟩), .int .i64 0] w fun e w' => e = .returned (.int .u64 x) ∧ IsArena w' a b ⟨[x], wrap64 (c + 1)⟩ ∧ Only (Two a b) w w' := by
  have := arena_load h 0
  simpa [AS.load, AS.on, AS.tick] using this
theorem store1 {w : World} {a b : Nat} {x c : Int} (h : IsArena w a b ⟨[x], c⟩) (y : Int) :
    Calls Try.prog 8 #[.pointer (some ⟨a, 0, none⟩), .int .i64 0, .int .u64 y] w fun e w' => e = .returned (.tuple #[]) ∧ IsArena w' a b ⟨[y], wrap64 (c + 1)⟩ ∧ Only (Two a b) w w' := by
  have := arena_store h 0 y
  simpa [AS.store, AS.on] using this

set_option maxHeartbeats 400000 in
/-- awake: what the document fixes. -/
theorem awake2_any (w : World) : Calls Try.prog 5 #[] w fun e w' => e = .returned (.bool true) ∧ Below w.heap.size w w' := by
  go_enter Try.func5, Try.ntmps5
  go_wp2_with fail
  refine (arena_new 2 (by omega) (by omega) w).mono ?_
  rintro e w1 ⟨rfl, h1, hb, hs⟩
  have k0 := h1.head.lt
  have H1 : IsArena w1 (w.heap.size + 1) w.heap.size ⟨[0, 0], 0⟩ := h1
  have C1 := arena_cas H1 0 0 5
  simp only [show AS.casOk ⟨[0, 0], 0⟩ 0 0 = true from rfl, show AS.cas ⟨[0, 0], 0⟩ 0 0 5 = ⟨[5, 0], 1⟩ by simp [AS.cas, AS.casOk, AS.on, AS.store, wrap64]] at C1
  clear h1
  go_wp2_with fail
  refine C1.mono ?_
  rintro e w2 ⟨rfl, h2, o2⟩
  have C2 := arena_cas h2 0 0 6
  simp only [show AS.casOk ⟨[5, 0], 1⟩ 0 0 = false from rfl, show AS.cas ⟨[5, 0], 1⟩ 0 0 6 = ⟨[5, 0], 2⟩ by simp [AS.cas, AS.casOk, AS.on, AS.tick, wrap64]] at C2
  go_wp2_with fail
  refine C2.mono ?_
  rintro e w3 ⟨rfl, h3, o3⟩
  have C3 := arena_load h3 0
  simp only [show AS.load ⟨[5, 0], 2⟩ 0 = 5 from rfl, show AS.tick ⟨[5, 0], 2⟩ 0 = ⟨[5, 0], 3⟩ by simp [AS.on, AS.tick, wrap64]] at C3
  go_wp2_with fail
  refine C3.mono ?_
  rintro e w4 ⟨rfl, h4, o4⟩
  go_wp2_with fail
  refine (arena_count h4).mono ?_
  rintro e w5 ⟨rfl, rfl⟩
  go_wp2_with fail
  go_ret
  exact ⟨rfl, hb.trans ((((o2.trans o3).trans o4).belowTwo _ (by omega) (by omega) (by omega)))⟩

end Go.Proofs.Ytclnfhjcacflmaa

/-
  The walks of ArenaSums and ArenaEnds.
-/
import Derived.Test.YtclnfhjcacflmaaLaw2
import Derived.Test.YtclnfhjcacflmaaBits
namespace Go.Proofs.Ytclnfhjcacflmaa
open Go.RowKit

theorem add2 {w : World} {a b : Nat} {x y c : Int} (h : IsArena w a b ⟨[x, y], c⟩) (v : Int) :
    Calls Try.prog 10 #[.pointer (some ⟨a, 0, none⟩), .int .i64 0, .int .u64 v] w fun e w' => e = .returned (.int .u64 ((x + v) % 18446744073709551616)) ∧ IsArena w' a b ⟨[(x + v) % 18446744073709551616, y], wrap64 (c + 1)⟩ ∧ Only (Two a b) w w' := by
  have := arena_add h 0 v
  simpa [AS.sum, AS.on, AS.add, AS.store, AS.load] using this
theorem load2a {w : World} {a b : Nat} {x y c : Int} (h : IsArena w a b ⟨[x, y], c⟩) :
    Calls Try.prog 7 #[.pointer (some ⟨a, 0, none⟩), .int .i64 0] w fun e w' => e = .returned (.int .u64 x) ∧ IsArena w' a b ⟨[x, y], wrap64 (c + 1)⟩ ∧ Only (Two a b) w w' := by
  have := arena_load h 0
  simpa [AS.load, AS.on, AS.tick] using this
theorem load2b {w : World} {a b : Nat} {x y c : Int} (h : IsArena w a b ⟨[x, y], c⟩) :
    Calls Try.prog 7 #[.pointer (some ⟨a, 0, none⟩), .int .i64 1] w fun e w' => e = .returned (.int .u64 y) ∧ IsArena w' a b ⟨[x, y], wrap64 (c + 1)⟩ ∧ Only (Two a b) w w' := by
  have := arena_load h 1
  simpa [AS.load, AS.on, AS.tick] using this
theorem cas2b {w : World} {a b : Nat} {x y c : Int} (h : IsArena w a b ⟨[x, y], c⟩) (v : Int) :
    Calls Try.prog 9 #[.pointer (some ⟨a, 0, none⟩), .int .i64 1, .int .u64 y, .int .u64 v] w fun e w' => e = .returned (.bool true) ∧ IsArena w' a b ⟨[x, v], wrap64 (c + 1)⟩ ∧ Only (Two a b) w w' := by
  have := arena_cas h 1 y v
  simpa [AS.casOk, AS.on, AS.cas, AS.store] using this

theorem AS.zero_cnt (n : Nat) : (AS.zero n).cnt = 0 := rfl
theorem off_zero3 (i : Int) (h : i < 0 ∨ 3 ≤ i) : (AS.zero 3).on i = false := by
  rw [AS.on_not]; simpa [AS.zero] using h
theorem store_off {w : World} {a b : Nat} (h : IsArena w a b (AS.zero 3)) (i v : Int) (hi : i < 0 ∨ 3 ≤ i) :
    Calls Try.prog 8 #[.pointer (some ⟨a, 0, none⟩), .int .i64 i, .int .u64 v] w fun e w' => e = .returned (.tuple #[]) ∧ IsArena w' a b (AS.zero 3) ∧ Only (Two a b) w w' := by
  have := arena_store h i v
  simpa [AS.store, off_zero3 i hi] using this
theorem load_off {w : World} {a b : Nat} (h : IsArena w a b (AS.zero 3)) (i : Int) (hi : i < 0 ∨ 3 ≤ i) :
    Calls Try.prog 7 #[.pointer (some ⟨a, 0, none⟩), .int .i64 i] w fun e w' => e = .returned (.int .u64 0) ∧ IsArena w' a b (AS.zero 3) ∧ Only (Two a b) w w' := by
  have := arena_load h i
  simpa [AS.load, AS.tick, off_zero3 i hi] using this
theorem cas_off {w : World} {a b : Nat} (h : IsArena w a b (AS.zero 3)) (i x y : Int) (hi : i < 0 ∨ 3 ≤ i) :
    Calls Try.prog 9 #[.pointer (some ⟨a, 0, none⟩), .int .i64 i, .int .u64 x, .int .u64 y] w fun e w' => e = .returned (.bool false) ∧ IsArena w' a b (AS.zero 3) ∧ Only (Two a b) w w' := by
  have := arena_cas h i x y
  simpa [AS.cas, AS.casOk, AS.tick, off_zero3 i hi] using this
theorem add_off {w : World} {a b : Nat} (h : IsArena w a b (AS.zero 3)) (i v : Int) (hi : i < 0 ∨ 3 ≤ i) :
    Calls Try.prog 10 #[.pointer (some ⟨a, 0, none⟩), .int .i64 i, .int .u64 v] w fun e w' => e = .returned (.int .u64 0) ∧ IsArena w' a b (AS.zero 3) ∧ Only (Two a b) w w' := by
  have := arena_add h i v
  simpa [AS.sum, AS.add, AS.store, off_zero3 i hi] using this

end Go.Proofs.Ytclnfhjcacflmaa

/-
  reads.Set's Link, Len.
-/
import Derived.Test.YthjhhclgmkgigaaReadsNew
import Derived.Deep.QuietTactic
import Derived.BigQuiet
import Derived.IntWalk
namespace Go.Proofs.Ythjhhclgmkgigaa
open Go.RowKit
set_option linter.unusedVariables false

set_option maxHeartbeats 2000000 in
theorem link_hit (s k : Nat) (w : World) {cs : Array Value} {keys : List Int} {lk : Nat → Int} {ka : Option Addr} {kc : Nat} {sp : Value} (hb : Blk w s 64 cs) (hs : SetCells cs keys lk ka kc sp) (hi : Ints .i64 w ka keys) (hk : k < 64) (hm : (k : Int) ∈ keys) (hlen : keys.length ≤ 1000) :
    Calls Try.prog 14 #[.pointer (some ⟨s, 0, none⟩), .int .i64 k] w fun e w' => e = .returned (.tuple #[.int .u64 (lk k), .bool true]) ∧ ∃ n, w.drewN n = w' := by
  have c0 := (hb.cell 0).trans hs.row
  have C := contains_any ka kc keys k w hi (by omega)
  rw [decide_eq_true hm] at C
  have hl := hs.link k hk
  have cl : w.cell? ⟨s, 1 + k * 4 + 3, none⟩ = some (.int .u64 (lk k)) := by rw [hb.cell, show 1 + k * 4 + 3 = 4 + 4 * k by omega]; exact hl
  have g1 : (0 : Int) ≤ (k : Int) := by omega
  have g2 : (k : Int) < 64 := by omega
  clear hl hi hs hm
  go_enter Try.func14, Try.ntmps14
  go_wp2_with fail
  refine C.mono ?_
  rintro e w1 ⟨rfl, rfl⟩
  go_wp2_with fail
  go_ret2
  exact ⟨rfl, 0, rfl⟩

set_option maxHeartbeats 2000000 in
theorem link_miss (s : Nat) (k : Int) (w : World) {cs : Array Value} {keys : List Int} {lk : Nat → Int} {ka : Option Addr} {kc : Nat} {sp : Value} (hb : Blk w s 64 cs) (hs : SetCells cs keys lk ka kc sp) (hi : Ints .i64 w ka keys) (hm : ¬ k ∈ keys) (hlen : keys.length ≤ 1000) :
    Calls Try.prog 14 #[.pointer (some ⟨s, 0, none⟩), .int .i64 k] w fun e w' => e = .returned (.tuple #[.int .u64 0, .bool false]) ∧ w = w' := by
  have c0 := (hb.cell 0).trans hs.row
  have C := contains_any ka kc keys k w hi (by omega)
  rw [decide_eq_false hm] at C
  clear hi hs hm
  go_enter Try.func14, Try.ntmps14
  go_wp2_with fail
  refine C.mono ?_
  rintro e w1 ⟨rfl, rfl⟩
  go_wp2_with fail
  go_ret2
  exact ⟨rfl, rfl⟩

set_option maxHeartbeats 2000000 in
theorem len_any (s : Nat) (w : World) {cs : Array Value} {keys : List Int} {lk : Nat → Int} {ka sa : Option Addr} {kc sn sc : Nat} (hb : Blk w s 64 cs) (hs : SetCells cs keys lk ka kc (.slice sa sn sc)) (hlen : keys.length ≤ 1000) (hsn : sn ≤ 64) :
    Calls Try.prog 16 #[.pointer (some ⟨s, 0, none⟩)] w fun e w' => e = .returned (.int .i64 ((keys.length : Int) + (sn : Int))) ∧ ∃ n, w.drewN n = w' := by
  have c0 := (hb.cell 0).trans hs.row
  have c1 := (hb.cell 257).trans hs.spans
  have g7 : IntKind.i64.wrap ((keys.length : Int) + (sn : Int)) = (keys.length : Int) + (sn : Int) := IntWalk.i64_in _ (by omega)
  clear hs
  go_enter Try.func16, Try.ntmps16
  go_wp2_with fail
  go_quiet (fail)
  go_wp2_with fail
  go_ret
  exact ⟨rfl, _, rfl⟩
end Go.Proofs.Ythjhhclgmkgigaa

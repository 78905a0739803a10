/-
  reads.Set's Span: the refusals; an own row of numbers as Ints.
-/
import Derived.Test.YthjhhclgmkgigaaReadsGet
import Derived.Laws.OwnMore
namespace Go.Proofs.Ythjhhclgmkgigaa
open Go.RowKit
set_option linter.unusedVariables false

theorem ints_of_own {B n kc : Nat} {w : World} {e : TypeId} {k : IntKind} {ka : Option Addr} {xs : List Int} (h : w.ownsRow B e 1 (.slice ka n kc) n (xs.map (Value.int k))) : Ints k w ka xs := by
  have hl : xs.length = n := by have := h.1; simpa using this
  rcases h.2 with ⟨_, h0⟩ | ⟨g, cap, cur, hv, _⟩
  · left; exact List.eq_nil_of_length_eq_zero (by omega)
  · right
    injection hv with ha hn hc
    subst ha
    refine ⟨g, 0, rfl, fun i hi => ?_⟩
    rw [Nat.zero_add, h.cellAt i (by omega), List.getElem?_map, List.getElem?_eq_getElem hi, List.getD_eq_getElem?_getD, List.getElem?_eq_getElem hi]
    rfl

set_option maxHeartbeats 2000000 in
theorem span_bad (s : Nat) (lo hi : Int) (v : Value) (w : World) (hbad : lo < 0 ∨ 63 < lo ∨ hi < 0 ∨ 63 < hi ∨ hi < lo) :
    Calls Try.prog 9 #[.pointer (some ⟨s, 0, none⟩), .int .i64 lo, .int .i64 hi, v] w fun e w' => e = .returned (.int .i64 1) ∧ w = w' := by
  have i1 := is_any lo w
  have i2 := is_any hi w
  by_cases h1 : isKey lo = true
  · rw [h1] at i1
    by_cases h2 : isKey hi = true
    · rw [h2] at i2
      have h3 : hi < lo := by simp [isKey] at h1 h2; omega
      go_enter Try.func9, Try.ntmps9
      go_wp2_with fail
      refine i1.mono ?_
      rintro e w1 ⟨rfl, rfl⟩
      go_wp2_with fail
      refine i2.mono ?_
      rintro e w1 ⟨rfl, rfl⟩
      go_wp2_with fail
      go_ret
      exact ⟨rfl, rfl⟩
    · rw [Bool.not_eq_true] at h2
      rw [h2] at i2
      go_enter Try.func9, Try.ntmps9
      go_wp2_with fail
      refine i1.mono ?_
      rintro e w1 ⟨rfl, rfl⟩
      go_wp2_with fail
      refine i2.mono ?_
      rintro e w1 ⟨rfl, rfl⟩
      go_wp2_with fail
      go_ret
      exact ⟨rfl, rfl⟩
  · rw [Bool.not_eq_true] at h1
    rw [h1] at i1
    go_enter Try.func9, Try.ntmps9
    go_wp2_with fail
    refine i1.mono ?_
    rintro e w1 ⟨rfl, rfl⟩
    go_wp2_with fail
    go_ret
    exact ⟨rfl, rfl⟩

set_option maxHeartbeats 2000000 in
theorem span_many (s : Nat) (lo hi : Int) (v : Value) (w : World) {cs : Array Value} {keys : List Int} {lk : Nat → Int} {ka sa : Option Addr} {kc sn sc : Nat} (hb : Blk w s 64 cs) (hs : SetCells cs keys lk ka kc (.slice sa sn sc)) (h0 : 0 ≤ lo) (h1 : lo ≤ hi) (h2 : hi ≤ 63) (hsn : 64 ≤ sn) :
    Calls Try.prog 9 #[.pointer (some ⟨s, 0, none⟩), .int .i64 lo, .int .i64 hi, v] w fun e w' => e = .returned (.int .i64 65) ∧ w = w' := by
  have i1 := is_any lo w
  have i2 := is_any hi w
  rw [show isKey lo = true by simp [isKey]; omega] at i1
  rw [show isKey hi = true by simp [isKey]; omega] at i2
  have c1 := (hb.cell 257).trans hs.spans
  clear hs
  go_enter Try.func9, Try.ntmps9
  go_wp2_with fail
  refine i1.mono ?_
  rintro e w1 ⟨rfl, rfl⟩
  go_wp2_with fail
  refine i2.mono ?_
  rintro e w1 ⟨rfl, rfl⟩
  go_wp2_with fail
  go_ret
  exact ⟨rfl, rfl⟩
end Go.Proofs.Ythjhhclgmkgigaa

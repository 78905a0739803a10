/-
  slices.Clip and Clone of rows of ranges, and Clip of numbers.
-/
import Derived.Test.YthjhhclgmkgigaaSetAt
namespace Go.Proofs.Ythjhhclgmkgigaa
open Go.RowKit
set_option linter.unusedVariables false
set_option linter.unusedSimpArgs false

set_option maxHeartbeats 2000000 in
theorem clip_u64 (a : Option Addr) (n c : Nat) (w : World) (h : n ≤ c) (hc : c ≤ 9223372036854775807) :
    Calls Try.prog 27 #[.slice a n c] w fun e w' => e = .returned (.slice a n n) ∧ w = w' := by
  go_enter Try.func27, Try.ntmps27
  go_wp2_with fail
  go_ret
  exact ⟨rfl, rfl⟩
set_option maxHeartbeats 2000000 in
theorem clip_scan (a : Option Addr) (n c : Nat) (w : World) (h : n ≤ c) (hc : c ≤ 9223372036854775807) :
    Calls Try.prog 25 #[.slice a n c] w fun e w' => e = .returned (.slice a n n) ∧ w = w' := by
  go_enter Try.func25, Try.ntmps25
  go_wp2_with fail
  go_ret
  exact ⟨rfl, rfl⟩

theorem info_scan : (Try.prog.info? 37).map (fun i => (i.zero, i.size, i.bytes)) = some (some (.agg #[.int .i64 0, .int .i64 0, .slice none 0 0]), 3, 40) := by kernel_rfl

set_option maxHeartbeats 2000000 in
theorem clone_scan (B g c : Nat) (ss : List SP) (w : World) (h : w.ownsRow B 37 3 (.slice (some ⟨g, 0, none⟩) ss.length c) ss.length (spRow ss)) (hlen : ss.length ≤ 1000) :
    Calls Try.prog 26 #[.slice (some ⟨g, 0, none⟩) ss.length c] w fun e w' => (∃ g' cap, e = .returned (.slice (some ⟨g', 0, none⟩) ss.length cap) ∧ w'.ownsRow w.heap.size 37 3 (.slice (some ⟨g', 0, none⟩) ss.length cap) ss.length (spRow ss)) ∧ Below w.heap.size w w' := by
  obtain ⟨i0, hi, hz0, hz1, hz2⟩ := info_parts info_scan
  have A' := Lib.hid (show ∀ j u, (spRow ss)[j]? = some u → w.cell? ((⟨g, 0, none⟩ : Addr).add j) = some u from h.cells rfl)
  have hl := spRow_len ss
  have HL := Lib.hid hl
  clear h hl
  have q : ∀ (w : World) (a : Option Addr) (n c n' c' : Nat), (binOp .eql 33 (.slice a n c) (.slice none n' c')).run Try.prog w = .ok (.bool a.isNone) w := fun w a n c n' c' => Lib.run_eql_slice_nil w _ _ a n c n' c' Try.underlying33
  go_enter Try.func26, Try.ntmps26
  go_wp2_with (at_builtin; refine wpList_append_own _ rfl _ _ 33 rfl w.heap.size 37 i0 (.agg #[.int .i64 0, .int .i64 0, .slice none 0 0]) 3 40 Try.underlying33 hi hz0 hz1 hz2 rfl (by decide) _ _ _ rfl (World.ownsRow_made w #[] 0 (Nat.le_refl _) (Nat.zero_le _) rfl) ⟨g, 0, none⟩ ss.length c (spRow ss) rfl ?qc1 ?qc2 ?qc3 ?qc4 ?qc5 ?qc6 ?_)
  case qc1 => exact HL.out
  case qc2 =>
    intro j u hj
    exact Lib.cell?_alloc_some _ (A'.out j u hj)
  case qc3 => exact spRow_one ss
  case qc4 => unfold maxLen; omega
  case qc5 => omega
  case qc6 => simp
  intro v' w1 hown hgrow hnil
  go_wp2
  go_ret
  have hown' : w1.ownsRow w.heap.size 37 3 v' ss.length (spRow ss) := by simpa using hown
  refine ⟨?_, ((Below.refl _ w).alloc (Nat.le_refl _) _).grown hgrow (by simp) (by intro k hk; simp [Value.ownBlock] at hk; omega)⟩
  rcases hown'.2 with ⟨h0, _⟩ | ⟨g, cap, cur, rfl, _⟩
  · exact absurd h0 hnil
  · exact ⟨g, cap, rfl, hown'⟩
set_option maxHeartbeats 1000000 in
theorem clone_scan_nil (n c : Nat) (w : World) : Calls Try.prog 26 #[.slice none n c] w fun e w' => e = .returned (.slice none 0 0) ∧ w = w' := by
  have q : ∀ (w : World) (a : Option Addr) (n c n' c' : Nat), (binOp .eql 33 (.slice a n c) (.slice none n' c')).run Try.prog w = .ok (.bool a.isNone) w := fun w a n c n' c' => Lib.run_eql_slice_nil w _ _ a n c n' c' Try.underlying33
  go_enter Try.func26, Try.ntmps26
  go_wp2
  go_ret
  exact ⟨rfl, rfl⟩
end Go.Proofs.Ythjhhclgmkgigaa

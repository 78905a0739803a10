/-
  What the methods of the atomic words do: Load, Store, CompareAndSwap and Add of atomic.Uint64 and atomic.Int64: at a cell that is there and may be written.
-/
import Derived.Test.YtclnfhjcacflmaaProg
import Derived.Test.YtclnfhjcacflmaaBase
namespace Go.Proofs.Ytclnfhjcacflmaa
open Go.RowKit

theorem add_u64 (P : Program) (x y : Int) (w : World) : (Op.intArith .add .u64 x y).run P w = .ok (.int .u64 ((x + y) % 18446744073709551616)) w := by
  rw [← IntKind.wrap_u64]; rfl
theorem add_i64 (P : Program) (x y : Int) (w : World) : (Op.intArith .add .i64 x y).run P w = .ok (.int .i64 (wrap64 (x + y))) w := by
  rw [← IntWalk.i64_left]; rfl
set_option maxHeartbeats 400000 in
theorem u64_load (b : Nat) (o : Nat) (v : Int) (w : World) (hc : w.cell? ⟨b, o, none⟩ = some (.int .u64 v)) :
    Calls Try.prog 16 #[.pointer (some ⟨b, o, none⟩)] w fun e w' => e = .returned (.int .u64 v) ∧ w = w' := by
  have h := run_call_load (P := Try.prog) Try.func23 (by kernel_rfl) (by kernel_rfl) (by kernel_rfl) .u64 (by kernel_rfl) hc
  go_enter Try.func16, Try.ntmps16
  go_wp2
  go_ret
  exact ⟨rfl, rfl⟩
set_option maxHeartbeats 400000 in
theorem u64_store (b : Nat) (o : Nat) (u : Value) (v : Int) (w : World) (hc : w.cell? ⟨b, o, none⟩ = some u) (hf : w.frozen? ⟨b, o, none⟩ = false) :
    Calls Try.prog 17 #[.pointer (some ⟨b, o, none⟩), .int .u64 v] w fun e w' => e = .returned (.tuple #[]) ∧ w.setCell ⟨b, o, none⟩ (.int .u64 v) = w' := by
  have h := run_call_store (P := Try.prog) Try.func24 (by kernel_rfl) (by kernel_rfl) (by kernel_rfl) (by kernel_rfl) (k := .u64) (y := v) hc hf
  go_enter Try.func17, Try.ntmps17
  go_wp2
  go_end0
  exact ⟨rfl, rfl⟩
set_option maxHeartbeats 400000 in
theorem u64_cas (b : Nat) (o : Nat) (x a y : Int) (w : World) (hc : w.cell? ⟨b, o, none⟩ = some (.int .u64 x)) (hf : w.frozen? ⟨b, o, none⟩ = false) :
    Calls Try.prog 18 #[.pointer (some ⟨b, o, none⟩), .int .u64 a, .int .u64 y] w fun e w' => e = .returned (.bool (decide (x = a))) ∧ (if x = a then w.setCell ⟨b, o, none⟩ (.int .u64 y) else w) = w' := by
  by_cases e : x = a
  · subst e
    have h := run_call_cas_hit (P := Try.prog) Try.func25 (by kernel_rfl) (by kernel_rfl) (by kernel_rfl) .u64 (by kernel_rfl) (y := y) hc hf
    go_enter Try.func18, Try.ntmps18
    go_wp2
    go_ret
    exact ⟨by simp, by simp⟩
  · have h := run_call_cas_miss (P := Try.prog) Try.func25 (by kernel_rfl) (by kernel_rfl) (by kernel_rfl) .u64 (by kernel_rfl) (y := y) hc hf e
    go_enter Try.func18, Try.ntmps18
    go_wp2
    go_ret
    exact ⟨by simp, by simp⟩
set_option maxHeartbeats 400000 in
theorem u64_add (b : Nat) (o : Nat) (x y : Int) (w : World) (hc : w.cell? ⟨b, o, none⟩ = some (.int .u64 x)) (hf : w.frozen? ⟨b, o, none⟩ = false) :
    Calls Try.prog 19 #[.pointer (some ⟨b, o, none⟩), .int .u64 y] w fun e w' => e = .returned (.int .u64 ((x + y) % 18446744073709551616)) ∧ w.setCell ⟨b, o, none⟩ (.int .u64 ((x + y) % 18446744073709551616)) = w' := by
  have h := run_call_add (P := Try.prog) Try.func26 (by kernel_rfl) (by kernel_rfl) (by kernel_rfl) .u64 (by kernel_rfl) hc hf (add_u64 _ x y w)
  go_enter Try.func19, Try.ntmps19
  go_wp2
  go_ret
  exact ⟨rfl, rfl⟩
set_option maxHeartbeats 400000 in
theorem i64_load (b : Nat) (o : Nat) (v : Int) (w : World) (hc : w.cell? ⟨b, o, none⟩ = some (.int .i64 v)) :
    Calls Try.prog 21 #[.pointer (some ⟨b, o, none⟩)] w fun e w' => e = .returned (.int .i64 v) ∧ w = w' := by
  have h := run_call_load (P := Try.prog) Try.func28 (by kernel_rfl) (by kernel_rfl) (by kernel_rfl) .i64 (by kernel_rfl) hc
  go_enter Try.func21, Try.ntmps21
  go_wp2
  go_ret
  exact ⟨rfl, rfl⟩
set_option maxHeartbeats 400000 in
theorem i64_store (b : Nat) (o : Nat) (u : Value) (v : Int) (w : World) (hc : w.cell? ⟨b, o, none⟩ = some u) (hf : w.frozen? ⟨b, o, none⟩ = false) :
    Calls Try.prog 20 #[.pointer (some ⟨b, o, none⟩), .int .i64 v] w fun e w' => e = .returned (.tuple #[]) ∧ w.setCell ⟨b, o, none⟩ (.int .i64 v) = w' := by
  have h := run_call_store (P := Try.prog) Try.func27 (by kernel_rfl) (by kernel_rfl) (by kernel_rfl) (by kernel_rfl) (k := .i64) (y := v) hc hf
  go_enter Try.func20, Try.ntmps20
  go_wp2
  go_end0
  exact ⟨rfl, rfl⟩
set_option maxHeartbeats 400000 in
theorem i64_add (b : Nat) (o : Nat) (x y : Int) (w : World) (hc : w.cell? ⟨b, o, none⟩ = some (.int .i64 x)) (hf : w.frozen? ⟨b, o, none⟩ = false) :
    Calls Try.prog 22 #[.pointer (some ⟨b, o, none⟩), .int .i64 y] w fun e w' => e = .returned (.int .i64 (wrap64 (x + y))) ∧ w.setCell ⟨b, o, none⟩ (.int .i64 (wrap64 (x + y))) = w' := by
  have h := run_call_add (P := Try.prog) Try.func29 (by kernel_rfl) (by kernel_rfl) (by kernel_rfl) .i64 (by kernel_rfl) hc hf (add_i64 _ x y w)
  go_enter Try.func22, Try.ntmps22
  go_wp2
  go_ret
  exact ⟨rfl, rfl⟩
end Go.Proofs.Ytclnfhjcacflmaa

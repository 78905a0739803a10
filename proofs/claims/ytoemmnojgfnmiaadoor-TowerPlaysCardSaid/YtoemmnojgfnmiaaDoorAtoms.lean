/-
  What the methods of the atomic words do: Load, Store, CompareAndSwap and Add of atomic.Uint64 and atomic.Int64: at a cell that is there and may be written.
-/
import Derived.Test.YtoemmnojgfnmiaaDoorProg
import Derived.Test.YtoemmnojgfnmiaaDoorBase
namespace Go.Proofs.YtoemmnojgfnmiaaDoor
open Go.RowKit

theorem add_u64 (P : Program) (x y : Int) (w : World) : (Op.intArith .add .u64 x y).run P w = .ok (.int .u64 ((x + y) % 18446744073709551616)) w := by
  rw [← IntKind.wrap_u64]; rfl
theorem add_i64 (P : Program) (x y : Int) (w : World) : (Op.intArith .add .i64 x y).run P w = .ok (.int .i64 (wrap64 (x + y))) w := by
  rw [← IntWalk.i64_left]; rfl
set_option maxHeartbeats 400000 in
theorem u64_load (b : Nat) (o : Nat) (v : Int) (w : World) (hc : w.cell? ⟨b, o, none⟩ = some (.int .u64 v)) :
    Calls Tryd.prog 31 #[.pointer (some ⟨b, o, none⟩)] w fun e w' => e = .returned (.int .u64 v) ∧ w = w' := by
  have h := run_call_load (P := Tryd.prog) Tryd.func34 (by kernel_rfl) (by kernel_rfl) (by kernel_rfl) .u64 (by kernel_rfl) hc
  go_enter Tryd.func31, Tryd.ntmps31
  go_wp2
  go_ret
  exact ⟨rfl, rfl⟩
set_option maxHeartbeats 400000 in
theorem u64_cas (b : Nat) (o : Nat) (x a y : Int) (w : World) (hc : w.cell? ⟨b, o, none⟩ = some (.int .u64 x)) (hf : w.frozen? ⟨b, o, none⟩ = false) :
    Calls Tryd.prog 32 #[.pointer (some ⟨b, o, none⟩), .int .u64 a, .int .u64 y] w fun e w' => e = .returned (.bool (decide (x = a))) ∧ (if x = a then w.setCell ⟨b, o, none⟩ (.int .u64 y) else w) = w' := by
  by_cases e : x = a
  · subst e
    have h := run_call_cas_hit (P := Tryd.prog) Tryd.func35 (by kernel_rfl) (by kernel_rfl) (by kernel_rfl) .u64 (by kernel_rfl) (y := y) hc hf
    go_enter Tryd.func32, Tryd.ntmps32
    go_wp2
    go_ret
    exact ⟨by simp, by simp⟩
  · have h := run_call_cas_miss (P := Tryd.prog) Tryd.func35 (by kernel_rfl) (by kernel_rfl) (by kernel_rfl) .u64 (by kernel_rfl) (y := y) hc hf e
    go_enter Tryd.func32, Tryd.ntmps32
    go_wp2
    go_ret
    exact ⟨by simp, by simp⟩
set_option maxHeartbeats 400000 in
theorem i64_add (b : Nat) (o : Nat) (x y : Int) (w : World) (hc : w.cell? ⟨b, o, none⟩ = some (.int .i64 x)) (hf : w.frozen? ⟨b, o, none⟩ = false) :
    Calls Tryd.prog 33 #[.pointer (some ⟨b, o, none⟩), .int .i64 y] w fun e w' => e = .returned (.int .i64 (wrap64 (x + y))) ∧ w.setCell ⟨b, o, none⟩ (.int .i64 (wrap64 (x + y))) = w' := by
  have h := run_call_add (P := Tryd.prog) Tryd.func36 (by kernel_rfl) (by kernel_rfl) (by kernel_rfl) .i64 (by kernel_rfl) hc hf (add_i64 _ x y w)
  go_enter Tryd.func33, Tryd.ntmps33
  go_wp2
  go_ret
  exact ⟨rfl, rfl⟩
end Go.Proofs.YtoemmnojgfnmiaaDoor

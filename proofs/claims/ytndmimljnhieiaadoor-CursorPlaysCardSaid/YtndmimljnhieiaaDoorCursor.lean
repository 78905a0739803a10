/-
  cursor.Cursor over a Tower of the law's own.
-/
import Derived.Test.YtndmimljnhieiaaDoorTowerW
import Derived.Test.YtndmimljnhieiaaDoorOnce
import Derived.Deep.RegionHeld3
import Derived.Deep.DrawnRows
namespace Go.Proofs.YtndmimljnhieiaaDoor
open Go.RowKit
set_option linter.unusedVariables false
set_option linter.unusedSimpArgs false
attribute [local go_sem ↓] Go.wp_at_zero Go.wp_at_succ

/-- The Cursor lies in the block c. -/
def IsCur (w : World) (c t : Nat) (lo hi at_ : Int) (dn : Bool) : Prop :=
  Blk w c 88 #[.pointer (some ⟨t, 0, none⟩), .int .i64 lo, .int .i64 hi, .int .i64 at_, .int .u32 (if dn then 1 else 0), .int .i32 0, .int .u32 0, .bool dn]

set_option maxHeartbeats 1000000 in
theorem cur_new (w : World) (t : Nat) (lo hi : Int) (h1 : 0 ≤ lo) (h2 : lo ≤ hi) (h3 : hi ≤ 63) :
    Calls Tryd.prog 28 #[.pointer (some ⟨t, 0, none⟩), .int .i64 lo, .int .i64 hi] w fun e w' => e = .returned (.tuple #[.pointer (some ⟨w.heap.size, 0, none⟩), .int .i64 0]) ∧ IsCur w' w.heap.size t lo hi (-1) false ∧ Only0 w w' ∧ w.heap.size < w'.heap.size := by
  have q1 : lo ≤ 63 := by omega
  have q2 : 0 ≤ hi := by omega
  go_enter Tryd.func28, Tryd.ntmps28
  go_wp2_with fail
  go_ret2
  exact ⟨rfl, Blk.new _ _ _, (Only0.refl w).alloc _, by simp⟩
set_option maxHeartbeats 1000000 in
theorem cur_done {w : World} {c t : Nat} {lo hi at_ : Int} {dn : Bool} (h : IsCur w c t lo hi at_ dn) :
    Calls Tryd.prog 29 #[.pointer (some ⟨c, 0, none⟩)] w fun e w' => e = .returned (.bool dn) ∧ w = w' := by
  have c7 : w.cell? ⟨c, 7, none⟩ = some (.bool dn) := by rw [Blk.cell h]; rfl
  go_enter Tryd.func29, Tryd.ntmps29
  go_wp2_with fail
  go_ret
  exact ⟨rfl, rfl⟩
set_option maxHeartbeats 1000000 in
theorem cur_at {w : World} {c t : Nat} {lo hi at_ : Int} {dn : Bool} (h : IsCur w c t lo hi at_ dn) :
    Calls Tryd.prog 30 #[.pointer (some ⟨c, 0, none⟩)] w fun e w' => e = .returned (.int .i64 at_) ∧ w = w' := by
  have c3 : w.cell? ⟨c, 3, none⟩ = some (.int .i64 at_) := by rw [Blk.cell h]; rfl
  go_enter Tryd.func30, Tryd.ntmps30
  go_wp2_with fail
  go_ret
  exact ⟨rfl, rfl⟩
theorem end_enter (cap : Array Value) (w : World) : (callFunc 48 cap).run Tryd.prog w = .ok (.enter 48 cap) w := by kernel_rfl
set_option maxHeartbeats 1000000 in
theorem end_fn (b c : Nat) (w : World) (hb : w.cell? ⟨b, 0, none⟩ = some (.pointer (some ⟨c, 0, none⟩))) {v : Value} (hc : w.cell? ⟨c, 7, none⟩ = some v) (hf : w.frozen? ⟨c, 7, none⟩ = false) :
    Calls Tryd.prog 48 #[.pointer (some ⟨b, 0, none⟩)] w fun e w' => e = .returned (.tuple #[]) ∧ w.setCell ⟨c, 7, none⟩ (.bool true) = w' := by
  go_enter Tryd.func48, Tryd.ntmps48
  go_wp2_with fail
  go_end0
  exact ⟨rfl, rfl⟩
set_option maxHeartbeats 4000000 in
theorem cur_end {w : World} {c t : Nat} {lo hi at_ : Int} (h : IsCur w c t lo hi at_ false) :
    Calls Tryd.prog 43 #[.pointer (some ⟨c, 0, none⟩)] w fun e w' => e = .returned (.tuple #[]) ∧ IsCur w' c t lo hi at_ true ∧ Only (fun b => b = c) w w' := by
  have hlt : c < w.heap.size := Blk.lt h
  obtain ⟨W, hW⟩ : ∃ W, W = w.alloc (.cells #[.pointer (some ⟨c, 0, none⟩)] 52) := ⟨_, rfl⟩
  have H1 : IsCur W c t lo hi at_ false := by rw [hW]; exact Blk.alloc h _
  have K1 : Blk W w.heap.size 52 #[.pointer (some ⟨c, 0, none⟩)] := by rw [hW]; exact Blk.new _ _ _
  have o1 : Only (fun b => b = c) w W := by rw [hW]; exact (Only.refl _ w).alloc _
  have h4 : W.cell? ⟨c, 4, none⟩ = some (.int .u32 0) := by rw [Blk.cell H1]; rfl
  have h5 : W.cell? ⟨c, 5, none⟩ = some (.int .i32 0) := by rw [Blk.cell H1]; rfl
  have H2 := Blk.set H1 5 (.int .i32 1)
  have hne : w.heap.size ≠ c := by omega
  have K2 := K1.other ⟨c, 5, none⟩ (.int .i32 1) hne
  have H3 := Blk.set H2 7 (.bool true)
  have F := end_fn w.heap.size c (W.setCell ⟨c, 5, none⟩ (.int .i32 1)) (by rw [K2.cell]; rfl) (by rw [H2.cell]; rfl) (H2.free 7)
  have DO := once_do_first c 4 48 #[.pointer (some ⟨w.heap.size, 0, none⟩)] (fun w1 => w1 = (W.setCell ⟨c, 5, none⟩ (.int .i32 1)).setCell ⟨c, 7, none⟩ (.bool true)) W (fun w => end_enter _ w) h4 h5 (Blk.free H1 4) (Blk.free H1 5)
    (F.mono (by
      rintro e w1 ⟨rfl, rfl⟩
      refine ⟨rfl, rfl, ?_, ?_, H3.free _, H3.free _⟩
      · rw [H3.cell]; rfl
      · rw [H3.cell]; rfl))
  have HN := Lib.hid hne
  have HL := Lib.hid hlt
  rw [hW] at DO
  have ow : Only (fun b => b = c) w (((W.setCell ⟨c, 5, none⟩ (.int .i32 1)).setCell ⟨c, 7, none⟩ (.bool true)).drew.setCell ⟨c, 4, none⟩ (.int .u32 1)) :=
    (((o1.setCell (fun _ => rfl) _).setCell (fun _ => rfl) _).drew).setCell (fun _ => rfl) _
  have H4 := (H3.drew.set 4 (.int .u32 1)).set 5 (.int .i32 0)
  have H5 := Lib.hid H4
  have O5 := Lib.hid ow
  clear H4 ow H3 H2 F K2 K1 h4 h5 H1 o1 hne hlt
  go_enter Tryd.func43, Tryd.ntmps43
  go_wp2_with fail
  refine DO.mono ?_
  rintro e w1 ⟨rfl, w2, rfl, rfl⟩
  clear DO
  go_wp2_with fail
  go_end0
  rw [hW] at H5 O5
  exact ⟨rfl, H5.out, O5.out.setCell (fun _ => rfl) _⟩
end Go.Proofs.YtndmimljnhieiaaDoor

/-
  cursor.Cursor's Next; a Cursor and a Tower of the law's own; awake of layer 12.
-/
import Derived.Test.YtndmimljnhieiaaDoorCursor
import Derived.IntWalk
namespace Go.Proofs.YtndmimljnhieiaaDoor
open Go.RowKit
set_option linter.unusedVariables false
set_option linter.unusedSimpArgs false
attribute [local go_sem ↓] Go.wp_at_zero Go.wp_at_succ

/-- Whence the next key is looked for. -/
def fromAt (lo at_ : Int) : Int := if lo < at_ + 1 then at_ + 1 else lo
theorem cells_cur {w : World} {c t : Nat} {lo hi at_ : Int} {dn : Bool} (h : IsCur w c t lo hi at_ dn) : w.cell? ⟨c, 0, none⟩ = some (.pointer (some ⟨t, 0, none⟩)) ∧ w.cell? ⟨c, 1, none⟩ = some (.int .i64 lo) ∧ w.cell? ⟨c, 2, none⟩ = some (.int .i64 hi) ∧ w.cell? ⟨c, 3, none⟩ = some (.int .i64 at_) ∧ w.cell? ⟨c, 7, none⟩ = some (.bool dn) := by
  refine ⟨?_, ?_, ?_, ?_, ?_⟩ <;> (rw [Blk.cell h]; rfl)
theorem next_done {w : World} {c t : Nat} {lo hi at_ : Int} (h : IsCur w c t lo hi at_ true) :
    Calls Tryd.prog 31 #[.pointer (some ⟨c, 0, none⟩)] w fun e w' => e = .returned (.tuple #[.int .i64 0, .bool false]) ∧ w = w' := by
  obtain ⟨c0, c1, c2, c3, c7⟩ := cells_cur h
  clear h
  go_enter Tryd.func31, Tryd.ntmps31
  go_wp2_with fail
  go_ret2
  exact ⟨rfl, rfl⟩
set_option maxHeartbeats 4000000 in
/-- Next, not done: r is what From tells. -/
theorem next_some {w : World} {c t a b : Nat} {lo hi at_ : Int} {H : Nat → Nat} (h : IsCur w c t lo hi at_ false) (ht : IsTH w t a b H) (hT : Tab w) (ng : ¬ Two a b 0) (nc : ¬ Two a b c) (p1 : -1 ≤ at_) (p2 : at_ ≤ 63)
    (k : Nat) (hk : fromK H (fromAt lo at_) = some k) (hh : (k : Int) ≤ hi) :
    Calls Tryd.prog 31 #[.pointer (some ⟨c, 0, none⟩)] w fun e w' => e = .returned (.tuple #[.int .i64 k, .bool true]) ∧ IsCur w' c t lo hi k false ∧ ∃ w1, IsTH w1 t a b H ∧ Only (Two a b) w w1 ∧ w' = w1.setCell ⟨c, 3, none⟩ (.int .i64 k) := by
  obtain ⟨c0, c1, c2, c3, c7⟩ := cells_cur h
  have E0 : ∀ w2, Only (Two a b) w.drew w2 → IsCur w2 c t lo hi at_ false := fun w2 o => o.blk (Blk.drew h) nc
  have C := fun (w' : World) (o : Only (fun _ => False) w w') => th_from_some (ht.only o (fun h => h) (fun h => h) (fun h => h)) (hT.only o (fun h => h)) ng (fromAt lo at_) k hk
  have o0 : Only (fun _ => False) w w.drew := (Only.refl _ w).drew
  have C1 := C w.drew o0
  have HE := Lib.hid E0
  have F3 := Lib.hid (fun (w2 : World) (h2 : IsCur w2 c t lo hi at_ false) => (show IsCur (w2.setCell ⟨c, 3, none⟩ (.int .i64 k)) c t lo hi k false from Blk.set h2 3 (.int .i64 k)))
  clear E0 C o0 h ht hT hk
  have gw : IntKind.i64.wrap (at_ + 1) = at_ + 1 := IntWalk.i64_in _ (by omega)
  obtain ⟨fr, hfr⟩ : ∃ fr, fr = fromAt lo at_ := ⟨_, rfl⟩
  have gi : (if lo < at_ + 1 then at_ + 1 else lo) = fr := hfr.symm
  rw [← hfr] at C1
  clear hfr
  go_enter Tryd.func31, Tryd.ntmps31
  go_wp2_with fail
  refine wp_region_held_drew (S := (fun w' => w'.cell? ⟨c, 0, none⟩ = some (.pointer (some ⟨t, 0, none⟩)) ∧ w'.cell? ⟨c, 1, none⟩ = some (.int .i64 lo) ∧ w'.cell? ⟨c, 3, none⟩ = some (.int .i64 at_))) (by kernel_rfl) ?_ (fun hHeld => ?_)
  · (first | exact ⟨c0, c1, c3⟩ | exact ⟨(cells_cur (HE.out _ (by assumption))).1, (cells_cur (HE.out _ (by assumption))).2.1, (cells_cur (HE.out _ (by assumption))).2.2.2.1⟩)
  refine wpAnyH_take (i := 0) (v := ?_) rfl (by kernel_rfl) (by kernel_rfl) (by kernel_rfl) (fun _ _ _ h => h) (Or.inl ⟨by rfl, ?_⟩) (by assumption) ?_; rotate_left; (focus (intro w hSw; (try dsimp only at hSw); go_simp; try with_reducible rfl))
  try simp only [Act.put, List.getElem_toArray, List.getElem_cons_zero, List.getElem_cons_succ, List.setIfInBounds_toArray, List.set_cons_zero, List.set_cons_succ]
  refine wpAnyH_take (i := 1) (v := ?_) rfl (by kernel_rfl) (by kernel_rfl) (by kernel_rfl) (fun _ _ _ h => h) (Or.inl ⟨by rfl, ?_⟩) (by assumption) ?_; rotate_left; (focus (intro w hSw; (try dsimp only at hSw); go_simp; try with_reducible rfl))
  try simp only [Act.put, List.getElem_toArray, List.getElem_cons_zero, List.getElem_cons_succ, List.setIfInBounds_toArray, List.set_cons_zero, List.set_cons_succ]
  refine wpAnyH_take (i := 2) (v := ?_) rfl (by kernel_rfl) (by kernel_rfl) (by kernel_rfl) (fun _ _ _ h => h) (Or.inl ⟨by rfl, ?_⟩) (by assumption) ?_; rotate_left; (focus (intro w hSw; (try dsimp only at hSw); go_simp; try with_reducible rfl))
  try simp only [Act.put, List.getElem_toArray, List.getElem_cons_zero, List.getElem_cons_succ, List.setIfInBounds_toArray, List.set_cons_zero, List.set_cons_succ]
  refine wpAnyH_take (i := 3) (v := ?_) rfl (by kernel_rfl) (by kernel_rfl) (by kernel_rfl) (fun _ _ _ h => h) (Or.inl ⟨by rfl, ?_⟩) (by assumption) ?_; rotate_left; (focus (intro w hSw; (try dsimp only at hSw); go_simp; try with_reducible rfl))
  try simp only [Act.put, List.getElem_toArray, List.getElem_cons_zero, List.getElem_cons_succ, List.setIfInBounds_toArray, List.set_cons_zero, List.set_cons_succ]
  refine wpAnyH_take (i := 4) (v := ?_) rfl (by kernel_rfl) (by kernel_rfl) (by kernel_rfl) (fun _ _ _ h => h) (Or.inl ⟨by rfl, ?_⟩) (by assumption) ?_; rotate_left; (focus (intro w hSw; (try dsimp only at hSw); go_simp; try with_reducible rfl))
  try simp only [Act.put, List.getElem_toArray, List.getElem_cons_zero, List.getElem_cons_succ, List.setIfInBounds_toArray, List.set_cons_zero, List.set_cons_succ]
  refine wpAnyH_take (i := 5) (v := ?_) rfl (by kernel_rfl) (by kernel_rfl) (by kernel_rfl) (fun _ _ _ h => h) (Or.inl ⟨by rfl, ?_⟩) (by assumption) ?_; rotate_left; (focus (intro w hSw; (try dsimp only at hSw); go_simp; try with_reducible rfl))
  try simp only [Act.put, List.getElem_toArray, List.getElem_cons_zero, List.getElem_cons_succ, List.setIfInBounds_toArray, List.set_cons_zero, List.set_cons_succ]
  refine wpAnyH_take (i := 6) (v := ?_) rfl (by kernel_rfl) (by kernel_rfl) (by kernel_rfl) (fun _ _ _ h => h) (Or.inl ⟨by rfl, ?_⟩) (by assumption) ?_; rotate_left; (focus (intro w hSw; (try dsimp only at hSw); go_simp; try with_reducible rfl))
  try simp only [Act.put, List.getElem_toArray, List.getElem_cons_zero, List.getElem_cons_succ, List.setIfInBounds_toArray, List.set_cons_zero, List.set_cons_succ]
  refine wpAnyH_take (i := 7) (v := ?_) rfl (by kernel_rfl) (by kernel_rfl) (by kernel_rfl) (fun _ _ _ h => h) (Or.inl ⟨by rfl, ?_⟩) (by assumption) ?_; rotate_left; (focus (intro w hSw; (try dsimp only at hSw); go_simp; try with_reducible rfl))
  try simp only [Act.put, List.getElem_toArray, List.getElem_cons_zero, List.getElem_cons_succ, List.setIfInBounds_toArray, List.set_cons_zero, List.set_cons_succ]
  refine wpAnyH_take (i := 8) (v := ?_) rfl (by kernel_rfl) (by kernel_rfl) (by kernel_rfl) (fun _ _ _ h => h) (Or.inl ⟨by rfl, ?_⟩) (by assumption) ?_; rotate_left; (focus (intro w hSw; (try dsimp only at hSw); go_simp; try with_reducible rfl))
  try simp only [Act.put, List.getElem_toArray, List.getElem_cons_zero, List.getElem_cons_succ, List.setIfInBounds_toArray, List.set_cons_zero, List.set_cons_succ]
  refine wpAnyH_take (i := 9) (v := ?_) rfl (by kernel_rfl) (by kernel_rfl) (by kernel_rfl) (fun _ _ _ h => h) (Or.inl ⟨by rfl, ?_⟩) (by assumption) ?_; rotate_left; (focus (intro w hSw; (try dsimp only at hSw); go_simp; try with_reducible rfl))
  try simp only [Act.put, List.getElem_toArray, List.getElem_cons_zero, List.getElem_cons_succ, List.setIfInBounds_toArray, List.set_cons_zero, List.set_cons_succ]
  refine wpAnyH_take (i := 10) (v := ?_) rfl (by kernel_rfl) (by kernel_rfl) (by kernel_rfl) (fun _ _ _ h => h) (Or.inl ⟨by rfl, ?_⟩) (by assumption) ?_; rotate_left; (focus (intro w hSw; (try dsimp only at hSw); go_simp; try with_reducible rfl))
  try simp only [Act.put, List.getElem_toArray, List.getElem_cons_zero, List.getElem_cons_succ, List.setIfInBounds_toArray, List.set_cons_zero, List.set_cons_succ]
  refine wpAnyH_take (i := 11) (v := ?_) rfl (by kernel_rfl) (by kernel_rfl) (by kernel_rfl) (fun _ _ _ h => h) (Or.inl ⟨by rfl, ?_⟩) (by assumption) ?_; rotate_left; (focus (intro w hSw; (try dsimp only at hSw); go_simp; try with_reducible rfl))
  try simp only [Act.put, List.getElem_toArray, List.getElem_cons_zero, List.getElem_cons_succ, List.setIfInBounds_toArray, List.set_cons_zero, List.set_cons_succ]
  refine wpAnyH_take (i := 12) (v := ?_) rfl (by kernel_rfl) (by kernel_rfl) (by kernel_rfl) (fun _ _ _ h => h) (Or.inl ⟨by rfl, ?_⟩) (by assumption) ?_; rotate_left; (focus (intro w hSw; (try dsimp only at hSw); go_simp; try with_reducible rfl))
  try simp only [Act.put, List.getElem_toArray, List.getElem_cons_zero, List.getElem_cons_succ, List.setIfInBounds_toArray, List.set_cons_zero, List.set_cons_succ]
  refine wpAnyH_take (i := 13) (v := ?_) rfl (by kernel_rfl) (by kernel_rfl) (by kernel_rfl) (fun _ _ _ h => h) (Or.inl ⟨by rfl, ?_⟩) (by assumption) ?_; rotate_left; (focus (intro w hSw; (try dsimp only at hSw); go_simp; try with_reducible rfl))
  try simp only [Act.put, List.getElem_toArray, List.getElem_cons_zero, List.getElem_cons_succ, List.setIfInBounds_toArray, List.set_cons_zero, List.set_cons_succ]
  refine wpAnyH_ready (rs := [14]) (by kernel_rfl) (by simp) ?_
  refine AllReadyH.cons rfl (fun K hK => ?_) AllReadyH.nil
  try simp only [List.getElem_toArray, List.getElem_cons_zero, List.getElem_cons_succ]
  go_simp
  (refine C1.mono ?_; rintro e w2 ⟨rfl, k2, o2⟩)
  try go_wp2_with fail
  refine hK.out _ _ ?_ (fun hHeld => ?_)
  · (first | exact ⟨c0, c1, c3⟩ | exact ⟨(cells_cur (HE.out _ (by assumption))).1, (cells_cur (HE.out _ (by assumption))).2.1, (cells_cur (HE.out _ (by assumption))).2.2.2.1⟩)
  clear hK K
  try simp only [Act.put, List.getElem_toArray, List.getElem_cons_zero, List.getElem_cons_succ, List.setIfInBounds_toArray, List.set_cons_zero, List.set_cons_succ]
  refine wpAnyH_take (i := 15) (v := ?_) rfl (by kernel_rfl) (by kernel_rfl) (by kernel_rfl) (fun _ _ _ h => h) (Or.inl ⟨by rfl, ?_⟩) (by assumption) ?_; rotate_left; (focus (intro w hSw; (try dsimp only at hSw); go_simp; try with_reducible rfl))
  try simp only [Act.put, List.getElem_toArray, List.getElem_cons_zero, List.getElem_cons_succ, List.setIfInBounds_toArray, List.set_cons_zero, List.set_cons_succ]
  refine wpAnyH_take (i := 16) (v := ?_) rfl (by kernel_rfl) (by kernel_rfl) (by kernel_rfl) (fun _ _ _ h => h) (Or.inl ⟨by rfl, ?_⟩) (by assumption) ?_; rotate_left; (focus (intro w hSw; (try dsimp only at hSw); go_simp; try with_reducible rfl))
  try simp only [Act.put, List.getElem_toArray, List.getElem_cons_zero, List.getElem_cons_succ, List.setIfInBounds_toArray, List.set_cons_zero, List.set_cons_succ]
  refine wpAnyH_take (i := 17) (v := ?_) rfl (by kernel_rfl) (by kernel_rfl) (by kernel_rfl) (fun _ _ _ h => h) (Or.inl ⟨by rfl, ?_⟩) (by assumption) ?_; rotate_left; (focus (intro w hSw; (try dsimp only at hSw); go_simp; try with_reducible rfl))
  try simp only [Act.put, List.getElem_toArray, List.getElem_cons_zero, List.getElem_cons_succ, List.setIfInBounds_toArray, List.set_cons_zero, List.set_cons_succ]
  refine wpAnyH_take (i := 18) (v := ?_) rfl (by kernel_rfl) (by kernel_rfl) (by kernel_rfl) (fun _ _ _ h => h) (Or.inl ⟨by rfl, ?_⟩) (by assumption) ?_; rotate_left; (focus (intro w hSw; (try dsimp only at hSw); go_simp; try with_reducible rfl))
  try simp only [Act.put, List.getElem_toArray, List.getElem_cons_zero, List.getElem_cons_succ, List.setIfInBounds_toArray, List.set_cons_zero, List.set_cons_succ]
  refine wpAnyH_take (i := 19) (v := ?_) rfl (by kernel_rfl) (by kernel_rfl) (by kernel_rfl) (fun _ _ _ h => h) (Or.inl ⟨by rfl, ?_⟩) (by assumption) ?_; rotate_left; (focus (intro w hSw; (try dsimp only at hSw); go_simp; try with_reducible rfl))
  try simp only [Act.put, List.getElem_toArray, List.getElem_cons_zero, List.getElem_cons_succ, List.setIfInBounds_toArray, List.set_cons_zero, List.set_cons_succ]
  refine wpAnyH_done (by kernel_rfl) ?_ _
  clear gw gi
  have h2 := HE.out w2 o2
  have h3 := F3.out w2 h2
  obtain ⟨d0, d1, d2, d3, d7⟩ := cells_cur h2
  have f3 := Blk.free h2 3
  clear h2
  go_wp2_with fail
  go_ret2
  exact ⟨rfl, h3, w2, k2, (Only.refl _ w).drew.trans o2, rfl⟩
end Go.Proofs.YtndmimljnhieiaaDoor

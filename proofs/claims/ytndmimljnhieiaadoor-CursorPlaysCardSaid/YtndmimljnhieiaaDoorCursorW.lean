/-
  A Cursor of the law's own over a Tower of the law's own; awake of layer 12.
-/
import Derived.Test.YtndmimljnhieiaaDoorCursorN
namespace Go.Proofs.YtndmimljnhieiaaDoor
open Go.RowKit
set_option linter.unusedVariables false
set_option linter.unusedSimpArgs false
attribute [local go_sem ↓] Go.wp_at_zero Go.wp_at_succ

/-- The three blocks that Next may turn. -/
def Three (a b c : Nat) : Nat → Prop := fun k => (k = a ∨ k = b) ∨ k = c
set_option maxHeartbeats 4000000 in
theorem next_none {w : World} {c t a b : Nat} {lo hi at_ : Int} {H : Nat → Nat} (h : IsCur w c t lo hi at_ false) (ht : IsTH w t a b H) (hT : Tab w) (ng : ¬ Two a b 0) (nc : ¬ Two a b c) (ct : t ≠ c) (p1 : -1 ≤ at_) (p2 : at_ ≤ 63)
    (r : Option Nat) (hr : fromK H (fromAt lo at_) = r) (hh : ∀ k, r = some k → hi < (k : Int)) :
    Calls Tryd.prog 31 #[.pointer (some ⟨c, 0, none⟩)] w fun e w' => e = .returned (.tuple #[.int .i64 0, .bool false]) ∧ IsCur w' c t lo hi at_ true ∧ IsTH w' t a b H ∧ Only (Three a b c) w w' := by
  obtain ⟨c0, c1, c2, c3, c7⟩ := cells_cur h
  have E0 : ∀ w2, Only (Two a b) w.drew w2 → IsCur w2 c t lo hi at_ false := fun w2 o => o.blk (Blk.drew h) nc
  have C := fun (w' : World) (o : Only (fun _ => False) w w') => th_from (ht.only o (fun h => h) (fun h => h) (fun h => h)) (hT.only o (fun h => h)) ng (fromAt lo at_)
  have o0 : Only (fun _ => False) w w.drew := (Only.refl _ w).drew
  have C1 := C w.drew o0
  rw [hr] at C1
  have HE := Lib.hid E0
  have FIN : ∀ w2 w3, Only (Two a b) w.drew w2 → IsTH w2 t a b H → Only (fun b => b = c) w2 w3 → IsTH w3 t a b H ∧ Only (Three a b c) w w3 := fun w2 w3 o2 k2 o3 =>
    ⟨k2.only o3 ct (fun e => nc (.inl e.symm)) (fun e => nc (.inr e.symm)), (((Only.refl _ w).drew).trans (o2.mono (fun _ _ h => .inl h))).trans (o3.mono (fun _ _ h => .inr h))⟩
  have FI := Lib.hid FIN
  clear E0 C o0 h ht hT hr FIN
  have gw : IntKind.i64.wrap (at_ + 1) = at_ + 1 := IntWalk.i64_in _ (by omega)
  obtain ⟨fr, hfr⟩ : ∃ fr, fr = fromAt lo at_ := ⟨_, rfl⟩
  have gi : (if lo < at_ + 1 then at_ + 1 else lo) = fr := hfr.symm
  rw [← hfr] at C1
  clear hfr
  cases r with
  | none =>
    replace C1 : Calls Tryd.prog 22 #[.pointer (some ⟨t, 0, none⟩), .int .i64 fr] w.drew fun e w' => e = .returned (.tuple #[.int .i64 0, .bool false]) ∧ IsTH w' t a b H ∧ Only (Two a b) w.drew w' := C1
    clear hh
    go_enter Tryd.func31, Tryd.ntmps31
    go_wp2_with fail
    refine wp_region_held_drew (S := (fun w' => w'.cell? ⟨c, 0, none⟩ = some (.pointer (some ⟨t, 0, none⟩)) ∧ w'.cell? ⟨c, 1, none⟩ = some (.int .i64 lo) ∧ w'.cell? ⟨c, 3, none⟩ = some (.int .i64 at_))) (by kernel_rfl) ?_ (fun hHeld => ?_)
    · (first | exact ⟨c0, c1, c3⟩ | exact ⟨(cells_cur (HE.out _ (by assumption))).1, (cells_cur (HE.out _ (by assumption))).2.1, (cells_cur (HE.out _ (by assumption))).2.2.2.1⟩)
    refine wpAnyH_take (i := 0) (v := ?_) rfl (by kernel_rfl) (by kernel_rfl) (by kernel_rfl) (fun _ _ _ h => h) (Or.inl ⟨by rfl, ?_⟩) (by assumption) ?_; rotate_left; (focus (intro w hSw; (try dsimp only at hSw); go_simp; try with_reducible rfl))
    try simp only [Act.put, List.getElem_toArray, List.getElem_cons_zero, List.getElem_cons_succ, List.setIfInBounds_toArray, List.set_cons_zero, List.set_cons_succ]
    refine wpAnyH_take (i := 1) (v := ?_) rfl (by kernel_rfl) (by kernel_rfl) (by kernel_rfl) (fun _ _ _ h => h) (Or.inl ⟨by rfl, ?_⟩) (by assumption) ?_; rotate_left; (focus (intro w hSw; (try dsimp only at hSw); go_simp; try with_reducible rfl))
    try simp only [Act.put, List.getElem_toArray, List.getElem_cons_zero, List.getElem_cons_succ, List.setIfInBounds_toArray, List.set_cons_zero, List.set_cons_succ]
    refine wpAnyH_take (i := 2) (v := ?_) rfl (by kernel_rfl) (by kernel_rfl) (by kernel_rfl) (fun _ _ _ h => h) (Or.inl ⟨by rfl, ?_⟩) (by assumption) ?_; rotate_left; (focus (intro w hSw; (try dsimp only at hSw); go_simp; try with_reducible rfl))
    try simp only [Act.put, List.getElem_toArray, List.getElem_cons_zero, List.getElem_cons_succ, List.setIfInBounds_toArray, List.set_cons_zero, List.set_cons_succ]
    refine wpAnyH_take (i := 3) (v := ?_) rfl (by kernel_rfl) (by kernel_rfl) (by kernel_rfl) (fun _ _ _ h => h) (Or.inl ⟨by rfl, ?_⟩) (by assumption) ?_; rotate_left; (focus (intro w hSw; (try dsimp only at hSw); go_simp; try with_reducible rfl))
    try simp only [Act.put, List.getElem_toArray, List.getElem_cons_zero, List.getElem_cons_succ, List.setIfInBounds_toArray, List.set_cons_zero, List.set_cons_succ]
    refine wpAnyH_take (i := 4) (v := ?_) rfl (by kernel_rfl) (by kernel_rfl) (by kernel_rfl) (fun _ _ _ h => h) (Or.inl ⟨by rfl, ?_⟩) (by assumption) ?_; rotate_left; (focus (intro w hSw; (try dsimp only at hSw); go_simp; try with_reducible rfl))
    try simp only [Act.put, List.getElem_toArray, List.getElem_cons_zero, List.getElem_cons_succ, List.setIfInBounds_toArray, List.set_cons_zero, List.set_cons_succ]
    refine wpAnyH_take (i := 5) (v := ?_) rfl (by kernel_rfl) (by kernel_rfl) (by kernel_rfl) (fun _ _ _ h => h) (Or.inl ⟨by rfl, ?_⟩) (by assumption) ?_; rotate_left; (focus (intro w hSw; (try dsimp only at hSw); go_simp; try with_reducible rfl))
    try simp only [Act.put, List.getElem_toArray, List.getElem_cons_zero, List.getElem_cons_succ, List.setIfInBounds_toArray, List.set_cons_zero, List.set_cons_succ]
    refine wpAnyH_take (i := 6) (v := ?_) rfl (by kernel_rfl) (by kernel_rfl) (by kernel_rfl) (fun _ _ _ h => h) (Or.inl ⟨by rfl, ?_⟩) (by assumption) ?_; rotate_left; (focus (intro w hSw; (try dsimp only at hSw); go_simp; try with_reducible rfl))
    try simp only [Act.put, List.getElem_toArray, List.getElem_cons_zero, List.getElem_cons_succ, List.setIfInBounds_toArray, List.set_cons_zero, List.set_cons_succ]
    refine wpAnyH_take (i := 7) (v := ?_) rfl (by kernel_rfl) (by kernel_rfl) (by kernel_rfl) (fun _ _ _ h => h) (Or.inl ⟨by rfl, ?_⟩) (by assumption) ?_; rotate_left; (focus (intro w hSw; (try dsimp only at hSw); go_simp; try with_reducible rfl))
    try simp only [Act.put, List.getElem_toArray, List.getElem_cons_zero, List.getElem_cons_succ, List.setIfInBounds_toArray, List.set_cons_zero, List.set_cons_succ]
    refine wpAnyH_take (i := 8) (v := ?_) rfl (by kernel_rfl) (by kernel_rfl) (by kernel_rfl) (fun _ _ _ h => h) (Or.inl ⟨by rfl, ?_⟩) (by assumption) ?_; rotate_left; (focus (intro w hSw; (try dsimp only at hSw); go_simp; try with_reducible rfl))
    try simp only [Act.put, List.getElem_toArray, List.getElem_cons_zero, List.getElem_cons_succ, List.setIfInBounds_toArray, List.set_cons_zero, List.set_cons_succ]
    refine wpAnyH_take (i := 9) (v := ?_) rfl (by kernel_rfl) (by kernel_rfl) (by kernel_rfl) (fun _ _ _ h => h) (Or.inl ⟨by rfl, ?_⟩) (by assumption) ?_; rotate_left; (focus (intro w hSw; (try dsimp only at hSw); go_simp; try with_reducible rfl))
    try simp only [Act.put, List.getElem_toArray, List.getElem_cons_zero, List.getElem_cons_succ, List.setIfInBounds_toArray, List.set_cons_zero, List.set_cons_succ]
    refine wpAnyH_take (i := 10) (v := ?_) rfl (by kernel_rfl) (by kernel_rfl) (by kernel_rfl) (fun _ _ _ h => h) (Or.inl ⟨by rfl, ?_⟩) (by assumption) ?_; rotate_left; (focus (intro w hSw; (try dsimp only at hSw); go_simp; try with_reducible rfl))
    try simp only [Act.put, List.getElem_toArray, List.getElem_cons_zero, List.getElem_cons_succ, List.setIfInBounds_toArray, List.set_cons_zero, List.set_cons_succ]
    refine wpAnyH_take (i := 11) (v := ?_) rfl (by kernel_rfl) (by kernel_rfl) (by kernel_rfl) (fun _ _ _ h => h) (Or.inl ⟨by rfl, ?_⟩) (by assumption) ?_; rotate_left; (focus (intro w hSw; (try dsimp only at hSw); go_simp; try with_reducible rfl))
    try simp only [Act.put, List.getElem_toArray, List.getElem_cons_zero, List.getElem_cons_succ, List.setIfInBounds_toArray, List.set_cons_zero, List.set_cons_succ]
    refine wpAnyH_take (i := 12) (v := ?_) rfl (by kernel_rfl) (by kernel_rfl) (by kernel_rfl) (fun _ _ _ h => h) (Or.inl ⟨by rfl, ?_⟩) (by assumption) ?_; rotate_left; (focus (intro w hSw; (try dsimp only at hSw); go_simp; try with_reducible rfl))
    try simp only [Act.put, List.getElem_toArray, List.getElem_cons_zero, List.getElem_cons_succ, List.setIfInBounds_toArray, List.set_cons_zero, List.set_cons_succ]
    refine wpAnyH_take (i := 13) (v := ?_) rfl (by kernel_rfl) (by kernel_rfl) (by kernel_rfl) (fun _ _ _ h => h) (Or.inl ⟨by rfl, ?_⟩) (by assumption) ?_; rotate_left; (focus (intro w hSw; (try dsimp only at hSw); go_simp; try with_reducible rfl))
    try simp only [Act.put, List.getElem_toArray, List.getElem_cons_zero, List.getElem_cons_succ, List.setIfInBounds_toArray, List.set_cons_zero, List.set_cons_succ]
    refine wpAnyH_ready (rs := [14]) (by kernel_rfl) (by simp) ?_
    refine AllReadyH.cons rfl (fun K hK => ?_) AllReadyH.nil
    try simp only [List.getElem_toArray, List.getElem_cons_zero, List.getElem_cons_succ]
    go_simp
    (refine C1.mono ?_; rintro e w2 ⟨rfl, k2, o2⟩)
    try go_wp2_with fail
    refine hK.out _ _ ?_ (fun hHeld => ?_)
    · (first | exact ⟨c0, c1, c3⟩ | exact ⟨(cells_cur (HE.out _ (by assumption))).1, (cells_cur (HE.out _ (by assumption))).2.1, (cells_cur (HE.out _ (by assumption))).2.2.2.1⟩)
    clear hK K
    try simp only [Act.put, List.getElem_toArray, List.getElem_cons_zero, List.getElem_cons_succ, List.setIfInBounds_toArray, List.set_cons_zero, List.set_cons_succ]
    refine wpAnyH_take (i := 15) (v := ?_) rfl (by kernel_rfl) (by kernel_rfl) (by kernel_rfl) (fun _ _ _ h => h) (Or.inl ⟨by rfl, ?_⟩) (by assumption) ?_; rotate_left; (focus (intro w hSw; (try dsimp only at hSw); go_simp; try with_reducible rfl))
    try simp only [Act.put, List.getElem_toArray, List.getElem_cons_zero, List.getElem_cons_succ, List.setIfInBounds_toArray, List.set_cons_zero, List.set_cons_succ]
    refine wpAnyH_take (i := 16) (v := ?_) rfl (by kernel_rfl) (by kernel_rfl) (by kernel_rfl) (fun _ _ _ h => h) (Or.inl ⟨by rfl, ?_⟩) (by assumption) ?_; rotate_left; (focus (intro w hSw; (try dsimp only at hSw); go_simp; try with_reducible rfl))
    try simp only [Act.put, List.getElem_toArray, List.getElem_cons_zero, List.getElem_cons_succ, List.setIfInBounds_toArray, List.set_cons_zero, List.set_cons_succ]
    refine wpAnyH_take (i := 17) (v := ?_) rfl (by kernel_rfl) (by kernel_rfl) (by kernel_rfl) (fun _ _ _ h => h) (Or.inl ⟨by rfl, ?_⟩) (by assumption) ?_; rotate_left; (focus (intro w hSw; (try dsimp only at hSw); go_simp; try with_reducible rfl))
    try simp only [Act.put, List.getElem_toArray, List.getElem_cons_zero, List.getElem_cons_succ, List.setIfInBounds_toArray, List.set_cons_zero, List.set_cons_succ]
    refine wpAnyH_take (i := 18) (v := ?_) rfl (by kernel_rfl) (by kernel_rfl) (by kernel_rfl) (fun _ _ _ h => h) (Or.inl ⟨by rfl, ?_⟩) (by assumption) ?_; rotate_left; (focus (intro w hSw; (try dsimp only at hSw); go_simp; try with_reducible rfl))
    try simp only [Act.put, List.getElem_toArray, List.getElem_cons_zero, List.getElem_cons_succ, List.setIfInBounds_toArray, List.set_cons_zero, List.set_cons_succ]
    refine wpAnyH_take (i := 19) (v := ?_) rfl (by kernel_rfl) (by kernel_rfl) (by kernel_rfl) (fun _ _ _ h => h) (Or.inl ⟨by rfl, ?_⟩) (by assumption) ?_; rotate_left; (focus (intro w hSw; (try dsimp only at hSw); go_simp; try with_reducible rfl))
    try simp only [Act.put, List.getElem_toArray, List.getElem_cons_zero, List.getElem_cons_succ, List.setIfInBounds_toArray, List.set_cons_zero, List.set_cons_succ]
    refine wpAnyH_done (by kernel_rfl) ?_ _
    clear gw gi
    have h2 := HE.out w2 o2
    have E := cur_end h2
    obtain ⟨d0, d1, d2, d3, d7⟩ := cells_cur h2
    clear h2
    go_wp2_with fail
    refine E.mono ?_
    rintro e w3 ⟨rfl, h3, o3⟩
    clear d0 d1 d2 d3 d7 E
    go_wp2_with fail
    go_ret2
    exact ⟨rfl, h3, (FI.out _ _ o2 k2 o3).1, (FI.out _ _ o2 k2 o3).2⟩
  | some k =>
    replace C1 : Calls Tryd.prog 22 #[.pointer (some ⟨t, 0, none⟩), .int .i64 fr] w.drew fun e w' => e = .returned (.tuple #[.int .i64 k, .bool true]) ∧ IsTH w' t a b H ∧ Only (Two a b) w.drew w' := C1
    have hk := hh k rfl
    clear hh
    go_enter Tryd.func31, Tryd.ntmps31
    go_wp2_with fail
    refine wp_region_held_drew (S := (fun w' => w'.cell? ⟨c, 0, none⟩ = some (.pointer (some ⟨t, 0, none⟩)) ∧ w'.cell? ⟨c, 1, none⟩ = some (.int .i64 lo) ∧ w'.cell? ⟨c, 3, none⟩ = some (.int .i64 at_))) (by kernel_rfl) ?_ (fun hHeld => ?_)
    · (first | exact ⟨c0, c1, c3⟩ | exact ⟨(cells_cur (HE.out _ (by assumption))).1, (cells_cur (HE.out _ (by assumption))).2.1, (cells_cur (HE.out _ (by assumption))).2.2.2.1⟩)
    refine wpAnyH_take (i := 0) (v := ?_) rfl (by kernel_rfl) (by kernel_rfl) (by kernel_rfl) (fun _ _ _ h => h) (Or.inl ⟨by rfl, ?_⟩) (by assumption) ?_; rotate_left; (focus (intro w hSw; (try dsimp only at hSw); go_simp; try with_reducible rfl))
    try simp only [Act.put, List.getElem_toArray, List.getElem_cons_zero, List.getElem_cons_succ, List.setIfInBounds_toArray, List.set_cons_zero, List.set_cons_succ]
    refine wpAnyH_take (i := 1) (v := ?_) rfl (by kernel_rfl) (by kernel_rfl) (by kernel_rfl) (fun _ _ _ h => h) (Or.inl ⟨by rfl, ?_⟩) (by assumption) ?_; rotate_left; (focus (intro w hSw; (try dsimp only at hSw); go_simp; try with_reducible rfl))
    try simp only [Act.put, List.getElem_toArray, List.getElem_cons_zero, List.getElem_cons_succ, List.setIfInBounds_toArray, List.set_cons_zero, List.set_cons_succ]
    refine wpAnyH_take (i := 2) (v := ?_) rfl (by kernel_rfl) (by kernel_rfl) (by kernel_rfl) (fun _ _ _ h => h) (Or.inl ⟨by rfl, ?_⟩) (by assumption) ?_; rotate_left; (focus (intro w hSw; (try dsimp only at hSw); go_simp; try with_reducible rfl))
    try simp only [Act.put, List.getElem_toArray, List.getElem_cons_zero, List.getElem_cons_succ, List.setIfInBounds_toArray, List.set_cons_zero, List.set_cons_succ]
    refine wpAnyH_take (i := 3) (v := ?_) rfl (by kernel_rfl) (by kernel_rfl) (by kernel_rfl) (fun _ _ _ h => h) (Or.inl ⟨by rfl, ?_⟩) (by assumption) ?_; rotate_left; (focus (intro w hSw; (try dsimp only at hSw); go_simp; try with_reducible rfl))
    try simp only [Act.put, List.getElem_toArray, List.getElem_cons_zero, List.getElem_cons_succ, List.setIfInBounds_toArray, List.set_cons_zero, List.set_cons_succ]
    refine wpAnyH_take (i := 4) (v := ?_) rfl (by kernel_rfl) (by kernel_rfl) (by kernel_rfl) (fun _ _ _ h => h) (Or.inl ⟨by rfl, ?_⟩) (by assumption) ?_; rotate_left; (focus (intro w hSw; (try dsimp only at hSw); go_simp; try with_reducible rfl))
    try simp only [Act.put, List.getElem_toArray, List.getElem_cons_zero, List.getElem_cons_succ, List.setIfInBounds_toArray, List.set_cons_zero, List.set_cons_succ]
    refine wpAnyH_take (i := 5) (v := ?_) rfl (by kernel_rfl) (by kernel_rfl) (by kernel_rfl) (fun _ _ _ h => h) (Or.inl ⟨by rfl, ?_⟩) (by assumption) ?_; rotate_left; (focus (intro w hSw; (try dsimp only at hSw); go_simp; try with_reducible rfl))
    try simp only [Act.put, List.getElem_toArray, List.getElem_cons_zero, List.getElem_cons_succ, List.setIfInBounds_toArray, List.set_cons_zero, List.set_cons_succ]
    refine wpAnyH_take (i := 6) (v := ?_) rfl (by kernel_rfl) (by kernel_rfl) (by kernel_rfl) (fun _ _ _ h => h) (Or.inl ⟨by rfl, ?_⟩) (by assumption) ?_; rotate_left; (focus (intro w hSw; (try dsimp only at hSw); go_simp; try with_reducible rfl))
    try simp only [Act.put, List.getElem_toArray, List.getElem_cons_zero, List.getElem_cons_succ, List.setIfInBounds_toArray, List.set_cons_zero, List.set_cons_succ]
    refine wpAnyH_take (i := 7) (v := ?_) rfl (by kernel_rfl) (by kernel_rfl) (by kernel_rfl) (fun _ _ _ h => h) (Or.inl ⟨by rfl, ?_⟩) (by assumption) ?_; rotate_left; (focus (intro w hSw; (try dsimp only at hSw); go_simp; try with_reducible rfl))
    try simp only [Act.put, List.getElem_toArray, List.getElem_cons_zero, List.getElem_cons_succ, List.setIfInBounds_toArray, List.set_cons_zero, List.set_cons_succ]
    refine wpAnyH_take (i := 8) (v := ?_) rfl (by kernel_rfl) (by kernel_rfl) (by kernel_rfl) (fun _ _ _ h => h) (Or.inl ⟨by rfl, ?_⟩) (by assumption) ?_; rotate_left; (focus (intro w hSw; (try dsimp only at hSw); go_simp; try with_reducible rfl))
    try simp only [Act.put, List.getElem_toArray, List.getElem_cons_zero, List.getElem_cons_succ, List.setIfInBounds_toArray, List.set_cons_zero, List.set_cons_succ]
    refine wpAnyH_take (i := 9) (v := ?_) rfl (by kernel_rfl) (by kernel_rfl) (by kernel_rfl) (fun _ _ _ h => h) (Or.inl ⟨by rfl, ?_⟩) (by assumption) ?_; rotate_left; (focus (intro w hSw; (try dsimp only at hSw); go_simp; try with_reducible rfl))
    try simp only [Act.put, List.getElem_toArray, List.getElem_cons_zero, List.getElem_cons_succ, List.setIfInBounds_toArray, List.set_cons_zero, List.set_cons_succ]
    refine wpAnyH_take (i := 10) (v := ?_) rfl (by kernel_rfl) (by kernel_rfl) (by kernel_rfl) (fun _ _ _ h => h) (Or.inl ⟨by rfl, ?_⟩) (by assumption) ?_; rotate_left; (focus (intro w hSw; (try dsimp only at hSw); go_simp; try with_reducible rfl))
    try simp only [Act.put, List.getElem_toArray, List.getElem_cons_zero, List.getElem_cons_succ, List.setIfInBounds_toArray, List.set_cons_zero, List.set_cons_succ]
    refine wpAnyH_take (i := 11) (v := ?_) rfl (by kernel_rfl) (by kernel_rfl) (by kernel_rfl) (fun _ _ _ h => h) (Or.inl ⟨by rfl, ?_⟩) (by assumption) ?_; rotate_left; (focus (intro w hSw; (try dsimp only at hSw); go_simp; try with_reducible rfl))
    try simp only [Act.put, List.getElem_toArray, List.getElem_cons_zero, List.getElem_cons_succ, List.setIfInBounds_toArray, List.set_cons_zero, List.set_cons_succ]
    refine wpAnyH_take (i := 12) (v := ?_) rfl (by kernel_rfl) (by kernel_rfl) (by kernel_rfl) (fun _ _ _ h => h) (Or.inl ⟨by rfl, ?_⟩) (by assumption) ?_; rotate_left; (focus (intro w hSw; (try dsimp only at hSw); go_simp; try with_reducible rfl))
    try simp only [Act.put, List.getElem_toArray, List.getElem_cons_zero, List.getElem_cons_succ, List.setIfInBounds_toArray, List.set_cons_zero, List.set_cons_succ]
    refine wpAnyH_take (i := 13) (v := ?_) rfl (by kernel_rfl) (by kernel_rfl) (by kernel_rfl) (fun _ _ _ h => h) (Or.inl ⟨by rfl, ?_⟩) (by assumption) ?_; rotate_left; (focus (intro w hSw; (try dsimp only at hSw); go_simp; try with_reducible rfl))
    try simp only [Act.put, List.getElem_toArray, List.getElem_cons_zero, List.getElem_cons_succ, List.setIfInBounds_toArray, List.set_cons_zero, List.set_cons_succ]
    refine wpAnyH_ready (rs := [14]) (by kernel_rfl) (by simp) ?_
    refine AllReadyH.cons rfl (fun K hK => ?_) AllReadyH.nil
    try simp only [List.getElem_toArray, List.getElem_cons_zero, List.getElem_cons_succ]
    go_simp
    (refine C1.mono ?_; rintro e w2 ⟨rfl, k2, o2⟩)
    try go_wp2_with fail
    refine hK.out _ _ ?_ (fun hHeld => ?_)
    · (first | exact ⟨c0, c1, c3⟩ | exact ⟨(cells_cur (HE.out _ (by assumption))).1, (cells_cur (HE.out _ (by assumption))).2.1, (cells_cur (HE.out _ (by assumption))).2.2.2.1⟩)
    clear hK K
    try simp only [Act.put, List.getElem_toArray, List.getElem_cons_zero, List.getElem_cons_succ, List.setIfInBounds_toArray, List.set_cons_zero, List.set_cons_succ]
    refine wpAnyH_take (i := 15) (v := ?_) rfl (by kernel_rfl) (by kernel_rfl) (by kernel_rfl) (fun _ _ _ h => h) (Or.inl ⟨by rfl, ?_⟩) (by assumption) ?_; rotate_left; (focus (intro w hSw; (try dsimp only at hSw); go_simp; try with_reducible rfl))
    try simp only [Act.put, List.getElem_toArray, List.getElem_cons_zero, List.getElem_cons_succ, List.setIfInBounds_toArray, List.set_cons_zero, List.set_cons_succ]
    refine wpAnyH_take (i := 16) (v := ?_) rfl (by kernel_rfl) (by kernel_rfl) (by kernel_rfl) (fun _ _ _ h => h) (Or.inl ⟨by rfl, ?_⟩) (by assumption) ?_; rotate_left; (focus (intro w hSw; (try dsimp only at hSw); go_simp; try with_reducible rfl))
    try simp only [Act.put, List.getElem_toArray, List.getElem_cons_zero, List.getElem_cons_succ, List.setIfInBounds_toArray, List.set_cons_zero, List.set_cons_succ]
    refine wpAnyH_take (i := 17) (v := ?_) rfl (by kernel_rfl) (by kernel_rfl) (by kernel_rfl) (fun _ _ _ h => h) (Or.inl ⟨by rfl, ?_⟩) (by assumption) ?_; rotate_left; (focus (intro w hSw; (try dsimp only at hSw); go_simp; try with_reducible rfl))
    try simp only [Act.put, List.getElem_toArray, List.getElem_cons_zero, List.getElem_cons_succ, List.setIfInBounds_toArray, List.set_cons_zero, List.set_cons_succ]
    refine wpAnyH_take (i := 18) (v := ?_) rfl (by kernel_rfl) (by kernel_rfl) (by kernel_rfl) (fun _ _ _ h => h) (Or.inl ⟨by rfl, ?_⟩) (by assumption) ?_; rotate_left; (focus (intro w hSw; (try dsimp only at hSw); go_simp; try with_reducible rfl))
    try simp only [Act.put, List.getElem_toArray, List.getElem_cons_zero, List.getElem_cons_succ, List.setIfInBounds_toArray, List.set_cons_zero, List.set_cons_succ]
    refine wpAnyH_take (i := 19) (v := ?_) rfl (by kernel_rfl) (by kernel_rfl) (by kernel_rfl) (fun _ _ _ h => h) (Or.inl ⟨by rfl, ?_⟩) (by assumption) ?_; rotate_left; (focus (intro w hSw; (try dsimp only at hSw); go_simp; try with_reducible rfl))
    try simp only [Act.put, List.getElem_toArray, List.getElem_cons_zero, List.getElem_cons_succ, List.setIfInBounds_toArray, List.set_cons_zero, List.set_cons_succ]
    refine wpAnyH_done (by kernel_rfl) ?_ _
    clear gw gi
    have h2 := HE.out w2 o2
    have E := cur_end h2
    obtain ⟨d0, d1, d2, d3, d7⟩ := cells_cur h2
    clear h2
    go_wp2_with fail
    refine E.mono ?_
    rintro e w3 ⟨rfl, h3, o3⟩
    clear d0 d1 d2 d3 d7 E
    go_wp2_with fail
    go_ret2
    exact ⟨rfl, h3, (FI.out _ _ o2 k2 o3).1, (FI.out _ _ o2 k2 o3).2⟩

/-- A Cursor over a Tower, both of the law's own. -/
structure CW (w0 w : World) (c t a b : Nat) (lo hi at_ : Int) (dn : Bool) (H : Nat → Nat) : Prop where
  tw : TW w0 w t a b H
  cur : IsCur w c t lo hi at_ dn
  gc : w0.heap.size ≤ c
  ct : t ≠ c
  nc : ¬ Two a b c
  p1 : -1 ≤ at_
  p2 : at_ ≤ 63
theorem cw_new {w0 w : World} {t a b : Nat} {H : Nat → Nat} (h : TW w0 w t a b H) (hT : Tab w0) (lo hi : Int) (h1 : 0 ≤ lo) (h2 : lo ≤ hi) (h3 : hi ≤ 63) :
    Calls Tryd.prog 28 #[.pointer (some ⟨t, 0, none⟩), .int .i64 lo, .int .i64 hi] w fun e w' => e = .returned (.tuple #[.pointer (some ⟨w.heap.size, 0, none⟩), .int .i64 0]) ∧ CW w0 w' w.heap.size t a b lo hi (-1) false H ∧ Only0 w w' := by
  refine (cur_new w t lo hi h1 h2 h3).mono ?_
  rintro e w' ⟨rfl, hc, o, hz⟩
  have lt := h.th.tow.ptr.lt
  obtain ⟨cc, hA⟩ := h.th.tow.arena
  have la := hA.head.lt
  have lb := hA.words.lt
  refine ⟨rfl, ⟨h.keep hT o (fun _ h => h.elim) (fun h => h) (fun h => h) (fun h => h), hc, h.bel.size, by omega, ?_, by omega, by omega⟩, o⟩
  rintro (e | e) <;> omega
theorem CW.only {w0 w w' : World} {c t a b : Nat} {lo hi at_ : Int} {dn : Bool} {H : Nat → Nat} {S : Nat → Prop} (h : CW w0 w c t a b lo hi at_ dn H) (hT : Tab w0) (o : Only S w w') (hs : ∀ k, S k → w0.heap.size ≤ k) (h1 : ¬ S t) (h2 : ¬ S a) (h3 : ¬ S b) (h4 : ¬ S c) : CW w0 w' c t a b lo hi at_ dn H :=
  ⟨h.tw.keep hT o hs h1 h2 h3, o.blk h.cur h4, h.gc, h.ct, h.nc, h.p1, h.p2⟩
theorem CW.drew {w0 w : World} {c t a b : Nat} {lo hi at_ : Int} {dn : Bool} {H : Nat → Nat} (h : CW w0 w c t a b lo hi at_ dn H) (hT : Tab w0) : CW w0 w.drew c t a b lo hi at_ dn H :=
  h.only hT (S := fun _ => False) ((Only.refl _ _).drew) (fun _ h => h.elim) (fun h => h) (fun h => h) (fun h => h) (fun h => h)
/-- The Tower has turned. -/
theorem CW.turned {w0 w w' : World} {c t a b : Nat} {lo hi at_ : Int} {dn : Bool} {H H' : Nat → Nat} (h : CW w0 w c t a b lo hi at_ dn H) (h' : TW w0 w' t a b H') (o : Only (Two a b) w w') : CW w0 w' c t a b lo hi at_ dn H' :=
  ⟨h', o.blk h.cur h.nc, h.gc, h.ct, h.nc, h.p1, h.p2⟩
theorem CW.step {w0 w w' : World} {c t a b : Nat} {lo hi at_ at' : Int} {dn dn' : Bool} {H : Nat → Nat} (h : CW w0 w c t a b lo hi at_ dn H) (hT : Tab w0) (h' : IsCur w' c t lo hi at' dn') (ht : IsTH w' t a b H) (o : Only (Three a b c) w w') (p1 : -1 ≤ at') (p2 : at' ≤ 63) : CW w0 w' c t a b lo hi at' dn' H :=
  have hb := h.tw.bel.trans (o.below w0.heap.size h.tw.bel.size (fun k hk => by rcases hk with (rfl | rfl) | rfl; exact h.tw.ga; exact h.tw.gb; exact h.gc))
  ⟨⟨ht, hb, hT.below hb hT.lt, h.tw.gt, h.tw.ga, h.tw.gb⟩, h', h.gc, h.ct, h.nc, p1, p2⟩
theorem fromK_lt {H : Nat → Nat} {key : Int} {k : Nat} (h : fromK H key = some k) : k < 64 := by
  rw [fromK, List.find?_range_eq_some] at h; exact List.mem_range.1 h.2.1
theorem cw_some {w0 w : World} {c t a b : Nat} {lo hi at_ : Int} {H : Nat → Nat} (h : CW w0 w c t a b lo hi at_ false H) (hT : Tab w0) (k : Nat) (hk : fromK H (fromAt lo at_) = some k) (hh : (k : Int) ≤ hi) :
    Calls Tryd.prog 31 #[.pointer (some ⟨c, 0, none⟩)] w fun e w' => e = .returned (.tuple #[.int .i64 k, .bool true]) ∧ CW w0 w' c t a b lo hi k false H ∧ Only (Three a b c) w w' := by
  refine (next_some h.cur h.tw.th h.tw.tab (h.tw.ng hT) h.nc h.p1 h.p2 k hk hh).mono ?_
  rintro e w' ⟨rfl, hc, w1, h1, o1, rfl⟩
  have hk64 := fromK_lt hk
  have o2 : Only (Three a b c) w (w1.setCell ⟨c, 3, none⟩ (.int .i64 k)) := (o1.mono (fun _ _ h => .inl h)).setCell (fun _ => .inr rfl) _
  have h2 : IsTH (w1.setCell ⟨c, 3, none⟩ (.int .i64 k)) t a b H := h1.only (S := fun b => b = c) (Only.setCell (p := ⟨c, 3, none⟩) (Only.refl (fun b => b = c) w1) (fun _ => rfl) _) h.ct (fun e => h.nc (.inl e.symm)) (fun e => h.nc (.inr e.symm))
  exact ⟨rfl, h.step hT hc h2 o2 (by omega) (by omega), o2⟩
theorem cw_none {w0 w : World} {c t a b : Nat} {lo hi at_ : Int} {H : Nat → Nat} (h : CW w0 w c t a b lo hi at_ false H) (hT : Tab w0) (hh : ∀ k, fromK H (fromAt lo at_) = some k → hi < (k : Int)) :
    Calls Tryd.prog 31 #[.pointer (some ⟨c, 0, none⟩)] w fun e w' => e = .returned (.tuple #[.int .i64 0, .bool false]) ∧ CW w0 w' c t a b lo hi at_ true H ∧ Only (Three a b c) w w' := by
  refine (next_none h.cur h.tw.th h.tw.tab (h.tw.ng hT) h.nc h.ct h.p1 h.p2 _ rfl hh).mono ?_
  rintro e w' ⟨rfl, hc, h2, o2⟩
  exact ⟨rfl, h.step hT hc h2 o2 h.p1 h.p2, o2⟩
theorem cw_over {w0 w : World} {c t a b : Nat} {lo hi at_ : Int} {H : Nat → Nat} (h : CW w0 w c t a b lo hi at_ true H) :
    Calls Tryd.prog 31 #[.pointer (some ⟨c, 0, none⟩)] w fun e w' => e = .returned (.tuple #[.int .i64 0, .bool false]) ∧ w = w' := next_done h.cur
set_option maxHeartbeats 1000000 in
theorem cur_new_nil (w : World) (lo hi : Int) : Calls Tryd.prog 28 #[.pointer none, .int .i64 lo, .int .i64 hi] w fun e w' => e = .returned (.tuple #[.pointer none, .int .i64 1]) ∧ w = w' := by
  go_enter Tryd.func28, Tryd.ntmps28
  go_wp2_with fail
  go_ret2
  exact ⟨rfl, rfl⟩

set_option maxHeartbeats 4000000 in
theorem awake12_any (w0 w : World) (hT : Tab w0) (hb : Below w0.heap.size w0 w) : Calls Tryd.prog 32 #[] w fun e w' => e = .returned (.bool true) ∧ Below w0.heap.size w0 w' := by
  go_enter Tryd.func32, Tryd.ntmps32
  go_wp2_with fail
  refine (tw_new w hT hb).mono ?_
  rintro e w1 ⟨t, a, b, rfl, h1, o1, g1, g2, g3⟩
  go_wp2_with fail
  refine (tw_put_new h1 hT 4 1 (by omega) (by omega) (by omega) rfl).mono ?_
  rintro e w2 ⟨rfl, h2, o2⟩
  go_wp2_with fail
  refine (tw_put_new h2 hT 9 2 (by omega) (by omega) (by omega) rfl).mono ?_
  rintro e w3 ⟨rfl, h3, o3⟩
  generalize hH : upd (upd (fun _ => 0) 4 1) 9 2 = H at h3
  have F1 : fromK H (fromAt 1 (-1)) = some 4 := by rw [← hH]; decide
  have F2 : ∀ k, fromK H (fromAt 1 4) = some k → (5 : Int) < (k : Int) := by
    have : fromK H (fromAt 1 4) = some 9 := by rw [← hH]; decide
    intro k hk; rw [this] at hk; cases hk; decide
  have G1 := Lib.hid F1
  have G2 := Lib.hid F2
  clear F1 F2 hH h1 h2 o1 o2 o3 g1 g2 g3
  go_wp2_with fail
  refine (cw_new h3 hT 1 5 (by omega) (by omega) (by omega)).mono ?_
  rintro e w4 ⟨rfl, h4, o4⟩
  go_wp2_with fail
  refine (cur_new_nil _ 1 5).mono ?_
  rintro e w5 ⟨rfl, rfl⟩
  clear h3 o4
  go_wp2_with fail
  refine (cw_some h4 hT 4 G1.out (by omega)).mono ?_
  rintro e w5 ⟨rfl, h5, o5⟩
  clear h4 o5
  go_wp2_with fail
  refine (cw_none h5 hT G2.out).mono ?_
  rintro e w6 ⟨rfl, h6, o6⟩
  clear h5 o6
  go_wp2_with fail
  refine (cur_done h6.cur).mono ?_
  rintro e w7 ⟨rfl, rfl⟩
  go_wp2_with fail
  refine (cur_at h6.cur).mono ?_
  rintro e w7 ⟨rfl, rfl⟩
  go_wp2_with fail
  go_ret
  exact ⟨rfl, h6.tw.bel⟩
end Go.Proofs.YtndmimljnhieiaaDoor

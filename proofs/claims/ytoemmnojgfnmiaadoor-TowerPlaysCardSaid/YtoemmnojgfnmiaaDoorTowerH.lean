/-
  tower.Tower as heights: New, Has, Height, Put, Drop.
-/
import Derived.Test.YtoemmnojgfnmiaaDoorTower
namespace Go.Proofs.YtoemmnojgfnmiaaDoor
open Go.RowKit
set_option linter.unusedVariables false

/-- The word of a level, of heights H. -/
def hw (H : Nat → Nat) (l : Nat) : Nat := mask (fun k => decide (l < H k))
def HWs (H : Nat → Nat) : List Nat := [hw H 0, hw H 1, hw H 2, hw H 3]
theorem HWs_getD (H : Nat → Nat) (l : Nat) (hl : l < 4) : (HWs H).getD l 0 = hw H l := by
  rcases l with _ | _ | _ | _ | l
  · rfl
  · rfl
  · rfl
  · rfl
  · omega
theorem HWs_ok (H : Nat → Nat) : Ws (HWs H) := ⟨rfl, fun x hx => by
  simp only [HWs, List.mem_cons, List.not_mem_nil, or_false] at hx
  rcases hx with rfl | rfl | rfl | rfl <;> exact mask_lt _⟩
def upd (H : Nat → Nat) (k v : Nat) : Nat → Nat := fun j => if j = k then v else H j
theorem upd_same (H : Nat → Nat) (k v : Nat) : upd H k v k = v := by simp [upd]
theorem upd_ne (H : Nat → Nat) {k v j : Nat} (h : j ≠ k) : upd H k v j = H j := by simp [upd, h]
theorem upd_upd (H : Nat → Nat) (k v u : Nat) : upd (upd H k v) k u = upd H k u := by
  funext j; simp only [upd]; split <;> rfl
theorem upd_self (H : Nat → Nat) (k : Nat) : upd H k (H k) = H := by
  funext j; simp only [upd]; split <;> simp_all
theorem hw_up (H : Nat → Nat) (k l : Nat) (hk : k < 64) (h : H k = l) (j : Nat) : hw (upd H k (l + 1)) j = if j = l then turned (hw H j) k true else hw H j := by
  split
  · subst j
    rw [turned, if_pos rfl, hw, hw, mask_or _ k hk]
    apply mask_congr; intro i hi
    by_cases e : i = k
    · subst e; simp [upd_same]
    · simp [upd_ne H e, e]
  · rename_i hj
    apply mask_congr; intro i hi
    by_cases e : i = k
    · subst e; rw [upd_same, h]; simp; omega
    · rw [upd_ne H e]
theorem hw_down (H : Nat → Nat) (k l : Nat) (hk : k < 64) (h : H k = l + 1) (j : Nat) : hw (upd H k l) j = if j = l then turned (hw H j) k false else hw H j := by
  split
  · subst j
    rw [turned, if_neg (by simp), hw, hw, mask_clr _ k hk]
    apply mask_congr; intro i hi
    by_cases e : i = k
    · subst e; simp [upd_same]
    · simp [upd_ne H e, e]
  · rename_i hj
    apply mask_congr; intro i hi
    by_cases e : i = k
    · subst e; rw [upd_same, h]; simp; omega
    · rw [upd_ne H e]
theorem HWs_set (H H' : Nat → Nat) (l y : Nat) (hl : l < 4) (h : ∀ j, j < 4 → hw H' j = if j = l then y else hw H j) : (HWs H).set l y = HWs H' := by
  have h0 := h 0 (by omega)
  have h1 := h 1 (by omega)
  have h2 := h 2 (by omega)
  have h3 := h 3 (by omega)
  unfold HWs
  rw [h0, h1, h2, h3]
  rcases l with _ | _ | _ | _ | l
  · rfl
  · rfl
  · rfl
  · rfl
  · omega

/-- Heights as they may be. -/
structure TH (H : Nat → Nat) : Prop where
  le : ∀ k, H k ≤ 4
  hi : ∀ k, 64 ≤ k → H k = 0
theorem TH.upd {H : Nat → Nat} (h : TH H) {k v : Nat} (hk : k < 64) (hv : v ≤ 4) : TH (upd H k v) :=
  ⟨fun j => by simp only [Go.Proofs.YtoemmnojgfnmiaaDoor.upd]; split; exact hv; exact h.le j, fun j hj => by rw [upd_ne H (by omega)]; exact h.hi j hj⟩
theorem TH.zero : TH (fun _ => 0) := ⟨fun _ => by omega, fun _ _ => rfl⟩
/-- The Tower with heights H. -/
structure IsTH (w : World) (t a b : Nat) (H : Nat → Nat) : Prop where
  tow : IsTow w t a b (HWs H)
  ok : TH H
theorem IsTH.only {w w' : World} {t a b : Nat} {H : Nat → Nat} {S : Nat → Prop} (h : IsTH w t a b H) (o : Only S w w') (h1 : ¬ S t) (h2 : ¬ S a) (h3 : ¬ S b) : IsTH w' t a b H := ⟨h.tow.only o h1 h2 h3, h.ok⟩
def hgt (H : Nat → Nat) (key : Int) : Nat := if isKeyB key then H key.toNat else 0
theorem hgt_nat (H : Nat → Nat) (k : Nat) (hk : k < 64) : hgt H (k : Int) = H k := by
  have : isKeyB (k : Int) = true := by simp [isKeyB]; omega
  simp [hgt, this]
theorem hgt_le {H : Nat → Nat} (h : TH H) (key : Int) : hgt H key ≤ 4 := by
  unfold hgt; split; exact h.le _; omega
theorem isKeyB_iff (key : Int) : isKeyB key = true ↔ 0 ≤ key ∧ key ≤ 63 := by simp [isKeyB]
theorem atB_H (H : Nat → Nat) (l : Nat) (hl : l < 4) (key : Int) : atB (HWs H) l key = decide (l < hgt H key) := by
  rw [atB, HWs_getD H l hl, hw, testBit_mask, hgt]
  cases hk : isKeyB key with
  | false => simp
  | true =>
    have := (isKeyB_iff key).1 hk
    have : key.toNat < 64 := by omega
    simp [this]
theorem th_at {w : World} {t a b : Nat} {H : Nat → Nat} (h : IsTH w t a b H) (l : Nat) (hl : l < 4) (key : Int) (v : Bool) (hv : decide (l < hgt H key) = v) :
    Calls Tryd.prog 26 #[.pointer (some ⟨t, 0, none⟩), .int .i64 l, .int .i64 key] w fun e w' => e = .returned (.bool v) ∧ IsTH w' t a b H ∧ Only (Two a b) w w' := by
  refine (at_any h.tow l hl key).mono ?_
  rintro e w' ⟨rfl, h1, o⟩
  exact ⟨by rw [atB_H H l hl, hv], ⟨h1, h.ok⟩, o⟩
theorem turn_up {w : World} {t a b : Nat} {H : Nat → Nat} (h : IsTH w t a b H) (l k : Nat) (hl : l < 4) (hk : k < 64) (hh : H k = l) :
    Calls Tryd.prog 22 #[.pointer (some ⟨t, 0, none⟩), .int .i64 l, .int .i64 k, .bool true] w fun e w' => e = .returned (.tuple #[]) ∧ IsTH w' t a b (upd H k (l + 1)) ∧ Only (Two a b) w w' := by
  refine (turn_any h.tow l k hl hk true).mono ?_
  rintro e w' ⟨rfl, h1, o⟩
  refine ⟨rfl, ⟨?_, h.ok.upd hk (by omega)⟩, o⟩
  rw [HWs_getD H l hl] at h1
  rw [← HWs_set H (upd H k (l + 1)) l (turned (hw H l) k true) hl (fun j hj => by rw [hw_up H k l hk hh]; split; (rename_i e; subst e; rfl); rfl)]
  exact h1
theorem turn_down {w : World} {t a b : Nat} {H : Nat → Nat} (h : IsTH w t a b H) (l k : Nat) (hl : l < 4) (hk : k < 64) (hh : H k = l + 1) :
    Calls Tryd.prog 22 #[.pointer (some ⟨t, 0, none⟩), .int .i64 l, .int .i64 k, .bool false] w fun e w' => e = .returned (.tuple #[]) ∧ IsTH w' t a b (upd H k l) ∧ Only (Two a b) w w' := by
  refine (turn_any h.tow l k hl hk false).mono ?_
  rintro e w' ⟨rfl, h1, o⟩
  refine ⟨rfl, ⟨?_, h.ok.upd hk (by omega)⟩, o⟩
  rw [HWs_getD H l hl] at h1
  rw [← HWs_set H (upd H k l) l (turned (hw H l) k false) hl (fun j hj => by rw [hw_down H k l hk hh]; split; (rename_i e; subst e; rfl); rfl)]
  exact h1

set_option maxHeartbeats 1000000 in
theorem tow_new (w : World) : Calls Tryd.prog 4 #[] w fun e w' => ∃ t a b, e = .returned (.pointer (some ⟨t, 0, none⟩)) ∧ IsTH w' t a b (fun _ => 0) ∧ Only0 w w' ∧ w.heap.size ≤ t ∧ w.heap.size ≤ a ∧ w.heap.size ≤ b := by
  go_enter Tryd.func4, Tryd.ntmps4
  go_wp2_with fail
  refine (arena_new 4 (by omega) (by omega) w).mono ?_
  rintro e w1 ⟨rfl, h1, b1, s1⟩
  replace s1 : w.heap.size + 2 ≤ w1.heap.size := by omega
  go_wp2_with fail
  go_ret
  have hz : IsArena w1 (w.heap.size + 1) w.heap.size ⟨(HWs (fun _ => 0)).map Int.ofNat, 0⟩ := h1
  refine ⟨_, _, _, rfl, ⟨⟨Blk.new _ _ _, ⟨_, hz.alloc _⟩, by omega, by omega, HWs_ok _⟩, TH.zero⟩, (Below.only0 b1).alloc _, by omega, by omega, by omega⟩

set_option maxHeartbeats 1000000 in
theorem th_has {w : World} {t a b : Nat} {H : Nat → Nat} (h : IsTH w t a b H) (key : Int) (v : Bool) (hv : decide (0 < hgt H key) = v) :
    Calls Tryd.prog 11 #[.pointer (some ⟨t, 0, none⟩), .int .i64 key] w fun e w' => e = .returned (.bool v) ∧ IsTH w' t a b H ∧ Only (Two a b) w w' := by
  have A := th_at h 0 (by omega) key v hv
  clear hv
  go_enter Tryd.func11, Tryd.ntmps11
  go_wp2_with fail
  refine A.mono ?_
  rintro e w1 ⟨rfl, h1, o1⟩
  go_wp2_with fail
  go_ret
  exact ⟨rfl, h1, o1⟩

set_option maxHeartbeats 2000000 in
theorem th_height {w : World} {t a b : Nat} {H : Nat → Nat} (h : IsTH w t a b H) (key : Int) :
    Calls Tryd.prog 12 #[.pointer (some ⟨t, 0, none⟩), .int .i64 key] w fun e w' => e = .returned (.int .i64 (hgt H key)) ∧ IsTH w' t a b H ∧ Only (Two a b) w w' := by
  have g4 := hgt_le h.ok key
  obtain ⟨n, hn⟩ : ∃ n, n = hgt H key := ⟨_, rfl⟩
  rw [← hn] at g4 ⊢
  have HN := Lib.hid hn
  clear hn
  go_enter Tryd.func12, Tryd.ntmps12
  go_wp2_with fail
  go_loopw [5] (fun i wr => ∃ k : Nat, k ≤ n ∧ i = .int .i64 k ∧ IsTH wr t a b H ∧ Only (Two a b) w wr) (fun i _ => n - (intOf i).toNat)
  case atStart => exact ⟨0, Nat.zero_le _, rfl, h, Only.refl _ _⟩
  case round =>
    obtain ⟨k, hk, rfl, h1, o1⟩ := hrel
    by_cases hlt : k < n
    · have A := th_at h1 k (by omega) key true (decide_eq_true (by rw [← HN.out]; exact hlt))
      go_wp2_with fail
      refine A.mono ?_
      rintro e w1 ⟨rfl, h2, o2⟩
      go_wp2_with fail
      go_roundw
      case rel => exact ⟨k + 1, by omega, by go_num, h2, o1.trans o2⟩
      case measure => simp [intOf]; omega
    · obtain rfl : k = n := by omega
      by_cases h4 : k < 4
      · have A := th_at h1 k (by omega) key false (decide_eq_false (by rw [← HN.out]; omega))
        go_wp2_with fail
        refine A.mono ?_
        rintro e w1 ⟨rfl, h2, o2⟩
        go_wp2_with fail
        go_ret
        exact ⟨rfl, h2, o1.trans o2⟩
      · go_wp2_with fail
        go_ret
        exact ⟨rfl, h1, o1⟩

set_option maxHeartbeats 2000000 in
theorem th_put_bad {w : World} {t a b : Nat} {H : Nat → Nat} (h : IsTH w t a b H) (key height : Int) (hb : isKeyB key = false ∨ height < 1 ∨ 4 < height) :
    Calls Tryd.prog 6 #[.pointer (some ⟨t, 0, none⟩), .int .i64 key, .int .i64 height] w fun e w' => e = .returned (.tuple #[.bool false, .int .i64 1]) ∧ w = w' := by
  cases hk : isKeyB key with
  | false =>
    clear hb
    go_enter Tryd.func6, Tryd.ntmps6
    go_wp2_with fail
    refine (tis_any key _).mono ?_
    rintro e w1 ⟨rfl, rfl⟩
    rw [hk]
    go_wp2_with fail
    go_ret2
    exact ⟨rfl, rfl⟩
  | true =>
    have hb' : height < 1 ∨ (1 ≤ height ∧ 4 < height) := by
      rcases hb with h | h | h
      · rw [hk] at h; cases h
      · exact .inl h
      · exact .inr ⟨by omega, h⟩
    clear hb
    rcases hb' with h1 | ⟨h1, h2⟩
    all_goals
      go_enter Tryd.func6, Tryd.ntmps6
      go_wp2_with fail
      refine (tis_any key _).mono ?_
      rintro e w1 ⟨rfl, rfl⟩
      rw [hk]
      go_wp2_with fail
      go_ret2
      exact ⟨rfl, rfl⟩

set_option maxHeartbeats 2000000 in
theorem th_put_old {w : World} {t a b : Nat} {H : Nat → Nat} (h : IsTH w t a b H) (key height : Int) (hk : isKeyB key = true) (h1 : 1 ≤ height) (h2 : height ≤ 4) (hh : 0 < hgt H key) :
    Calls Tryd.prog 6 #[.pointer (some ⟨t, 0, none⟩), .int .i64 key, .int .i64 height] w fun e w' => e = .returned (.tuple #[.bool false, .int .i64 0]) ∧ IsTH w' t a b H ∧ Only (Two a b) w w' := by
  have A := th_has h key true (decide_eq_true hh)
  go_enter Tryd.func6, Tryd.ntmps6
  go_wp2_with fail
  refine (tis_any key _).mono ?_
  rintro e w1 ⟨rfl, rfl⟩
  rw [hk]
  go_wp2_with fail
  refine A.mono ?_
  rintro e w1 ⟨rfl, hA, o1⟩
  go_wp2_with fail
  go_ret2
  exact ⟨rfl, hA, o1⟩

set_option maxHeartbeats 2000000 in
theorem th_put_new {w : World} {t a b : Nat} {H : Nat → Nat} (h : IsTH w t a b H) (k n : Nat) (hk : k < 64) (h1 : 1 ≤ n) (h2 : n ≤ 4) (hh : H k = 0) :
    Calls Tryd.prog 6 #[.pointer (some ⟨t, 0, none⟩), .int .i64 k, .int .i64 n] w fun e w' => e = .returned (.tuple #[.bool true, .int .i64 0]) ∧ IsTH w' t a b (upd H k n) ∧ Only (Two a b) w w' := by
  have A := th_has h k false (by rw [hgt_nat H k hk, hh]; rfl)
  have hik : isKeyB (k : Int) = true := (isKeyB_iff _).2 (by omega)
  have hu : upd H k 0 = H := by rw [← hh]; exact upd_self H k
  have HU := Lib.hid hu
  clear hu hh
  go_enter Tryd.func6, Tryd.ntmps6
  go_wp2_with fail
  refine (tis_any k _).mono ?_
  rintro e w1 ⟨rfl, rfl⟩
  rw [hik]
  go_wp2_with fail
  refine A.mono ?_
  rintro e w1 ⟨rfl, hA, o1⟩
  go_wp2_with fail
  go_loopw [26] (fun i wr => ∃ j : Nat, j ≤ n ∧ i = .int .i64 j ∧ IsTH wr t a b (upd H k j) ∧ Only (Two a b) w wr) (fun i _ => n - (intOf i).toNat)
  case atStart => exact ⟨0, Nat.zero_le _, rfl, by rw [HU.out]; exact hA, o1⟩
  case round =>
    obtain ⟨j, hj, rfl, h3, o3⟩ := hrel
    by_cases hlt : j < n
    · have A := turn_up h3 j k (by omega) hk (upd_same H k j)
      rw [upd_upd] at A
      go_wp2_with fail
      refine A.mono ?_
      rintro e w1 ⟨rfl, h4, o4⟩
      go_wp2_with fail
      go_roundw
      case rel => exact ⟨j + 1, by omega, by go_num, h4, o3.trans o4⟩
      case measure => simp [intOf]; omega
    · obtain rfl : j = n := by omega
      go_wp2_with fail
      go_ret2
      exact ⟨rfl, h3, o3⟩

set_option maxHeartbeats 2000000 in
theorem th_drop_no {w : World} {t a b : Nat} {H : Nat → Nat} (h : IsTH w t a b H) (key : Int) (hh : hgt H key = 0) :
    Calls Tryd.prog 8 #[.pointer (some ⟨t, 0, none⟩), .int .i64 key] w fun e w' => e = .returned (.bool false) ∧ IsTH w' t a b H ∧ Only (Two a b) w w' := by
  have A := th_has h key false (by rw [hh]; rfl)
  clear hh
  go_enter Tryd.func8, Tryd.ntmps8
  go_wp2_with fail
  refine A.mono ?_
  rintro e w1 ⟨rfl, hA, o1⟩
  go_wp2_with fail
  go_ret
  exact ⟨rfl, hA, o1⟩

set_option maxHeartbeats 2000000 in
theorem th_drop {w : World} {t a b : Nat} {H : Nat → Nat} (h : IsTH w t a b H) (k : Nat) (hk : k < 64) (hh : 0 < H k) :
    Calls Tryd.prog 8 #[.pointer (some ⟨t, 0, none⟩), .int .i64 k] w fun e w' => e = .returned (.bool true) ∧ IsTH w' t a b (upd H k 0) ∧ Only (Two a b) w w' := by
  have A := th_has h k true (by rw [hgt_nat H k hk]; exact decide_eq_true hh)
  have h4 := h.ok.le k
  have hu : upd H k (H k) = H := upd_self H k
  have hn := hgt_nat H k hk
  obtain ⟨n, hn'⟩ : ∃ n, n = H k := ⟨_, rfl⟩
  rw [← hn'] at hh hu h4 hn
  have HU := Lib.hid hu
  have HN := Lib.hid hn
  clear hu hn hn'
  go_enter Tryd.func8, Tryd.ntmps8
  go_wp2_with fail
  refine A.mono ?_
  rintro e w1 ⟨rfl, hA, o1⟩
  go_wp2_with fail
  have B := th_height hA k
  rw [HN.out] at B
  refine B.mono ?_
  rintro e w2 ⟨rfl, hB, o2⟩
  go_wp2_with fail
  go_loopw [5] (fun i wr => ∃ j : Nat, j ≤ n ∧ i = .int .i64 ((j : Int) - 1) ∧ IsTH wr t a b (upd H k j) ∧ Only (Two a b) w wr) (fun i _ => (intOf i + 1).toNat)
  case atStart => exact ⟨n, Nat.le_refl _, rfl, by rw [HU.out]; exact hB, o1.trans o2⟩
  case round =>
    obtain ⟨j, hj, rfl, h3, o3⟩ := hrel
    by_cases hlt : 0 < j
    · obtain ⟨i, rfl⟩ : ∃ i, j = i + 1 := ⟨j - 1, by omega⟩
      have A := turn_down h3 i k (by omega) hk (upd_same H k (i + 1))
      rw [upd_upd] at A
      have e1 : ((i + 1 : Nat) : Int) - 1 = (i : Int) := by omega
      rw [e1]
      go_wp2_with fail
      refine A.mono ?_
      rintro e w1 ⟨rfl, h4, o4⟩
      go_wp2_with fail
      go_roundw
      case rel => exact ⟨i, by omega, rfl, h4, o3.trans o4⟩
      case measure => simp [intOf]
    · obtain rfl : j = 0 := by omega
      go_wp2_with fail
      go_ret
      exact ⟨rfl, h3, o3⟩
end Go.Proofs.YtoemmnojgfnmiaaDoor

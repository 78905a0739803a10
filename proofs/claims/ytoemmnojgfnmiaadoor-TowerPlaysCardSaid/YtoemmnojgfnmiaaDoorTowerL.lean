/-
  tower's below; Level, From, Range, Steps, Len.
-/
import Derived.Test.YtoemmnojgfnmiaaDoorTowerK
namespace Go.Proofs.YtoemmnojgfnmiaaDoor
open Go.RowKit
set_option linter.unusedVariables false

theorem Told.mono {B C : Nat} {v : Value} {w : World} {l : List Nat} (h : Told C v w l) (hb : B ≤ C) : Told B v w l := by
  obtain ⟨h1, h2⟩ := h
  refine ⟨h1, ?_⟩
  rcases h2 with h2 | ⟨g, cap, cur, h3, h4, h5⟩
  · exact .inl h2
  · exact .inr ⟨g, cap, cur, h3, by omega, h5⟩
/-- The keys of at least height l + 1, rising. -/
def kl (H : Nat → Nat) (l : Nat) : List Nat := (List.range 64).filter (fun k => decide (l < H k))
theorem keysOf_hw (H : Nat → Nat) (l : Nat) : keysOf (hw H l) = kl H l := by
  apply List.filter_congr
  intro k hk
  have := List.mem_range.1 hk
  rw [hw, testBit_mask]; simp [this]
theorem kl_len (H : Nat → Nat) (l : Nat) : (kl H l).length ≤ 64 := by
  have := List.length_filter_le (fun k => decide (l < H k)) (List.range 64)
  simpa [kl] using this
theorem th_load {w : World} {t a b : Nat} {H : Nat → Nat} (h : IsTH w t a b H) (l : Nat) (hl : l < 4) :
    Calls Tryd.prog 23 #[.pointer (some ⟨a, 0, none⟩), .int .i64 l] w fun e w' => e = .returned (.int .u64 (hw H l : Nat)) ∧ IsTH w' t a b H ∧ Only (Two a b) w w' := by
  obtain ⟨c, hc⟩ := h.tow.arena
  refine (tow_load hc h.tow.ok.1 l hl).mono ?_
  rintro e w' ⟨rfl, hA, o⟩
  have nt : ¬ Two a b t := by rintro (e | e); exact h.tow.ta e; exact h.tow.tb e
  exact ⟨by rw [HWs_getD H l hl], ⟨⟨o.blk h.tow.ptr nt, hA, h.tow.ta, h.tow.tb, h.tow.ok⟩, h.ok⟩, o⟩
theorem th_ptr {w : World} {t a b : Nat} {H : Nat → Nat} (h : IsTH w t a b H) : w.cell? ⟨t, 0, none⟩ = some (.pointer (some ⟨a, 0, none⟩)) := by rw [h.tow.ptr.cell]; rfl

set_option maxHeartbeats 2000000 in
theorem th_len {w : World} {t a b : Nat} {H : Nat → Nat} (h : IsTH w t a b H) :
    Calls Tryd.prog 18 #[.pointer (some ⟨t, 0, none⟩)] w fun e w' => e = .returned (.int .i64 (kl H 0).length) ∧ IsTH w' t a b H ∧ Only (Two a b) w w' := by
  have L := th_load h 0 (by omega)
  have c0 := th_ptr h
  have C := fun w => ones_any (hw H 0) w (mask_lt _)
  rw [keysOf_hw] at C
  generalize (kl H 0).length = n at C ⊢
  generalize hw H 0 = x at L C
  have CC := Lib.hid C
  clear C
  go_enter Tryd.func18, Tryd.ntmps18
  go_wp2_with fail
  refine L.mono ?_
  rintro e w1 ⟨rfl, h1, o1⟩
  go_wp2_with fail
  refine (CC.out w1).mono ?_
  rintro e w2 ⟨rfl, rfl⟩
  go_wp2_with fail
  go_ret
  exact ⟨rfl, h1, o1⟩

theorem level_off {w : World} {t : Nat} (h : Int) (hh : h < 1 ∨ 4 < h) :
    Calls Tryd.prog 16 #[.pointer (some ⟨t, 0, none⟩), .int .i64 h] w fun e w' => e = .returned (.slice none 0 0) ∧ w = w' := by
  by_cases h1 : h < 1
  · clear hh
    go_enter Tryd.func16, Tryd.ntmps16
    go_wp2_with fail
    go_ret
    exact ⟨rfl, rfl⟩
  · have h2 : 4 < h := by omega
    have h3 : 1 ≤ h := by omega
    clear hh h1
    go_enter Tryd.func16, Tryd.ntmps16
    go_wp2_with fail
    go_ret
    exact ⟨rfl, rfl⟩
set_option maxHeartbeats 2000000 in
theorem level_on {w : World} {t a b : Nat} {H : Nat → Nat} (h : IsTH w t a b H) (hT : Tab w) (ga : ¬ Two a b 0) (l : Nat) (hl : l < 4) :
    Calls Tryd.prog 16 #[.pointer (some ⟨t, 0, none⟩), .int .i64 ((l : Int) + 1)] w fun e w' => ∃ v, e = .returned v ∧ Told w.heap.size v w' (kl H l) ∧ IsTH w' t a b H ∧ Only (Two a b) w w' := by
  have L := th_load h l hl
  have c0 := th_ptr h
  have C := fun w h => keys_any (hw H l) w (mask_lt _) h
  rw [keysOf_hw] at C
  generalize kl H l = ks at C ⊢
  generalize hw H l = x at L C
  have CC := Lib.hid C
  have HT := Lib.hid hT
  clear C hT
  go_enter Tryd.func16, Tryd.ntmps16
  go_wp2_with fail
  refine L.mono ?_
  rintro e w1 ⟨rfl, h1, o1⟩
  go_wp2_with fail
  refine (CC.out w1 (HT.out.only o1 ga)).mono ?_
  rintro e w2 ⟨v, rfl, hv, o2⟩
  go_wp2_with fail
  go_ret
  exact ⟨v, rfl, hv.mono o1.size, h1.only o2 (fun h => h) (fun h => h) (fun h => h), o1.trans (o2.any _)⟩

/-- The word of all keys below one. -/
def belowN (key : Int) : Nat := if 63 < key then 18446744073709551615 else 2 ^ key.toNat - 1
theorem belowN_lt (key : Int) : belowN key < 18446744073709551616 := by
  unfold belowN; split
  · omega
  · have : 2 ^ key.toNat < 2 ^ 64 := Nat.pow_lt_pow_right (by decide) (by omega)
    omega
theorem testBit_belowN (key : Int) (j : Nat) (hj : j < 64) : (belowN key).testBit j = decide ((j : Int) < key) := by
  unfold belowN; split
  · rw [show 18446744073709551615 = 2 ^ 64 - 1 by decide, Nat.testBit_two_pow_sub_one]
    rw [Bool.eq_iff_iff]; simp <;> omega
  · rw [Nat.testBit_two_pow_sub_one]
    rw [Bool.eq_iff_iff]; simp <;> omega
theorem testBit_not (x j : Nat) (hx : x < 18446744073709551616) (hj : j < 64) : (18446744073709551615 - x).testBit j = !x.testBit j := by
  rw [show 18446744073709551615 - x = 2 ^ 64 - (x + 1) by omega, Nat.testBit_two_pow_sub_succ hx]
  simp [hj]
set_option maxHeartbeats 2000000 in
theorem below_any (key : Int) (w : World) : Calls Tryd.prog 24 #[.int .i64 key] w fun e w' => e = .returned (.int .u64 (belowN key)) ∧ w = w' := by
  by_cases h : 63 < key
  · have E : belowN key = 18446744073709551615 := if_pos h
    rw [E]; clear E
    go_enter Tryd.func24, Tryd.ntmps24
    go_wp2_with fail
    go_ret
    exact ⟨rfl, rfl⟩
  · have hle : key ≤ 63 := by omega
    have E : belowN key = 2 ^ key.toNat - 1 := if_neg h
    by_cases h0 : 0 ≤ key
    · obtain ⟨k, rfl⟩ := Int.eq_ofNat_of_zero_le h0
      have g1 := wrap_pow k (by omega)
      have hp := Nat.two_pow_pos k
      have hp2 : 2 ^ k < 18446744073709551616 := Nat.pow_lt_pow_right (m := k) (n := 64) (by decide) (by omega)
      rw [E, Int.toNat_natCast]
      clear E h
      generalize 2 ^ k = B at g1 hp hp2 ⊢
      have hc : ((B - 1 : Nat) : Int) = (B : Int) - 1 := by omega
      rw [hc]; clear hc
      have hif : ¬ (k : Int) < 0 := by omega
      go_enter Tryd.func24, Tryd.ntmps24
      go_wp2_with fail
      go_ret
      exact ⟨rfl, rfl⟩
    · have hn : key < 0 := by omega
      have E2 : belowN key = 0 := by rw [E, show key.toNat = 0 by omega]
      rw [E2]; clear E E2 h
      go_enter Tryd.func24, Tryd.ntmps24
      go_wp2_with fail
      go_ret
      exact ⟨rfl, rfl⟩

/-- The first key that is not below one. -/
def fromK (H : Nat → Nat) (key : Int) : Option Nat := (List.range 64).find? (fun k => decide (0 < H k) && decide (key ≤ (k : Int)))
def fromV : Option Nat → Value
  | none => .tuple #[.int .i64 0, .bool false]
  | some k => .tuple #[.int .i64 k, .bool true]
theorem keysOf_from (H : Nat → Nat) (key : Int) : keysOf (hw H 0 &&& (18446744073709551615 - belowN key)) = (List.range 64).filter (fun k => decide (0 < H k) && decide (key ≤ (k : Int))) := by
  apply List.filter_congr
  intro k hk
  have hk := List.mem_range.1 hk
  rw [Nat.testBit_and, testBit_not _ _ (belowN_lt key) hk, testBit_belowN key k hk, hw, testBit_mask, ← decide_not]
  simp [hk, Int.not_lt]
set_option maxHeartbeats 2000000 in
theorem th_from {w : World} {t a b : Nat} {H : Nat → Nat} (h : IsTH w t a b H) (hT : Tab w) (ga : ¬ Two a b 0) (key : Int) :
    Calls Tryd.prog 9 #[.pointer (some ⟨t, 0, none⟩), .int .i64 key] w fun e w' => e = .returned (fromV (fromK H key)) ∧ IsTH w' t a b H ∧ Only (Two a b) w w' := by
  have L := th_load h 0 (by omega)
  have c0 := th_ptr h
  have hB := belowN_lt key
  have hK := keysOf_from H key
  have hF : fromK H key = (keysOf (hw H 0 &&& (18446744073709551615 - belowN key))).head? := by rw [hK, List.head?_filter]; rfl
  have hx : hw H 0 < 18446744073709551616 := mask_lt _
  have hlt : hw H 0 &&& (18446744073709551615 - belowN key) < 18446744073709551616 := Nat.lt_of_le_of_lt Nat.and_le_left hx
  have g := u64_andNot_nat (hw H 0) (belowN key) hx hB
  generalize fromK H key = r at hF ⊢
  clear hK
  generalize hw H 0 &&& (18446744073709551615 - belowN key) = y at g hlt hF
  have BB := below_any key
  generalize hw H 0 = x at L g hx
  generalize belowN key = m at g hB BB
  have HB := Lib.hid BB
  have HT := Lib.hid hT
  clear BB hT
  by_cases h0 : y = 0
  · subst h0
    have hr : r = none := by rw [hF, keysOf_zero]; rfl
    subst hr
    clear hF
    go_enter Tryd.func9, Tryd.ntmps9
    go_wp2_with fail
    refine L.mono ?_
    rintro e w1 ⟨rfl, h1, o1⟩
    go_wp2_with fail
    refine (HB.out w1).mono ?_
    rintro e w2 ⟨rfl, rfl⟩
    go_wp2_with fail
    go_ret2
    exact ⟨rfl, h1, o1⟩
  · have hpos : 0 < y := by omega
    have hr : r = some (Lib.ctz 64 y) := by rw [hF, keysOf_step y hpos hlt]; rfl
    subst hr
    have C := fun w h => tz_any y w hpos hlt h
    generalize Lib.ctz 64 y = c at C ⊢
    have CC := Lib.hid C
    have hne : ((y : Int) == 0) = false := by simp <;> omega
    clear hF C h0
    go_enter Tryd.func9, Tryd.ntmps9
    go_wp2_with fail
    refine L.mono ?_
    rintro e w1 ⟨rfl, h1, o1⟩
    go_wp2_with fail
    refine (HB.out w1).mono ?_
    rintro e w2 ⟨rfl, rfl⟩
    go_wp2_with fail
    refine (CC.out w1 (HT.out.only o1 ga)).mono ?_
    rintro e w2 ⟨rfl, rfl⟩
    go_wp2_with fail
    go_ret2
    exact ⟨rfl, h1, o1⟩
theorem th_from_some {w : World} {t a b : Nat} {H : Nat → Nat} (h : IsTH w t a b H) (hT : Tab w) (ga : ¬ Two a b 0) (key : Int) (k : Nat) (hk : fromK H key = some k) :
    Calls Tryd.prog 9 #[.pointer (some ⟨t, 0, none⟩), .int .i64 key] w fun e w' => e = .returned (.tuple #[.int .i64 k, .bool true]) ∧ IsTH w' t a b H ∧ Only (Two a b) w w' := by
  have := th_from h hT ga key
  rw [hk] at this; exact this
theorem th_from_none {w : World} {t a b : Nat} {H : Nat → Nat} (h : IsTH w t a b H) (hT : Tab w) (ga : ¬ Two a b 0) (key : Int) (hk : fromK H key = none) :
    Calls Tryd.prog 9 #[.pointer (some ⟨t, 0, none⟩), .int .i64 key] w fun e w' => e = .returned (.tuple #[.int .i64 0, .bool false]) ∧ IsTH w' t a b H ∧ Only (Two a b) w w' := by
  have := th_from h hT ga key
  rw [hk] at this; exact this
end Go.Proofs.YtoemmnojgfnmiaaDoor

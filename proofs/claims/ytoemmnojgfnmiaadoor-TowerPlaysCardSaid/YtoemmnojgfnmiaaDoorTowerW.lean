/-
  A Tower of the law's own: contracts for the laws' walks; awake of layer 11.
-/
import Derived.Test.YtoemmnojgfnmiaaDoorTowerR
import Derived.Test.YtoemmnojgfnmiaaDoorOpen
namespace Go.Proofs.YtoemmnojgfnmiaaDoor
open Go.RowKit
set_option linter.unusedVariables false

/-- A Tower with heights H in blocks of the call's own (the call began in w0). -/
structure TW (w0 w : World) (t a b : Nat) (H : Nat → Nat) : Prop where
  th : IsTH w t a b H
  bel : Below w0.heap.size w0 w
  tab : Tab w
  gt : w0.heap.size ≤ t
  ga : w0.heap.size ≤ a
  gb : w0.heap.size ≤ b
theorem Tab.lt {w : World} (h : Tab w) : 0 < w.heap.size := block_lt_of_cell (h.cell 0 (by omega))
theorem Tab.below {B : Nat} {w w' : World} (h : Tab w) (o : Below B w w') (hB : 0 < B) : Tab w' := fun j hj => by
  have hc := h j hj
  rw [o.cell (p := ⟨0, j, none⟩) hB]; exact hc
theorem Only.bel2 {w0 w w' : World} {a b : Nat} (h : Below w0.heap.size w0 w) (o : Only (Two a b) w w') (ga : w0.heap.size ≤ a) (gb : w0.heap.size ≤ b) : Below w0.heap.size w0 w' :=
  h.trans (o.below w0.heap.size h.size (fun k hk => by rcases hk with rfl | rfl <;> assumption))
theorem TW.step {w0 w w' : World} {t a b : Nat} {H H' : Nat → Nat} (h : TW w0 w t a b H) (hT : Tab w0) (h' : IsTH w' t a b H') (o : Only (Two a b) w w') : TW w0 w' t a b H' :=
  have hb := Only.bel2 h.bel o h.ga h.gb
  ⟨h', hb, hT.below hb hT.lt, h.gt, h.ga, h.gb⟩
/-- Other memory of the call's own has turned. -/
theorem TW.keep {w0 w w' : World} {t a b : Nat} {H : Nat → Nat} {S : Nat → Prop} (h : TW w0 w t a b H) (hT : Tab w0) (o : Only S w w') (hs : ∀ k, S k → w0.heap.size ≤ k) (h1 : ¬ S t) (h2 : ¬ S a) (h3 : ¬ S b) : TW w0 w' t a b H :=
  have hb := h.bel.trans (o.below w0.heap.size h.bel.size hs)
  ⟨h.th.only o h1 h2 h3, hb, hT.below hb hT.lt, h.gt, h.ga, h.gb⟩
theorem TW.drew {w0 w : World} {t a b : Nat} {H : Nat → Nat} (h : TW w0 w t a b H) (hT : Tab w0) : TW w0 w.drew t a b H :=
  h.keep hT (S := fun _ => False) ((Only.refl _ _).drew) (fun _ h => h.elim) (fun h => h) (fun h => h) (fun h => h)
theorem TW.drewN {w0 w : World} {t a b : Nat} {H : Nat → Nat} (h : TW w0 w t a b H) (hT : Tab w0) (n : Nat) : TW w0 (w.drewN n) t a b H :=
  h.keep hT (S := fun _ => False) ((Only.refl _ _).drewN n) (fun _ h => h.elim) (fun h => h) (fun h => h) (fun h => h)
theorem TW.alloc {w0 w : World} {t a b : Nat} {H : Nat → Nat} (h : TW w0 w t a b H) (hT : Tab w0) (o : Obj) : TW w0 (w.alloc o) t a b H :=
  h.keep hT (S := fun _ => False) ((Only.refl _ _).alloc o) (fun _ h => h.elim) (fun h => h) (fun h => h) (fun h => h)
theorem TW.ng {w0 w : World} {t a b : Nat} {H : Nat → Nat} (h : TW w0 w t a b H) (hT : Tab w0) : ¬ Two a b 0 := by
  have := hT.lt
  rintro (e | e)
  · have := h.ga; omega
  · have := h.gb; omega
theorem tw_new {w0 : World} (w : World) (hT : Tab w0) (hb : Below w0.heap.size w0 w) : Calls Tryd.prog 4 #[] w fun e w' => ∃ t a b, e = .returned (.pointer (some ⟨t, 0, none⟩)) ∧ TW w0 w' t a b (fun _ => 0) ∧ Only0 w w' ∧ w.heap.size ≤ t ∧ w.heap.size ≤ a ∧ w.heap.size ≤ b := by
  refine (tow_new w).mono ?_
  rintro e w' ⟨t, a, b, rfl, h, o, h1, h2, h3⟩
  have hb' := hb.trans (o.below.mono hb.size)
  have hz := hb.size
  exact ⟨t, a, b, rfl, ⟨h, hb', hT.below hb' hT.lt, by omega, by omega, by omega⟩, o, h1, h2, h3⟩
theorem tw_put_new {w0 w : World} {t a b : Nat} {H : Nat → Nat} (h : TW w0 w t a b H) (hT : Tab w0) (k n : Nat) (hk : k < 64) (h1 : 1 ≤ n) (h2 : n ≤ 4) (hh : H k = 0) :
    Calls Tryd.prog 6 #[.pointer (some ⟨t, 0, none⟩), .int .i64 k, .int .i64 n] w fun e w' => e = .returned (.tuple #[.bool true, .int .i64 0]) ∧ TW w0 w' t a b (upd H k n) ∧ Only (Two a b) w w' := by
  refine (th_put_new h.th k n hk h1 h2 hh).mono ?_
  rintro e w' ⟨rfl, h', o⟩
  exact ⟨rfl, h.step hT h' o, o⟩
theorem tw_put_old {w0 w : World} {t a b : Nat} {H : Nat → Nat} (h : TW w0 w t a b H) (hT : Tab w0) (k n : Nat) (hk : k < 64) (h1 : 1 ≤ n) (h2 : n ≤ 4) (hh : 0 < H k) :
    Calls Tryd.prog 6 #[.pointer (some ⟨t, 0, none⟩), .int .i64 k, .int .i64 n] w fun e w' => e = .returned (.tuple #[.bool false, .int .i64 0]) ∧ TW w0 w' t a b H ∧ Only (Two a b) w w' := by
  refine (th_put_old h.th k n ((isKeyB_iff _).2 (by omega)) (by omega) (by omega) (by rw [hgt_nat H k hk]; exact hh)).mono ?_
  rintro e w' ⟨rfl, h', o⟩
  exact ⟨rfl, h.step hT h' o, o⟩
theorem tw_put_bad {w0 w : World} {t a b : Nat} {H : Nat → Nat} (h : TW w0 w t a b H) (key height : Int) (hb : isKeyB key = false ∨ height < 1 ∨ 4 < height) :
    Calls Tryd.prog 6 #[.pointer (some ⟨t, 0, none⟩), .int .i64 key, .int .i64 height] w fun e w' => e = .returned (.tuple #[.bool false, .int .i64 1]) ∧ w = w' := th_put_bad h.th key height hb
theorem tw_drop {w0 w : World} {t a b : Nat} {H : Nat → Nat} (h : TW w0 w t a b H) (hT : Tab w0) (k : Nat) (hk : k < 64) (hh : 0 < H k) :
    Calls Tryd.prog 8 #[.pointer (some ⟨t, 0, none⟩), .int .i64 k] w fun e w' => e = .returned (.bool true) ∧ TW w0 w' t a b (upd H k 0) ∧ Only (Two a b) w w' := by
  refine (th_drop h.th k hk hh).mono ?_
  rintro e w' ⟨rfl, h', o⟩
  exact ⟨rfl, h.step hT h' o, o⟩
theorem tw_drop_no {w0 w : World} {t a b : Nat} {H : Nat → Nat} (h : TW w0 w t a b H) (hT : Tab w0) (key : Int) (hh : hgt H key = 0) :
    Calls Tryd.prog 8 #[.pointer (some ⟨t, 0, none⟩), .int .i64 key] w fun e w' => e = .returned (.bool false) ∧ TW w0 w' t a b H ∧ Only (Two a b) w w' := by
  refine (th_drop_no h.th key hh).mono ?_
  rintro e w' ⟨rfl, h', o⟩
  exact ⟨rfl, h.step hT h' o, o⟩
theorem tw_height {w0 w : World} {t a b : Nat} {H : Nat → Nat} (h : TW w0 w t a b H) (hT : Tab w0) (key : Int) (n : Nat) (hn : hgt H key = n) :
    Calls Tryd.prog 12 #[.pointer (some ⟨t, 0, none⟩), .int .i64 key] w fun e w' => e = .returned (.int .i64 n) ∧ TW w0 w' t a b H ∧ Only (Two a b) w w' := by
  refine (th_height h.th key).mono ?_
  rintro e w' ⟨rfl, h', o⟩
  exact ⟨by rw [hn], h.step hT h' o, o⟩
theorem tw_has {w0 w : World} {t a b : Nat} {H : Nat → Nat} (h : TW w0 w t a b H) (hT : Tab w0) (key : Int) (v : Bool) (hv : decide (0 < hgt H key) = v) :
    Calls Tryd.prog 11 #[.pointer (some ⟨t, 0, none⟩), .int .i64 key] w fun e w' => e = .returned (.bool v) ∧ TW w0 w' t a b H ∧ Only (Two a b) w w' := by
  refine (th_has h.th key v hv).mono ?_
  rintro e w' ⟨rfl, h', o⟩
  exact ⟨rfl, h.step hT h' o, o⟩
theorem tw_len {w0 w : World} {t a b : Nat} {H : Nat → Nat} (h : TW w0 w t a b H) (hT : Tab w0) (n : Nat) (hn : (kl H 0).length = n) :
    Calls Tryd.prog 18 #[.pointer (some ⟨t, 0, none⟩)] w fun e w' => e = .returned (.int .i64 n) ∧ TW w0 w' t a b H ∧ Only (Two a b) w w' := by
  refine (th_len h.th).mono ?_
  rintro e w' ⟨rfl, h', o⟩
  exact ⟨by rw [hn], h.step hT h' o, o⟩
theorem tw_from {w0 w : World} {t a b : Nat} {H : Nat → Nat} (h : TW w0 w t a b H) (hT : Tab w0) (key : Int) (r : Option Nat) (hr : fromK H key = r) (v : Value) (hv : fromV r = v) :
    Calls Tryd.prog 9 #[.pointer (some ⟨t, 0, none⟩), .int .i64 key] w fun e w' => e = .returned v ∧ TW w0 w' t a b H ∧ Only (Two a b) w w' := by
  subst hv; subst hr
  refine (th_from h.th h.tab (h.ng hT) key).mono ?_
  rintro e w' ⟨rfl, h', o⟩
  exact ⟨rfl, h.step hT h' o, o⟩
theorem tw_steps {w0 w : World} {t a b : Nat} {H : Nat → Nat} (h : TW w0 w t a b H) (hT : Tab w0) (key : Int) (n : Nat) (hn : stepsK H key = n) :
    Calls Tryd.prog 13 #[.pointer (some ⟨t, 0, none⟩), .int .i64 key] w fun e w' => e = .returned (.int .i64 n) ∧ TW w0 w' t a b H ∧ Only (Two a b) w w' := by
  subst hn
  refine (th_steps h.th h.tab (h.ng hT) key).mono ?_
  rintro e w' ⟨rfl, h', o⟩
  exact ⟨rfl, h.step hT h' o, o⟩
theorem tw_range {w0 w : World} {t a b : Nat} {H : Nat → Nat} (h : TW w0 w t a b H) (hT : Tab w0) (lo hi : Int) (l : List Nat) (hl : rangeK H lo hi = l) :
    Calls Tryd.prog 19 #[.pointer (some ⟨t, 0, none⟩), .int .i64 lo, .int .i64 hi] w fun e w' => ∃ x c, e = .returned (.slice x l.length c) ∧ l.length ≤ c ∧ c ≤ 9223372036854775807 ∧ Told w.heap.size (.slice x l.length c) w' l ∧ Ints .i64 w' x (toInts l) ∧ TW w0 w' t a b H ∧ Only (Two a b) w w' := by
  subst hl
  refine (th_range h.th h.tab (h.ng hT) lo hi).mono ?_
  rintro e w' ⟨v, rfl, ht, h', o⟩
  obtain ⟨x, c, rfl, h1, h2, h3, h4⟩ := ht.form
  exact ⟨x, c, rfl, h1, h2, ht, h3, h.step hT h' o, o⟩
theorem tw_level {w0 w : World} {t a b : Nat} {H : Nat → Nat} (h : TW w0 w t a b H) (hT : Tab w0) (l : Nat) (h4 : l < 4) (ks : List Nat) (hl : kl H l = ks) :
    Calls Tryd.prog 16 #[.pointer (some ⟨t, 0, none⟩), .int .i64 ((l : Int) + 1)] w fun e w' => ∃ x c, e = .returned (.slice x ks.length c) ∧ ks.length ≤ c ∧ c ≤ 9223372036854775807 ∧ Told w.heap.size (.slice x ks.length c) w' ks ∧ Ints .i64 w' x (toInts ks) ∧ TW w0 w' t a b H ∧ Only (Two a b) w w' := by
  subst hl
  refine (level_on h.th h.tab (h.ng hT) l h4).mono ?_
  rintro e w' ⟨v, rfl, ht, h', o⟩
  obtain ⟨x, c, rfl, h1, h2, h3, h4⟩ := ht.form
  exact ⟨x, c, rfl, h1, h2, ht, h3, h.step hT h' o, o⟩

theorem kl_single (k n : Nat) (hk : k < 64) (hn : 0 < n) : (kl (upd (fun _ => 0) k n) 0).length = 1 := by
  have h : kl (upd (fun _ => 0) k n) 0 = (List.range 64).filter (fun j => decide (j = k)) := by
    apply List.filter_congr
    intro j _
    by_cases e : j = k
    · subst e; simp [upd_same, hn]
    · simp [upd_ne _ e, e]
  rw [h, ← List.countP_eq_length_filter]
  have := List.count_range (n := 64) (a := k)
  simp [List.count, hk] at this
  rw [← this]
  congr 1
set_option maxHeartbeats 2000000 in
/-- awake: what the document fixes. -/
theorem awake11_any (w0 w : World) (hT : Tab w0) (hb : Below w0.heap.size w0 w) : Calls Tryd.prog 5 #[] w fun e w' => e = .returned (.bool true) ∧ Below w0.heap.size w0 w' := by
  go_enter Tryd.func5, Tryd.ntmps5
  go_wp2_with fail
  refine (tw_new w hT hb).mono ?_
  rintro e w1 ⟨t, a, b, rfl, h1, o1, g1, g2, g3⟩
  go_wp2_with fail
  refine (tw_put_new h1 hT 5 2 (by omega) (by omega) (by omega) rfl).mono ?_
  rintro e w2 ⟨rfl, h2, o2⟩
  go_wp2_with fail
  refine (tw_put_new h2 hT 3 1 (by omega) (by omega) (by omega) rfl).mono ?_
  rintro e w3 ⟨rfl, h3, o3⟩
  generalize hH : upd (upd (fun _ => 0) 5 2) 3 1 = H at h3
  have R := tw_range h3 hT 0 9 [3, 5] (by rw [← hH]; decide)
  have E1 : hgt H 5 = 2 := by rw [← hH]; decide
  have E2 : (kl H 0).length = 2 := by rw [← hH]; decide
  have HE1 := Lib.hid E1
  have HE2 := Lib.hid E2
  clear hH E1 E2 h1 h2 o1 o2 o3 g1 g2 g3
  go_wp2_with fail
  refine R.mono ?_
  rintro e w4 ⟨x, c, rfl, q1, q2, _, i4, h4, o4⟩
  clear R h3 o4
  have h5 : TW w0 (w4.alloc (.cells #[.int .i64 3, .int .i64 5] 3)) t a b H := h4.keep hT (S := fun _ => False) ((Only.refl _ _).alloc _) (fun _ h => h.elim) (fun h => h) (fun h => h) (fun h => h)
  have i5 : Ints .i64 (w4.alloc (.cells #[.int .i64 3, .int .i64 5] 3)) x (toInts [3, 5]) := i4.below ((Below.refl _ _).alloc (Nat.le_refl _) _)
  have i6 : Ints .i64 (w4.alloc (.cells #[.int .i64 3, .int .i64 5] 3)) (some ⟨w4.heap.size, 0, none⟩) [3, 5] := Ints.of_blk (zs := [3, 5]) (Blk.new _ _ _)
  go_wp2_with fail
  refine (sameInts_any x _ c 2 (toInts [3, 5]) [3, 5] _ i5 i6 (by simp [toInts]) (by simp)).mono ?_
  rintro e w5 ⟨rfl, m, rfl⟩
  rw [show decide (toInts [3, 5] = [3, 5]) = true by decide]
  have h6 : TW w0 ((w4.alloc (.cells #[.int .i64 3, .int .i64 5] 3)).drewN m) t a b H := h5.keep hT (S := fun _ => False) ((Only.refl _ _).drewN _) (fun _ h => h.elim) (fun h => h) (fun h => h) (fun h => h)
  clear i4 i5 i6 h5 h4
  go_wp2_with fail
  refine (tw_height h6 hT 5 2 HE1.out).mono ?_
  rintro e w7 ⟨rfl, h7, o7⟩
  go_wp2_with fail
  refine (tw_len h7 hT 2 HE2.out).mono ?_
  rintro e w8 ⟨rfl, h8, o8⟩
  go_wp2_with fail
  go_ret
  exact ⟨rfl, h8.bel⟩
end Go.Proofs.YtoemmnojgfnmiaaDoor

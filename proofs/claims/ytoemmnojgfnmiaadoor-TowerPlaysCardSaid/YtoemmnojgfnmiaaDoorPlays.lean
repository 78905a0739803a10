/-
  A Tower and the document's Tower with the same heights, both of the law's own: what Put and Drop of any key and height do to both.
-/
import Derived.Test.YtoemmnojgfnmiaaDoorRef3
import Derived.Test.YtoemmnojgfnmiaaDoorOpenS
namespace Go.Proofs.YtoemmnojgfnmiaaDoor
open Go.RowKit
set_option linter.unusedVariables false

structure RW (w0 w : World) (t a b r : Nat) (H : Nat → Nat) : Prop where
  tw : TW w0 w t a b H
  rf : IsRef w r H
  gr : w0.heap.size ≤ r
  nr : ¬ Two a b r
  nt : t ≠ r
theorem RW.na {w0 w : World} {t a b r : Nat} {H : Nat → Nat} (h : RW w0 w t a b r H) : a ≠ r := fun e => h.nr (.inl e.symm)
theorem RW.nb {w0 w : World} {t a b r : Nat} {H : Nat → Nat} (h : RW w0 w t a b r H) : b ≠ r := fun e => h.nr (.inr e.symm)
theorem RW.keep {w0 w w' : World} {t a b r : Nat} {H : Nat → Nat} {S : Nat → Prop} (h : RW w0 w t a b r H) (hT : Tab w0) (o : Only S w w') (hs : ∀ k, S k → w0.heap.size ≤ k) (h1 : ¬ S t) (h2 : ¬ S a) (h3 : ¬ S b) (h4 : ¬ S r) : RW w0 w' t a b r H :=
  ⟨h.tw.keep hT o hs h1 h2 h3, Only.blk o h.rf h4, h.gr, h.nr, h.nt⟩
theorem RW.only0 {w0 w w' : World} {t a b r : Nat} {H : Nat → Nat} (h : RW w0 w t a b r H) (hT : Tab w0) (o : Only0 w w') : RW w0 w' t a b r H :=
  h.keep hT (S := fun _ => False) o (fun _ h => h.elim) (fun h => h) (fun h => h) (fun h => h) (fun h => h)
/-- The Tower has been looked at: its heights are as they were. -/
theorem RW.look {w0 w w' : World} {t a b r : Nat} {H : Nat → Nat} (h : RW w0 w t a b r H) (h' : TW w0 w' t a b H) (o : Only (Two a b) w w') : RW w0 w' t a b r H :=
  ⟨h', Only.blk o h.rf h.nr, h.gr, h.nr, h.nt⟩

def putOk (key h : Int) : Bool := isKeyB key && decide (1 ≤ h) && decide (h ≤ 4)
def putF (H : Nat → Nat) (key h : Int) : Nat → Nat := if putOk key h = true ∧ H key.toNat = 0 then upd H key.toNat h.toNat else H
def putB (H : Nat → Nat) (key h : Int) : Bool := putOk key h && decide (H key.toNat = 0)
def putE (key h : Int) : Int := if putOk key h then 0 else 1
theorem putOk_iff (key h : Int) : putOk key h = true ↔ (0 ≤ key ∧ key ≤ 63) ∧ 1 ≤ h ∧ h ≤ 4 := by
  simp [putOk, isKeyB]; omega
theorem tw_put_f {w0 w : World} {t a b : Nat} {H : Nat → Nat} (h : TW w0 w t a b H) (hT : Tab w0) (key n : Int) :
    Calls Tryd.prog 6 #[.pointer (some ⟨t, 0, none⟩), .int .i64 key, .int .i64 n] w fun e w' => e = .returned (.tuple #[.bool (putB H key n), .int .i64 (putE key n)]) ∧ TW w0 w' t a b (putF H key n) ∧ Only (Two a b) w w' := by
  cases ho : putOk key n with
  | false =>
    have hb : isKeyB key = false ∨ n < 1 ∨ 4 < n := by
      have this : ¬ ((0 ≤ key ∧ key ≤ 63) ∧ 1 ≤ n ∧ n ≤ 4) := fun hc => by
        have := (putOk_iff key n).2 hc
        rw [ho] at this; cases this
      cases hk : isKeyB key
      · exact .inl rfl
      · have := (isKeyB_iff key).1 hk; right; omega
    refine (tw_put_bad h key n hb).mono ?_
    rintro e w' ⟨rfl, rfl⟩
    exact ⟨by simp [putB, putE, ho], by simpa [putF, ho] using h, Only.refl _ _⟩
  | true =>
    obtain ⟨⟨k0, k1⟩, n0, n1⟩ := (putOk_iff key n).1 ho
    obtain ⟨k, rfl⟩ := Int.eq_ofNat_of_zero_le k0
    obtain ⟨m, rfl⟩ := Int.eq_ofNat_of_zero_le (show 0 ≤ n by omega)
    by_cases hz : H k = 0
    · refine (tw_put_new h hT k m (by omega) (by omega) (by omega) hz).mono ?_
      rintro e w' ⟨rfl, h', o⟩
      exact ⟨by simp [putB, putE, ho, hz], by simpa [putF, ho, hz] using h', o⟩
    · refine (tw_put_old h hT k m (by omega) (by omega) (by omega) (by omega)).mono ?_
      rintro e w' ⟨rfl, h', o⟩
      exact ⟨by simp [putB, putE, ho, hz], by simpa [putF, ho, hz] using h', o⟩
theorem ref_put_f {w : World} {r : Nat} {H : Nat → Nat} (h : IsRef w r H) (key n : Int) :
    Calls Tryd.prog 7 #[.pointer (some ⟨r, 0, none⟩), .int .i64 key, .int .i64 n] w fun e w' => e = .returned (.tuple #[.bool (putB H key n), .int .i64 (putE key n)]) ∧ IsRef w' r (putF H key n) ∧ Only (fun b => b = r) w w' := by
  cases ho : putOk key n with
  | false =>
    have hb : isKeyB key = false ∨ n < 1 ∨ 4 < n := by
      have this : ¬ ((0 ≤ key ∧ key ≤ 63) ∧ 1 ≤ n ∧ n ≤ 4) := fun hc => by
        have := (putOk_iff key n).2 hc
        rw [ho] at this; cases this
      cases hk : isKeyB key
      · exact .inl rfl
      · have := (isKeyB_iff key).1 hk; right; omega
    refine (ref_put_bad key n hb).mono ?_
    rintro e w' ⟨rfl, rfl⟩
    exact ⟨by simp [putB, putE, ho], by simpa [putF, ho] using h, Only.refl _ _⟩
  | true =>
    obtain ⟨⟨k0, k1⟩, n0, n1⟩ := (putOk_iff key n).1 ho
    obtain ⟨k, rfl⟩ := Int.eq_ofNat_of_zero_le k0
    obtain ⟨m, rfl⟩ := Int.eq_ofNat_of_zero_le (show 0 ≤ n by omega)
    by_cases hz : H k = 0
    · refine (ref_put_new h k m (by omega) (by omega) (by omega) hz).mono ?_
      rintro e w' ⟨rfl, h', o⟩
      exact ⟨by simp [putB, putE, ho, hz], by simpa [putF, ho, hz] using h', o⟩
    · refine (ref_put_old h k m (by omega) (by omega) (by omega) (by omega)).mono ?_
      rintro e w' ⟨rfl, rfl⟩
      exact ⟨by simp [putB, putE, ho, hz], by simpa [putF, ho, hz] using h, Only.refl _ _⟩
/-- Behind both Puts. -/
theorem RW.put {w0 w w1 w2 : World} {t a b r : Nat} {H H' : Nat → Nat} (h : RW w0 w t a b r H) (hT : Tab w0) (h1 : TW w0 w1 t a b H') (o1 : Only (Two a b) w w1) (h2 : IsRef w2 r H') (o2 : Only (fun b => b = r) w1 w2) : RW w0 w2 t a b r H' :=
  ⟨h1.keep hT o2 (fun k hk => by subst hk; exact h.gr) h.nt h.na h.nb, h2, h.gr, h.nr, h.nt⟩
def dropF (H : Nat → Nat) (key : Int) : Nat → Nat := if isKeyB key then upd H key.toNat 0 else H
theorem tw_drop_f {w0 w : World} {t a b : Nat} {H : Nat → Nat} (h : TW w0 w t a b H) (hT : Tab w0) (key : Int) :
    Calls Tryd.prog 8 #[.pointer (some ⟨t, 0, none⟩), .int .i64 key] w fun e w' => e = .returned (.bool (decide (0 < hgt H key))) ∧ TW w0 w' t a b (dropF H key) ∧ Only (Two a b) w w' := by
  cases hk : isKeyB key with
  | false =>
    have hz : hgt H key = 0 := by simp [hgt, hk]
    refine (tw_drop_no h hT key hz).mono ?_
    rintro e w' ⟨rfl, h', o⟩
    exact ⟨by simp [hz], by simpa [dropF, hk] using h', o⟩
  | true =>
    obtain ⟨k0, k1⟩ := (isKeyB_iff key).1 hk
    obtain ⟨k, rfl⟩ := Int.eq_ofNat_of_zero_le k0
    have hg := hgt_nat H k (by omega)
    by_cases hz : 0 < H k
    · refine (tw_drop h hT k (by omega) hz).mono ?_
      rintro e w' ⟨rfl, h', o⟩
      exact ⟨by simp [hg, hz], by simpa [dropF, hk] using h', o⟩
    · have hz0 : H k = 0 := by omega
      refine (tw_drop_no h hT k (by rw [hg]; exact hz0)).mono ?_
      rintro e w' ⟨rfl, h', o⟩
      refine ⟨by simp [hg, hz0], ?_, o⟩
      simp only [dropF, hk, if_true, Int.toNat_natCast]
      rw [← hz0, upd_self]; exact h'
theorem range_from {H : Nat → Nat} {key hi : Int} : (rangeK H key hi).head? = (match fromK H key with | some k => if (k : Int) ≤ hi then some k else none | none => none) := by
  rw [rangeK_upto, upto64, List.head?_filter]
  cases h : fromK H key with
  | none =>
    rw [fromK, List.find?_range_eq_none] at h
    simp only
    rw [List.find?_range_eq_none]
    intro i hi2
    have := h i hi2
    simp [rP, inR] at this ⊢
    omega
  | some k =>
    have h' := h
    rw [fromK, List.find?_range_eq_some] at h'
    obtain ⟨h1, h2, h3⟩ := h'
    simp at h1
    simp only
    split
    · rename_i hle
      rw [List.find?_range_eq_some]
      refine ⟨by simp [rP, inR, h1.1, h1.2, hle], h2, fun j hj => ?_⟩
      have := h3 j hj
      simp [rP, inR] at this ⊢
      omega
    · rename_i hgt
      rw [List.find?_range_eq_none]
      intro i hi2
      simp [rP, inR]
      by_cases hik : i < k
      · have := h3 i hik
        simp at this
        omega
      · omega
end Go.Proofs.YtoemmnojgfnmiaaDoor

/-
  The walk of TowerAnyway.
-/
import Derived.Test.YtoemmnojgfnmiaaDoorHUp
namespace Go.Proofs.YtoemmnojgfnmiaaDoor
open Go.RowKit
set_option linter.unusedVariables false

/-- Two Towers of the law's own, in blocks apart. -/
structure TwoT (w0 w : World) (t a b t' a' b' : Nat) (H H' : Nat → Nat) : Prop where
  x : TW w0 w t a b H
  y : TW w0 w t' a' b' H'
  d1 : ¬ Two a b t'
  d2 : ¬ Two a b a'
  d3 : ¬ Two a b b'
  e1 : ¬ Two a' b' t
  e2 : ¬ Two a' b' a
  e3 : ¬ Two a' b' b
theorem TwoT.one {w0 w w' : World} {t a b t' a' b' : Nat} {H H' H2 : Nat → Nat} (h : TwoT w0 w t a b t' a' b' H H') (hT : Tab w0) (h1 : TW w0 w' t a b H2) (o : Only (Two a b) w w') : TwoT w0 w' t a b t' a' b' H2 H' :=
  ⟨h1, h.y.keep hT o (fun k hk => by rcases hk with rfl | rfl; exact h.x.ga; exact h.x.gb) h.d1 h.d2 h.d3, h.d1, h.d2, h.d3, h.e1, h.e2, h.e3⟩
theorem TwoT.two {w0 w w' : World} {t a b t' a' b' : Nat} {H H' H2 : Nat → Nat} (h : TwoT w0 w t a b t' a' b' H H') (hT : Tab w0) (h1 : TW w0 w' t' a' b' H2) (o : Only (Two a' b') w w') : TwoT w0 w' t a b t' a' b' H H2 :=
  ⟨h.x.keep hT o (fun k hk => by rcases hk with rfl | rfl; exact h.y.ga; exact h.y.gb) h.e1 h.e2 h.e3, h1, h.d1, h.d2, h.d3, h.e1, h.e2, h.e3⟩
theorem TwoT.drewN {w0 w : World} {t a b t' a' b' : Nat} {H H' : Nat → Nat} (h : TwoT w0 w t a b t' a' b' H H') (hT : Tab w0) (n : Nat) : TwoT w0 (w.drewN n) t a b t' a' b' H H' :=
  ⟨h.x.drewN hT n, h.y.drewN hT n, h.d1, h.d2, h.d3, h.e1, h.e2, h.e3⟩
theorem TW.lts {w0 w : World} {t a b : Nat} {H : Nat → Nat} (h : TW w0 w t a b H) : t < w.heap.size ∧ a < w.heap.size ∧ b < w.heap.size := by
  obtain ⟨c, hA⟩ := h.th.tow.arena
  exact ⟨h.th.tow.ptr.lt, hA.head.lt, hA.words.lt⟩
theorem tw_put_is {w0 w : World} {t a b : Nat} {H : Nat → Nat} (h : TW w0 w t a b H) (hT : Tab w0) (k n : Nat) (hk : k < 64) (h1 : 1 ≤ n) (h2 : n ≤ 4) (hH : H k = 0 ∨ H k = n) :
    Calls Tryd.prog 6 #[.pointer (some ⟨t, 0, none⟩), .int .i64 k, .int .i64 n] w fun e w' => (∃ r, e = .returned (.tuple #[.bool r, .int .i64 0])) ∧ TW w0 w' t a b (upd H k n) ∧ Only (Two a b) w w' := by
  rcases hH with hz | hz
  · refine (tw_put_new h hT k n hk h1 h2 hz).mono ?_
    rintro e w' ⟨rfl, h3, o⟩
    exact ⟨⟨_, rfl⟩, h3, o⟩
  · refine (tw_put_old h hT k n hk h1 h2 (by omega)).mono ?_
    rintro e w' ⟨rfl, h3, o⟩
    refine ⟨⟨_, rfl⟩, ?_, o⟩
    rw [← hz, upd_self]; exact h3
/-- Put in the turned order up to j. -/
def hPerm (X Y c j : Nat) : Nat → Nat := fun x => if ((List.range j).any fun i => (37 * i + c) % 64 == x) && X.testBit x then hh Y x else 0
theorem hPerm_yes (X Y c j k : Nat) (hk : (37 * j + c) % 64 = k) (h : X.testBit k = true) : upd (hPerm X Y c j) k (hh Y k) = hPerm X Y c (j + 1) := by
  funext x; simp only [upd, hPerm, List.range_succ, List.any_append, List.any_cons, List.any_nil, Bool.or_false, hk]
  by_cases e : x = k
  · subst e; simp [h]
  · have : (k == x) = false := by simp; omega
    simp [e, this]
theorem hPerm_no (X Y c j k : Nat) (hk : (37 * j + c) % 64 = k) (h : X.testBit k = false) : hPerm X Y c j = hPerm X Y c (j + 1) := by
  funext x; simp only [hPerm, List.range_succ, List.any_append, List.any_cons, List.any_nil, Bool.or_false, hk]
  by_cases e : x = k
  · subst e; simp [h]
  · have : (k == x) = false := by simp; omega
    simp [this]
theorem hPerm_or (X Y c j k : Nat) : hPerm X Y c j k = 0 ∨ hPerm X Y c j k = hh Y k := by
  simp only [hPerm]; split <;> simp
theorem hPerm_0 (X Y c : Nat) : hPerm X Y c 0 = fun _ => 0 := by funext x; simp [hPerm]
theorem hPerm_64 (X Y c : Nat) (hc : c < 64) : hPerm X Y c 64 = hUp X 64 (hh Y) := by
  funext x; simp only [hPerm, hUp]
  by_cases hx : x < 64
  · have : ((List.range 64).any fun i => (37 * i + c) % 64 == x) = true := by
      rw [List.any_eq_true]
      refine ⟨45 * (x + 64 - c) % 64, List.mem_range.2 (by omega), ?_⟩
      simp; omega
    simp [this, hx]
  · have : ((List.range 64).any fun i => (37 * i + c) % 64 == x) = false := by
      rw [List.any_eq_false]
      intro i hi; simp; omega
    simp [this, hx]
theorem hUp_at (X : Nat) (v : Nat → Nat) (k : Nat) (hk : k < 64) (h : X.testBit k = true) : hUp X 64 v k = v k := by simp [hUp, hk, h]
theorem told_keep {B : Nat} {x : Option Addr} {n c : Nat} {w w' : World} {l : List Nat} {S : Nat → Prop} (h : Told B (.slice x n c) w l) (o : Only S w w') (hs : ∀ k, S k → k < B) : Ints .i64 w' x (toInts l) := by
  have h2 := h.only o (fun k hk => by
    intro hS
    have := (World.ownsRow.lt h k hk).1
    have := hs k hS; omega)
  obtain ⟨x', c', e, _, _, hi, _⟩ := h2.form
  injection e with e1 e2 e3
  subst e1; exact hi

end Go.Proofs.YtoemmnojgfnmiaaDoor

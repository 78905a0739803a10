/-
  JudgeAll: the plain law.
-/
import Derived.Test.YtjkdofhlcdimcaaAllFns
import Derived.Test.YtjkdofhlcdimcaaFirst
namespace Go.Proofs.Ytjkdofhlcdimcaa
open Go.RowKit
set_option linter.unusedVariables false
set_option linter.unusedSimpArgs false

def badKey (l : Int) (nowf : Int → Int) (r : RD) : Bool := !jkey l r.link (nowf r.lo)
def badRng (l : Int) (spanf : Int → Int → List Int) (r : RD) : Bool := !jspan l r.ls (spanf r.lo r.hi)
def R1 (l : Int) (kl : List RD) (nowf : Int → Int) : Bool × Int :=
  if lvl l then (match kl.find? (badKey l nowf) with | some r => (false, r.lo) | none => (true, -1)) else (false, -1)
def R2 (l : Int) (kl sl : List RD) (nowf : Int → Int) (spanf : Int → Int → List Int) : Bool × Int :=
  if (R1 l kl nowf).1 then (match sl.find? (badRng l spanf) with | some r => (false, r.lo) | none => (true, -1)) else R1 l kl nowf
theorem find_map {α β : Type} (f : α → β) (p : β → Bool) : ∀ (l : List α), (l.map f).find? p = (l.find? (fun a => p (f a))).map f
  | [] => rfl
  | a :: l => by
    rw [List.map_cons, List.find?_cons, List.find?_cons]
    cases p (f a)
    · exact find_map f p l
    · rfl
theorem find_filter {α : Type} (q p : α → Bool) : ∀ (l : List α), (l.filter q).find? p = l.find? (fun a => q a && p a)
  | [] => rfl
  | a :: l => by
    rw [List.filter_cons, List.find?_cons]
    cases hq : q a
    · simp only [Bool.false_eq_true, if_false, Bool.false_and]; exact find_filter q p l
    · simp only [if_true, List.find?_cons, Bool.true_and]
      cases p a
      · exact find_filter q p l
      · rfl
theorem find_never {α : Type} {p : α → Bool} {l : List α} (h : ∀ a ∈ l, p a = false) : l.find? p = none := by
  rw [List.find?_eq_none]; intro a ha; simp [h a ha]
theorem judge_law {l : Int} {kl sl : List RD} {lk : Nat → Int} {nowf : Int → Int} {spanf : Int → Int → List Int} (hlk : ∀ r ∈ kl, lk r.lo.toNat = r.link) : allRes l (kl.map (·.lo)) lk (sl.map toRg) nowf spanf = R2 l kl sl nowf spanf := by
  cases hl : lvl l with
  | false => simp [allRes, R2, R1, hl]
  | true =>
    have hk : (needK l (kl.map (·.lo)) lk).find? (badK l lk nowf) = (kl.find? (badKey l nowf)).map (·.lo) := by
      have h3 : l = 1 ∨ l = 2 ∨ l = 3 := by simp [lvl] at hl; omega
      rcases h3 with rfl | rfl | rfl
      · rw [find_never (l := kl) (fun r _ => by simp [badKey, jkey])]; rfl
      · have e1 : needK 2 (kl.map (·.lo)) lk = (kl.map (·.lo)).filter (found lk) := by simp [needK]
        rw [e1, find_filter, find_map]
        congr 1
        refine find_congr (fun r hr => ?_)
        simp only [found, badK, badKey, hlk r hr]
        by_cases h0 : r.link = 0
        · simp [jkey, h0]
        · simp [jkey, h0]
      · have e1 : needK 3 (kl.map (·.lo)) lk = kl.map (·.lo) := by simp [needK]
        rw [e1, find_map]
        congr 1
        refine find_congr (fun r hr => ?_)
        simp only [badK, badKey, hlk r hr]
    have hs : (needR l (sl.map toRg)).find? (badR l spanf) = (sl.find? (badRng l spanf)).map toRg := by
      by_cases h3 : l = 3
      · subst h3
        have e1 : needR 3 (sl.map toRg) = sl.map toRg := by simp [needR]
        rw [e1, find_map]; rfl
      · have e1 : needR l (sl.map toRg) = [] := by simp [needR, h3]
        have h12 : l = 1 ∨ l = 2 := by simp [lvl] at hl; omega
        rw [e1, find_never (l := sl) (fun r _ => by simp [badRng, jspan, h12])]; rfl
    unfold allRes R2 R1
    rw [hl, hk, hs]
    cases kl.find? (badKey l nowf) with
    | some r => rfl
    | none =>
      cases sl.find? (badRng l spanf) with
      | some r => rfl
      | none => rfl
/-- What the first loop keeps. -/
def I1 (l : Int) (kl : List RD) (nowf : Int → Int) (i : Nat) (b : Bool) (a : Int) : Prop :=
  (b = true ∧ a = -1 ∧ lvl l = true ∧ ∀ j, j < i → badKey l nowf (kl.getD j default) = false) ∨ (b = false ∧ R1 l kl nowf = (false, a))
theorem I1.start (l : Int) (kl : List RD) (nowf : Int → Int) : I1 l kl nowf 0 (lvl l) (-1) := by
  cases h : lvl l with
  | true => exact .inl ⟨rfl, rfl, h, fun j hj => absurd hj (by omega)⟩
  | false => exact .inr ⟨rfl, by simp [R1, h]⟩
theorem I1.good {l : Int} {kl : List RD} {nowf : Int → Int} {i : Nat} {a : Int} (h : I1 l kl nowf i true a) (hb : badKey l nowf (kl.getD i default) = false) : I1 l kl nowf (i + 1) true a := by
  rcases h with ⟨_, h2, h3, h4⟩ | ⟨h, _⟩
  · refine .inl ⟨rfl, h2, h3, fun j hj => ?_⟩
    rcases Nat.lt_succ_iff_lt_or_eq.mp hj with hj | rfl
    · exact h4 j hj
    · exact hb
  · cases h
theorem I1.bad {l : Int} {kl : List RD} {nowf : Int → Int} {i : Nat} {a : Int} (h : I1 l kl nowf i true a) (hi : i < kl.length) (hb : badKey l nowf (kl.getD i default) = true) : I1 l kl nowf (i + 1) false (kl.getD i default).lo := by
  rcases h with ⟨_, h2, h3, h4⟩ | ⟨h, _⟩
  · exact .inr ⟨rfl, by unfold R1; rw [if_pos h3, find_some_of hi h4 hb]⟩
  · cases h
theorem I1.done {l : Int} {kl : List RD} {nowf : Int → Int} {i : Nat} {b : Bool} {a : Int} (h : I1 l kl nowf i b a) (hi : i = kl.length ∨ b = false) : R1 l kl nowf = (b, a) := by
  rcases h with ⟨rfl, rfl, h3, h4⟩ | ⟨rfl, h⟩
  · rcases hi with rfl | hi
    · unfold R1; rw [if_pos h3, find_none_of h4]
    · cases hi
  · exact h
/-- What the second loop keeps. -/
def I2 (l : Int) (kl sl : List RD) (nowf : Int → Int) (spanf : Int → Int → List Int) (i : Nat) (b : Bool) (a : Int) : Prop :=
  (b = true ∧ a = -1 ∧ R1 l kl nowf = (true, -1) ∧ ∀ j, j < i → badRng l spanf (sl.getD j default) = false) ∨ (b = false ∧ R2 l kl sl nowf spanf = (false, a))
theorem R1_at {l : Int} {kl : List RD} {nowf : Int → Int} {a : Int} (h : R1 l kl nowf = (true, a)) : a = -1 := by
  unfold R1 at h
  split at h
  · split at h
    · cases h
    · injection h with _ h; exact h.symm
  · cases h
theorem I2.start {l : Int} {kl sl : List RD} {nowf : Int → Int} {spanf : Int → Int → List Int} {b : Bool} {a : Int} (h : R1 l kl nowf = (b, a)) : I2 l kl sl nowf spanf 0 b a := by
  cases b with
  | true => have e := R1_at h; subst e; exact .inl ⟨rfl, rfl, h, fun j hj => absurd hj (by omega)⟩
  | false => exact .inr ⟨rfl, by unfold R2; rw [h]; rfl⟩
theorem I2.good {l : Int} {kl sl : List RD} {nowf : Int → Int} {spanf : Int → Int → List Int} {i : Nat} {a : Int} (h : I2 l kl sl nowf spanf i true a) (hb : badRng l spanf (sl.getD i default) = false) : I2 l kl sl nowf spanf (i + 1) true a := by
  rcases h with ⟨_, h2, h3, h4⟩ | ⟨h, _⟩
  · refine .inl ⟨rfl, h2, h3, fun j hj => ?_⟩
    rcases Nat.lt_succ_iff_lt_or_eq.mp hj with hj | rfl
    · exact h4 j hj
    · exact hb
  · cases h
theorem I2.bad {l : Int} {kl sl : List RD} {nowf : Int → Int} {spanf : Int → Int → List Int} {i : Nat} {a : Int} (h : I2 l kl sl nowf spanf i true a) (hi : i < sl.length) (hb : badRng l spanf (sl.getD i default) = true) : I2 l kl sl nowf spanf (i + 1) false (sl.getD i default).lo := by
  rcases h with ⟨_, h2, h3, h4⟩ | ⟨h, _⟩
  · exact .inr ⟨rfl, by unfold R2; rw [h3]; simp only [if_true]; rw [find_some_of hi h4 hb]⟩
  · cases h
theorem I2.done {l : Int} {kl sl : List RD} {nowf : Int → Int} {spanf : Int → Int → List Int} {i : Nat} {b : Bool} {a : Int} (h : I2 l kl sl nowf spanf i b a) (hi : i = sl.length ∨ b = false) : R2 l kl sl nowf spanf = (b, a) := by
  rcases h with ⟨rfl, rfl, h3, h4⟩ | ⟨rfl, h⟩
  · rcases hi with rfl | hi
    · unfold R2; rw [h3]; simp only [if_true]; rw [find_none_of h4]
    · cases hi
  · exact h
/-- The keys that are needed, as the law reckons them. -/
def needB (l : Int) (r : RD) : Bool := (l == 3) || ((l == 2) && (r.link != 0))
def needA (l : Int) (kl : List RD) : List Int := (kl.filter (needB l)).map (·.lo)
theorem needA_eq {l : Int} {kl : List RD} {lk : Nat → Int} (hlk : ∀ r ∈ kl, lk r.lo.toNat = r.link) : needK l (kl.map (·.lo)) lk = needA l kl := by
  unfold needK needA
  by_cases h3 : l = 3
  · subst h3
    rw [if_pos rfl, List.filter_eq_self.2 (fun r _ => by simp [needB])]
  · rw [if_neg h3]
    by_cases h2 : l = 2
    · subst h2
      rw [if_pos rfl, List.filter_map]
      congr 1
      refine List.filter_congr (fun r hr => ?_)
      simp [needB, found, hlk r hr]
    · rw [if_neg h2, List.filter_eq_nil_iff.2 (fun r _ => by simp [needB, h3, h2])]; rfl
theorem needA_succ {l : Int} {kl : List RD} {k : Nat} (h : k < kl.length) : needA l (kl.take (k + 1)) = needA l (kl.take k) ++ (if needB l (kl.getD k default) then [(kl.getD k default).lo] else []) := by
  unfold needA
  rw [List.take_succ_eq_append_getElem h, List.filter_append, List.map_append, List.getD_eq_getElem?_getD, List.getElem?_eq_getElem h]
  simp [List.filter_cons]
  split <;> simp
end Go.Proofs.Ytjkdofhlcdimcaa

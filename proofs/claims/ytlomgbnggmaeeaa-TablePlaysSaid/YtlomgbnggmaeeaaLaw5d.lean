/-
  The walk of TableOldest.
-/
import Derived.Test.YtlomgbnggmaeeaaLaw5c
namespace Go.Proofs.Ytlomgbnggmaeeaa
open Go.RowKit
set_option linter.unusedVariables false

/-- A block of another make than a Table's is none of the Table's. -/
theorem Tab.not_foot {B : Nat} {w : World} {t : Nat} {v : Value} {ps : List Nat} {most : Int} {ts : List TX} (h : Tab B w t v ps most ts) {b : Nat} {ty : TypeId} {cs : Array Value} (hb : Blk w b ty cs) (h1 : ty ≠ 55) (h2 : ty ≠ 57) (h3 : ty ≠ 74) : ¬ Foot t v ps b := by
  rintro (rfl | hk | hk)
  · exact hb.ne_ h.head h1 rfl
  · exact own_ne h.row hb (Ne.symm h2) hk
  · obtain ⟨i, hi, rfl⟩ := List.getElem_of_mem hk
    have := h.tx i (by rw [← h.len]; exact hi)
    simp only [List.getD_eq_getElem?_getD, List.getElem?_eq_getElem hi, Option.getD_some] at this
    exact hb.ne_ this h3 rfl
theorem own_keep {B B' : Nat} {w w' : World} {t : Nat} {v u : Value} {ps : List Nat} {most : Int} {ts : List TX} {n : Nat} {xs : List Value} (h : Tab B w t v ps most ts) (ho : Only (Foot t v ps) w w') (hu : w.ownsRow B' 3 1 u n xs) : w'.ownsRow B' 3 1 u n xs := by
  refine ownsRow_only hu ho (fun k hk hf => ?_)
  rcases hu.2 with ⟨rfl, _⟩ | ⟨g, cap, cur, rfl, hg, hh, r⟩
  · simp [Value.ownBlock] at hk
  · have : g = k := by simpa [Value.ownBlock] using hk
    subst this
    exact h.not_foot (show Blk w g _ cur from hh) (by decide) (by decide) (by decide) hf
/-- An append to a row of ints, or a new block, is beside a Table. -/
theorem Tab.beside {B B' : Nat} {w w' : World} {t : Nat} {v u : Value} {ps : List Nat} {most : Int} {ts : List TX} {n : Nat} {xs : List Value} {o : Obj} (h : Tab B w t v ps most ts) (hu : w.ownsRow B' 3 1 u n xs) (hg : (w.alloc o).grownBy w' u.ownBlock) : Tab B w' t v ps most ts := by
  have ho : Only (fun k => u.ownBlock = some k) w w' := by
    refine ⟨hg.os, hg.tape, hg.output, Nat.le_trans (by simp) hg.size, fun k hk hn => ?_⟩
    rw [hg.block k (by simp; omega) (fun e => hn e.symm)]
    exact Below.heap_alloc _ _ _ hk
  refine h.only ho (fun k hf hk => ?_)
  rcases hu.2 with ⟨rfl, _⟩ | ⟨g, cap, cur, rfl, hg, hh, r⟩
  · simp [Value.ownBlock] at hk
  · have : g = k := by simpa [Value.ownBlock] using hk
    subst this
    exact h.not_foot (show Blk w g _ cur from hh) (by decide) (by decide) (by decide) hf

theorem tput_id (ts : List TX) (x y : TX) : tput (ts ++ [x]) ((ts.length : Int) + 1) y = ts ++ [y] := by
  unfold tput
  rw [show ((ts.length : Int) + 1 - 1).toNat = ts.length by omega]
  simp
theorem tget_last (ts : List TX) (x : TX) : tget (ts ++ [x]) ((ts.length : Int) + 1) = some x := by
  unfold tget
  rw [if_pos ⟨by omega, by simp⟩, show ((ts.length : Int) + 1 - 1).toNat = ts.length by omega]
  simp
theorem turn_last (ts : List TX) (b : Int) : turnErr (ts ++ [⟨1, b, 0, 1⟩]) ((ts.length : Int) + 1) 4 = 0 ∧ turnTs (ts ++ [⟨1, b, 0, 1⟩]) ((ts.length : Int) + 1) 4 = ts ++ [⟨1, b, 0, 4⟩] := by
  unfold turnErr turnTs
  rw [tget_last]
  exact ⟨rfl, by show tput _ _ _ = _; rw [tput_id]⟩

/-- The first that lives: turned to be over, the others live on. -/
theorem liveFrom_head (l : List TX) (k : Int) (a : Int) (r : List Int) (h : liveFrom l k = a :: r) : ∃ i : Nat, i < l.length ∧ a = k + i ∧ (l.getD i TX.zero).lives = true ∧ ∀ y : TX, y.lives = false → liveFrom (l.set i y) k = r := by
  induction l generalizing k with
  | nil => simp [liveFrom] at h
  | cons x l ih =>
    simp only [liveFrom] at h
    cases hx : x.lives with
    | true =>
      rw [hx, if_pos rfl] at h
      injection h with h1 h2
      exact ⟨0, by simp, by simp [h1], by simpa using hx, fun y hy => by simp [liveFrom, hy, h2]⟩
    | false =>
      rw [hx, if_neg (by simp)] at h
      obtain ⟨i, h1, h2, h3, h4⟩ := ih _ h
      exact ⟨i + 1, by simp; omega, by rw [h2]; omega, by simpa using h3, fun y hy => by simp [liveFrom, hx, h4 y hy]⟩
theorem oldTs_none (l : List TX) (now : Int) (h : ∀ x ∈ l, x.lives = false) : oldTs l now = now := by
  induction l generalizing now with
  | nil => rfl
  | cons x l ih => simp only [oldTs]; rw [h x (by simp), if_neg (by simp), ih _ (fun y hy => h y (by simp [hy]))]
theorem live_none (l : List TX) (k : Int) (h : liveFrom l k = []) : ∀ x ∈ l, x.lives = false := by
  induction l generalizing k with
  | nil => simp
  | cons x l ih =>
    simp only [liveFrom] at h
    intro y hy
    split at h
    · cases h
    · rename_i hx
      rcases List.mem_cons.1 hy with rfl | hy
      · simpa using hx
      · exact ih _ h y hy

theorem row_at {w : World} {B : Nat} {g off n cap k : Nat} {zs : List Int} (h : w.ownsRow B 3 1 (.slice (some ⟨g, off, none⟩) n cap) n (zs.map (Value.int .i64))) (hk : k < zs.length) : w.cell? ⟨g, off + k, none⟩ = some (.int .i64 (zs.getD k 0)) := by
  obtain ⟨g', off', he, hc⟩ := (own_ints h).at (by omega)
  injection he with he
  injection he with e1 e2 e3
  subst e1 e2
  exact hc k hk
/-- The first that lives is turned to be aborted, and then done. -/
theorem over_step {ts : List TX} {a : Int} {r : List Int} (h : liveFrom ts 1 = a :: r) : ∃ ts1 ts2, turnErr ts a 4 = 0 ∧ turnTs ts a 4 = ts1 ∧ turnErr ts1 a 5 = 0 ∧ turnTs ts1 a 5 = ts2 ∧ ts2.length = ts.length ∧ liveFrom ts2 1 = r := by
  obtain ⟨i, h1, h2, h3, h4⟩ := liveFrom_head ts 1 a r h
  have e : (a - 1).toNat = i := by omega
  have g : tget ts a = some (ts.getD i TX.zero) := by rw [tget_some (by omega) (by omega), e]
  have hc : can (ts.getD i TX.zero).st 4 = true := by
    unfold TX.lives at h3
    simp only [Bool.or_eq_true, beq_iff_eq] at h3
    rcases h3 with h3 | h3 <;> rw [h3] <;> rfl
  have t1 : turnTs ts a 4 = ts.set i { ts.getD i TX.zero with st := 4 } := by unfold turnTs tput; rw [g]; dsimp only; rw [if_pos hc, e]
  have g1 : tget (ts.set i { ts.getD i TX.zero with st := 4 }) a = some { ts.getD i TX.zero with st := 4 } := by
    rw [tget_some (by omega) (by simp; omega), e, getD_set _ _ _ _ _ h1, if_pos rfl]
  refine ⟨_, _, by unfold turnErr; rw [g]; exact if_pos hc, t1, by unfold turnErr; rw [g1]; rfl, rfl, ?_, ?_⟩
  · unfold turnTs; rw [g1]; dsimp only; rw [if_pos (show can 4 5 = true from rfl), length_tput]; simp
  · unfold turnTs tput; rw [g1]; dsimp only; rw [if_pos (show can 4 5 = true from rfl), e, List.set_set]; exact h4 _ rfl
theorem drop_head {l : List Int} {k : Nat} (h : k < l.length) : l.drop k = l.getD k 0 :: l.drop (k + 1) := by
  rw [List.drop_eq_getElem_cons h]; simp [h]

end Go.Proofs.Ytlomgbnggmaeeaa

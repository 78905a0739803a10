/-
  Footprints: sets of blocks in which a thing lies; what a call leaves of a footprint, and that two that lay apart go on lying apart.
-/
import Derived.Test.YthjhhclgmkgigaaBase
import Derived.Laws.AppendOwn
import Derived.Laws.OwnMore
namespace Go.Proofs.Ythjhhclgmkgigaa
open Go.RowKit

/-- Two footprints have no block in common. -/
def Apart (P Q : Nat → Prop) : Prop := ∀ b, P b → ¬ Q b
/-- The new footprint: only blocks of the old one, and new ones. -/
def Grew (N : Nat) (P P' : Nat → Prop) : Prop := ∀ b, P' b → P b ∨ N ≤ b
/-- All blocks of a footprint are there. -/
def Under (P : Nat → Prop) (N : Nat) : Prop := ∀ b, P b → b < N

theorem Apart.symm {P Q : Nat → Prop} (h : Apart P Q) : Apart Q P := fun b hq hp => h b hp hq
theorem Grew.refl (N : Nat) (P : Nat → Prop) : Grew N P P := fun _ h => .inl h
theorem Grew.trans {N M : Nat} {P Q R : Nat → Prop} (h : Grew N P Q) (k : Grew M Q R) (hNM : N ≤ M) : Grew N P R := fun b hb => by
  rcases k b hb with h1 | h1
  · exact h b h1
  · exact .inr (Nat.le_trans hNM h1)
theorem Apart.grew {N : Nat} {P P' Q : Nat → Prop} (h : Apart P Q) (g : Grew N P P') (hq : Under Q N) : Apart P' Q := fun b hp hQ => by
  rcases g b hp with h1 | h1
  · exact h b h1 hQ
  · have := hq b hQ; omega
theorem Apart.grew' {N : Nat} {P Q Q' : Nat → Prop} (h : Apart P Q) (g : Grew N Q Q') (hp : Under P N) : Apart P Q' := (h.symm.grew g hp).symm
theorem Under.mono {P : Nat → Prop} {N M : Nat} (h : Under P N) (hn : N ≤ M) : Under P M := fun b hb => Nat.lt_of_lt_of_le (h b hb) hn
/-- All blocks of a footprint are at B or above. -/
def Above (P : Nat → Prop) (B : Nat) : Prop := ∀ b, P b → B ≤ b
theorem Above.grew {P P' : Nat → Prop} {B N : Nat} (h : Above P B) (g : Grew N P P') (hn : B ≤ N) : Above P' B := fun b hb => by
  rcases g b hb with h1 | h1
  · exact h b h1
  · omega
theorem Only.belowP {P : Nat → Prop} {w w' : World} (h : Only P w w') (B : Nat) (hB : B ≤ w.heap.size) (hs : Above P B) : Below B w w' := h.below B hB hs
theorem Only.toward {P Q : Nat → Prop} {w w' : World} (h : Only P w w') (hs : ∀ b, P b → Q b) : Only Q w w' := h.mono (fun k _ hk => hs k hk)

/-- The block in which a slice's row lies. -/
def rowOf (v : Value) : Nat → Prop := fun b => v.ownBlock = some b
theorem rowOf_none (n c : Nat) (b : Nat) : ¬ rowOf (.slice none n c) b := by simp [rowOf, Value.ownBlock]
theorem rowOf_some {g o n c b : Nat} : rowOf (.slice (some ⟨g, o, none⟩) n c) b ↔ b = g := by simp [rowOf, Value.ownBlock, eq_comm]
theorem rows_only {B s : Nat} {w w' : World} {e : TypeId} {v : Value} {n : Nat} {xs : List Value} {S : Nat → Prop} (h : w.ownsRow B e s v n xs) (ho : Only S w w') (hs : Apart (rowOf v) S) : w'.ownsRow B e s v n xs := by
  obtain ⟨h1, h2⟩ := h
  refine ⟨h1, ?_⟩
  rcases h2 with h2 | ⟨g, cap, cur, rfl, hg, hh, r⟩
  · exact .inl h2
  · exact .inr ⟨g, cap, cur, rfl, hg, by rw [ho.block g (lt_of_block hh) (hs g rfl)]; exact hh, r⟩
theorem rows_under {B s : Nat} {w : World} {e : TypeId} {v : Value} {n : Nat} {xs : List Value} (h : w.ownsRow B e s v n xs) : Under (rowOf v) w.heap.size := fun k hk => (h.lt k hk).2
theorem rows_above {B s : Nat} {w : World} {e : TypeId} {v : Value} {n : Nat} {xs : List Value} (h : w.ownsRow B e s v n xs) : Above (rowOf v) B := fun k hk => (h.lt k hk).1
/-- A row and a block of another element type lie apart. -/
theorem rows_ne {B s : Nat} {w : World} {e t : TypeId} {v : Value} {n b : Nat} {xs : List Value} {cs : Array Value} (h : w.ownsRow B e s v n xs) (hb : Blk w b t cs) (hne : e ≠ t) : ¬ rowOf v b := by
  rcases h.2 with ⟨rfl, _⟩ | ⟨g, cap, cur, rfl, hg, hh, r⟩
  · exact rowOf_none _ _ _
  · intro hk
    obtain rfl := rowOf_some.1 hk
    exact hne (Blk.inj (show Blk w _ _ cur from hh) hb).2
theorem rows_apart {B B' s s' : Nat} {w : World} {e e' : TypeId} {v v' : Value} {n n' : Nat} {xs xs' : List Value} (h : w.ownsRow B e s v n xs) (h' : w.ownsRow B' e' s' v' n' xs') (hne : e ≠ e') : Apart (rowOf v) (rowOf v') := by
  intro b hv hv'
  rcases h'.2 with ⟨rfl, _⟩ | ⟨g, cap, cur, rfl, hg, hh, r⟩
  · exact rowOf_none _ _ _ hv'
  · obtain rfl := rowOf_some.1 hv'
    exact rows_ne h (show Blk w _ _ cur from hh) hne hv
theorem rows_base {B B' s : Nat} {w : World} {e : TypeId} {v : Value} {n : Nat} {xs : List Value} (h : w.ownsRow B e s v n xs) (hB : B' ≤ B) : w.ownsRow B' e s v n xs := by
  obtain ⟨h1, h2⟩ := h
  refine ⟨h1, ?_⟩
  rcases h2 with h2 | ⟨g, cap, cur, rfl, hg, r⟩
  · exact .inl h2
  · exact .inr ⟨g, cap, cur, rfl, Nat.le_trans hB hg, r⟩
theorem Only.grownP {P : Nat → Prop} {a w w' : World} {row : Option Nat} (h : Only P a w) (hg : w.grownBy w' row) (hr : ∀ k, row = some k → k < a.heap.size → P k) : Only P a w' := by
  refine ⟨hg.os.trans h.os, hg.tape.trans h.tape, hg.output.trans h.output, Nat.le_trans h.size hg.size, fun k hk hn => ?_⟩
  rw [hg.block k (Nat.lt_of_lt_of_le hk h.size) (fun e => hn (hr k e.symm hk))]
  exact h.block k hk hn
theorem rows_cap {B s g n cap m : Nat} {w : World} {e : TypeId} {xs : List Value} (h : w.ownsRow B e s (.slice (some ⟨g, 0, none⟩) n cap) m xs) : n ≤ cap ∧ cap ≤ maxLen ∧ n = m := by
  rcases h.2 with ⟨h0, _⟩ | ⟨g', cap', cur, hv, _, _, h1, h2, _⟩
  · cases h0
  · injection hv with h3 h4 h5
    subst h4 h5
    exact ⟨h1, h2, rfl⟩
end Go.Proofs.Ythjhhclgmkgigaa

/-
  Slices of integers as lists: 'Ints k w a zs': at the address a lie the numbers zs (nothing is said of an empty one); and what vinculumref1.Same does.
-/
import Derived.Test.YtldfkcldfjfohaaProg
import Derived.Test.YtldfkcldfjfohaaBase
import Derived.Deep.QuietTactic
import Derived.BigQuiet
namespace Go.Proofs.Ytldfkcldfjfohaa
open Go.RowKit

def Ints (k : IntKind) (w : World) (a : Option Addr) (zs : List Int) : Prop :=
  zs = [] ∨ ∃ b off, a = some ⟨b, off, none⟩ ∧ ∀ i, i < zs.length → w.cell? ⟨b, off + i, none⟩ = some (.int k (zs.getD i 0))

theorem Ints.nil (k : IntKind) (w : World) (a : Option Addr) : Ints k w a [] := .inl rfl
theorem Ints.at {k : IntKind} {w : World} {a : Option Addr} {zs : List Int} (h : Ints k w a zs) (hn : 0 < zs.length) :
    ∃ b off, a = some ⟨b, off, none⟩ ∧ ∀ i, i < zs.length → w.cell? ⟨b, off + i, none⟩ = some (.int k (zs.getD i 0)) := by
  rcases h with rfl | h
  · simp at hn
  · exact h
theorem Ints.below {k : IntKind} {w w' : World} {a : Option Addr} {zs : List Int} (h : Ints k w a zs) (hb : Below w.heap.size w w') : Ints k w' a zs := by
  rcases h with rfl | ⟨b, off, rfl, hc⟩
  · exact .inl rfl
  · by_cases hn : zs.length = 0
    · exact .inl (List.length_eq_zero_iff.1 hn)
    refine .inr ⟨b, off, rfl, fun i hi => ?_⟩
    rw [hb.cell (p := ⟨b, off + i, none⟩) (block_lt_of_cell (hc i hi))]
    exact hc i hi
theorem Ints.only {k : IntKind} {w w' : World} {a : Option Addr} {zs : List Int} {S : Nat → Prop} (h : Ints k w a zs) (hb : Only S w w') (hs : ∀ x, a = some x → ¬ S x.block) : Ints k w' a zs := by
  rcases h with rfl | ⟨b, off, rfl, hc⟩
  · exact .inl rfl
  · refine .inr ⟨b, off, rfl, fun i hi => ?_⟩
    have hlt := block_lt_of_cell (hc i hi)
    rw [World.cell?_of_block (hb.block b hlt (hs _ rfl))]
    exact hc i hi
theorem Ints.drewN {k : IntKind} {w : World} {a : Option Addr} {zs : List Int} (h : Ints k w a zs) (n : Nat) : Ints k (w.drewN n) a zs := h
theorem Ints.of_blk {k : IntKind} {w : World} {b : Nat} {t : TypeId} {zs : List Int} (h : Blk w b t (zs.map (Value.int k)).toArray) : Ints k w (some ⟨b, 0, none⟩) zs := by
  refine .inr ⟨b, 0, rfl, fun i hi => ?_⟩
  rw [h.cell]; simp [hi]
theorem Ints.of_blk' {k : IntKind} {w : World} {b : Nat} {t : TypeId} {zs : List Int} {rest : List Value} (h : Blk w b t (zs.map (Value.int k) ++ rest).toArray) : Ints k w (some ⟨b, 0, none⟩) zs := by
  refine .inr ⟨b, 0, rfl, fun i hi => ?_⟩
  rw [h.cell]; simp [hi, List.getElem?_append_left]

/-- Two lists are alike up to place k. -/
def upto (xs ys : List Int) (k : Nat) : Prop := ∀ j, j < k → xs.getD j 0 = ys.getD j 0
theorem upto_all {xs ys : List Int} (h : xs.length = ys.length) (hu : upto xs ys xs.length) : xs = ys := by
  apply List.ext_getElem h
  intro i h1 h2
  have := hu i h1
  simpa [h1, h2] using this
theorem upto_ne {xs ys : List Int} {k : Nat} (h1 : xs.getD k 0 ≠ ys.getD k 0) : xs ≠ ys := fun e => h1 (by rw [e])
theorem upto_succ {xs ys : List Int} {k : Nat} (h : upto xs ys k) (h1 : xs.getD k 0 = ys.getD k 0) : upto xs ys (k + 1) := by
  intro j hj
  rcases Nat.lt_or_ge j k with h2 | h2
  · exact h j h2
  · obtain rfl : j = k := by omega
    exact h1

end Go.Proofs.Ytldfkcldfjfohaa

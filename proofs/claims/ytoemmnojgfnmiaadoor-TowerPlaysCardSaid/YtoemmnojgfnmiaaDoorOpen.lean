/-
  How arguments that are slices of integers or of bools are opened: what the form's reading gives, in this seat's own words.
-/
import Derived.Test.YtoemmnojgfnmiaaDoorInts
import Derived.ProofKit
import Derived.SizedLaws
import Derived.Deep.Slices
import Derived.ChangeOld
import Derived.ShutString
import Derived.OpenShut
namespace Go.Proofs.YtoemmnojgfnmiaaDoor
open Go.RowKit Go.ChangeShapes Go.WideShapes Go.Deep

/-- A slice of integers. -/
theorem take_ints {H : Type} {enc : TypeId × Value → H} {P : Program} {W : World} {t e : TypeId} {k : IntKind} {a : Option Addr} {len cap : Nat} {d : DataW H} {p : List MemPlace} {ts : List TypeId} {ds : List (DataW H)} {bytes : Nat} (j : Nat)
    (ht : P.underlying t = some (.slice e)) (he : P.underlying e = some (.int k)) (hc : P.cellsOf e = 1) (hb : P.bytesOf e = bytes)
    (h : DataW.Trod enc P W 0 (fun _ => true) true t (.slice a len cap) d p) (hsz : (DataW.weightsEach P ts ds).all (· ≤ reachBytes) = true) (hj : ts[j]? = some t) (hd : ds[j]? = some d) :
    ∃ zs : List Int, zs.length = len ∧ Ints k W a zs ∧ (∀ n ∈ zs, (Lit.int k n).wf = true) ∧ len * bytes ≤ 140737488351232 ∧ len ≤ cap ∧ cap ≤ 9223372036854775807 ∧ (a = none → cap = 0) := by
  obtain ⟨fuel, hf⟩ := h
  rcases open_ints ht he hc hf with ⟨hcs, hx⟩ | ⟨x, l, c, zs, hcs, _, hl, hm, hz, hx, hcell, hwz⟩
  · simp [Value.cells] at hcs
    obtain ⟨rfl, rfl, rfl⟩ := hcs
    exact ⟨[], rfl, .inl rfl, by simp, by omega, by omega, by omega, fun _ => rfl⟩
  · simp [Value.cells] at hcs
    obtain ⟨rfl, rfl, rfl⟩ := hcs
    simp only [Prod.mk.injEq] at hx
    obtain ⟨rfl, _⟩ := hx
    have hs := sized_slice hsz hj hd ht
    simp only [if_true] at hz
    rw [hb] at hs
    simp only [lits, List.length_map, List.length_take, List.length_drop, reachBytes] at hs
    have hs1 : len * bytes ≤ (min len zs.length + (zs.length - len)) * bytes := Nat.mul_le_mul_right _ (by omega)
    unfold maxLen at hm
    refine ⟨zs.take len, by simp; omega, ?_, fun n hn => hwz n (List.mem_of_mem_take hn), by omega, hl, by omega, fun e => by cases e⟩
    by_cases h0 : len = 0
    · left; simp [h0]
    · obtain ⟨b, off, spot⟩ := x
      have hspot : spot = none := by simpa [Addr.add] using World.cell?_spot (hcell 0 (by omega))
      subst hspot
      refine .inr ⟨b, off, rfl, fun i hi => ?_⟩
      simp at hi
      rw [← Addr.add_lit, hcell i (by omega)]
      have h1 : i < zs.length := by omega
      simp [List.getD_eq_getElem?_getD, hi, h1]

/-- Bools at an address. -/
def Bools (w : World) (a : Option Addr) (zs : List Bool) : Prop :=
  zs = [] ∨ ∃ b off, a = some ⟨b, off, none⟩ ∧ ∀ i, i < zs.length → w.cell? ⟨b, off + i, none⟩ = some (.bool (zs.getD i false))
theorem Bools.at {w : World} {a : Option Addr} {zs : List Bool} (h : Bools w a zs) (hn : 0 < zs.length) :
    ∃ b off, a = some ⟨b, off, none⟩ ∧ ∀ i, i < zs.length → w.cell? ⟨b, off + i, none⟩ = some (.bool (zs.getD i false)) := by
  rcases h with rfl | h
  · simp at hn
  · exact h
theorem Bools.below {w w' : World} {a : Option Addr} {zs : List Bool} (h : Bools w a zs) (hb : Below w.heap.size w w') : Bools w' a zs := by
  rcases h with rfl | ⟨b, off, rfl, hc⟩
  · exact .inl rfl
  · refine .inr ⟨b, off, rfl, fun i hi => ?_⟩
    rw [hb.cell (p := ⟨b, off + i, none⟩) (block_lt_of_cell (hc i hi))]
    exact hc i hi
/-- A slice of bools. -/
theorem take_bools {H : Type} {enc : TypeId × Value → H} {P : Program} {W : World} {t e : TypeId} {a : Option Addr} {len cap : Nat} {d : DataW H} {p : List MemPlace} {ts : List TypeId} {ds : List (DataW H)} {bytes : Nat} (j : Nat)
    (ht : P.underlying t = some (.slice e)) (he : P.underlying e = some .bool) (hc : P.cellsOf e = 1) (hb : P.bytesOf e = bytes)
    (h : DataW.Trod enc P W 0 (fun _ => true) true t (.slice a len cap) d p) (hsz : (DataW.weightsEach P ts ds).all (· ≤ reachBytes) = true) (hj : ts[j]? = some t) (hd : ds[j]? = some d) :
    ∃ zs : List Bool, zs.length = len ∧ Bools W a zs ∧ len * bytes ≤ 140737488351232 ∧ len ≤ cap ∧ cap ≤ 9223372036854775807 := by
  obtain ⟨fuel, hf⟩ := h
  rcases open_slice1 ht hc hf with ⟨hcs, hx⟩ | ⟨x, l, c, m, n, V, D, Pl, hcs, _, hl, hm, hmm, hx, hi⟩
  · simp [Value.cells] at hcs
    obtain ⟨rfl, rfl, rfl⟩ := hcs
    exact ⟨[], rfl, .inl rfl, by omega, by omega, by omega⟩
  · simp [Value.cells] at hcs
    obtain ⟨rfl, rfl, rfl⟩ := hcs
    simp only [Prod.mk.injEq] at hx
    obtain ⟨rfl, _⟩ := hx
    have hs := sized_slice hsz hj hd ht
    simp only [if_true] at hmm
    rw [hb] at hs
    simp only [List.length_map, List.length_range, reachBytes] at hs
    have hs1 : len * bytes ≤ (len + (m - len)) * bytes := Nat.mul_le_mul_right _ (by omega)
    unfold maxLen at hm
    have hB : ∀ i, i < m → ∃ b, V i = .bool b := fun i h => by
      obtain ⟨_, h2⟩ := hi i h
      obtain ⟨b, hb, _⟩ := DataW.trod_bool he h2
      exact ⟨b, by simpa using hb⟩
    obtain ⟨F, hF⟩ := choose_lt (α := Bool) (p := fun i b => V i = .bool b) hB
    refine ⟨(List.range len).map F, by simp, ?_, by omega, hl, by omega⟩
    by_cases h0 : len = 0
    · left; simp [h0]
    · obtain ⟨b, off, spot⟩ := x
      have hspot : spot = none := by simpa [Addr.add] using World.cell?_spot (hi 0 (by omega)).1
      subst hspot
      refine .inr ⟨b, off, rfl, fun i hlt => ?_⟩
      simp at hlt
      rw [← Addr.add_lit, (hi i (by omega)).1, hF i (by omega)]
      simp [List.getD_eq_getElem?_getD, hlt]
end Go.Proofs.YtoemmnojgfnmiaaDoor

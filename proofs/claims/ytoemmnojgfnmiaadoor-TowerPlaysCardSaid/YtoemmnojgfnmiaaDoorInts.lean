/-
  Slices of integers as lists: 'Ints k w a zs': at the address a lie the numbers zs (nothing is said of an empty one); and what vinculumref1.Same does.
-/
import Derived.Test.YtoemmnojgfnmiaaDoorProg
import Derived.Test.YtoemmnojgfnmiaaDoorBase
import Derived.Deep.QuietTactic
import Derived.BigQuiet
namespace Go.Proofs.YtoemmnojgfnmiaaDoor
open Go.RowKit

def Ints (k : IntKind) (w : World) (a : Option Addr) (zs : List Int) : Prop :=
  zs = [] ∨ ∃ b off, a = some ⟨b, off, none⟩ ∧ ∀ i, i < zs.length → w.cell? ⟨b, off + i, none⟩ = some (.int k (zs.getD i 0))

theorem Ints.nil (k : IntKind) (w : World) (a : Option Addr) : Ints k w a [] := .inl rfl
theorem Ints.at {k : IntKind} {w : World} {a : Option Addr} {zs : List Int} (h : Ints k w a zs) (hn : 0 < zs.length) :
    ∃ b off, a = some ⟨b, off, none⟩ ∧ ∀ i, i < zs.length → w.cell? ⟨b, off + i, none⟩ = some (.int k (zs.getD i 0)) := by
  rcases h with rfl | h
  · simp at hn
  · exact h
theorem Ints.below {k : IntKind} {w w' : World} {a : Option Addr} {zs : List Int} (h : Ints k w a zs) (hb : Below w.heap.size w w') : Ints k w' a zs := by
  rcases h with rfl | ⟨b, off, rfl, hc⟩
  · exact .inl rfl
  · by_cases hn : zs.length = 0
    · exact .inl (List.length_eq_zero_iff.1 hn)
    refine .inr ⟨b, off, rfl, fun i hi => ?_⟩
    rw [hb.cell (p := ⟨b, off + i, none⟩) (block_lt_of_cell (hc i hi))]
    exact hc i hi
theorem Ints.only {k : IntKind} {w w' : World} {a : Option Addr} {zs : List Int} {S : Nat → Prop} (h : Ints k w a zs) (hb : Only S w w') (hs : ∀ x, a = some x → ¬ S x.block) : Ints k w' a zs := by
  rcases h with rfl | ⟨b, off, rfl, hc⟩
  · exact .inl rfl
  · refine .inr ⟨b, off, rfl, fun i hi => ?_⟩
    have hlt := block_lt_of_cell (hc i hi)
    rw [World.cell?_of_block (hb.block b hlt (hs _ rfl))]
    exact hc i hi
theorem Ints.drewN {k : IntKind} {w : World} {a : Option Addr} {zs : List Int} (h : Ints k w a zs) (n : Nat) : Ints k (w.drewN n) a zs := h
theorem Ints.of_blk {k : IntKind} {w : World} {b : Nat} {t : TypeId} {zs : List Int} (h : Blk w b t (zs.map (Value.int k)).toArray) : Ints k w (some ⟨b, 0, none⟩) zs := by
  refine .inr ⟨b, 0, rfl, fun i hi => ?_⟩
  rw [h.cell]; simp [hi]
theorem Ints.of_blk' {k : IntKind} {w : World} {b : Nat} {t : TypeId} {zs : List Int} {rest : List Value} (h : Blk w b t (zs.map (Value.int k) ++ rest).toArray) : Ints k w (some ⟨b, 0, none⟩) zs := by
  refine .inr ⟨b, 0, rfl, fun i hi => ?_⟩
  rw [h.cell]; simp [hi, List.getElem?_append_left]

/-- Two lists are alike up to place k. -/
def upto (xs ys : List Int) (k : Nat) : Prop := ∀ j, j < k → xs.getD j 0 = ys.getD j 0
theorem upto_all {xs ys : List Int} (h : xs.length = ys.length) (hu : upto xs ys xs.length) : xs = ys := by
  apply List.ext_getElem h
  intro i h1 h2
  have := hu i h1
  simpa [h1, h2] using this
theorem upto_ne {xs ys : List Int} {k : Nat} (h1 : xs.getD k 0 ≠ ys.getD k 0) : xs ≠ ys := fun e => h1 (by rw [e])
theorem upto_succ {xs ys : List Int} {k : Nat} (h : upto xs ys k) (h1 : xs.getD k 0 = ys.getD k 0) : upto xs ys (k + 1) := by
  intro j hj
  rcases Nat.lt_or_ge j k with h2 | h2
  · exact h j h2
  · obtain rfl : j = k := by omega
    exact h1

set_option maxHeartbeats 1000000 in
theorem sameInts_any (a a' : Option Addr) (c c' : Nat) (xs ys : List Int) (w : World) (hx : Ints .i64 w a xs) (hy : Ints .i64 w a' ys) (lx : xs.length ≤ 1000000000) (ly : ys.length ≤ 1000000000) :
    Calls Tryd.prog 15 #[.slice a xs.length c, .slice a' ys.length c'] w fun e w' => e = .returned (.bool (decide (xs = ys))) ∧ ∃ n, w' = w.drewN n := by
  by_cases hl : xs.length = ys.length
  · have hl1 : ((xs.length : Int) != (ys.length : Int)) = false := by simp [hl]
    have H := Lib.hid hl
    clear hl
    go_enter Tryd.func15, Tryd.ntmps15
    go_wp2_with fail
    go_loopw [5] (fun i wr => ∃ k m : Nat, k ≤ xs.length ∧ i = .int .i64 k ∧ wr = w.drewN m ∧ upto xs ys k) (fun i _ => xs.length - (intOf i).toNat)
    case atStart => exact ⟨0, 0, Nat.zero_le _, rfl, rfl, fun j hj => by omega⟩
    case round =>
      obtain ⟨k, m, hk, rfl, rfl, hu⟩ := hrel
      have HU := Lib.hid hu
      clear hu
      by_cases hlt : k < xs.length
      · have hly : k < ys.length := by have := H.out; omega
        obtain ⟨b, off, rfl, hc⟩ := hx.at (by omega)
        obtain ⟨b', off', rfl, hc'⟩ := hy.at (by omega)
        have h1 := hc k hlt
        have h2 := hc' k hly
        have U1 := Lib.hid (show xs.getD k 0 = ys.getD k 0 → upto xs ys (k + 1) from fun e => upto_succ HU.out e)
        have U2 := Lib.hid (show xs.getD k 0 ≠ ys.getD k 0 → xs ≠ ys from fun e => upto_ne e)
        generalize xs.getD k 0 = x at h1 U1 U2
        generalize ys.getD k 0 = y at h2 U1 U2
        clear hc hc'
        by_cases hxy : x = y
        · subst hxy
          have U4 := Lib.hid (U1.out rfl)
          clear U1 U2
          go_wp2_with fail
          go_quiet (fail)
          go_wp2_with fail
          go_roundw
          case rel => exact ⟨k + 1, _, by omega, by go_num, rfl, U4.out⟩
          case measure => simp [intOf]; omega
        · have hb : (x != y) = true := by simpa using hxy
          have U3 := Lib.hid (show decide (xs = ys) = false from decide_eq_false (U2.out hxy))
          clear U1 U2 hxy
          go_wp2_with fail
          go_quiet (fail)
          go_wp2_with fail
          go_ret
          exact ⟨ret_bool (by rw [U3.out]), _, World.drewN_drewN _ _ _⟩
      · obtain rfl : k = xs.length := by omega
        have U3 := Lib.hid (show decide (xs = ys) = true from decide_eq_true (upto_all H.out HU.out))
        go_wp2_with fail
        go_ret
        exact ⟨ret_bool (by rw [U3.out]), _, rfl⟩
  · have hl1 : ((xs.length : Int) != (ys.length : Int)) = true := by simp; omega
    have U3 := Lib.hid (show decide (xs = ys) = false from decide_eq_false (fun e => hl (by rw [e])))
    clear hl
    go_enter Tryd.func15, Tryd.ntmps15
    go_wp2_with fail
    go_ret
    exact ⟨ret_bool (by rw [U3.out]), 0, rfl⟩
end Go.Proofs.YtoemmnojgfnmiaaDoor

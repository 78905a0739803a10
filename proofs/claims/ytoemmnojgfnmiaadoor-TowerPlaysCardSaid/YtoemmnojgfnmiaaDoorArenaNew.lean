/-
  What arena.New does: an Arena of n words that are all nought, in two new blocks; what (*Arena).Words and (*Arena).Copy do: new memory.
-/
import Derived.Test.YtoemmnojgfnmiaaDoorArena
import Derived.Test.YtoemmnojgfnmiaaDoorInts
namespace Go.Proofs.YtoemmnojgfnmiaaDoor
open Go.RowKit

theorem info_word : (Tryd.prog.info? 75).map (fun i => (i.zero, i.size, i.bytes)) = some (some (.agg #[.int .u64 0]), 1, 8) := by kernel_rfl
theorem mk_words (n : Nat) (hn : n ≤ 1000000) (w : World) : (Instr.makeSlice 58 (.int .i64 n) (.int .i64 n)).run Tryd.prog w = .ok (.slice (some ⟨w.heap.size, 0, none⟩) n n) (w.alloc (.cells (List.replicate n (Value.int .u64 0)).toArray 75)) := by
  obtain ⟨i, hi, hz, h1, h2⟩ := info_parts info_word
  have hr := run_make (P := Tryd.prog) w 58 75 i _ Tryd.underlying58 hi hz .i64 .i64 n n (by omega) (Int.le_refl _) (by rw [h2]; omega) (by omega)
  have he : madeCells (Value.agg #[.int .u64 0]).cells (n * 1) = (List.replicate n (Value.int .u64 0)).toArray := by
    apply Array.ext'
    simpa [Value.cells] using toList_madeCells_one (.int .u64 0) n
  rw [h1, Int.toNat_natCast, he] at hr
  exact hr
def AS.zero (n : Nat) : AS := ⟨List.replicate n 0, 0⟩

set_option maxHeartbeats 400000 in
theorem arena_new (n : Int) (h0 : 1 ≤ n) (h1 : n ≤ 100000) (w : World) :
    Calls Tryd.prog 20 #[.int .i64 n] w fun e w' => e = .returned (.tuple #[.pointer (some ⟨w.heap.size + 1, 0, none⟩), .int .i64 0]) ∧ IsArena w' (w.heap.size + 1) w.heap.size (AS.zero n.toNat) ∧ Below w.heap.size w w' ∧ w'.heap.size = w.heap.size + 2 := by
  obtain ⟨m, rfl⟩ := Int.eq_ofNat_of_zero_le (show 0 ≤ n by omega)
  have hmk := fun wx => mk_words m (by omega) wx
  go_enter Tryd.func20, Tryd.ntmps20
  go_wp2_with fail
  go_ret2
  refine ⟨rfl, ⟨?_, ?_, by omega, by simp [AS.zero]; omega⟩, ?_, by simp⟩
  · simpa [AS.zero] using Blk.new' (w.alloc (Obj.cells (Array.replicate m (Value.int IntKind.u64 0)) 75)) 65 #[Value.slice (some ⟨w.heap.size, 0, none⟩) m m, Value.int IntKind.i64 0] (w.heap.size + 1) (by simp)
  · simpa [AS.zero] using (Blk.new w 75 (Array.replicate m (Value.int IntKind.u64 0))).alloc _
  · exact ((Below.refl _ _).alloc (Nat.le_refl _) _).alloc (by simp) _

set_option maxHeartbeats 400000 in
theorem arena_new_bad (n : Int) (h : n < 1 ∨ 100000 < n) (w : World) :
    Calls Tryd.prog 20 #[.int .i64 n] w fun e w' => e = .returned (.tuple #[.pointer none, .int .i64 1]) ∧ w = w' := by
  by_cases hn : n < 1
  · go_enter Tryd.func20, Tryd.ntmps20
    go_wp2_with fail
    go_ret2
    exact ⟨rfl, rfl⟩
  · have hg : 100000 < n := by omega
    go_enter Tryd.func20, Tryd.ntmps20
    go_wp2_with fail
    go_ret2
    exact ⟨rfl, rfl⟩

/-- The first k of xs, then noughts. -/
def part (xs : List Int) (k : Nat) : List Value := (xs.take k).map (Value.int .u64) ++ List.replicate (xs.length - k) (Value.int .u64 0)
theorem part_zero (xs : List Int) : part xs 0 = List.replicate xs.length (Value.int .u64 0) := by simp [part]
theorem part_all (xs : List Int) : part xs xs.length = xs.map (Value.int .u64) := by simp [part]
theorem part_set (xs : List Int) (k : Nat) (hk : k < xs.length) : (part xs k).toArray.setIfInBounds k (Value.int .u64 (xs.getD k 0)) = (part xs (k + 1)).toArray := by
  apply Array.ext'
  simp only [Array.toList_setIfInBounds, part]
  rw [List.set_append_right _ _ (by simp; omega)]
  have e1 : xs.length - k = (xs.length - (k + 1)) + 1 := by omega
  rw [List.take_succ_eq_append_getElem hk, e1, List.replicate_succ]
  simp only [List.length_map, List.length_take, Nat.min_eq_left (Nat.le_of_lt hk), Nat.sub_self, List.set_cons_zero, List.map_append, List.map_cons, List.map_nil, List.append_assoc, List.singleton_append, List.getD_eq_getElem?_getD, List.getElem?_eq_getElem hk, Option.getD_some]
theorem part_size (xs : List Int) (k : Nat) (hk : k ≤ xs.length) : (part xs k).length = xs.length := by simp [part]; omega
theorem part_at (xs : List Int) (k : Nat) (hk : k < xs.length) : (part xs k).toArray[k]? = some (Value.int .u64 0) := by
  have e1 : xs.length - k = (xs.length - (k + 1)) + 1 := by omega
  rw [part, e1, List.replicate_succ, List.getElem?_toArray, List.getElem?_append_right (by simp; omega)]
  simp only [List.length_map, List.length_take, Nat.min_eq_left (Nat.le_of_lt hk), Nat.sub_self, List.getElem?_cons_zero]

theorem info_u64 : (Tryd.prog.info? 53).map (fun i => (i.zero, i.size, i.bytes)) = some (some (.int .u64 0), 1, 8) := by kernel_rfl
end Go.Proofs.YtoemmnojgfnmiaaDoor

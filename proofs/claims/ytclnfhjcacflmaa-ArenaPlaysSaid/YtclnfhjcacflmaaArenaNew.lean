/-
  What arena.New does: an Arena of n words that are all nought, in two new blocks; what (*Arena).Words and (*Arena).Copy do: new memory.
-/
import Derived.Test.YtclnfhjcacflmaaArena
import Derived.Test.YtclnfhjcacflmaaInts
namespace Go.Proofs.Ytclnfhjcacflmaa
open Go.RowKit

theorem info_word : (Try.prog.info? 56).map (fun i => (i.zero, i.size, i.bytes)) = some (some (.agg #[.int .u64 0]), 1, 8) := by kernel_rfl
theorem mk_words (n : Nat) (hn : n ≤ 1000000) (w : World) : (Instr.makeSlice 41 (.int .i64 n) (.int .i64 n)).run Try.prog w = .ok (.slice (some ⟨w.heap.size, 0, none⟩) n n) (w.alloc (.cells (List.replicate n (Value.int .u64 0)).toArray 56)) := by
  obtain ⟨i, hi, hz, h1, h2⟩ := info_parts info_word
  have hr := run_make (P := Try.prog) w 41 56 i _ Try.underlying41 hi hz .i64 .i64 n n (by omega) (Int.le_refl _) (by rw [h2]; omega) (by omega)
  have he : madeCells (Value.agg #[.int .u64 0]).cells (n * 1) = (List.replicate n (Value.int .u64 0)).toArray := by
    apply Array.ext'
    simpa [Value.cells] using toList_madeCells_one (.int .u64 0) n
  rw [h1, Int.toNat_natCast, he] at hr
  exact hr
def AS.zero (n : Nat) : AS := ⟨List.replicate n 0, 0⟩

set_option maxHeartbeats 400000 in
theorem arena_new (n : Int) (h0 : 1 ≤ n) (h1 : n ≤ 100000) (w : World) :
    Calls Try.prog 4 #[.int .i64 n] w fun e w' => e = .returned (.tuple #[.pointer (some ⟨w.heap.size + 1, 0, none⟩), .int .i64 0]) ∧ IsArena w' (w.heap.size + 1) w.heap.size (AS.zero n.toNat) ∧ Below w.heap.size w w' ∧ w'.heap.size = w.heap.size + 2 := by
  obtain ⟨m, rfl⟩ := Int.eq_ofNat_of_zero_le (show 0 ≤ n by omega)
  have hmk := fun wx => mk_words m (by omega) wx
  go_enter Try.func4, Try.ntmps4
  go_wp2_with fail
  go_ret2
  refine ⟨rfl, ⟨?_, ?_, by omega, by simp [AS.zero]; omega⟩, ?_, by simp⟩
  · simpa [AS.zero] using Blk.new' (w.alloc (Obj.cells (Array.replicate m (Value.int IntKind.u64 0)) 56)) 48 #[Value.slice (some ⟨w.heap.size, 0, none⟩) m m, Value.int IntKind.i64 0] (w.heap.size + 1) (by simp)
  · simpa [AS.zero] using (Blk.new w 56 (Array.replicate m (Value.int IntKind.u64 0))).alloc _
  · exact ((Below.refl _ _).alloc (Nat.le_refl _) _).alloc (by simp) _

set_option maxHeartbeats 400000 in
theorem arena_new_bad (n : Int) (h : n < 1 ∨ 100000 < n) (w : World) :
    Calls Try.prog 4 #[.int .i64 n] w fun e w' => e = .returned (.tuple #[.pointer none, .int .i64 1]) ∧ w = w' := by
  by_cases hn : n < 1
  · go_enter Try.func4, Try.ntmps4
    go_wp2_with fail
    go_ret2
    exact ⟨rfl, rfl⟩
  · have hg : 100000 < n := by omega
    go_enter Try.func4, Try.ntmps4
    go_wp2_with fail
    go_ret2
    exact ⟨rfl, rfl⟩

/-- The first k of xs, then noughts. -/
def part (xs : List Int) (k : Nat) : List Value := (xs.take k).map (Value.int .u64) ++ List.replicate (xs.length - k) (Value.int .u64 0)
theorem part_zero (xs : List Int) : part xs 0 = List.replicate xs.length (Value.int .u64 0) := by simp [part]
theorem part_all (xs : List Int) : part xs xs.length = xs.map (Value.int .u64) := by simp [part]
theorem part_set (xs : List Int) (k : Nat) (hk : k < xs.length) : (part xs k).toArray.setIfInBounds k (Value.int .u64 (xs.getD k 0)) = (part xs (k + 1)).toArray := by
  apply Array.ext'
  simp only [Array.toList_setIfInBounds, part]
  rw [List.set_append_right _ _ (by simp; omega)]
  have e1 : xs.length - k = (xs.length - (k + 1)) + 1 := by omega
  rw [List.take_succ_eq_append_getElem hk, e1, List.replicate_succ]
  simp only [List.length_map, List.length_take, Nat.min_eq_left (Nat.le_of_lt hk), Nat.sub_self, List.set_cons_zero, List.map_append, List.map_cons, List.map_nil, List.append_assoc, List.singleton_append, List.getD_eq_getElem?_getD, List.getElem?_eq_getElem hk, Option.getD_some]
theorem part_size (xs : List Int) (k : Nat) (hk : k ≤ xs.length) : (part xs k).length = xs.length := by simp [part]; omega
theorem part_at (xs : List Int) (k : Nat) (hk : k < xs.length) : (part xs k).toArray[k]? = some (Value.int .u64 0) := by
  have e1 : xs.length - k = (xs.length - (k + 1)) + 1 := by omega
  rw [part, e1, List.replicate_succ, List.getElem?_toArray, List.getElem?_append_right (by simp; omega)]
  simp only [List.length_map, List.length_take, Nat.min_eq_left (Nat.le_of_lt hk), Nat.sub_self, List.getElem?_cons_zero]

theorem info_u64 : (Try.prog.info? 30).map (fun i => (i.zero, i.size, i.bytes)) = some (some (.int .u64 0), 1, 8) := by kernel_rfl
theorem mk_u64s (n : Nat) (hn : n ≤ 1000000) (w : World) : (Instr.makeSlice 29 (.int .i64 n) (.int .i64 n)).run Try.prog w = .ok (.slice (some ⟨w.heap.size, 0, none⟩) n n) (w.alloc (.cells (List.replicate n (Value.int .u64 0)).toArray 30)) := by
  obtain ⟨i, hi, hz, h1, h2⟩ := info_parts info_u64
  have hr := run_make (P := Try.prog) w 29 30 i _ Try.underlying29 hi hz .i64 .i64 n n (by omega) (Int.le_refl _) (by rw [h2]; omega) (by omega)
  have he : madeCells (Value.int .u64 0).cells (n * 1) = (List.replicate n (Value.int .u64 0)).toArray := by
    apply Array.ext'
    simpa [Value.cells] using toList_madeCells_one (.int .u64 0) n
  rw [h1, Int.toNat_natCast, he] at hr
  exact hr

set_option maxHeartbeats 1000000 in
theorem arena_words {w : World} {a b : Nat} {s : AS} (h : IsArena w a b s) :
    Calls Try.prog 14 #[.pointer (some ⟨a, 0, none⟩)] w fun e w' => ∃ c, e = .returned (.slice (some ⟨c, 0, none⟩) s.ws.length s.ws.length) ∧ w.heap.size ≤ c ∧ Blk w' c 30 (s.ws.map (Value.int .u64)).toArray ∧ Below w.heap.size w w' := by
  have hl := h.len
  have c0 := h.c0
  have hmk := fun wx => mk_u64s s.ws.length (by omega) wx
  have hla := h.head.lt
  have hlb := h.words.lt
  go_enter Try.func14, Try.ntmps14
  go_wp2_with fail
  clear hmk
  go_loopw [16] (fun i wr => ∃ k : Nat, k ≤ s.ws.length ∧ i = .int .i64 k ∧ Blk wr w.heap.size 30 (part s.ws k).toArray ∧ Below w.heap.size w wr ∧ IsArena wr a b s) (fun i _ => s.ws.length - (intOf i).toNat)
  case atStart => exact ⟨0, Nat.zero_le _, rfl, by rw [part_zero]; simpa using Blk.new w 30 (Array.replicate s.ws.length (Value.int .u64 0)), (Below.refl _ _).alloc (Nat.le_refl _) _, h.alloc _⟩
  case round =>
    obtain ⟨k, hk, rfl, hB, hbel, hA⟩ := hrel
    have c0 := hA.c0
    by_cases hlt : k < s.ws.length
    · have hw := hA.wd k hlt
      have hst := hB.set k (Value.int .u64 (s.ws.getD k 0))
      rw [part_set _ _ hlt] at hst
      have hc := hB.cell k
      rw [part_at _ _ hlt] at hc
      have hf := hB.free k
      have hA' := hA.other ⟨w.heap.size, k, none⟩ (Value.int .u64 (s.ws.getD k 0)) (by simp; omega) (by simp; omega)
      have hbel' := hbel.setCell (p := ⟨w.heap.size, k, none⟩) (by simp) (Value.int .u64 (s.ws.getD k 0))
      generalize s.ws.getD k 0 = x at hw hst hA' hbel'
      go_wp2_with (go_at_call 16; refine (u64_load b _ _ _ hw).mono ?_; rintro e w' ⟨rfl, rfl⟩)
      go_roundw
      case rel => exact ⟨k + 1, by omega, by go_num, hst, hbel', hA'⟩
      case measure => simp [intOf]; omega
    · obtain rfl : k = s.ws.length := by omega
      go_wp2_with fail
      go_ret
      exact ⟨w.heap.size, rfl, Nat.le_refl _, by rw [← part_all]; exact hB, hbel⟩

set_option maxHeartbeats 1000000 in
theorem arena_copy {w : World} {a b : Nat} {s : AS} (h : IsArena w a b s) :
    Calls Try.prog 11 #[.pointer (some ⟨a, 0, none⟩)] w fun e w' => ∃ a' b', e = .returned (.pointer (some ⟨a', 0, none⟩)) ∧ w.heap.size ≤ a' ∧ w.heap.size ≤ b' ∧ IsArena w' a' b' s ∧ Below w.heap.size w w' := by
  have hl := h.len
  have c0 := h.c0
  have hmk := fun wx => mk_words s.ws.length (by omega) wx
  have hla := h.head.lt
  have hlb := h.words.lt
  go_enter Try.func11, Try.ntmps11
  go_wp2_with fail
  clear hmk
  go_loopw [18] (fun i wr => ∃ k : Nat, k ≤ s.ws.length ∧ i = .int .i64 k ∧ Blk wr w.heap.size 56 (part s.ws k).toArray ∧ Blk wr (w.heap.size + 1) 48 #[.slice (some ⟨w.heap.size, 0, none⟩) s.ws.length s.ws.length, .int .i64 0] ∧ Below w.heap.size w wr ∧ IsArena wr a b s) (fun i _ => s.ws.length - (intOf i).toNat)
  case atStart =>
    refine ⟨0, Nat.zero_le _, rfl, ?_, ?_, ((Below.refl _ _).alloc (Nat.le_refl _) _).alloc (by simp) _, (h.alloc _).alloc _⟩
    · rw [part_zero]; simpa using (Blk.new w 56 (Array.replicate s.ws.length (Value.int .u64 0))).alloc _
    · exact Blk.new' _ 48 _ _ (by simp)
  case round =>
    obtain ⟨k, hk, rfl, hB, hH, hbel, hA⟩ := hrel
    have c0 := hA.c0
    have c1 := hA.c1
    by_cases hlt : k < s.ws.length
    · have hw := hA.wd k hlt
      have hst := hB.set k (Value.int .u64 (s.ws.getD k 0))
      rw [part_set _ _ hlt] at hst
      have hc := hB.cell k
      rw [part_at _ _ hlt] at hc
      have hf := hB.free k
      have hd : wr.cell? ⟨w.heap.size + 1, 0, none⟩ = some (.slice (some ⟨w.heap.size, 0, none⟩) s.ws.length s.ws.length) := by rw [hH.cell]; rfl
      have hA' := hA.other ⟨w.heap.size, k, none⟩ (Value.int .u64 (s.ws.getD k 0)) (by simp; omega) (by simp; omega)
      have hH' := hH.other ⟨w.heap.size, k, none⟩ (Value.int .u64 (s.ws.getD k 0)) (by simp)
      have hbel' := hbel.setCell (p := ⟨w.heap.size, k, none⟩) (by simp) (Value.int .u64 (s.ws.getD k 0))
      generalize s.ws.getD k 0 = x at hw hst hA' hbel' hH'
      go_wp2_with fail
      refine wp_region_still_tail 13 (by kernel_rfl) (by kernel_rfl) ?_
      simp only [List.take_succ_cons, List.take_zero, List.drop_succ_cons, List.drop_zero]
      repeat still_step
      still_call ((u64_load b _ _ wr.drew hw).mono fun e w' h => ⟨h.1, h.2.symm⟩)
      repeat still_step
      refine wpStill_nil ?_
      change wpList _ _ _ _ _ wr.drew
      go_wp2_with (go_at_call 17; refine (u64_store _ _ _ _ wr.drew hc hf).mono ?_; rintro e w' ⟨rfl, rfl⟩)
      go_roundw
      case rel => exact ⟨k + 1, by omega, by go_num, hst, hH', hbel'.drew, hA'.drew⟩
      case measure => simp [intOf]; omega
    · obtain rfl : k = s.ws.length := by omega
      have hh1 := hH.cell 1
      have hf1 := hH.free 1
      have hH' := (hH.set 1 (.int .i64 s.cnt)).drew
      have hB' := (hB.other ⟨w.heap.size + 1, 1, none⟩ (.int .i64 s.cnt) (by simp)).drew
      have hbel' := (hbel.setCell (p := ⟨w.heap.size + 1, 1, none⟩) (by simp) (.int .i64 s.cnt)).drew
      rw [part_all] at hB'
      go_wp2_with fail
      refine wp_region_still_tail 7 (by kernel_rfl) (by kernel_rfl) ?_
      simp only [List.take_succ_cons, List.take_zero, List.drop_succ_cons, List.drop_zero]
      repeat still_step
      still_call ((i64_load a 1 s.cnt wr.drew c1).mono fun e w' h => ⟨h.1, h.2.symm⟩)
      repeat still_step
      refine wpStill_nil ?_
      change wpList _ _ _ _ _ wr.drew
      go_wp2_with (go_at_call 20; refine (i64_store _ _ _ _ wr.drew hh1 hf1).mono ?_; rintro e w' ⟨rfl, rfl⟩)
      go_ret
      exact ⟨w.heap.size + 1, w.heap.size, rfl, by omega, Nat.le_refl _, ⟨by simpa using hH', hB', by omega, hl⟩, hbel'⟩
end Go.Proofs.Ytclnfhjcacflmaa

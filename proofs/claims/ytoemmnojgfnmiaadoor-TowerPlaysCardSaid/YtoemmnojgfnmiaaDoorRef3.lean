/-
  The document's Tower (vinculumref3.Tower): a block of 64 heights; Put, Range, Level, Steps.
-/
import Derived.Test.YtoemmnojgfnmiaaDoorLaw11y
namespace Go.Proofs.YtoemmnojgfnmiaaDoor
open Go.RowKit
set_option linter.unusedVariables false

def hCells (H : Nat → Nat) : Array Value := ((List.range 64).map (fun k => Value.int .i64 (H k))).toArray
def IsRef (w : World) (r : Nat) (H : Nat → Nat) : Prop := Blk w r 28 (hCells H)
theorem hCells_at (H : Nat → Nat) (k : Nat) (hk : k < 64) : (hCells H)[k]? = some (.int .i64 (H k)) := by simp [hCells, hk]
theorem IsRef.cell {w : World} {r : Nat} {H : Nat → Nat} (h : IsRef w r H) (k : Nat) (hk : k < 64) : w.cell? ⟨r, k, none⟩ = some (.int .i64 (H k)) := by rw [Blk.cell h]; exact hCells_at H k hk
theorem hCells_set (H : Nat → Nat) (k n : Nat) (hk : k < 64) : (hCells H).setIfInBounds k (.int .i64 (n : Nat)) = hCells (upd H k n) := by
  apply Array.ext_getElem?
  intro i
  rw [Array.getElem?_setIfInBounds]
  by_cases e : k = i
  · subst e
    simp [hCells, hk, upd_same]
  · rw [if_neg e]
    by_cases hi : i < 64
    · rw [hCells_at H i hi, hCells_at _ i hi, upd_ne H (fun h => e h.symm)]
    · simp [hCells, hi]
theorem IsRef.set {w : World} {r : Nat} {H : Nat → Nat} (h : IsRef w r H) (k n : Nat) (hk : k < 64) : IsRef (w.setCell ⟨r, k, none⟩ (.int .i64 (n : Nat))) r (upd H k n) := by
  have := Blk.set h k (.int .i64 (n : Nat))
  rw [hCells_set H k n hk] at this; exact this

set_option maxHeartbeats 1000000 in
theorem ref_put_bad {w : World} {r : Nat} (key height : Int) (hb : isKeyB key = false ∨ height < 1 ∨ 4 < height) :
    Calls Tryd.prog 7 #[.pointer (some ⟨r, 0, none⟩), .int .i64 key, .int .i64 height] w fun e w' => e = .returned (.tuple #[.bool false, .int .i64 1]) ∧ w = w' := by
  have hb' : key < 0 ∨ (0 ≤ key ∧ 63 < key) ∨ (0 ≤ key ∧ key ≤ 63 ∧ height < 1) ∨ (0 ≤ key ∧ key ≤ 63 ∧ 1 ≤ height ∧ 4 < height) := by
    have hi : isKeyB key = false ↔ ¬ (0 ≤ key ∧ key ≤ 63) := by rw [← isKeyB_iff, Bool.not_eq_true]
    rw [hi] at hb; omega
  clear hb
  rcases hb' with h | ⟨h, h2⟩ | ⟨h, h2, h3⟩ | ⟨h, h2, h3, h4⟩
  all_goals
    go_enter Tryd.func7, Tryd.ntmps7
    go_wp2_with fail
    go_ret2
    exact ⟨rfl, rfl⟩
set_option maxHeartbeats 1000000 in
theorem ref_put_old {w : World} {r : Nat} {H : Nat → Nat} (h : IsRef w r H) (k : Nat) (height : Int) (hk : k < 64) (h1 : 1 ≤ height) (h2 : height ≤ 4) (hh : 0 < H k) :
    Calls Tryd.prog 7 #[.pointer (some ⟨r, 0, none⟩), .int .i64 k, .int .i64 height] w fun e w' => e = .returned (.tuple #[.bool false, .int .i64 0]) ∧ w = w' := by
  have hc := h.cell k hk
  have k0 : (0 : Int) ≤ (k : Int) := by omega
  have k1 : (k : Int) ≤ 63 := by omega
  have k2 : (k : Int) < 64 := by omega
  generalize H k = n at hc hh
  have hn : (0 : Int) < (n : Int) := by omega
  go_enter Tryd.func7, Tryd.ntmps7
  go_wp2_with fail
  go_ret2
  exact ⟨rfl, rfl⟩
set_option maxHeartbeats 1000000 in
theorem ref_put_new {w : World} {r : Nat} {H : Nat → Nat} (h : IsRef w r H) (k n : Nat) (hk : k < 64) (h1 : 1 ≤ n) (h2 : n ≤ 4) (hh : H k = 0) :
    Calls Tryd.prog 7 #[.pointer (some ⟨r, 0, none⟩), .int .i64 k, .int .i64 n] w fun e w' => e = .returned (.tuple #[.bool true, .int .i64 0]) ∧ IsRef w' r (upd H k n) ∧ Only (fun b => b = r) w w' := by
  have hc := h.cell k hk
  rw [hh] at hc
  have hf := Blk.free h k
  have hs := Lib.hid (h.set k n hk)
  have k0 : (0 : Int) ≤ (k : Int) := by omega
  have k1 : (k : Int) ≤ 63 := by omega
  have k2 : (k : Int) < 64 := by omega
  have n1 : (1 : Int) ≤ (n : Int) := by omega
  have n2 : (n : Int) ≤ 4 := by omega
  clear hh h
  go_enter Tryd.func7, Tryd.ntmps7
  go_wp2_with fail
  go_ret2
  exact ⟨rfl, hs.out, Only.setCell (p := ⟨r, k, none⟩) (Only.refl (fun b => b = r) w) (fun _ => rfl) _⟩

/-- The keys below j of a predicate. -/
def upto64 (p : Nat → Bool) (j : Nat) : List Nat := (List.range j).filter p
theorem upto64_yes {p : Nat → Bool} {j : Nat} (h : p j = true) : upto64 p (j + 1) = upto64 p j ++ [j] := by simp [upto64, List.range_succ, h]
theorem upto64_no {p : Nat → Bool} {j : Nat} (h : p j = false) : upto64 p (j + 1) = upto64 p j := by simp [upto64, List.range_succ, h]
theorem upto64_len (p : Nat → Bool) (j : Nat) : (upto64 p j).length ≤ j := by
  have := List.length_filter_le p (List.range j)
  simpa [upto64] using this
def rP (H : Nat → Nat) (lo hi : Int) (k : Nat) : Bool := decide (0 < H k) && inR lo hi k
theorem rangeK_upto (H : Nat → Nat) (lo hi : Int) : rangeK H lo hi = upto64 (rP H lo hi) 64 := by
  rw [rangeK, kl, List.filter_filter, upto64]
  apply List.filter_congr
  intro k _; rw [rP, Bool.and_comm]

set_option maxRecDepth 100000 in
set_option maxHeartbeats 4000000 in
theorem ref_range {w : World} {r : Nat} {H : Nat → Nat} (h : IsRef w r H) (lo hi : Int) :
    Calls Tryd.prog 10 #[.pointer (some ⟨r, 0, none⟩), .int .i64 lo, .int .i64 hi] w fun e w' => ∃ v, e = .returned v ∧ Told w.heap.size v w' (rangeK H lo hi) ∧ Only0 w w' := by
  obtain ⟨i0, hi', hz0, hz1, hz2⟩ := info_parts info_int
  have HR := Lib.hid (rangeK_upto H lo hi)
  have HH := Lib.hid h
  clear h
  go_enter Tryd.func10, Tryd.ntmps10
  go_wp2_with fail
  go_loopw [7, 8] (fun u i wr => ∃ (j : Nat) (u0 : Value), u0 = u ∧ j ≤ 64 ∧ i = .int .i64 j ∧ Told w.heap.size u0 wr (upto64 (rP H lo hi) j) ∧ Only0 w wr) (fun _ i _ => 64 - (intOf i).toNat)
  case atStart => exact ⟨0, _, rfl, by omega, rfl, Told.nil _ _, Only0.refl _⟩
  case round =>
    obtain ⟨j, u, rfl, hj, rfl, hown, ho⟩ := hrel
    by_cases hlt : j < 64
    · have hc : wr.cell? ⟨r, j, none⟩ = some (.int .i64 (H j)) := IsRef.cell (Only.blk ho HH.out (fun h => h)) j hlt
      have k0 : (0 : Int) ≤ (j : Int) := by omega
      have k2 : (j : Int) < 64 := by omega
      have hal := upto64_len (rP H lo hi) j
      by_cases hin : 0 < H j ∧ lo ≤ (j : Int) ∧ (j : Int) ≤ hi
      · obtain ⟨q0, q1, q2⟩ := hin
        have hp := upto64_yes (p := rP H lo hi) (j := j) (by simp [rP, inR, q0, q1, q2])
        have HS := Lib.hid hp
        generalize upto64 (rP H lo hi) j = acc at *
        generalize H j = n at hc q0
        have hn : (0 : Int) < (n : Int) := by omega
        have hown' : wr.ownsRow w.heap.size 3 1 u acc.length ((toInts acc).map (Value.int .i64)) := hown
        clear hp hown q0
        go_wp2_with (at_builtin; refine wpList_append_own _ rfl _ _ 40 rfl w.heap.size 3 i0 (.int .i64 0) 1 8 Tryd.underlying40 hi' hz0 hz1 hz2 rfl (by decide) _ _ _ rfl (hown'.alloc _) ⟨wr.heap.size, 0, none⟩ 1 1 [.int .i64 (j : Int)] rfl rfl ?c1 ?c2 ?c3 ?c4 ?c5 ?_)
        case c1 =>
          intro j u hj
          match j, hj with
          | 0, hj => simp at hj; subst hj; simp [Addr.add]
        case c2 => intro u hu; simp at hu; subst hu; rfl
        case c3 => unfold maxLen; omega
        case c4 => omega
        case c5 => have := ho.size; simp; omega
        intro v' w3 hown3 hgrow _
        have ho3 : Only0 w w3 := (ho.alloc _).grown hgrow (fun k hk => (hown'.lt k hk).1)
        have T3 : Told w.heap.size v' w3 (upto64 (rP H lo hi) (j + 1)) := by
          rw [HS.out]; unfold Told; simpa [toInts] using hown3
        clear hown' hgrow ho hown3 HS
        go_wp2_with fail
        go_roundw
        case rel => exact ⟨j + 1, _, rfl, by omega, by go_num, T3, ho3⟩
        case measure => simp [intOf]; omega
      · have T3 : Told w.heap.size u wr (upto64 (rP H lo hi) (j + 1)) := by
          rw [upto64_no (by
            rw [← Bool.not_eq_true]; intro hc; simp [rP, inR] at hc; exact hin ⟨hc.1, hc.2.1, hc.2.2⟩)]
          exact hown
        have hd : H j = 0 ∨ (0 < H j ∧ (j : Int) < lo) ∨ (0 < H j ∧ lo ≤ (j : Int) ∧ hi < (j : Int)) := by omega
        generalize H j = n at hc hd
        clear hown hin
        rcases hd with hd | ⟨hd0, hd⟩ | ⟨hd0, hd1, hd2⟩
        · have hn : ¬ (0 : Int) < (n : Int) := by omega
          have hn0 : (n : Int) = 0 := by omega
          rw [hn0] at hc
          clear hn0 hd hn
          go_wp2_with fail
          go_roundw
          case rel => exact ⟨j + 1, _, rfl, by omega, by go_num, T3, ho⟩
          case measure => simp [intOf]; omega
        · have hn : (0 : Int) < (n : Int) := by omega
          go_wp2_with fail
          go_roundw
          case rel => exact ⟨j + 1, _, rfl, by omega, by go_num, T3, ho⟩
          case measure => simp [intOf]; omega
        · have hn : (0 : Int) < (n : Int) := by omega
          go_wp2_with fail
          go_roundw
          case rel => exact ⟨j + 1, _, rfl, by omega, by go_num, T3, ho⟩
          case measure => simp [intOf]; omega
    · obtain rfl : j = 64 := by omega
      have T3 : Told w.heap.size u wr (rangeK H lo hi) := by rw [HR.out]; exact hown
      clear hown
      go_wp2_with fail
      go_ret
      exact ⟨u, rfl, T3, ho⟩

set_option maxRecDepth 100000 in
set_option maxHeartbeats 4000000 in
theorem ref_level_on {w : World} {r : Nat} {H : Nat → Nat} (h : IsRef w r H) (l : Nat) (hl : l < 4) :
    Calls Tryd.prog 17 #[.pointer (some ⟨r, 0, none⟩), .int .i64 ((l : Int) + 1)] w fun e w' => ∃ v, e = .returned v ∧ Told w.heap.size v w' (kl H l) ∧ Only0 w w' := by
  obtain ⟨i0, hi', hz0, hz1, hz2⟩ := info_parts info_int
  have HR := Lib.hid (show kl H l = upto64 (fun k => decide (l < H k)) 64 from rfl)
  have HH := Lib.hid h
  have l1 : (1 : Int) ≤ (l : Int) + 1 := by omega
  have l2 : (l : Int) + 1 ≤ 4 := by omega
  clear h
  obtain ⟨L, hL⟩ : ∃ L : Int, L = (l : Int) + 1 := ⟨_, rfl⟩
  rw [← hL] at l1 l2 ⊢
  have HL := Lib.hid hL
  clear hL
  go_enter Tryd.func17, Tryd.ntmps17
  go_wp2_with fail
  go_loopw [5, 6] (fun u i wr => ∃ (j : Nat) (u0 : Value), u0 = u ∧ j ≤ 64 ∧ i = .int .i64 j ∧ Told w.heap.size u0 wr (upto64 (fun k => decide (l < H k)) j) ∧ Only0 w wr) (fun _ i _ => 64 - (intOf i).toNat)
  case atStart => exact ⟨0, _, rfl, by omega, rfl, Told.nil _ _, Only0.refl _⟩
  case round =>
    obtain ⟨j, u, rfl, hj, rfl, hown, ho⟩ := hrel
    by_cases hlt : j < 64
    · have hc : wr.cell? ⟨r, j, none⟩ = some (.int .i64 (H j)) := IsRef.cell (Only.blk ho HH.out (fun h => h)) j hlt
      have k0 : (0 : Int) ≤ (j : Int) := by omega
      have k2 : (j : Int) < 64 := by omega
      have hal := upto64_len (fun k => decide (l < H k)) j
      by_cases hin : l < H j
      · have hp := upto64_yes (p := fun k => decide (l < H k)) (j := j) (by simp [hin])
        have HS := Lib.hid hp
        have hn : L ≤ (H j : Int) := by rw [HL.out]; omega
        generalize upto64 (fun k => decide (l < H k)) j = acc at *
        generalize H j = n at hc hn
        have hown' : wr.ownsRow w.heap.size 3 1 u acc.length ((toInts acc).map (Value.int .i64)) := hown
        clear hp hown hin
        go_wp2_with (at_builtin; refine wpList_append_own _ rfl _ _ 40 rfl w.heap.size 3 i0 (.int .i64 0) 1 8 Tryd.underlying40 hi' hz0 hz1 hz2 rfl (by decide) _ _ _ rfl (hown'.alloc _) ⟨wr.heap.size, 0, none⟩ 1 1 [.int .i64 (j : Int)] rfl rfl ?c1 ?c2 ?c3 ?c4 ?c5 ?_)
        case c1 =>
          intro j u hj
          match j, hj with
          | 0, hj => simp at hj; subst hj; simp [Addr.add]
        case c2 => intro u hu; simp at hu; subst hu; rfl
        case c3 => unfold maxLen; omega
        case c4 => omega
        case c5 => have := ho.size; simp; omega
        intro v' w3 hown3 hgrow _
        have ho3 : Only0 w w3 := (ho.alloc _).grown hgrow (fun k hk => (hown'.lt k hk).1)
        have T3 : Told w.heap.size v' w3 (upto64 (fun k => decide (l < H k)) (j + 1)) := by
          rw [HS.out]; unfold Told; simpa [toInts] using hown3
        clear hown' hgrow ho hown3 HS
        go_wp2_with fail
        go_roundw
        case rel => exact ⟨j + 1, _, rfl, by omega, by go_num, T3, ho3⟩
        case measure => simp [intOf]; omega
      · have T3 : Told w.heap.size u wr (upto64 (fun k => decide (l < H k)) (j + 1)) := by
          rw [upto64_no (by simp; omega)]; exact hown
        have hn : ¬ L ≤ (H j : Int) := by rw [HL.out]; omega
        generalize H j = n at hc hn
        clear hown hin
        go_wp2_with fail
        go_roundw
        case rel => exact ⟨j + 1, _, rfl, by omega, by go_num, T3, ho⟩
        case measure => simp [intOf]; omega
    · obtain rfl : j = 64 := by omega
      have T3 : Told w.heap.size u wr (kl H l) := by rw [HR.out]; exact hown
      clear hown
      go_wp2_with fail
      go_ret
      exact ⟨u, rfl, T3, ho⟩
set_option maxHeartbeats 1000000 in
theorem ref_level_off {w : World} {r : Nat} (h : Int) (hh : h < 1 ∨ 4 < h) :
    Calls Tryd.prog 17 #[.pointer (some ⟨r, 0, none⟩), .int .i64 h] w fun e w' => e = .returned (.slice none 0 0) ∧ w = w' := by
  have hd : h < 1 ∨ (1 ≤ h ∧ 4 < h) := by omega
  clear hh
  rcases hd with h1 | ⟨h1, h2⟩
  all_goals
    go_enter Tryd.func17, Tryd.ntmps17
    go_wp2_with fail
    refine wp_loop_rounds 1 ?_; rw [rounds_succ]
    go_wp2_with fail
    go_ret
    exact ⟨rfl, rfl⟩

/-- The predicate of a level of a look. -/
def stP (H : Nat → Nat) (key : Int) (l : Nat) (last : Int) (k : Nat) : Bool := decide (l < H k) && decide ((k : Int) < key) && decide (last < (k : Int))
theorem stK_upto (H : Nat → Nat) (key : Int) (l : Nat) (last : Int) : stK H key l last = upto64 (stP H key l last) 64 := rfl
theorem lastOf_snoc (l : List Nat) (k : Nat) (d : Int) : lastOf (l ++ [k]) d = (k : Int) := by simp [lastOf]
theorem lastOf_upto (H : Nat → Nat) (key : Int) (l : Nat) (last : Int) (j : Nat) (h0 : last < (j : Int)) : lastOf (upto64 (stP H key l last) j) last < (j : Int) := by
  unfold lastOf
  cases h : (upto64 (stP H key l last) j).getLast? with
  | none => exact h0
  | some k =>
    have := List.mem_of_getLast? h
    rw [upto64, List.mem_filter, List.mem_range] at this
    simp only; omega
theorem lastOf_lo (H : Nat → Nat) (key : Int) (l : Nat) (last : Int) (j : Nat) : last ≤ lastOf (upto64 (stP H key l last) j) last := by
  unfold lastOf
  cases h : (upto64 (stP H key l last) j).getLast? with
  | none => simp
  | some k =>
    have := List.mem_of_getLast? h
    rw [upto64, List.mem_filter] at this
    have h2 := this.2
    simp [stP] at h2
    simp only; omega

set_option maxRecDepth 100000 in
set_option maxHeartbeats 8000000 in
theorem ref_steps {w : World} {r : Nat} {H : Nat → Nat} (h : IsRef w r H) (key : Int) :
    Calls Tryd.prog 14 #[.pointer (some ⟨r, 0, none⟩), .int .i64 key] w fun e w' => e = .returned (.int .i64 (stepsK H key)) ∧ w = w' := by
  have HH := Lib.hid h
  clear h
  go_enter Tryd.func14, Tryd.ntmps14
  go_wp2_with fail
  go_loop [5, 6, 7] (fun n d i => ∃ (j m : Nat) (last : Int), j ≤ 4 ∧ i = .int .i64 j ∧ n = .int .i64 m ∧ m ≤ 64 * (4 - j) ∧ d = .int .i64 last ∧ -1 ≤ last ∧ last ≤ 63 ∧ Hid (stepsAux H key j m last = stepsK H key)) (fun _ _ i => (intOf i).toNat)
  case atStart => exact ⟨4, 0, -1, by omega, rfl, rfl, by omega, rfl, by omega, by omega, Lib.hid rfl⟩
  case round =>
    obtain ⟨j, m, last, hj, rfl, rfl, hm, rfl, d1, d2, HS⟩ := hrel
    by_cases hlt : 0 < j
    · obtain ⟨l, hl⟩ : ∃ l, j = l + 1 := ⟨j - 1, by omega⟩
      have hbd := lastOf_bd H key l last d1 d2
      have hkl := stK_len H key l last
      have HN : Hid (stepsAux H key l (m + (stK H key l last).length) (lastOf (stK H key l last) last) = stepsK H key) := Lib.hid (by have := HS.out; rw [hl] at this; exact this)
      rw [stK_upto] at hbd HN hkl
      have HB := Lib.hid hbd
      have HL := Lib.hid hl
      have HK := Lib.hid hkl
      clear hbd HS hl hkl
      have j1 : (1 : Int) ≤ (j : Int) := by omega
      go_wp2_with fail
      go_loop [5, 6, 8] (fun n d i => ∃ (k m2 : Nat) (la : Int), k ≤ 64 ∧ i = .int .i64 k ∧ m2 ≤ m + 64 ∧ n = .int .i64 m2 ∧ d = .int .i64 la ∧ Hid (m2 = m + (upto64 (stP H key l last) k).length ∧ la = lastOf (upto64 (stP H key l last) k) last)) (fun _ _ i => 64 - (intOf i).toNat)
      case atStart => exact ⟨0, m, last, by omega, rfl, by omega, rfl, rfl, Lib.hid ⟨rfl, rfl⟩⟩
      case round =>
        obtain ⟨k, m2, la, hk, rfl, hm2, rfl, rfl, HX⟩ := hrel
        by_cases hlk : k < 64
        · have hc := HH.out.cell k hlk
          have k0 : (0 : Int) ≤ (k : Int) := by omega
          have k2 : (k : Int) < 64 := by omega
          cases hp : stP H key l last k with
          | true =>
            have hp' := hp
            simp only [stP, Bool.and_eq_true, decide_eq_true_eq] at hp'
            obtain ⟨⟨p1, p2⟩, p3⟩ := hp'
            have HX2 : Hid (m2 + 1 = m + (upto64 (stP H key l last) (k + 1)).length ∧ (k : Int) = lastOf (upto64 (stP H key l last) (k + 1)) last) := Lib.hid (by
              rw [upto64_yes hp, lastOf_snoc, List.length_append]
              exact ⟨by have := HX.out.1; simp; omega, rfl⟩)
            have hup := upto64_len (stP H key l last) (k + 1)
            have hm3 : m2 + 1 ≤ m + 64 := by have := HX2.out.1; omega
            have g1 : (j : Int) ≤ (H k : Int) := by have := HL.out; omega
            have g1n : j ≤ H k := by omega
            have g3 : la < (k : Int) := by rw [HX.out.2]; exact lastOf_upto H key l last k p3
            generalize H k = n at hc g1 g1n p1
            clear hp p1 p3 HX hup
            go_wp2_with fail
            go_round
            case rel => exact ⟨k + 1, m2 + 1, (k : Int), by omega, by go_num, by omega, by go_num, rfl, HX2⟩
            case measure => simp [intOf]; omega
          | false =>
            have hp' : ¬ l < H k ∨ (l < H k ∧ ¬ (k : Int) < key) ∨ (l < H k ∧ (k : Int) < key ∧ ¬ last < (k : Int)) := by
              rw [← Bool.not_eq_true] at hp
              simp only [stP, Bool.and_eq_true, decide_eq_true_eq] at hp
              by_cases c1 : l < H k
              · by_cases c2 : (k : Int) < key
                · exact .inr (.inr ⟨c1, c2, fun c3 => hp ⟨⟨c1, c2⟩, c3⟩⟩)
                · exact .inr (.inl ⟨c1, c2⟩)
              · exact .inl c1
            have HX2 : Hid (m2 = m + (upto64 (stP H key l last) (k + 1)).length ∧ la = lastOf (upto64 (stP H key l last) (k + 1)) last) := Lib.hid (by
              rw [upto64_no hp]; exact HX.out)
            have hlo : last ≤ la := by rw [HX.out.2]; exact lastOf_lo H key l last k
            have hjl := HL.out
            have hp2 : ((H k : Int) < (j : Int)) ∨ ((j : Int) ≤ (H k : Int) ∧ key ≤ (k : Int)) ∨ ((j : Int) ≤ (H k : Int) ∧ (k : Int) < key ∧ (k : Int) ≤ la) := by omega
            generalize H k = n at hc hp2
            clear hp hp' HX hlo hjl
            rcases hp2 with g | ⟨g, g2⟩ | ⟨g, g2, g3⟩
            · have gn : ¬ j ≤ n := by omega
              go_wp2_with fail
              go_round
              case rel => exact ⟨k + 1, m2, la, by omega, by go_num, hm2, rfl, rfl, HX2⟩
              case measure => simp [intOf]; omega
            · have gn : j ≤ n := by omega
              go_wp2_with fail
              go_round
              case rel => exact ⟨k + 1, m2, la, by omega, by go_num, hm2, rfl, rfl, HX2⟩
              case measure => simp [intOf]; omega
            · have gn : j ≤ n := by omega
              go_wp2_with fail
              go_round
              case rel => exact ⟨k + 1, m2, la, by omega, by go_num, hm2, rfl, rfl, HX2⟩
              case measure => simp [intOf]; omega
        · have e64 : (k : Int) = 64 := by omega
          rw [e64]; clear e64
          have hx := HX.out
          obtain rfl : k = 64 := by omega
          have b1 := HB.out
          rw [← hx.2] at b1
          have HN2 : Hid (stepsAux H key l m2 la = stepsK H key) := Lib.hid (by rw [hx.1, hx.2]; exact HN.out)
          have hk64 := HK.out
          have hjl := HL.out
          have hm4 : m2 ≤ 64 * (4 - l) := by have := hx.1; omega
          clear hx HX HN HB HK HL
          have ej : (j : Int) - 1 = (l : Int) := by omega
          have HE := Lib.hid ej
          clear ej hjl
          go_wp2_with fail
          go_round
          case rel => exact ⟨l, m2, la, by have := HE.out; omega, by rw [HE.out], rfl, hm4, rfl, b1.1, b1.2, HN2⟩
          case measure => simp [intOf] <;> omega
    · obtain rfl : j = 0 := by omega
      have E : m = stepsK H key := HS.out
      have HE := Lib.hid E
      clear E HS
      go_wp2_with fail
      go_ret
      exact ⟨ret_int (by rw [HE.out]), rfl⟩
end Go.Proofs.YtoemmnojgfnmiaaDoor

/-
  ArenaLent: what an Arena tells of its words, and a Copy, is no part of it.
-/
import Derived.Test.YtkcdadmoaeeadaaLaw2c
import Derived.Deep.RegionHeld3
namespace Go.Proofs.Ytkcdadmoaeeadaa
open Go.RowKit
set_option linter.unusedVariables false

/-- l's first k numbers, and noughts up to n. -/
def fillw (l : List Int) (n k : Nat) : List Int := l.take k ++ List.replicate (n - k) 0
theorem fillw_len {l : List Int} {n k : Nat} (h : k ≤ n) (h' : n ≤ l.length) : (fillw l n k).length = n := by simp [fillw]; omega
theorem fillw_zero (l : List Int) (n : Nat) : fillw l n 0 = List.replicate n 0 := by simp [fillw]
theorem fillw_all (l : List Int) (n : Nat) : fillw l n n = l.take n := by simp [fillw]
theorem fillw_set {l : List Int} {n k : Nat} (h : k < n) (h' : n ≤ l.length) : (fillw l n k).set k (l.getD k 0) = fillw l n (k + 1) := by
  apply List.ext_getElem?
  intro j
  simp only [fillw, List.getElem?_set, List.getElem?_append, List.length_append, List.length_take, List.length_replicate, List.getElem?_take, List.getElem?_replicate, List.getD_eq_getElem?_getD]
  rw [List.getElem?_eq_getElem (show k < l.length by omega)]
  by_cases hj : k = j
  · subst hj
    have e1 : k < min k l.length + (n - k) := by omega
    have e2 : k < min (k + 1) l.length := by omega
    simp [e1, e2]
  · rw [if_neg hj]
    by_cases hlt : j < k
    · have e1 : j < min k l.length := by omega
      have e2 : j < min (k + 1) l.length := by omega
      simp [e1, e2, hlt, show j < k + 1 by omega]
    · have e1 : ¬ j < min k l.length := by omega
      have e2 : ¬ j < min (k + 1) l.length := by omega
      have e3 : (j - min k l.length < n - k) = (j - min (k + 1) l.length < n - (k + 1)) := by rw [eq_iff_iff]; omega
      simp only [e1, e2, if_false, e3]

theorem not_two {a b c : Nat} (h : c ≠ a) (h' : c ≠ b) : ¬ Two a b c := fun hh => hh.elim h h'
theorem Ints.take {k : IntKind} {w : World} {a : Option Addr} {zs : List Int} (h : Ints k w a zs) (n : Nat) : Ints k w a (zs.take n) := by
  rcases h with rfl | ⟨b, off, rfl, hc⟩
  · left; simp
  · right
    refine ⟨b, off, rfl, fun i hi => ?_⟩
    rw [hc i (by simp at hi; omega)]
    congr 2
    simp at hi
    simp [List.getD_eq_getElem?_getD, show i < n by omega]
theorem IsArena.drewN {w : World} {a b : Nat} {s : AS} (h : IsArena w a b s) (n : Nat) : IsArena (w.drewN n) a b s := ⟨h.head, h.words, h.ne, h.len⟩
theorem u64s_at {ws : List Int} {i : Nat} (h : i < ws.length) : (ws.map (Value.int .u64)).toArray[i]? = some (.int .u64 (ws.getD i 0)) := by
  rw [List.getElem?_toArray, List.getElem?_map, List.getElem?_eq_getElem h, List.getD_eq_getElem?_getD, List.getElem?_eq_getElem h]; rfl

set_option maxRecDepth 100000 in
set_option maxHeartbeats 4000000 in
theorem arenaLent_walk (a : Option Addr) (c : Nat) (l : List Int) (at_ : Int) (w : World) (hl : Ints .u64 w a l) (hwf : ∀ n ∈ l, (Lit.int .u64 n).wf = true) (hr : l.length * 8 ≤ 140737488351232) (_h1 : l.length ≤ c) (_h2 : c ≤ 9223372036854775807) (_h0 : (Lit.int .i64 at_).wf = true) :
    Calls Try.prog 9 #[.slice a l.length c, .int .i64 at_] w fun e w' => e = .returned (.bool true) ∧ Below w.heap.size w w' := by
  obtain ⟨n, hmin, hn1, hn2, hn3⟩ := min_named l.length 30
  rw [show ((30 : Nat) : Int) = 30 from rfl] at hmin
  by_cases hz : n = 0
  · subst hz
    go_enter Try.func9, Try.ntmps9
    go_wp2_with fail
    refine (awake2_any _).mono ?_
    rintro e w6 ⟨rfl, b6⟩
    go_wp2_with fail
    go_ret
    exact ⟨rfl, b6⟩
  have hz' : ¬ (n : Int) = 0 := by omega
  obtain ⟨kk, hkk, hkn⟩ : ∃ kk : Nat, (at_ % 256).tmod (n : Int) = (kk : Int) ∧ kk < n := by
    refine ⟨((at_ % 256) % (n : Int)).toNat, ?_, ?_⟩
    · rw [Int.tmod_eq_emod_of_nonneg (by omega)]
      have := Int.emod_nonneg (at_ % 256) hz'
      omega
    · have h1 := Int.emod_nonneg (at_ % 256) hz'
      have h2 := Int.emod_lt_of_pos (at_ % 256) (show 0 < (n : Int) by omega)
      omega
  have hm := i64_and255 at_
  have hkw : IntKind.i64.wrap (kk : Int) = (kk : Int) := IntWalk.i64_in _ (by omega)
  obtain ⟨b, off, rfl, hc⟩ := hl.at (by omega)
  have hbw := block_lt_of_cell (hc kk (by omega))
  go_enter Try.func9, Try.ntmps9
  go_wp2_with fail
  refine (arena_new n (by omega) (by omega) w).mono ?_
  rintro e w1 ⟨rfl, h1, hb, hs⟩
  have H1 : IsArena w1 (w.heap.size + 1) w.heap.size ⟨fillw l n 0, 0⟩ := by rw [fillw_zero]; exact h1
  replace hs : w.heap.size + 2 ≤ w1.heap.size := by omega
  clear h1
  go_wp2_with fail
  clear hmin
  have HC := Lib.hid hc
  have HT := Lib.hid (show ∀ wx, Below w.heap.size w wx → Ints .u64 wx (some ⟨b, off, none⟩) (l.take n) from fun wx hb => (hl.below hb).take n)
  have HM := Lib.hid hm
  clear hc hm hl
  go_loopw [8] (fun i wr => ∃ (k : Nat), k ≤ n ∧ i = .int .i64 k ∧ IsArena wr (w.heap.size + 1) w.heap.size ⟨fillw l n k, k⟩ ∧ Below w.heap.size w wr ∧ w.heap.size + 2 ≤ wr.heap.size) (fun i _ => n - (intOf i).toNat)
  case atStart => exact ⟨0, by omega, rfl, H1, hb, hs⟩
  case round =>
    obtain ⟨k, hk, rfl, hA, hbel, hsz⟩ := hrel
    have hlen := fillw_len hk hn1
    by_cases hlt : k < n
    · have hc0 := HC.out k (by omega)
      have hc1 := (hbel.cell (p := ⟨b, off + k, none⟩) hbw).trans hc0
      have P := fun x => p_store hA (by omega) (by omega) (k : Int) x (by omega) (by rw [hlen]; omega)
      simp only [Int.toNat_natCast] at P
      have P1 := P (l.getD k 0)
      rw [fillw_set hlt hn1] at P1
      generalize l.getD k 0 = x at hc1 P1 hc0
      clear P hc0
      go_wp2_with fail
      refine P1.mono ?_
      rintro e w2 ⟨rfl, h2, o2⟩
      have b2 := hbel.trans (o2.belowTwo w.heap.size (by omega) (by omega) (by omega))
      have z2 := o2.size
      go_wp2_with fail
      go_roundw
      case rel => exact ⟨k + 1, by omega, by go_num, by simpa using h2, b2, by omega⟩
      case measure => simp [intOf]; omega
    · have hkn : k = n := by omega
      subst hkn
      rw [fillw_all] at hA hlen
      have hm := HM.out
      have hck := HC.out kk (by omega)
      have hx := hck
      obtain ⟨x, hxe⟩ : ∃ x, x = l.getD kk 0 := ⟨_, rfl⟩
      have hgx : (l.take k).getD kk 0 = x := by rw [hxe]; simp [List.getD_eq_getElem?_getD, hkn]
      rw [← hxe] at hck
      have hxb : 0 ≤ x ∧ x ≤ 18446744073709551615 := by rw [hxe]; exact bounds_u64 (hwf _ (by rw [List.getD_eq_getElem?_getD, List.getElem?_eq_getElem (by omega)]; exact List.getElem_mem _))
      obtain ⟨hx0, hx1⟩ := hxb
      have HG := Lib.hid hgx
      have HL := Lib.hid hlen
      clear hlt hk hx hxe hgx hlen
      go_wp2_with fail
      refine (arena_words hA).mono ?_
      rintro e w2 ⟨cw, rfl, hcw, hB2, o2⟩
      have hA2 := hA.only (Below.only o2) (by omega) (by omega)
      have b2 := hbel.trans (o2.mono (by omega))
      have z2 := o2.size
      have l2 := hB2.lt
      go_wp2_with fail
      refine (arena_copy hA2).mono ?_
      rintro e w3 ⟨a3, c3, rfl, ha3, hc3, hC, o3⟩
      have hA3 := hA2.only (Below.only o3) (by omega) (by omega)
      have hB3 := (Below.only o3).blk hB2 (by omega)
      have b3 := b2.trans (o3.mono (by omega))
      have z3 := o3.size
      have hcw0 := hB3.cell kk
      have hcw1 : w3.cell? ⟨cw, kk, none⟩ = some (.int .u64 x) := by
        rw [hcw0, ← HG.out]; exact u64s_at (by rw [HL.out]; exact hkn)
      have hfr := hB3.free kk
      clear hcw0 hA hA2 hB2
      have hC4 := hC.other ⟨cw, kk, none⟩ (.int .u64 (IntKind.u64.wrap (x + 1))) (by simp; omega) (by simp; omega)
      have hA4 := hA3.other ⟨cw, kk, none⟩ (.int .u64 (IntKind.u64.wrap (x + 1))) (by simp; omega) (by simp; omega)
      have b4 := b3.setCell (p := ⟨cw, kk, none⟩) (by simp; omega) (.int .u64 (IntKind.u64.wrap (x + 1)))
      have z4 : (w3.setCell ⟨cw, kk, none⟩ (.int .u64 (IntKind.u64.wrap (x + 1)))).heap.size = w3.heap.size := by simp
      have PA := p_add hC4 (by omega) (by omega) (kk : Int) 5 (by omega) (by have := HL.out; omega)
      simp only [Int.toNat_natCast, HG.out] at PA
      go_wp2_with fail
      refine PA.mono ?_
      rintro e w5 ⟨rfl, hC5, o5⟩
      have hA5 := hA4.only o5 (not_two (by omega) (by omega)) (not_two (by omega) (by omega))
      have b5 := b4.trans (o5.belowTwo w.heap.size (by omega) (by omega) (by omega))
      have z5 := o5.size
      have hl5 := (b5.cell (p := ⟨b, off + kk, none⟩) hbw).trans hck
      clear PA hC4 hA4 hcw1 hfr hB3 hA3 hC
      go_wp2_with fail
      have hA6 := hA5.drew
      have B6 := b5.drew
      have Hl6 : w5.drew.cell? ⟨b, off + kk, none⟩ = some (.int .u64 x) := hl5
      have hC6 := hC5.drew
      have g1 : (0 : Int) ≤ (k : Int) := by omega
      have g2 : (k : Int) ≤ (l.length : Int) := by omega
      have g3 : (k : Int) ≤ (c : Int) := by omega
      have g4 : (l.length : Int) ≤ (c : Int) := by omega
      have g5 : (0 : Int) ≤ (kk : Int) := by omega
      have g6 : (kk : Int) < (l.length : Int) := by omega
      have g7 : IntKind.i64.wrap ((k : Int) + 1) = (k : Int) + 1 := IntWalk.i64_in _ (by omega)
      have hT : ∀ wx, Below w.heap.size w wx → Ints .u64 wx (some ⟨b, off, none⟩) (l.take k) := fun wx hb => HT.out wx hb
      have HT' := Lib.hid hT
      clear hT
      have hs3 : ((l.take k).set kk ((x + 5) % 18446744073709551616)).getD kk 0 = (x + 5) % 18446744073709551616 := by
        rw [List.getD_eq_getElem?_getD, List.getElem?_set_self (by rw [HL.out]; exact hkn)]; rfl
      have hs4 : ((l.take k).set kk ((x + 5) % 18446744073709551616)).length = k := by rw [List.length_set, HL.out]
      have HS := Lib.hid hs3
      have HS4 := Lib.hid hs4
      have HLL := Lib.hid (show (l.take k).length ≤ 1000000000 by rw [HL.out]; omega)
      clear hs3 hs4
      go_region_held3 (fun w' => w'.cell? ⟨b, off + kk, none⟩ = some (.int .u64 x)) (go_keep)
        (first
          | (go_at_call 23; refine (arena_words hA6).mono ?_; rintro e w6 ⟨cc, rfl, hcc, hB6, o6⟩
             have i6 := Ints.of_blk hB6
             have b6 := B6.trans (o6.mono (by simp; omega))
             have j6 := HT'.out _ b6
             have z6 : w.heap.size ≤ w6.heap.size := b6.size
             have Hl7 := (o6.cell (p := ⟨b, off + kk, none⟩) (block_lt_of_cell Hl6)).trans Hl6
             have hA7 := hA6.only (Below.only o6) (by have := hA6.head.lt; omega) (by have := hA6.words.lt; omega)
             have hC7 := hC6.only (Below.only o6) (by have := hC6.head.lt; omega) (by have := hC6.words.lt; omega)
             have PS := same_any _ _ k c (l.take k) (l.take k) w6 i6 j6 HLL.out HLL.out
             rw [decide_eq_true rfl, HL.out] at PS)
          | (go_at_call 22; refine PS.mono ?_; rintro e w7 ⟨rfl, nd, rfl⟩
             have HK := (hA7.drewN nd)
             have HKC := (hC7.drewN nd)
             have PL := p_load HKC (by omega) (by omega) (kk : Int) (by omega) (by rw [HS4.out]; omega)
             simp only [Int.toNat_natCast] at PL
             rw [HS.out] at PL
             have Hl8 : (w6.drewN nd).cell? ⟨b, off + kk, none⟩ = some (.int .u64 x) := Hl7)
          | (go_at_call 17; refine (arena_count HK).mono ?_; rintro e w8 ⟨rfl, rfl⟩)
          | (go_at_call 17; refine (arena_count HKC).mono ?_; rintro e w8 ⟨rfl, rfl⟩)
          | (go_at_call 14; refine PL.mono ?_; rintro e w9 ⟨rfl, hC9, o9⟩
             have b9 := (below_drewN b6 nd).trans (o9.belowTwo w.heap.size z6 (by omega) (by omega))
             have z9 := b9.size
             have Hl9 := (b9.cell (p := ⟨b, off + kk, none⟩) hbw).trans hck)
          | (go_at_call 15; refine (awake2_any _).mono ?_; rintro e w10 ⟨rfl, b10⟩
             have Hl10 := (b10.cell (p := ⟨b, off + kk, none⟩) (block_lt_of_cell Hl9)).trans Hl9))
      go_wp2_with fail
      go_ret
      exact ⟨rfl, b9.trans (b10.mono z9)⟩
end Go.Proofs.Ytkcdadmoaeeadaa

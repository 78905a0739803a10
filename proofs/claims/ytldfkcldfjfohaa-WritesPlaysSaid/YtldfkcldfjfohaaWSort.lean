/-
  slices.Clone, Clip, SortFunc over Pairs.
-/
import Derived.Test.YtldfkcldfjfohaaWDel
import Derived.Test.YtldfkcldfjfohaaShelf
import Derived.Lib.Walk
namespace Go.Proofs.Ytldfkcldfjfohaa
open Go.RowKit Go.Sort
attribute [local go_sem ↓] Go.wp_at_zero Go.wp_at_succ
set_option linter.unusedVariables false
set_option linter.unusedSimpArgs false

theorem pairCells_one : ∀ (ps : PL), ∀ u ∈ pairCells ps, u.oneCell' = true
  | [], u, hu => by cases hu
  | p :: ps, u, hu => by
    simp only [pairCells, List.mem_cons] at hu
    rcases hu with rfl | rfl | hu
    · rfl
    · rfl
    · exact pairCells_one ps u hu
set_option maxHeartbeats 2000000 in
theorem clone_pairs (a : Option Addr) (c : Nat) (ps : PL) (w : World) (hx : PairsIn w a ps) (hlen : ps.length ≤ 1000000) :
    Calls Try.prog 22 #[.slice a ps.length c] w fun e w' => ∃ a' c', e = .returned (.slice a' ps.length c') ∧ w'.ownsRow w.heap.size 31 2 (.slice a' ps.length c') ps.length (pairCells ps) ∧ Only0 w w' := by
  have q : ∀ (w : World) (a : Option Addr) (n c n' c' : Nat), (binOp .eql 32 (.slice a n c) (.slice none n' c')).run Try.prog w = .ok (.bool a.isNone) w := fun w a n c n' c' => Lib.run_eql_slice_nil w _ _ a n c n' c' Try.underlying32
  cases a with
  | none =>
    have hps : ps = [] := by
      rcases hx with h | ⟨b, off, h, _⟩
      · exact h
      · cases h
    subst hps
    clear hx
    go_enter Try.func22, Try.ntmps22
    go_wp2_with fail
    go_ret
    exact ⟨none, 0, rfl, World.ownsRow_nil _ _ _ _, Only0.refl w⟩
  | some ad =>
    obtain ⟨i0, hi, hz0, hz1, hz2⟩ := info_parts info_pair
    have A : ∀ j u, (pairCells ps)[j]? = some u → w.cell? (ad.add j) = some u := by
      intro j u hj
      have hjl : j < ps.length * 2 := by have := (List.getElem?_eq_some_iff.1 hj).1; rwa [pairCells_len] at this
      obtain ⟨b', off', e, h⟩ := hx.at (by omega)
      obtain rfl : ad = ⟨b', off', none⟩ := by simpa using e
      rw [Addr.add_lit]
      have G := pairCells_get ps (j / 2) (by omega)
      have H := h (j / 2) (by omega)
      have : j = j / 2 * 2 ∨ j = j / 2 * 2 + 1 := by omega
      rcases this with e | e
      · rw [e] at hj ⊢; rw [G.1] at hj; rw [← hj]; exact H.1
      · rw [e] at hj ⊢; rw [G.2] at hj; rw [← hj]; exact H.2
    have A' := Lib.hid A
    clear A hx
    go_enter Try.func22, Try.ntmps22
    go_wp2_with (at_builtin; refine wpList_append_own _ rfl _ _ 32 rfl w.heap.size 31 i0 (.agg #[.int .i64 0, .int .i64 0]) 2 16 Try.underlying32 hi hz0 hz1 hz2 rfl (by decide) _ _ _ rfl (World.ownsRow_made w #[] 0 (Nat.le_refl _) (Nat.zero_le _) rfl) ad ps.length c (pairCells ps) rfl ?qc1 ?qc2 ?qc3 ?qc4 ?qc5 ?qc6 ?_)
    case qc1 => rw [pairCells_len]
    case qc2 => intro j u hj; exact Lib.cell?_alloc_some _ (A'.out j u hj)
    case qc3 => exact pairCells_one ps
    case qc4 => unfold maxLen; omega
    case qc5 => omega
    case qc6 => simp
    intro v' w1 hown hgrow hnil
    go_wp2
    go_ret
    have hown' : w1.ownsRow w.heap.size 31 2 v' ps.length (pairCells ps) := by simpa using hown
    have o1 : Only0 w w1 := ((Only0.refl w).alloc _).grown hgrow (fun k hk => by simp [Value.ownBlock] at hk; omega)
    rcases hown'.2 with ⟨h0, _⟩ | ⟨g, cap, cur, rfl, _⟩
    · exact absurd h0 hnil
    · exact ⟨_, cap, rfl, hown', o1⟩

set_option maxHeartbeats 2000000 in
theorem clip_pairs (a : Option Addr) (n c : Nat) (w : World) (h : n ≤ c) (hc : c ≤ 9223372036854775807) :
    Calls Try.prog 26 #[.slice a n c] w fun e w' => e = .returned (.slice a n n) ∧ w = w' := by
  go_enter Try.func26, Try.ntmps26
  go_wp2_with fail
  go_ret
  exact ⟨rfl, rfl⟩

def encP (x : Int × Int) : List Value := [.int .i64 x.1, .int .i64 x.2]
def cmpP (x y : Int × Int) : Int := if x.1 < y.1 then -1 else 1
theorem ltP (x y : Int × Int) : ltOf cmpP x y = decide (x.1 < y.1) := by
  unfold ltOf cmpP
  by_cases h : x.1 < y.1 <;> simp [h]
theorem swoP : SWO (ltOf cmpP) where
  irrefl x := by rw [ltP]; simp
  trans x y z h1 h2 := by rw [ltP] at *; simp at *; omega
  ntrans x y z h1 h2 := by rw [ltP] at *; simp at *; omega
theorem flat_pairs (d : Array (Int × Int)) : (flatK encP 2 d).toList = pairCells d.toList := by
  apply List.ext_getElem?
  intro t
  by_cases ht : t < d.size * 2
  · rw [Array.getElem?_toList, Array.getElem?_eq_getElem (by simpa using ht), ← getElem!_pos (flatK encP 2 d) t (by simpa using ht), get_flatK encP 2 d t ht]
    have G := pairCells_get d.toList (t / 2) (by simp; omega)
    have e0 : d.toList.getD (t / 2) (0, 0) = d[t / 2]! := by
      rw [getElem!_pos d (t / 2) (by omega)]
      simp [List.getD_eq_getElem?_getD, show t / 2 < d.size by omega]
    rw [e0] at G
    have : t % 2 = 0 ∨ t % 2 = 1 := by omega
    rcases this with e | e
    · rw [e, show t = t / 2 * 2 by omega, G.1]; simp [encP]
    · rw [e, show t = t / 2 * 2 + 1 by omega, G.2, show (t / 2 * 2 + 1) / 2 = t / 2 by omega]; simp [encP]
  · rw [List.getElem?_eq_none (by simp; omega), List.getElem?_eq_none (by rw [pairCells_len]; simp; omega)]
theorem cmp_enter (args : Array Value) (w : World) : (callFunc 25 args).run Try.prog w = .ok (.enter 25 args) w := enters_of Try.func25 (by kernel_rfl) rfl args w
/-- The world behind a sort: the row's block alone is turned. -/
theorem sort_only {w : World} {g n : Nat} {d' : Array (Int × Int)} {os : Array Obj} {cur : Array Value} (hb : Blk w g 31 cur) (hs : d'.size * 2 ≤ cur.size) :
    Only (fun b => b = g) w (sortWorldK encP 2 w g 0 n d' os) ∧ ∃ cs', Blk (sortWorldK encP 2 w g 0 n d' os) g 31 cs' ∧ cs'.size = cur.size ∧ cs'.toList.take (d'.size * 2) = pairCells d'.toList := by
  have hlt := hb.lt
  refine ⟨⟨rfl, rfl, rfl, ?_, fun k hk hn => ?_⟩, putCells id 0 (flatK encP 2 d') cur, ?_, by simp [putCells], ?_⟩
  · simp [sortWorldK, putRowK, putRow, mapBlock]
  · unfold sortWorldK
    rw [heap_grow_old _ _ (by simp [putRowK, putRow, mapBlock]; exact hk)]
    simp only [putRowK, putRow, mapBlock, heap_ahead, Array.getElem?_modify]
    rw [if_neg (fun e => hn e.symm)]
  · show (sortWorldK encP 2 w g 0 n d' os).heap[g]? = _
    unfold sortWorldK
    rw [heap_grow_old _ _ (by simp [putRowK, putRow, mapBlock]; exact hlt)]
    simp only [putRowK, putRow, mapBlock, heap_ahead, Array.getElem?_modify, if_true]
    have : w.heap[g]? = some (.cells cur 31 (0, 0)) := hb
    rw [this]
    rfl
  · rw [← flat_pairs]
    apply List.ext_getElem?
    intro t
    by_cases ht : t < d'.size * 2
    · rw [List.getElem?_take_of_lt ht, Array.getElem?_toList, Array.getElem?_toList, Array.getElem?_eq_getElem (xs := flatK encP 2 d') (by simpa using ht)]
      unfold putCells
      rw [Array.getElem?_mapIdx, Array.getElem?_eq_getElem (by omega)]
      simp only [Option.map_some]
      rw [if_pos (by simp; exact ht)]
      simp only [id, Nat.sub_zero]
      rw [getElem!_pos _ t (by simpa using ht)]
    · rw [List.getElem?_eq_none (by simp; omega), List.getElem?_eq_none (by simp; omega)]

set_option maxHeartbeats 2000000 in
theorem sort_pairs {BR : Nat} {w : World} (a : Option Addr) (c : Nat) (l : PL) (hown : w.ownsRow BR 31 2 (.slice a l.length c) l.length (pairCells l)) (hlen : l.length ≤ 1000000) :
    Calls Try.prog 24 #[.slice a l.length c, .func (.func 25) #[] #[]] w fun e w' => e = .returned (.tuple #[]) ∧ ∃ o : PL, o.Perm l ∧ o.Pairwise (fun x y => ¬ y.1 < x.1) ∧ w'.ownsRow BR 31 2 (.slice a l.length c) l.length (pairCells o) ∧ Only (fun x => BR ≤ x) w w' := by
  by_cases h0 : l.length = 0
  · have hl := List.eq_nil_of_length_eq_zero h0
    subst hl
    refine (AnyF.slices_SortFunc_none Try.sortPair a c _ w).mono ?_
    rintro e w' ⟨rfl, rfl⟩
    exact ⟨rfl, [], List.Perm.refl _, List.Pairwise.nil, hown, Only.refl _ _⟩
  · obtain ⟨g, cap, cur, hv, hg, hgb, hnc, hcm, hcs, hct⟩ : ∃ g cap cur, Value.slice a l.length c = .slice (some ⟨g, 0, none⟩) l.length cap ∧ BR ≤ g ∧ w.heap[g]? = some (.cells cur 31 (0, 0)) ∧ l.length ≤ cap ∧ cap ≤ maxLen ∧ cur.size = cap * 2 ∧ cur.toList.take (l.length * 2) = pairCells l := by
      rcases hown.2 with ⟨_, h0'⟩ | h
      · omega
      · exact h
    injection hv with hv1 hv2 hv3
    subst hv1 hv3
    have hb : Blk w g 31 cur := hgb
    have hH : HoldsK encP 2 w g 0 l.toArray := by
      intro j hj
      have hj' : j < l.length * 2 := by simpa using hj
      have e : (flatK encP 2 l.toArray)[j]! = cur[j]'(by omega) := by
        have h1 : (flatK encP 2 l.toArray).toList[j]? = (pairCells l)[j]? := by rw [flat_pairs]
        rw [← hct, List.getElem?_take_of_lt hj', Array.getElem?_toList, Array.getElem?_toList, Array.getElem?_eq_getElem hj, Array.getElem?_eq_getElem (by omega)] at h1
        rw [getElem!_pos _ j hj]
        exact Option.some.inj h1
      refine ⟨?_, hb.free _⟩
      rw [Nat.zero_add, hb.cell, Array.getElem?_eq_getElem (by omega), e]
      rfl
    have CMP : CmpLays Try.prog 25 #[] encP 2 cmpP g 0 l.toArray.size w := fun m os dk hdk x y => (cmp_fn x y _).mono fun e w' ⟨he, n, o1, o2, hw⟩ => ⟨he, n, #[o1, o2], by
      rw [hw, alloc_eq_grow, alloc_eq_grow, grow_grow]
      rfl⟩
    have H := AnyQ.slices_SortFunc Try.sortPair 2 (fun w => by kernel_rfl) (fun w => by kernel_rfl) encP (fun _ => rfl) (fun x v hv => by simp [encP] at hv; rcases hv with rfl | rfl <;> rfl) cmpP swoP 25 #[] g 0 c l.toArray w (fun args w => cmp_enter args w) CMP hH hb.lt (by simp; omega)
    refine (show Calls Try.prog 24 #[.slice (some ⟨g, 0, none⟩) l.length c, .func (.func 25) #[] #[]] w _ from H).mono ?_
    rintro e w' ⟨rfl, d', n, os, ⟨p1, p2, p3⟩, hsrt, rfl⟩
    have hd : d'.size = l.length := by simpa using p1
    obtain ⟨o1, cs', b1, b2, b3⟩ := sort_only (n := n) (os := os) (d' := d') hb (by omega)
    refine ⟨rfl, d'.toList, ?_, ?_, ⟨by rw [pairCells_len]; simp [hd], .inr ⟨g, c, cs', rfl, hg, b1, hnc, hcm, by omega, by rw [← hd]; exact b3⟩⟩, o1.toward (fun x hx => by subst hx; exact hg)⟩
    · have e1 : d'.extract 0 l.toArray.size = d' := by rw [show l.toArray.size = d'.size by simp [hd]]; simp
      have e2 : l.toArray.extract 0 l.toArray.size = l.toArray := by simp
      rw [e1, e2] at p3
      exact p3
    · rw [List.pairwise_iff_getElem]
      intro i j hi hj hij
      have hi' : i < d'.size := by simpa using hi
      have hj' : j < d'.size := by simpa using hj
      have := hsrt i j (Nat.zero_le _) hij (by simp; omega)
      rw [ltP, getElem!_pos d' j hj', getElem!_pos d' i hi'] at this
      simp only [decide_eq_false_iff_not] at this
      simpa using this
end Go.Proofs.Ytldfkcldfjfohaa

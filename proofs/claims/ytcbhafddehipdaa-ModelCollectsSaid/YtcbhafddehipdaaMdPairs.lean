/-
  model.Model: Pairs; vinculumref1.SamePairs.
-/
import Derived.Test.YtcbhafddehipdaaMdBegin3
namespace Go.Proofs.Ytcbhafddehipdaa
open Go.RowKit
set_option linter.unusedVariables false
set_option linter.unusedSimpArgs false

def St.pairAt (s : St) (at_ : Int) (k : Nat) : Option (Int × Int) := (s.at k at_).map fun i => ((k : Int), (s.ver i).value)
theorem pairs_eq (s : St) (at_ : Int) : s.pairs at_ = (List.range 64).filterMap (s.pairAt at_) := rfl
theorem pairsTo_none {s : St} {at_ : Int} {q : Nat} (h : s.at q at_ = none) : (List.range (q + 1)).filterMap (s.pairAt at_) = (List.range q).filterMap (s.pairAt at_) := by
  rw [List.range_succ, List.filterMap_append]; simp [St.pairAt, h]
theorem pairsTo_some {s : St} {at_ : Int} {q i : Nat} (h : s.at q at_ = some i) : (List.range (q + 1)).filterMap (s.pairAt at_) = (List.range q).filterMap (s.pairAt at_) ++ [((q : Int), (s.ver i).value)] := by
  rw [List.range_succ, List.filterMap_append]; simp [St.pairAt, h]
theorem pairsTo_few (s : St) (at_ : Int) (q : Nat) : ((List.range q).filterMap (s.pairAt at_)).length ≤ q := by
  refine Nat.le_trans (List.length_filterMap_le _ _) ?_
  simp

set_option maxRecDepth 100000 in
set_option maxHeartbeats 8000000 in
theorem md_pairs {B m : Nat} {w : World} {P : Nat → Prop} {s : St} (h : MAt B w P m s) (at_ : Int) :
    Calls Try.prog 35 #[.pointer (some ⟨m, 0, none⟩), .int .u64 at_] w fun e w' => (∃ a c, e = .returned (.slice a (s.pairs at_).length c) ∧ PairsIn w' a (s.pairs at_) ∧ ∀ x, a = some x → w.heap.size ≤ x.block) ∧ Only0 w w' := by
  obtain ⟨A, h⟩ := h
  have HH := Lib.hid h
  obtain ⟨i0, hi0, hz0, hz1, hz2⟩ := info_parts info_pair
  clear h
  go_enter Try.func35, Try.ntmps35
  go_wp2_with fail
  go_loopw [5, 8] (fun s5 s8 wr => ∃ (q len : Nat) (ra : Option Addr) (rc : Nat), s8 = .int .i64 q ∧ q ≤ 64 ∧ s5 = .slice ra len rc ∧ len ≤ 64 ∧ Hid (len = ((List.range q).filterMap (s.pairAt at_)).length ∧ Only0 w wr ∧ wr.ownsRow w.heap.size 48 2 (.slice ra len rc) len (pairCells ((List.range q).filterMap (s.pairAt at_))))) (fun _ s8 _ => 64 - (intOf s8).toNat)
  case atStart => exact ⟨0, 0, none, 0, rfl, by omega, rfl, by omega, Lib.hid ⟨rfl, Only0.refl _, World.ownsRow_nil _ _ _ _⟩⟩
  case round =>
    obtain ⟨q, len, ra, rc, rfl, hq, rfl, hl, HR⟩ := hrel
    by_cases hlt : q < 64
    · have M := HH.out.only0 HR.out.2.1
      have C := md_at M q at_
      have few := pairsTo_few s at_ (q + 1)
      cases hs : s.at q at_ with
      | none =>
        rw [hs, show ptrOf A.va none = .pointer none from rfl] at C
        have R := Lib.hid (show len = ((List.range (q + 1)).filterMap (s.pairAt at_)).length ∧ Only0 w wr ∧ wr.ownsRow w.heap.size 48 2 (.slice ra len rc) len (pairCells ((List.range (q + 1)).filterMap (s.pairAt at_))) by rw [pairsTo_none hs]; exact HR.out)
        clear hs M few HR
        go_wp2_with fail
        refine C.mono ?_
        rintro e w1 ⟨rfl, rfl⟩
        go_wp2_with fail
        go_roundw
        case rel => exact ⟨q + 1, len, ra, rc, by go_num, by omega, rfl, hl, R⟩
        case measure => simp [intOf]; omega
      | some i =>
        rw [hs, show ptrOf A.va (some i) = .pointer (some ⟨A.va i, 0, none⟩) from rfl] at C
        have v1 : wr.cell? ⟨A.va i, 1, none⟩ = some (.int .i64 (s.ver i).value) := (M.vers.blk i (at_lt M i hs)).1.cell 1
        have e1 := pairsTo_some hs
        have len1 := HR.out.1
        have hown := HR.out.2.2
        have hwr := HR.out.2.1.size
        have hl2 : len + 1 ≤ 64 := by rw [e1] at few; simp at few; omega
        have NEXT : ∀ (g cap : Nat) (w2 : World), w2.ownsRow w.heap.size 48 2 (.slice (some ⟨g, 0, none⟩) (len + 1) cap) (len + 1) (pairCells ((List.range q).filterMap (s.pairAt at_)) ++ [.int .i64 q, .int .i64 (s.ver i).value]) → (wr.alloc (.cells #[.int .i64 q, .int .i64 (s.ver i).value] 48)).grownBy w2 (Value.slice ra len rc).ownBlock →
            len + 1 = ((List.range (q + 1)).filterMap (s.pairAt at_)).length ∧ Only0 w w2 ∧ w2.ownsRow w.heap.size 48 2 (.slice (some ⟨g, 0, none⟩) (len + 1) cap) (len + 1) (pairCells ((List.range (q + 1)).filterMap (s.pairAt at_))) := by
          intro g cap w2 h2 hg
          rw [e1, pairCells_snoc]
          refine ⟨by simp [len1], (HR.out.2.1.alloc _).grown hg (fun b hb => (hown.lt b hb).1), h2⟩
        have HNX := Lib.hid NEXT
        clear hs M few HR NEXT e1 len1
        generalize (s.ver i).value = x at *
        go_wp2_with fail
        refine C.mono ?_
        rintro e w1 ⟨rfl, rfl⟩
        clear C
        go_wp2_with (at_builtin; refine wpList_append_lies _ rfl _ _ 25 rfl w.heap.size 48 i0 _ 2 16 Try.underlying25 hi0 hz0 hz1 hz2 rfl (by decide) (.slice ra len rc) len (pairCells ((List.range q).filterMap (s.pairAt at_))) rfl (hown.alloc _) ⟨wr.heap.size, 0, none⟩ 1 1 [.int .i64 q, .int .i64 x] rfl rfl ?c1 ?c2 (by decide) ?c3 ?c4 ?c5 (wr.heap.size + 1) ?c6 ?_)
        case c1 => exact World.news_of_block (cs := #[.int .i64 q, .int .i64 x]) (t := 48) (fr := (0, 0)) (heap_alloc_new wr _)
        case c2 => intro u hu; simp at hu; rcases hu with rfl | rfl <;> rfl
        case c3 => unfold maxLen; omega
        case c4 => omega
        case c5 => simp; omega
        case c6 => simp
        intro g cap w2 hown2 hgrow hat hlt2
        have R := Lib.hid (HNX.out g cap w2 hown2 hgrow)
        clear HNX hown hown2 hgrow hat hlt2
        go_wp2_with fail
        go_roundw
        case rel => exact ⟨q + 1, len + 1, _, cap, by go_num, by omega, rfl, by omega, R⟩
        case measure => simp [intOf]; omega
    · obtain rfl : q = 64 := by omega
      have R := Lib.hid HR.out
      clear HR
      go_wp2_with fail
      go_ret
      obtain ⟨e1, o1, r1⟩ := R.out
      rw [← pairs_eq] at e1 r1
      subst e1
      exact ⟨⟨ra, rc, rfl, PairsIn.of_own r1, fun x hx => by
        subst hx
        rcases r1.2 with ⟨h0, _⟩ | ⟨g, c1, c2, hv, hg, _⟩
        · cases h0
        · injection hv with h1 h2 h3; injection h1 with h1; subst h1; exact hg⟩, o1⟩
end Go.Proofs.Ytcbhafddehipdaa

/-
  model.Model: Live.
-/
import Derived.Test.YtcbhafddehipdaaMdPairs
namespace Go.Proofs.Ytcbhafddehipdaa
open Go.RowKit
set_option linter.unusedVariables false
set_option linter.unusedSimpArgs false

def St.liveAt (s : St) (j : Nat) : Option Int := (s.tx j).map fun _ => (j : Int)
theorem live_eq (s : St) : s.live = (List.range 8).filterMap s.liveAt := rfl
theorem liveTo_none {s : St} {q : Nat} (h : s.tx q = none) : (List.range (q + 1)).filterMap s.liveAt = (List.range q).filterMap s.liveAt := by
  rw [List.range_succ, List.filterMap_append]; simp [St.liveAt, h]
theorem liveTo_some {s : St} {q : Nat} {t : Tx} (h : s.tx q = some t) : (List.range (q + 1)).filterMap s.liveAt = (List.range q).filterMap s.liveAt ++ [(q : Int)] := by
  rw [List.range_succ, List.filterMap_append]; simp [St.liveAt, h]
theorem liveTo_few (s : St) (q : Nat) : ((List.range q).filterMap s.liveAt).length ≤ q := by
  refine Nat.le_trans (List.length_filterMap_le _ _) ?_
  simp
theorem info_int : (Try.prog.info? 3).map (fun i => (i.zero, i.size, i.bytes)) = some (some (.int .i64 0), 1, 8) := by kernel_rfl

set_option maxRecDepth 100000 in
set_option maxHeartbeats 8000000 in
theorem md_live {B m : Nat} {w : World} {P : Nat → Prop} {s : St} (h : MAt B w P m s) :
    Calls Try.prog 32 #[.pointer (some ⟨m, 0, none⟩)] w fun e w' => (∃ a c, e = .returned (.slice a s.live.length c)) ∧ Only0 w w' := by
  obtain ⟨A, h⟩ := h
  obtain ⟨p0, p1, p2, p3, p4, p5, p6, p7⟩ := h.txCell
  have HH := Lib.hid h
  obtain ⟨i0, hi0, hz0, hz1, hz2⟩ := info_parts info_int
  clear h
  go_enter Try.func32, Try.ntmps32
  go_wp2_with fail
  go_loopw [3, 10] (fun s5 s8 wr => ∃ (q len : Nat) (ra : Option Addr) (rc : Nat), s8 = .int .i64 q ∧ q ≤ 8 ∧ s5 = .slice ra len rc ∧ len ≤ 8 ∧ Hid (len = ((List.range q).filterMap s.liveAt).length ∧ Only0 w wr ∧ wr.ownsRow w.heap.size 3 1 (.slice ra len rc) len (((List.range q).filterMap s.liveAt).map (Value.int .i64)))) (fun _ s8 _ => 8 - (intOf s8).toNat)
  case atStart => exact ⟨0, 0, none, 0, rfl, by omega, rfl, by omega, Lib.hid ⟨rfl, Only0.refl _, World.ownsRow_nil _ _ _ _⟩⟩
  case round =>
    obtain ⟨q, len, ra, rc, rfl, hq, rfl, hl, HR⟩ := hrel
    by_cases hlt : q < 8
    · have hix := tx_index A s.tx wr q hlt
      have few := liveTo_few s (q + 1)
      cases hu : s.tx q with
      | none =>
        rw [show txPtr A s.tx q = .pointer none by simp [txPtr, hu]] at hix
        have R := Lib.hid (show len = ((List.range (q + 1)).filterMap s.liveAt).length ∧ Only0 w wr ∧ wr.ownsRow w.heap.size 3 1 (.slice ra len rc) len (((List.range (q + 1)).filterMap s.liveAt).map (Value.int .i64)) by rw [liveTo_none hu]; exact HR.out)
        clear hu few HR
        go_wp2_with fail
        go_roundw
        case rel => exact ⟨q + 1, len, ra, rc, by go_num, by omega, rfl, hl, R⟩
        case measure => simp [intOf]; omega
      | some t =>
        rw [show txPtr A s.tx q = .pointer (some ⟨A.tb q, 0, none⟩) by simp [txPtr, hu]] at hix
        have e1 := liveTo_some hu
        have len1 := HR.out.1
        have hown := HR.out.2.2
        have hwr := HR.out.2.1.size
        have hl2 : len + 1 ≤ 8 := by rw [e1] at few; simp at few; omega
        have NEXT : ∀ (g cap : Nat) (w2 : World), w2.ownsRow w.heap.size 3 1 (.slice (some ⟨g, 0, none⟩) (len + 1) cap) (len + 1) (((List.range q).filterMap s.liveAt).map (Value.int .i64) ++ [.int .i64 q]) → (wr.alloc (.cells #[.int .i64 q] 3)).grownBy w2 (Value.slice ra len rc).ownBlock →
            len + 1 = ((List.range (q + 1)).filterMap s.liveAt).length ∧ Only0 w w2 ∧ w2.ownsRow w.heap.size 3 1 (.slice (some ⟨g, 0, none⟩) (len + 1) cap) (len + 1) (((List.range (q + 1)).filterMap s.liveAt).map (Value.int .i64)) := by
          intro g cap w2 h2 hg
          rw [e1, List.map_append]
          refine ⟨by simp [len1], (HR.out.2.1.alloc _).grown hg (fun b hb => (hown.lt b hb).1), h2⟩
        have HNX := Lib.hid NEXT
        clear hu few HR NEXT e1 len1
        go_wp2_with (at_builtin; refine wpList_append_lies _ rfl _ _ 51 rfl w.heap.size 3 i0 (.int .i64 0) 1 8 Try.underlying51 hi0 hz0 hz1 hz2 rfl (by decide) (.slice ra len rc) len (((List.range q).filterMap s.liveAt).map (Value.int .i64)) rfl (hown.alloc _) ⟨wr.heap.size, 0, none⟩ 1 1 [.int .i64 q] rfl rfl ?c1 ?c2 (by decide) ?c3 ?c4 ?c5 (wr.heap.size + 1) ?c6 ?_)
        case c1 => exact World.news_of_block (cs := #[.int .i64 q]) (t := 3) (fr := (0, 0)) (heap_alloc_new wr _)
        case c2 => intro u hu; simp at hu; subst hu; rfl
        case c3 => unfold maxLen; omega
        case c4 => omega
        case c5 => simp; omega
        case c6 => simp
        intro g cap w2 hown2 hgrow hat hlt2
        have R := Lib.hid (HNX.out g cap w2 hown2 hgrow)
        clear HNX hown hown2 hgrow hat hlt2
        go_wp2_with fail
        go_roundw
        case rel => exact ⟨q + 1, len + 1, _, cap, by go_num, by omega, rfl, by omega, R⟩
        case measure => simp [intOf]; omega
    · obtain rfl : q = 8 := by omega
      have R := Lib.hid HR.out
      clear HR
      go_wp2_with fail
      go_ret
      obtain ⟨e1, o1, r1⟩ := R.out
      rw [← live_eq] at e1
      subst e1
      exact ⟨⟨ra, rc, rfl⟩, o1⟩
end Go.Proofs.Ytcbhafddehipdaa

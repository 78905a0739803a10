/-
  reads.Set's Keys.
-/
import Derived.Test.YthjhhclgmkgigaaClone
namespace Go.Proofs.Ythjhhclgmkgigaa
open Go.RowKit
set_option linter.unusedVariables false

set_option maxHeartbeats 2000000 in
theorem keys_any (s : Nat) (w : World) {cs : Array Value} {keys : List Int} {lk : Nat → Int} {ka : Option Addr} {kc : Nat} {sp : Value} (hb : Blk w s 64 cs) (hs : SetCells cs keys lk ka kc sp) (hi : Ints .i64 w ka keys) (hn : ka = none → keys = []) (hlen : keys.length ≤ 1000) :
    Calls Try.prog 15 #[.pointer (some ⟨s, 0, none⟩)] w fun e w' => (∃ a, e = .returned (.slice a keys.length keys.length) ∧ Ints .i64 w' a keys ∧ ∀ x, a = some x → w.heap.size ≤ x.block) ∧ Below w.heap.size w w' := by
  have c0 := (hb.cell 0).trans hs.row
  clear hs
  rcases ka with _ | ad
  · obtain rfl := hn rfl
    have C := clone_int_nil 0 kc w
    have D := clip_any none 0 0 w (by omega) (by omega)
    go_enter Try.func15, Try.ntmps15
    go_wp2_with fail
    refine C.mono ?_
    rintro e w1 ⟨rfl, rfl⟩
    go_wp2_with fail
    refine D.mono ?_
    rintro e w1 ⟨rfl, rfl⟩
    go_wp2_with fail
    go_ret
    exact ⟨⟨none, rfl, Ints.nil _ _ _, fun x hx => by cases hx⟩, Below.refl _ _⟩
  · have C := clone_int ad kc keys w hi (by omega)
    go_enter Try.func15, Try.ntmps15
    go_wp2_with fail
    refine C.mono ?_
    rintro e w1 ⟨⟨g, cap, rfl, hown⟩, bel⟩
    have hcap : keys.length ≤ cap ∧ cap ≤ maxLen := by
      rcases hown.2 with ⟨h0, _⟩ | ⟨g', cap', cur, hv, _, _, h1, h2, _⟩
      · cases h0
      · injection hv with h3 h4 h5
        subst h5
        exact ⟨h1, h2⟩
    have D := clip_any (some ⟨g, 0, none⟩) keys.length cap w1 hcap.1 (by have := hcap.2; unfold maxLen at this; omega)
    have I := ints_of_own hown
    have hg : w.heap.size ≤ g := (hown.lt g rfl).1
    clear C hown hcap
    go_wp2_with fail
    refine D.mono ?_
    rintro e w2 ⟨rfl, rfl⟩
    go_wp2_with fail
    go_ret
    exact ⟨⟨_, rfl, I, fun x hx => by cases hx; exact hg⟩, bel⟩
end Go.Proofs.Ythjhhclgmkgigaa

/-
  reads.Set's Add.
-/
import Derived.Test.YthjhhclgmkgigaaReads
import Derived.Test.YthjhhclgmkgigaaOnce
import Derived.Deep.RegionHeld3
import Derived.Deep.AppendLies
import Derived.Deep.RegionLaw
namespace Go.Proofs.Ythjhhclgmkgigaa
open Go.RowKit
set_option linter.unusedVariables false

set_option maxHeartbeats 2000000 in
theorem add_bad (s : Nat) (k x : Int) (w : World) (hk : isKey k = false) : Calls Try.prog 8 #[.pointer (some ⟨s, 0, none⟩), .int .i64 k, .int .u64 x] w fun e w' => e = .returned (.int .i64 1) ∧ Only0 w w' := by
  go_enter Try.func8, Try.ntmps8
  go_wp2_with fail
  refine (is_any k _).mono ?_
  rintro e w1 ⟨rfl, rfl⟩
  rw [hk]
  go_wp2_with fail
  go_ret
  exact ⟨rfl, (((Only0.refl w).alloc _).alloc _).alloc _⟩

set_option maxHeartbeats 4000000 in
theorem add_done (s : Nat) (k : Nat) (x : Int) (w : World) {cs : Array Value} {keys : List Int} {lk : Nat → Int} {ka : Option Addr} {kc : Nat} {sp : Value} (hb : Blk w s 64 cs) (hs : SetCells cs keys lk ka kc sp) (hk : k < 64) (hm : (k : Int) ∈ keys) :
    Calls Try.prog 8 #[.pointer (some ⟨s, 0, none⟩), .int .i64 k, .int .u64 x] w fun e w' => e = .returned (.int .i64 0) ∧ Only0 w w' := by
  have hik : isKey (k : Int) = true := by simp [isKey]; omega
  have hd := hs.done k hk
  rw [if_pos hm] at hd
  have hd1 := (hb.cell (1 + 4 * k)).trans hd
  have g1 : (0 : Int) ≤ (k : Int) := by omega
  have g2 : (k : Int) < 64 := by omega
  have hlt := hb.lt
  go_enter Try.func8, Try.ntmps8
  go_wp2_with fail
  refine (is_any k _).mono ?_
  rintro e w1 ⟨rfl, rfl⟩
  rw [hik]
  go_wp2_with fail
  go_region
  generalize hW : World.drew _ = W
  have hB4 : Blk W s 64 cs := by rw [← hW]; exact ((((hb.alloc _).alloc _).alloc _).alloc _).drew
  have o4 : Only0 w W := by rw [← hW]; exact (((((Only0.refl w).alloc _).alloc _).alloc _).alloc _).drew
  have hc7 : W.cell? ⟨w.heap.size + 1 + 1 + 1, 0, none⟩ = some (.pointer (some ⟨s, 1 + k * 4, none⟩)) := by
    have hB : Blk W (w.heap.size + 1 + 1 + 1) 65 #[.pointer (some ⟨s, 1 + k * 4, none⟩)] := by rw [← hW]; exact (Blk.new' _ _ _ _ (by simp)).drew
    rw [hB.cell]; rfl
  have hcd : W.cell? ⟨s, 1 + k * 4, none⟩ = some (.int .u32 1) := by rw [hB4.cell, show 1 + k * 4 = 1 + 4 * k by omega]; exact hd
  clear hW hb hd1 hd hs hm hik
  go_wp2_with fail
  refine (once_do_done _ 1 (by decide) _ _ hcd).mono ?_
  rintro e w1 ⟨rfl, rfl⟩
  go_wp2_with fail
  go_ret
  exact ⟨rfl, o4⟩
theorem Only.grownS {S : Nat → Prop} {a w w' : World} {row : Option Nat} (h : Only S a w) (hg : w.grownBy w' row) (hr : ∀ k, row = some k → S k) : Only S a w' := by
  refine ⟨hg.os.trans h.os, hg.tape.trans h.tape, hg.output.trans h.output, Nat.le_trans h.size hg.size, fun k hk hn => ?_⟩
  rw [hg.block k (Nat.lt_of_lt_of_le hk h.size) (fun e => hn (hr k e.symm))]
  exact h.block k hk hn
theorem info_int : (Try.prog.info? 3).map (fun i => (i.zero, i.size, i.bytes)) = some (some (.int .i64 0), 1, 8) := by kernel_rfl

set_option maxRecDepth 100000 in
set_option maxHeartbeats 6000000 in
/-- The function that Add hands to Do. -/
theorem add_fn (B s b7 b5 b3 b4 k : Nat) (x : Int) (w : World) {cs : Array Value} {v y : Value} {keys : List Int}
    (hb : Blk w s 64 cs) (h0 : cs[0]? = some v) (hy : cs[1 + k * 4 + 3]? = some y) (hown : w.ownsRow B 3 1 v keys.length (keys.map (Value.int .i64)))
    (B7 : Blk w b7 65 #[.pointer (some ⟨s, 1 + k * 4, none⟩)]) (B5 : Blk w b5 22 #[.int .u64 x]) (B3 : Blk w b3 24 #[.pointer (some ⟨s, 0, none⟩)]) (B4 : Blk w b4 3 #[.int .i64 k])
    (n4 : v.ownBlock ≠ some b4) (ns : v.ownBlock ≠ some s) (n3 : v.ownBlock ≠ some b3) (hlen : keys.length ≤ 1000) (hbw : B ≤ w.heap.size) :
    Calls Try.prog 20 #[.pointer (some ⟨b5, 0, none⟩), .pointer (some ⟨b7, 0, none⟩), .pointer (some ⟨b3, 0, none⟩), .pointer (some ⟨b4, 0, none⟩)] w fun e w' => e = .returned (.tuple #[]) ∧
      ∃ g cap, Blk w' s 64 ((cs.setIfInBounds (1 + k * 4 + 3) (.int .u64 x)).setIfInBounds 0 (.slice (some ⟨g, 0, none⟩) (keys.length + 1) cap)) ∧ w'.ownsRow B 3 1 (.slice (some ⟨g, 0, none⟩) (keys.length + 1) cap) (keys.length + 1) (keys.map (Value.int .i64) ++ [.int .i64 k]) ∧ Only (fun b => b = s ∨ v.ownBlock = some b) w w' ∧ (v.ownBlock = some g ∨ w.heap.size ≤ g) := by
  obtain ⟨i0, hi, hz0, hz1, hz2⟩ := info_parts info_int
  have c7 : w.cell? ⟨b7, 0, none⟩ = some (.pointer (some ⟨s, 1 + k * 4, none⟩)) := by rw [B7.cell]; rfl
  have c5 : w.cell? ⟨b5, 0, none⟩ = some (.int .u64 x) := by rw [B5.cell]; rfl
  have cy := (hb.cell (1 + k * 4 + 3)).trans hy
  have fy := hb.free (1 + k * 4 + 3)
  have ne3 : b3 ≠ s := fun e => absurd (Blk.inj (e ▸ B3) hb).2 (by decide)
  have ne4 : b4 ≠ s := fun e => absurd (Blk.inj (e ▸ B4) hb).2 (by decide)
  have l3 := B3.lt
  have l4 := B4.lt
  have ls := hb.lt
  go_enter Try.func20, Try.ntmps20
  go_wp2_with fail
  obtain ⟨W, hW⟩ : ∃ W, W = w.setCell ⟨s, 1 + k * 4 + 3, none⟩ (.int .u64 x) := ⟨_, rfl⟩
  rw [← hW]
  have hb1 : Blk W s 64 (cs.setIfInBounds (1 + k * 4 + 3) (.int .u64 x)) := by rw [hW]; exact hb.set _ _
  have hown1 : W.ownsRow B 3 1 v keys.length (keys.map (Value.int .i64)) := by rw [hW]; exact ownsRow_setCell_other hown ns _
  have o1 : Only (fun b => b = s ∨ v.ownBlock = some b) w W := by rw [hW]; exact (Only.refl _ w).setCell (fun _ => .inl rfl) _
  have d3 : W.cell? ⟨b3, 0, none⟩ = some (.pointer (some ⟨s, 0, none⟩)) := by rw [hW, (B3.other ⟨s, 1 + k * 4 + 3, none⟩ (.int .u64 x) ne3).cell]; rfl
  have d4 : W.cell? ⟨b4, 0, none⟩ = some (.int .i64 k) := by rw [hW, (B4.other ⟨s, 1 + k * 4 + 3, none⟩ (.int .u64 x) ne4).cell]; rfl
  have d0 : W.cell? ⟨s, 0, none⟩ = some v := by rw [hb1.cell, Array.getElem?_setIfInBounds_ne (by omega)]; exact h0
  have f0 := hb1.free 0
  have fz : (W.alloc (.cells #[.int .i64 k] 3)).drew.frozen? ⟨s, 0, none⟩ = false := Blk.free (Blk.drew (Blk.alloc hb1 _)) 0
  have dz : (W.alloc (.cells #[.int .i64 k] 3)).drew.cell? ⟨s, 0, none⟩ = some v := by rw [(Blk.drew (Blk.alloc hb1 _)).cell, Array.getElem?_setIfInBounds_ne (by omega)]; exact h0
  have hB3 : Blk W b3 24 #[.pointer (some ⟨s, 0, none⟩)] := by rw [hW]; exact B3.other ⟨s, 1 + k * 4 + 3, none⟩ (.int .u64 x) ne3
  have hB4 : Blk W b4 3 #[.int .i64 k] := by rw [hW]; exact B4.other ⟨s, 1 + k * 4 + 3, none⟩ (.int .u64 x) ne4
  have dz3 : (W.alloc (.cells #[.int .i64 k] 3)).drew.cell? ⟨b3, 0, none⟩ = some (.pointer (some ⟨s, 0, none⟩)) := by rw [(Blk.drew (Blk.alloc hB3 _)).cell]; rfl
  have dz4 : (W.alloc (.cells #[.int .i64 k] 3)).drew.cell? ⟨b4, 0, none⟩ = some (.int .i64 k) := by rw [(Blk.drew (Blk.alloc hB4 _)).cell]; rfl
  have zW : W.heap.size = w.heap.size := by rw [hW]; simp
  rw [← zW] at l3 l4 ls hbw
  have ZW := Lib.hid zW
  clear zW hW hb hown c7 c5 cy fy B7 B5 B3 B4 hy
  have FIN : ∀ g cap w1, World.ownsRow w1 B 3 1 (.slice (some ⟨g, 0, none⟩) (keys.length + 1) cap) (keys.length + 1) (keys.map (Value.int .i64) ++ [.int .i64 k]) → World.grownBy (W.alloc (.cells #[.int .i64 k] 3)).drew w1 v.ownBlock → (v.ownBlock = some g ∨ g = W.heap.size + 1) →
      ∃ g' cap', Blk (w1.setCell ⟨s, 0, none⟩ (.slice (some ⟨g, 0, none⟩) (keys.length + 1) cap)) s 64 ((cs.setIfInBounds (1 + k * 4 + 3) (.int .u64 x)).setIfInBounds 0 (.slice (some ⟨g', 0, none⟩) (keys.length + 1) cap')) ∧ (w1.setCell ⟨s, 0, none⟩ (.slice (some ⟨g, 0, none⟩) (keys.length + 1) cap)).ownsRow B 3 1 (.slice (some ⟨g', 0, none⟩) (keys.length + 1) cap') (keys.length + 1) (keys.map (Value.int .i64) ++ [.int .i64 k]) ∧ Only (fun b => b = s ∨ v.ownBlock = some b) w (w1.setCell ⟨s, 0, none⟩ (.slice (some ⟨g, 0, none⟩) (keys.length + 1) cap)) ∧ (v.ownBlock = some g' ∨ w.heap.size ≤ g') := by
    intro g cap w1 hown2 hgrow hat
    have hbs : Blk w1 s 64 (cs.setIfInBounds (1 + k * 4 + 3) (.int .u64 x)) := by
      have e := hgrow.block s (by simp; omega) (Ne.symm ns)
      exact e.trans (Blk.drew (Blk.alloc hb1 _))
    have hgs : g ≠ s := by
      rcases hat with hat | hat
      · intro e; exact ns (by rw [hat, e])
      · omega
    refine ⟨g, cap, hbs.set 0 _, ownsRow_setCell_other hown2 (fun e => hgs (by simpa [Value.ownBlock] using e)) _, ?_, by rcases hat with h | h; exact .inl h; exact .inr (by have := ZW.out; omega)⟩
    exact (Only.grownS (o1.alloc _).drew hgrow (fun b hb => .inr hb)).setCell (fun _ => .inl rfl) _
  go_region_law
    ((refine step_append_lies _ (by rfl) _ _ _ (by rfl) B 3 i0 _ 1 8 Try.underlying23 hi hz0 hz1 hz2 rfl (by omega) v keys.length (keys.map (Value.int .i64)) (by rfl) ((hown1.alloc _).drew)
        ⟨W.heap.size, 0, none⟩ 1 1 [.int .i64 k] (by rfl) (by rfl) (World.news_of_block (cs := #[.int .i64 k]) (t := 3) (fr := (0, 0)) (heap_alloc_new W _)) (by simp [Value.oneCell'])
        (by omega) (by unfold maxLen; omega) (by omega) (by simp; omega) (W.heap.size + 1) (by simp) ?_; intro gg cap w1 hown2 hgrow hat hlt
      have cz : w1.cell? ⟨s, 0, none⟩ = some v := (hgrow.cell_far ⟨s, 0, none⟩ (by simp; omega) (Ne.symm ns)).trans dz
      have cz3 : w1.cell? ⟨b3, 0, none⟩ = some (.pointer (some ⟨s, 0, none⟩)) := (hgrow.cell_far ⟨b3, 0, none⟩ (by simp; omega) (Ne.symm n3)).trans dz3
      have fz1 : w1.frozen? ⟨s, 0, none⟩ = false := (hgrow.frozen_far ⟨s, 0, none⟩ (by simp; omega) (Ne.symm ns)).trans fz))
  all_goals
    go_end0
    exact ⟨rfl, FIN _ _ _ hown2 hgrow hat⟩
end Go.Proofs.Ythjhhclgmkgigaa

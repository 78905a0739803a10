/-
  writes.Set's write: refused; of a key that was written; the function that write hands to Do.
-/
import Derived.Test.YtldfkcldfjfohaaWSet
import Derived.Test.YtldfkcldfjfohaaOnce
import Derived.Deep.RegionHeld3
import Derived.Deep.AppendLies
import Derived.Deep.RegionLaw
namespace Go.Proofs.Ytldfkcldfjfohaa
open Go.RowKit
set_option linter.unusedVariables false
set_option linter.unusedSimpArgs false

set_option maxHeartbeats 4000000 in
theorem write_bad (b : Nat) (k x : Int) (g : Bool) (w : World) (hk : wrOkB k x = false) : Calls Try.prog 17 #[.pointer (some ⟨b, 0, none⟩), .int .i64 k, .int .i64 x, .bool g] w fun e w' => e = .returned (.int .i64 1) ∧ Only0 w w' := by
  have hk' : k < 0 ∨ 63 < k ∨ x < 0 ∨ 65535 < x := by simp [wrOkB] at hk; omega
  clear hk
  by_cases h1 : k < 0
  · clear hk'
    go_enter Try.func17, Try.ntmps17
    go_wp2_with fail
    go_ret
    exact ⟨rfl, ((Only0.refl w).alloc _).alloc _⟩
  · by_cases h2 : 63 < k
    · clear hk'
      go_enter Try.func17, Try.ntmps17
      go_wp2_with fail
      go_ret
      exact ⟨rfl, ((Only0.refl w).alloc _).alloc _⟩
    · by_cases h3 : x < 0
      · clear hk'
        go_enter Try.func17, Try.ntmps17
        go_wp2_with fail
        go_ret
        exact ⟨rfl, ((Only0.refl w).alloc _).alloc _⟩
      · have h4 : 65535 < x := by omega
        clear hk'
        go_enter Try.func17, Try.ntmps17
        go_wp2_with fail
        go_ret
        exact ⟨rfl, ((Only0.refl w).alloc _).alloc _⟩

theorem updK_same {α : Type} (f : Int → α) (k : Int) (x : α) : updK f k x k = x := by simp [updK]
theorem updK_other {α : Type} (f : Int → α) (k j : Int) (x : α) (h : j ≠ k) : updK f k x j = f j := by simp [updK, h]
/-- The two stores that write ends with. -/
def put2 (cs : Array Value) (k : Nat) (x : Int) (g : Bool) : Array Value := (cs.setIfInBounds (1 + k * 5 + 3) (.int .i64 x)).setIfInBounds (1 + k * 5 + 4) (.bool g)
theorem put2_get (cs : Array Value) (k : Nat) (x : Int) (g : Bool) (i : Nat) (h3 : 1 + k * 5 + 3 ≠ i) (h4 : 1 + k * 5 + 4 ≠ i) : (put2 cs k x g)[i]? = cs[i]? := by
  unfold put2
  rw [Array.getElem?_setIfInBounds_ne h4, Array.getElem?_setIfInBounds_ne h3]
theorem put2_val (cs : Array Value) (k : Nat) (x : Int) (g : Bool) (h : 1 + k * 5 + 4 < cs.size) : (put2 cs k x g)[1 + k * 5 + 3]? = some (.int .i64 x) := by
  unfold put2
  rw [Array.getElem?_setIfInBounds_ne (by omega), Array.getElem?_setIfInBounds_self_of_lt (by omega)]
theorem put2_gone (cs : Array Value) (k : Nat) (x : Int) (g : Bool) (h : 1 + k * 5 + 4 < cs.size) : (put2 cs k x g)[1 + k * 5 + 4]? = some (.bool g) := by
  unfold put2
  rw [Array.getElem?_setIfInBounds_self_of_lt (by simpa using h)]
theorem WrCells.put2 {cs : Array Value} {s : Wr} {ka : Option Addr} {kc : Nat} (h : WrCells cs s ka kc) (k : Nat) (hk : k < 64) (x : Int) (g : Bool) : WrCells (put2 cs k x g) ⟨s.keys, updK s.val k x, updK s.gone k g⟩ ka kc := by
  have hz := h.size
  refine ⟨by simpa [Go.Proofs.Ytldfkcldfjfohaa.put2] using hz, ?_, fun j hj => ?_, fun j hj => ?_, fun j hj => ?_, fun j hj => ?_⟩
  · rw [put2_get _ _ _ _ _ (by omega) (by omega)]; exact h.row
  · rw [put2_get _ _ _ _ _ (by omega) (by omega)]; exact h.done j hj
  · rw [put2_get _ _ _ _ _ (by omega) (by omega)]; exact h.lock j hj
  · by_cases e : j = k
    · subst e
      rw [show 4 + 5 * j = 1 + j * 5 + 3 by omega, put2_val _ _ _ _ (by omega)]
      simp [updK]
    · rw [put2_get _ _ _ _ _ (by omega) (by omega)]
      simp only [updK, show ¬ ((j : Int) = (k : Int)) by omega, if_false]
      exact h.val j hj
  · by_cases e : j = k
    · subst e
      rw [show 5 + 5 * j = 1 + j * 5 + 4 by omega, put2_gone _ _ _ _ (by omega)]
      simp [updK]
    · rw [put2_get _ _ _ _ _ (by omega) (by omega)]
      simp only [updK, show ¬ ((j : Int) = (k : Int)) by omega, if_false]
      exact h.gone j hj

set_option maxHeartbeats 4000000 in
theorem write_done {B : Nat} {w : World} {P : Nat → Prop} {b : Nat} {s : Wr} {cs : Array Value} {ka : Option Addr} {kc : Nat} (h : WIn B w P b s cs ka kc) (k : Nat) (x : Int) (g : Bool) (hk : k < 64) (hx : 0 ≤ x ∧ x ≤ 65535) (hm : (k : Int) ∈ s.keys) :
    Calls Try.prog 17 #[.pointer (some ⟨b, 0, none⟩), .int .i64 k, .int .i64 x, .bool g] w fun e w' => e = .returned (.int .i64 0) ∧ Blk w' b 68 (put2 cs k x g) ∧ Only (fun c => c = b) w w' := by
  have hd := h.cells.done k hk
  rw [if_pos hm] at hd
  have hb := h.blk
  have g1 : (0 : Int) ≤ (k : Int) := by omega
  have g2 : (k : Int) < 64 := by omega
  have g3 : (k : Int) ≤ 63 := by omega
  obtain ⟨x1, x2⟩ := hx
  have hlt := hb.lt
  have hv := h.cells.val k hk
  have hg := h.cells.gone k hk
  generalize s.val k = v0 at hv
  generalize s.gone k = gg0 at hg
  clear h hm
  go_enter Try.func17, Try.ntmps17
  go_wp2_with fail
  go_region
  generalize hW : World.drew _ = W
  have hB4 : Blk W b 68 cs := by rw [← hW]; exact ((hb.alloc _).alloc _).drew
  have o4 : Only0 w W := by rw [← hW]; exact (((Only0.refl w).alloc _).alloc _).drew
  have hcd : W.cell? ⟨b, 1 + k * 5, none⟩ = some (.int .u32 1) := by rw [hB4.cell, show 1 + k * 5 = 1 + 5 * k by omega]; exact hd
  have cv : W.cell? ⟨b, 1 + k * 5 + 3, none⟩ = some (.int .i64 v0) := by rw [hB4.cell, show 1 + k * 5 + 3 = 4 + 5 * k by omega]; exact hv
  have cg : W.cell? ⟨b, 1 + k * 5 + 4, none⟩ = some (.bool gg0) := by rw [hB4.cell, show 1 + k * 5 + 4 = 5 + 5 * k by omega]; exact hg
  have fv := hB4.free (1 + k * 5 + 3)
  have fg := hB4.free (1 + k * 5 + 4)
  clear hW hb hd hv hg
  go_wp2_with fail
  refine (once_do_done _ 1 (by decide) _ _ hcd).mono ?_
  rintro e w1 ⟨rfl, rfl⟩
  go_wp2_with fail
  go_ret
  exact ⟨rfl, (hB4.set _ _).set _ _, Only.setCell (S := fun c => c = b) (p := ⟨b, 1 + k * 5 + 4, none⟩) (Only.setCell (S := fun c => c = b) (p := ⟨b, 1 + k * 5 + 3, none⟩) (o4.any _) (fun _ => rfl) _) (fun _ => rfl) _⟩

set_option maxRecDepth 100000 in
set_option maxHeartbeats 6000000 in
/-- The function that write hands to Do. -/
theorem write_fn (B s b3 b4 k : Nat) (w : World) {cs : Array Value} {v : Value} {keys : List Int}
    (hb : Blk w s 68 cs) (h0 : cs[0]? = some v) (hown : w.ownsRow B 3 1 v keys.length (keys.map (Value.int .i64)))
    (B3 : Blk w b3 23 #[.pointer (some ⟨s, 0, none⟩)]) (B4 : Blk w b4 3 #[.int .i64 k])
    (n4 : v.ownBlock ≠ some b4) (ns : v.ownBlock ≠ some s) (n3 : v.ownBlock ≠ some b3) (hlen : keys.length ≤ 1000) (hbw : B ≤ w.heap.size) :
    Calls Try.prog 28 #[.pointer (some ⟨b3, 0, none⟩), .pointer (some ⟨b4, 0, none⟩)] w fun e w' => e = .returned (.tuple #[]) ∧
      ∃ g cap, Blk w' s 68 (cs.setIfInBounds 0 (.slice (some ⟨g, 0, none⟩) (keys.length + 1) cap)) ∧ w'.ownsRow B 3 1 (.slice (some ⟨g, 0, none⟩) (keys.length + 1) cap) (keys.length + 1) (keys.map (Value.int .i64) ++ [.int .i64 k]) ∧ Only (fun b => b = s ∨ v.ownBlock = some b) w w' ∧ (v.ownBlock = some g ∨ w.heap.size ≤ g) := by
  obtain ⟨i0, hi, hz0, hz1, hz2⟩ := info_parts info_int
  have ne3 : b3 ≠ s := fun e => absurd (Blk.inj (e ▸ B3) hb).2 (by decide)
  have ne4 : b4 ≠ s := fun e => absurd (Blk.inj (e ▸ B4) hb).2 (by decide)
  have l3 := B3.lt
  have l4 := B4.lt
  have ls := hb.lt
  have d3 : w.cell? ⟨b3, 0, none⟩ = some (.pointer (some ⟨s, 0, none⟩)) := by rw [B3.cell]; rfl
  have d4 : w.cell? ⟨b4, 0, none⟩ = some (.int .i64 k) := by rw [B4.cell]; rfl
  have d0 : w.cell? ⟨s, 0, none⟩ = some v := by rw [hb.cell]; exact h0
  have f0 := hb.free 0
  have fz : (w.alloc (.cells #[.int .i64 k] 3)).drew.frozen? ⟨s, 0, none⟩ = false := Blk.free (Blk.drew (Blk.alloc hb _)) 0
  have dz : (w.alloc (.cells #[.int .i64 k] 3)).drew.cell? ⟨s, 0, none⟩ = some v := by rw [(Blk.drew (Blk.alloc hb _)).cell]; exact h0
  have dz3 : (w.alloc (.cells #[.int .i64 k] 3)).drew.cell? ⟨b3, 0, none⟩ = some (.pointer (some ⟨s, 0, none⟩)) := by rw [(Blk.drew (Blk.alloc B3 _)).cell]; rfl
  have dz4 : (w.alloc (.cells #[.int .i64 k] 3)).drew.cell? ⟨b4, 0, none⟩ = some (.int .i64 k) := by rw [(Blk.drew (Blk.alloc B4 _)).cell]; rfl
  have FIN : ∀ g cap w1, World.ownsRow w1 B 3 1 (.slice (some ⟨g, 0, none⟩) (keys.length + 1) cap) (keys.length + 1) (keys.map (Value.int .i64) ++ [.int .i64 k]) → World.grownBy (w.alloc (.cells #[.int .i64 k] 3)).drew w1 v.ownBlock → (v.ownBlock = some g ∨ g = w.heap.size + 1) →
      ∃ g' cap', Blk (w1.setCell ⟨s, 0, none⟩ (.slice (some ⟨g, 0, none⟩) (keys.length + 1) cap)) s 68 (cs.setIfInBounds 0 (.slice (some ⟨g', 0, none⟩) (keys.length + 1) cap')) ∧ (w1.setCell ⟨s, 0, none⟩ (.slice (some ⟨g, 0, none⟩) (keys.length + 1) cap)).ownsRow B 3 1 (.slice (some ⟨g', 0, none⟩) (keys.length + 1) cap') (keys.length + 1) (keys.map (Value.int .i64) ++ [.int .i64 k]) ∧ Only (fun b => b = s ∨ v.ownBlock = some b) w (w1.setCell ⟨s, 0, none⟩ (.slice (some ⟨g, 0, none⟩) (keys.length + 1) cap)) ∧ (v.ownBlock = some g' ∨ w.heap.size ≤ g') := by
    intro g cap w1 hown2 hgrow hat
    have hbs : Blk w1 s 68 cs := by
      have e := hgrow.block s (by simp; omega) (Ne.symm ns)
      exact e.trans (Blk.drew (Blk.alloc hb _))
    have hgs : g ≠ s := by
      rcases hat with hat | hat
      · intro e; exact ns (by rw [hat, e])
      · omega
    refine ⟨g, cap, hbs.set 0 _, ownsRow_setCell_other hown2 (fun e => hgs (by simpa [Value.ownBlock] using e)) _, ?_, by rcases hat with h | h; exact .inl h; exact .inr (by omega)⟩
    exact (Only.grownS (((Only.refl _ w).alloc _).drew) hgrow (fun b hb => .inr hb)).setCell (fun _ => .inl rfl) _
  go_enter Try.func28, Try.ntmps28
  go_region_law
    ((refine step_append_lies _ (by rfl) _ _ _ (by rfl) B 3 i0 _ 1 8 Try.underlying51 hi hz0 hz1 hz2 rfl (by omega) v keys.length (keys.map (Value.int .i64)) (by rfl) ((hown.alloc _).drew)
        ⟨w.heap.size, 0, none⟩ 1 1 [.int .i64 k] (by rfl) (by rfl) (World.news_of_block (cs := #[.int .i64 k]) (t := 3) (fr := (0, 0)) (heap_alloc_new w _)) (by simp [Value.oneCell'])
        (by omega) (by unfold maxLen; omega) (by omega) (by simp; omega) (w.heap.size + 1) (by simp) ?_; intro gg cap w1 hown2 hgrow hat hlt
      have cz : w1.cell? ⟨s, 0, none⟩ = some v := (hgrow.cell_far ⟨s, 0, none⟩ (by simp; omega) (Ne.symm ns)).trans dz
      have cz3 : w1.cell? ⟨b3, 0, none⟩ = some (.pointer (some ⟨s, 0, none⟩)) := (hgrow.cell_far ⟨b3, 0, none⟩ (by simp; omega) (Ne.symm n3)).trans dz3
      have fz1 : w1.frozen? ⟨s, 0, none⟩ = false := (hgrow.frozen_far ⟨s, 0, none⟩ (by simp; omega) (Ne.symm ns)).trans fz))
  all_goals
    go_end0
    exact ⟨rfl, FIN _ _ _ hown2 hgrow hat⟩
end Go.Proofs.Ytldfkcldfjfohaa

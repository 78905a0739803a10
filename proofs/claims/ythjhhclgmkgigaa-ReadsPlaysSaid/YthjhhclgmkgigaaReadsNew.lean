/-
  reads.Set's Add of a key that was not read.
-/
import Derived.Test.YthjhhclgmkgigaaReadsAdd
import Derived.KernelRfl
namespace Go.Proofs.Ythjhhclgmkgigaa
open Go.RowKit
set_option linter.unusedVariables false

theorem ownsRow_only {B : Nat} {w w' : World} {e : TypeId} {v : Value} {n : Nat} {xs : List Value} {S : Nat → Prop} (h : w.ownsRow B e 1 v n xs) (ho : Only S w w') (hs : ∀ k, v.ownBlock = some k → ¬ S k) : w'.ownsRow B e 1 v n xs := by
  obtain ⟨h1, h2⟩ := h
  refine ⟨h1, ?_⟩
  rcases h2 with h2 | ⟨g, cap, cur, rfl, hg, hh, r⟩
  · exact .inl h2
  · exact .inr ⟨g, cap, cur, rfl, hg, by rw [ho.block g (lt_of_block hh) (hs g rfl)]; exact hh, r⟩

theorem own_ne {B : Nat} {w : World} {e t : TypeId} {v : Value} {n b : Nat} {xs : List Value} {cs : Array Value} (h : w.ownsRow B e 1 v n xs) (hb : Blk w b t cs) (hne : e ≠ t) : v.ownBlock ≠ some b := by
  rcases h.2 with ⟨rfl, _⟩ | ⟨g, cap, cur, rfl, hg, hh, r⟩
  · simp [Value.ownBlock]
  · intro hk
    have : g = b := by simpa [Value.ownBlock] using hk
    subst this
    exact hne (Blk.inj (show Blk w g _ cur from hh) hb).2
theorem add_enter (cap : Array Value) (w : World) : (callFunc 20 cap).run Try.prog w = .ok (.enter 20 cap) w := by kernel_rfl

/-- The links, with x at k. -/
def lkSet (lk : Nat → Int) (k : Nat) (x : Int) : Nat → Int := fun j => if j = k then x else lk j

theorem SetCells.addKey {cs : Array Value} {keys : List Int} {lk : Nat → Int} {ka : Option Addr} {kc : Nat} {sp : Value} (h : SetCells cs keys lk ka kc sp) (k : Nat) (hk : k < 64) (x : Int) (g cap : Nat) :
    SetCells (((((cs.setIfInBounds (1 + k * 4 + 1) (.int .i32 1)).setIfInBounds (1 + k * 4 + 3) (.int .u64 x)).setIfInBounds 0 (.slice (some ⟨g, 0, none⟩) (keys.length + 1) cap)).setIfInBounds (1 + k * 4) (.int .u32 1)).setIfInBounds (1 + k * 4 + 1) (.int .i32 0)) (keys ++ [(k : Int)]) (lkSet lk k x) (some ⟨g, 0, none⟩) cap sp := by
  have hz := h.size
  refine ⟨by simpa using hz, ?_, fun j hj => ?_, fun j hj => ?_, fun j hj => ?_, ?_⟩
  · simp [hz]
  · by_cases e : j = k
    · subst e
      simp [hz, show 1 + j * 4 = 1 + 4 * j by omega, show 1 + 4 * j < 258 by omega]
    · have h1 := h.done j hj
      have n1 : ¬ 1 + k * 4 + 1 = 1 + 4 * j := by omega
      have n2 : ¬ 1 + k * 4 = 1 + 4 * j := by omega
      have n3 : ¬ 1 + k * 4 + 3 = 1 + 4 * j := by omega
      have n4 : ¬ (0 : Nat) = 1 + 4 * j := by omega
      have n5 : ¬ ((j : Int) = (k : Int)) := by omega
      simp only [Array.getElem?_setIfInBounds, n1, n2, n3, n4, if_false, h1, List.mem_append, List.mem_singleton, n5, or_false]
  · by_cases e : j = k
    · subst e
      simp [hz, show 1 + j * 4 + 1 = 2 + 4 * j by omega, show 2 + 4 * j < 258 by omega]
    · have h1 := h.lock j hj
      have n1 : ¬ 1 + k * 4 + 1 = 2 + 4 * j := by omega
      have n2 : ¬ 1 + k * 4 = 2 + 4 * j := by omega
      have n3 : ¬ 1 + k * 4 + 3 = 2 + 4 * j := by omega
      have n4 : ¬ (0 : Nat) = 2 + 4 * j := by omega
      simp only [Array.getElem?_setIfInBounds, n1, n2, n3, n4, if_false, h1]
  · have n1 : ¬ 1 + k * 4 + 1 = 4 + 4 * j := by omega
    have n2 : ¬ 1 + k * 4 = 4 + 4 * j := by omega
    have n4 : ¬ (0 : Nat) = 4 + 4 * j := by omega
    by_cases e : j = k
    · subst e
      have n3 : 1 + j * 4 + 3 = 4 + 4 * j := by omega
      simp only [Array.getElem?_setIfInBounds, n1, n2, n3, n4, if_false, if_true, lkSet, Array.size_setIfInBounds, hz, show 4 + 4 * j < 258 by omega]
    · have h1 := h.link j hj
      have n3 : ¬ 1 + k * 4 + 3 = 4 + 4 * j := by omega
      simp only [Array.getElem?_setIfInBounds, n1, n2, n3, n4, if_false, h1, lkSet, e]
  · have h1 := h.spans
    have n1 : ¬ 1 + k * 4 + 1 = 257 := by omega
    have n2 : ¬ 1 + k * 4 = 257 := by omega
    have n3 : ¬ 1 + k * 4 + 3 = 257 := by omega
    simp only [Array.getElem?_setIfInBounds, n1, n2, n3, show ¬ (0 : Nat) = 257 by omega, if_false, h1]

set_option maxHeartbeats 4000000 in
theorem add_new (B s k : Nat) (x : Int) (w : World) {cs : Array Value} {keys : List Int} {lk : Nat → Int} {ka : Option Addr} {kc : Nat} {sp : Value} (hb : Blk w s 64 cs) (hs : SetCells cs keys lk ka kc sp)
    (hown : w.ownsRow B 3 1 (.slice ka keys.length kc) keys.length (keys.map (Value.int .i64))) (hns : (Value.slice ka keys.length kc).ownBlock ≠ some s) (hk : k < 64) (hm : ¬ (k : Int) ∈ keys) (hlen : keys.length ≤ 1000) (hB : B ≤ w.heap.size) :
    Calls Try.prog 8 #[.pointer (some ⟨s, 0, none⟩), .int .i64 k, .int .u64 x] w fun e w' => e = .returned (.int .i64 0) ∧
      ∃ cs' g cap, SetCells cs' (keys ++ [(k : Int)]) (lkSet lk k x) (some ⟨g, 0, none⟩) cap sp ∧ Blk w' s 64 cs' ∧ w'.ownsRow B 3 1 (.slice (some ⟨g, 0, none⟩) (keys.length + 1) cap) (keys.length + 1) (keys.map (Value.int .i64) ++ [.int .i64 k]) ∧ Only (fun b => b = s ∨ (Value.slice ka keys.length kc).ownBlock = some b) w w' ∧ ((Value.slice ka keys.length kc).ownBlock = some g ∨ w.heap.size ≤ g) := by
  have hik : isKey (k : Int) = true := by simp [isKey]; omega
  have hd := hs.done k hk
  rw [if_neg hm] at hd
  have g1 : (0 : Int) ≤ (k : Int) := by omega
  have g2 : (k : Int) < 64 := by omega
  have hlt := hb.lt
  have hrl := fun b h => (hown.lt b h).2
  go_enter Try.func8, Try.ntmps8
  go_wp2_with fail
  refine (is_any k _).mono ?_
  rintro e w1 ⟨rfl, rfl⟩
  rw [hik]
  go_wp2_with fail
  go_region
  generalize hW : World.drew _ = W
  have hB4 : Blk W s 64 cs := by rw [← hW]; exact ((((hb.alloc _).alloc _).alloc _).alloc _).drew
  have o4 : Only0 w W := by rw [← hW]; exact (((((Only0.refl w).alloc _).alloc _).alloc _).alloc _).drew
  have K7 : Blk W (w.heap.size + 1 + 1 + 1) 65 #[.pointer (some ⟨s, 1 + k * 4, none⟩)] := by rw [← hW]; exact (Blk.new' _ _ _ _ (by simp)).drew
  have K5 : Blk W (w.heap.size + 1 + 1) 22 #[.int .u64 x] := by rw [← hW]; exact ((Blk.new' _ _ _ _ (by simp)).alloc _).drew
  have K4 : Blk W (w.heap.size + 1) 3 #[.int .i64 k] := by rw [← hW]; exact (((Blk.new' _ _ _ _ (by simp)).alloc _).alloc _).drew
  have K3 : Blk W w.heap.size 24 #[.pointer (some ⟨s, 0, none⟩)] := by rw [← hW]; exact ((((Blk.new' _ _ _ _ rfl).alloc _).alloc _).alloc _).drew
  have R4 := ownsRow_only hown (o4.any (fun _ => False)) (fun _ _ h => h)
  have hc7 : W.cell? ⟨w.heap.size + 1 + 1 + 1, 0, none⟩ = some (.pointer (some ⟨s, 1 + k * 4, none⟩)) := by rw [K7.cell]; rfl
  have hcd : W.cell? ⟨s, 1 + k * 4, none⟩ = some (.int .u32 0) := by rw [hB4.cell, show 1 + k * 4 = 1 + 4 * k by omega]; exact hd
  have hcl : W.cell? ⟨s, 1 + k * 4 + 1, none⟩ = some (.int .i32 0) := by rw [hB4.cell, show 1 + k * 4 + 1 = 2 + 4 * k by omega]; exact hs.lock k hk
  have f1 := hB4.free (1 + k * 4)
  have f2 := hB4.free (1 + k * 4 + 1)
  -- the world in which the function is called
  have hz := hs.size
  have L := hB4.set (1 + k * 4 + 1) (.int .i32 1)
  have zW := o4.size
  have F := add_fn B s (w.heap.size + 1 + 1 + 1) (w.heap.size + 1 + 1) w.heap.size (w.heap.size + 1) k x (W.setCell ⟨s, 1 + k * 4 + 1, none⟩ (.int .i32 1)) (v := .slice ka keys.length kc) (y := .int .u64 (lk k)) L
    (by rw [Array.getElem?_setIfInBounds_ne (by omega)]; exact hs.row) (by rw [Array.getElem?_setIfInBounds_ne (by omega), show 1 + k * 4 + 3 = 4 + 4 * k by omega]; exact hs.link k hk)
    (ownsRow_setCell_other R4 hns _) (K7.other _ _ (by simp; omega)) (K5.other _ _ (by simp; omega)) (K3.other _ _ (by simp; omega)) (K4.other _ _ (by simp; omega))
    (fun e => by have := hrl _ e; omega) hns (fun e => by have := hrl _ e; omega) hlen (by simp; omega)
  have DO := once_do_first s (1 + k * 4) 20 #[.pointer (some ⟨w.heap.size + 1 + 1, 0, none⟩), .pointer (some ⟨w.heap.size + 1 + 1 + 1, 0, none⟩), .pointer (some ⟨w.heap.size, 0, none⟩), .pointer (some ⟨w.heap.size + 1, 0, none⟩)] (fun w1 => ∃ g cap, Blk w1 s 64 (((cs.setIfInBounds (1 + k * 4 + 1) (.int .i32 1)).setIfInBounds (1 + k * 4 + 3) (.int .u64 x)).setIfInBounds 0 (.slice (some ⟨g, 0, none⟩) (keys.length + 1) cap)) ∧ w1.ownsRow B 3 1 (.slice (some ⟨g, 0, none⟩) (keys.length + 1) cap) (keys.length + 1) (keys.map (Value.int .i64) ++ [.int .i64 k]) ∧ Only (fun b => b = s ∨ (Value.slice ka keys.length kc).ownBlock = some b) (W.setCell ⟨s, 1 + k * 4 + 1, none⟩ (.int .i32 1)) w1 ∧ ((Value.slice ka keys.length kc).ownBlock = some g ∨ w.heap.size ≤ g)) W (fun w => add_enter _ w) hcd hcl f1 f2
    (F.mono (by
      rintro e w1 ⟨rfl, g, cap, h1, h2, h3, h4⟩
      refine ⟨rfl, ⟨g, cap, h1, h2, h3, h4.imp id (fun h => Nat.le_trans (Nat.le_trans zW (by simp)) h)⟩, ?_, ?_, h1.free _, h1.free _⟩
      · rw [h1.cell, Array.getElem?_setIfInBounds_ne (by omega), Array.getElem?_setIfInBounds_ne (by omega), Array.getElem?_setIfInBounds_ne (by omega), show 1 + k * 4 = 1 + 4 * k by omega]; exact hd
      · rw [h1.cell, Array.getElem?_setIfInBounds_ne (by omega), Array.getElem?_setIfInBounds_ne (by omega), Array.getElem?_setIfInBounds_self_of_lt (by omega)]))
  clear F
  have OO : Only (fun b => b = s ∨ (Value.slice ka keys.length kc).ownBlock = some b) w (W.setCell ⟨s, 1 + k * 4 + 1, none⟩ (.int .i32 1)) := (o4.any _).setCell (fun _ => .inl rfl) _
  have HSx := Lib.hid hs
  clear hW hb hd hs hm hik hcd hcl f1 f2 L K7 K5 K4 K3 R4 hown
  go_wp2_with fail
  refine DO.mono ?_
  rintro e w1 ⟨rfl, w2, ⟨g, cap, h1, h2, h3, h4⟩, rfl⟩
  clear DO
  have hgs : ∀ b, (Value.slice (some ⟨g, 0, none⟩) (keys.length + 1) cap).ownBlock = some b → b ≠ s := fun b hb e => own_ne h2 h1 (by decide) (e ▸ hb)
  go_wp2_with fail
  go_ret
  refine ⟨rfl, _, g, cap, HSx.out.addKey k hk x g cap, (h1.drew.set _ _).set _ _, ownsRow_setCell_other (ownsRow_setCell_other h2.drew (fun e => hgs _ e rfl) _) (fun e => hgs _ e rfl) _, ?_, h4⟩
  exact ((OO.trans h3).drew.setCell (fun _ => .inl rfl) _).setCell (fun _ => .inl rfl) _
end Go.Proofs.Ythjhhclgmkgigaa

/-
  writes.Set's write of a key that was not written; write, Put and Drop as the plain Wr says.
-/
import Derived.Test.YtldfkcldfjfohaaWAdd
import Derived.KernelRfl
namespace Go.Proofs.Ytldfkcldfjfohaa
open Go.RowKit
set_option linter.unusedVariables false
set_option linter.unusedSimpArgs false

theorem write_enter (cap : Array Value) (w : World) : (callFunc 28 cap).run Try.prog w = .ok (.enter 28 cap) w := by kernel_rfl
/-- The cells behind Do. -/
def putK (cs : Array Value) (k : Nat) (v : Value) : Array Value := (((cs.setIfInBounds (1 + k * 5 + 1) (.int .i32 1)).setIfInBounds 0 v).setIfInBounds (1 + k * 5) (.int .u32 1)).setIfInBounds (1 + k * 5 + 1) (.int .i32 0)
theorem putK_get (cs : Array Value) (k : Nat) (v : Value) (i : Nat) (h0 : (0 : Nat) ≠ i) (h1 : 1 + k * 5 ≠ i) (h2 : 1 + k * 5 + 1 ≠ i) : (putK cs k v)[i]? = cs[i]? := by
  unfold putK
  rw [Array.getElem?_setIfInBounds_ne h2, Array.getElem?_setIfInBounds_ne h1, Array.getElem?_setIfInBounds_ne h0, Array.getElem?_setIfInBounds_ne h2]
theorem WrCells.putK {cs : Array Value} {s : Wr} {ka : Option Addr} {kc : Nat} (h : WrCells cs s ka kc) (k : Nat) (hk : k < 64) (g cap : Nat) :
    WrCells (putK cs k (.slice (some ⟨g, 0, none⟩) (s.keys.length + 1) cap)) ⟨s.keys ++ [(k : Int)], s.val, s.gone⟩ (some ⟨g, 0, none⟩) cap := by
  have hz := h.size
  refine ⟨by simpa [Go.Proofs.Ytldfkcldfjfohaa.putK] using hz, ?_, fun j hj => ?_, fun j hj => ?_, fun j hj => ?_, fun j hj => ?_⟩
  · unfold Go.Proofs.Ytldfkcldfjfohaa.putK
    rw [Array.getElem?_setIfInBounds_ne (by omega), Array.getElem?_setIfInBounds_ne (by omega), Array.getElem?_setIfInBounds_self_of_lt (by simp; omega)]
    simp
  · by_cases e : j = k
    · subst e
      unfold Go.Proofs.Ytldfkcldfjfohaa.putK
      rw [Array.getElem?_setIfInBounds_ne (by omega), show 1 + 5 * j = 1 + j * 5 by omega, Array.getElem?_setIfInBounds_self_of_lt (by simp; omega)]
      simp
    · rw [putK_get _ _ _ _ (by omega) (by omega) (by omega), h.done j hj]
      have n5 : ¬ ((j : Int) = (k : Int)) := by omega
      simp only [List.mem_append, List.mem_singleton, n5, or_false]
  · by_cases e : j = k
    · subst e
      unfold Go.Proofs.Ytldfkcldfjfohaa.putK
      rw [show 2 + 5 * j = 1 + j * 5 + 1 by omega, Array.getElem?_setIfInBounds_self_of_lt (by simp; omega)]
    · rw [putK_get _ _ _ _ (by omega) (by omega) (by omega), h.lock j hj]
  · rw [putK_get _ _ _ _ (by omega) (by omega) (by omega), h.val j hj]
  · rw [putK_get _ _ _ _ (by omega) (by omega) (by omega), h.gone j hj]

set_option maxRecDepth 100000 in
set_option maxHeartbeats 8000000 in
theorem write_new {B : Nat} {w : World} {P : Nat → Prop} {b : Nat} {s : Wr} {cs : Array Value} {ka : Option Addr} {kc : Nat} (h : WIn B w P b s cs ka kc) (k : Nat) (x : Int) (g : Bool) (hk : k < 64) (hx : 0 ≤ x ∧ x ≤ 65535) (hm : ¬ (k : Int) ∈ s.keys) :
    Calls Try.prog 17 #[.pointer (some ⟨b, 0, none⟩), .int .i64 k, .int .i64 x, .bool g] w fun e w' => e = .returned (.int .i64 0) ∧ ∃ G cap,
      Blk w' b 68 (put2 (putK cs k (.slice (some ⟨G, 0, none⟩) (s.keys.length + 1) cap)) k x g) ∧ w'.ownsRow B 3 1 (.slice (some ⟨G, 0, none⟩) (s.keys.length + 1) cap) (s.keys.length + 1) (s.keys.map (Value.int .i64) ++ [.int .i64 k]) ∧ Only (fun c => c = b ∨ (Value.slice ka s.keys.length kc).ownBlock = some c) w w' ∧ ((Value.slice ka s.keys.length kc).ownBlock = some G ∨ w.heap.size ≤ G) := by
  have hd := h.cells.done k hk
  rw [if_neg hm] at hd
  have hcl0 := h.cells.lock k hk
  have hrow := h.cells.row
  have hb := h.blk
  have hown := h.kown
  have hz := h.cells.size
  have hB : B ≤ w.heap.size := by have h1 := h.above b h.ps; have h2 := h.under b h.ps; omega
  have hns := own_ne hown hb (by decide)
  have hlen : s.keys.length ≤ 1000 := by have := h.ok.few; omega
  have g1 : (0 : Int) ≤ (k : Int) := by omega
  have g2 : (k : Int) < 64 := by omega
  have g3 : (k : Int) ≤ 63 := by omega
  obtain ⟨x1, x2⟩ := hx
  have hlt := hb.lt
  have hrl := fun b h => (hown.lt b h).2
  have hvv := h.cells.val k hk
  have hgg := h.cells.gone k hk
  generalize s.val k = v0 at hvv
  generalize s.gone k = gg0 at hgg
  clear h hm
  generalize s.keys = keys at *
  go_enter Try.func17, Try.ntmps17
  go_wp2_with fail
  go_region
  generalize hW : World.drew _ = W
  have hB4 : Blk W b 68 cs := by rw [← hW]; exact ((hb.alloc _).alloc _).drew
  have o4 : Only0 w W := by rw [← hW]; exact (((Only0.refl w).alloc _).alloc _).drew
  have K4 : Blk W (w.heap.size + 1) 3 #[.int .i64 k] := by rw [← hW]; exact (Blk.new' _ _ _ _ (by simp)).drew
  have K3 : Blk W w.heap.size 23 #[.pointer (some ⟨b, 0, none⟩)] := by rw [← hW]; exact ((Blk.new' _ _ _ _ rfl).alloc _).drew
  have R4 := ownsRow_only hown (o4.any (fun _ => False)) (fun _ _ h => h)
  have hcd : W.cell? ⟨b, 1 + k * 5, none⟩ = some (.int .u32 0) := by rw [hB4.cell, show 1 + k * 5 = 1 + 5 * k by omega]; exact hd
  have hcl : W.cell? ⟨b, 1 + k * 5 + 1, none⟩ = some (.int .i32 0) := by rw [hB4.cell, show 1 + k * 5 + 1 = 2 + 5 * k by omega]; exact hcl0
  have f1 := hB4.free (1 + k * 5)
  have f2 := hB4.free (1 + k * 5 + 1)
  have L := hB4.set (1 + k * 5 + 1) (.int .i32 1)
  have zW := o4.size
  have F := write_fn B b w.heap.size (w.heap.size + 1) k (W.setCell ⟨b, 1 + k * 5 + 1, none⟩ (.int .i32 1)) (v := .slice ka keys.length kc) (keys := keys) L
    (by rw [Array.getElem?_setIfInBounds_ne (by omega)]; exact hrow)
    (ownsRow_setCell_other R4 hns _) (K3.other _ _ (by simp; omega)) (K4.other _ _ (by simp; omega))
    (fun e => by have := hrl _ e; omega) hns (fun e => by have := hrl _ e; omega) hlen (by simp; omega)
  have DO := once_do_first b (1 + k * 5) 28 #[.pointer (some ⟨w.heap.size, 0, none⟩), .pointer (some ⟨w.heap.size + 1, 0, none⟩)] (fun w1 => ∃ g cap, Blk w1 b 68 ((cs.setIfInBounds (1 + k * 5 + 1) (.int .i32 1)).setIfInBounds 0 (.slice (some ⟨g, 0, none⟩) (keys.length + 1) cap)) ∧ w1.ownsRow B 3 1 (.slice (some ⟨g, 0, none⟩) (keys.length + 1) cap) (keys.length + 1) (keys.map (Value.int .i64) ++ [.int .i64 k]) ∧ Only (fun c => c = b ∨ (Value.slice ka keys.length kc).ownBlock = some c) (W.setCell ⟨b, 1 + k * 5 + 1, none⟩ (.int .i32 1)) w1 ∧ ((Value.slice ka keys.length kc).ownBlock = some g ∨ w.heap.size ≤ g)) W (fun w => write_enter _ w) hcd hcl f1 f2
    (F.mono (by
      rintro e w1 ⟨rfl, g, cap, h1, h2, h3, h4⟩
      refine ⟨rfl, ⟨g, cap, h1, h2, h3, h4.imp id (fun h => Nat.le_trans (Nat.le_trans zW (by simp)) h)⟩, ?_, ?_, h1.free _, h1.free _⟩
      · rw [h1.cell, Array.getElem?_setIfInBounds_ne (by omega), Array.getElem?_setIfInBounds_ne (by omega), show 1 + k * 5 = 1 + 5 * k by omega]; exact hd
      · rw [h1.cell, Array.getElem?_setIfInBounds_ne (by omega), Array.getElem?_setIfInBounds_self_of_lt (by omega)]))
  clear F
  have OO : Only (fun c => c = b ∨ (Value.slice ka keys.length kc).ownBlock = some c) w (W.setCell ⟨b, 1 + k * 5 + 1, none⟩ (.int .i32 1)) := Only.setCell (p := ⟨b, 1 + k * 5 + 1, none⟩) (o4.any _) (fun _ => .inl rfl) _
  have hv3 : cs[1 + k * 5 + 3]? = some (.int .i64 v0) := by rw [show 1 + k * 5 + 3 = 4 + 5 * k by omega]; exact hvv
  have hv4 : cs[1 + k * 5 + 4]? = some (.bool gg0) := by rw [show 1 + k * 5 + 4 = 5 + 5 * k by omega]; exact hgg
  clear hW hb hd hvv hgg hcl0 hrow hcd hcl f1 f2 L K4 K3 R4 hown
  go_wp2_with fail
  refine DO.mono ?_
  rintro e w1 ⟨rfl, w2, ⟨G, cap, h1, h2, h3, h4⟩, rfl⟩
  clear DO
  have hgs : ∀ c, (Value.slice (some ⟨G, 0, none⟩) (keys.length + 1) cap).ownBlock = some c → c ≠ b := fun c hc e => own_ne h2 h1 (by decide) (e ▸ hc)
  have h5 : Blk (((w2.drew.setCell ⟨b, 1 + k * 5, none⟩ (.int .u32 1)).setCell ⟨b, 1 + k * 5 + 1, none⟩ (.int .i32 0))) b 68 (putK cs k (.slice (some ⟨G, 0, none⟩) (keys.length + 1) cap)) := (h1.drew.set _ _).set _ _
  have o5 := Only.setCell (S := fun c => c = b ∨ (Value.slice ka keys.length kc).ownBlock = some c) (p := ⟨b, 1 + k * 5 + 1, none⟩) (Only.setCell (p := ⟨b, 1 + k * 5, none⟩) (OO.trans h3).drew (fun _ => .inl rfl) (.int .u32 1)) (fun _ => .inl rfl) (.int .i32 0)
  have h6 := ownsRow_setCell_other (a := ⟨b, 1 + k * 5 + 1, none⟩) (ownsRow_setCell_other (a := ⟨b, 1 + k * 5, none⟩) h2.drew (fun e => hgs _ e rfl) (.int .u32 1)) (fun e => hgs _ e rfl) (.int .i32 0)
  generalize hW2 : (w2.drew.setCell ⟨b, 1 + k * 5, none⟩ (.int .u32 1)).setCell ⟨b, 1 + k * 5 + 1, none⟩ (.int .i32 0) = W2 at *
  have cv : W2.cell? ⟨b, 1 + k * 5 + 3, none⟩ = some (.int .i64 v0) := by rw [h5.cell, putK_get _ _ _ _ (by omega) (by omega) (by omega)]; exact hv3
  have cg : W2.cell? ⟨b, 1 + k * 5 + 4, none⟩ = some (.bool gg0) := by rw [h5.cell, putK_get _ _ _ _ (by omega) (by omega) (by omega)]; exact hv4
  have fv := h5.free (1 + k * 5 + 3)
  have fg := h5.free (1 + k * 5 + 4)
  clear hW2 h1 h2 h3 OO hv3 hv4
  go_wp2_with fail
  go_ret
  refine ⟨rfl, G, cap, (h5.set _ _).set _ _, ownsRow_setCell_other (ownsRow_setCell_other h6 (fun e => hgs _ e rfl) _) (fun e => hgs _ e rfl) _, ?_, h4⟩
  exact Only.setCell (p := ⟨b, 1 + k * 5 + 4, none⟩) (Only.setCell (p := ⟨b, 1 + k * 5 + 3, none⟩) o5 (fun _ => .inl rfl) _) (fun _ => .inl rfl) _

/-- What a write answers. -/
def wrCode (k x : Int) : Int := if wrOkB k x then 0 else 1
theorem wr_write {B : Nat} {w : World} {P : Nat → Prop} {b : Nat} {s : Wr} (h : WAt B w P b s) (k x : Int) (g : Bool) :
    Calls Try.prog 17 #[.pointer (some ⟨b, 0, none⟩), .int .i64 k, .int .i64 x, .bool g] w fun e w' => e = .returned (.int .i64 (wrCode k x)) ∧ ∃ P', WAt B w' P' b (s.write k x g) ∧ Only P w w' ∧ Grew w.heap.size P P' := by
  unfold wrCode Wr.write
  cases hok : wrOkB k x with
  | false =>
    refine (write_bad b k x g w hok).mono ?_
    rintro e w' ⟨rfl, o⟩
    exact ⟨rfl, P, h.only0 o, o.any _, Grew.refl _ _⟩
  | true =>
    have hok' := hok
    simp [wrOkB] at hok'
    obtain ⟨j, rfl⟩ := Int.eq_ofNat_of_zero_le hok'.1.1.1
    have hj : j < 64 := by omega
    obtain ⟨cs, ka, kc, h⟩ := h
    have hWk := h.ok.put (k := j) ⟨by omega, by omega⟩ x g
    by_cases hm : (j : Int) ∈ s.keys
    · have he : s.put j x g = ⟨s.keys, updK s.val j x, updK s.gone j g⟩ := by unfold Wr.put; rw [if_pos (hasK_iff.2 hm)]
      refine (write_done h j x g hj ⟨by omega, by omega⟩ hm).mono ?_
      rintro e w' ⟨rfl, h1, o⟩
      refine ⟨rfl, P, ?_, o.toward (fun c hc => by subst hc; exact h.ps), Grew.refl _ _⟩
      rw [if_pos rfl]
      rw [he] at hWk ⊢
      exact ⟨_, ka, kc, h1, h.cells.put2 j hj x g, rows_only h.kown o (fun c hc e => by subst e; exact rows_ne h.kown h.blk (by decide) hc), h.ps, h.pk, h.under.mono o.size, h.above, hWk⟩
    · have he : s.put j x g = ⟨s.keys ++ [(j : Int)], updK s.val j x, updK s.gone j g⟩ := by unfold Wr.put; rw [if_neg (fun e => hm (hasK_iff.1 e))]
      refine (write_new h j x g hj ⟨by omega, by omega⟩ hm).mono ?_
      rintro e w' ⟨rfl, G, cap, h1, h2, o, hG⟩
      refine ⟨rfl, fun c => P c ∨ c = G, ?_, o.toward (fun c hc => ?_), fun c hc => ?_⟩
      · rw [if_pos rfl]
        rw [he] at hWk ⊢
        refine ⟨_, some ⟨G, 0, none⟩, cap, h1, ?_, ?_, .inl h.ps, fun c hc => .inr ?_, fun c hc => ?_, fun c hc => ?_, hWk⟩
        · have hc := (h.cells.putK j hj G cap).put2 j hj x g
          exact hc
        · simpa using h2
        · exact rowOf_some.1 hc
        · rcases hc with hc | rfl
          · have := h.under c hc; have := o.size; omega
          · exact (h2.lt c (by simp [Value.ownBlock])).2
        · rcases hc with hc | rfl
          · exact h.above c hc
          · exact (h2.lt c (by simp [Value.ownBlock])).1
      · rcases hc with rfl | hc
        · exact h.ps
        · exact h.pk c hc
      · rcases hc with hc | rfl
        · exact .inl hc
        · rcases hG with hG | hG
          · exact .inl (h.pk c hG)
          · exact .inr hG

set_option maxHeartbeats 2000000 in
theorem wr_put {B : Nat} {w : World} {P : Nat → Prop} {b : Nat} {s : Wr} (h : WAt B w P b s) (k x : Int) :
    Calls Try.prog 9 #[.pointer (some ⟨b, 0, none⟩), .int .i64 k, .int .i64 x] w fun e w' => e = .returned (.int .i64 (wrCode k x)) ∧ ∃ P', WAt B w' P' b (s.write k x false) ∧ Only P w w' ∧ Grew w.heap.size P P' := by
  have C := wr_write h k x false
  generalize wrCode k x = r at *
  clear h
  go_enter Try.func9, Try.ntmps9
  go_wp2_with fail
  refine C.mono ?_
  rintro e w1 ⟨rfl, P', h1, h2, h3⟩
  go_wp2_with fail
  go_ret
  exact ⟨rfl, P', h1, h2, h3⟩
set_option maxHeartbeats 2000000 in
theorem wr_drop {B : Nat} {w : World} {P : Nat → Prop} {b : Nat} {s : Wr} (h : WAt B w P b s) (k : Int) :
    Calls Try.prog 8 #[.pointer (some ⟨b, 0, none⟩), .int .i64 k] w fun e w' => e = .returned (.int .i64 (wrCode k 0)) ∧ ∃ P', WAt B w' P' b (s.write k 0 true) ∧ Only P w w' ∧ Grew w.heap.size P P' := by
  have C := wr_write h k 0 true
  generalize wrCode k 0 = r at *
  clear h
  go_enter Try.func8, Try.ntmps8
  go_wp2_with fail
  refine C.mono ?_
  rintro e w1 ⟨rfl, P', h1, h2, h3⟩
  go_wp2_with fail
  go_ret
  exact ⟨rfl, P', h1, h2, h3⟩
end Go.Proofs.Ytldfkcldfjfohaa

/-
  reads.Set's Span that goes.
-/
import Derived.Test.YthjhhclgmkgigaaScans
import Derived.Deep.RegionHeld3
import Derived.Deep.AppendLies
import Derived.Deep.RegionLaw
namespace Go.Proofs.Ythjhhclgmkgigaa
open Go.RowKit
set_option linter.unusedVariables false
set_option linter.unusedSimpArgs false

theorem clone_u64_any (la : Option Addr) (c : Nat) (zs : List Int) (w : World) (hx : Ints .u64 w la zs) (hn : la = none → zs = []) (hlen : zs.length ≤ 1000000000) :
    Calls Try.prog 21 #[.slice la zs.length c] w fun e w' => (∃ a cap, e = .returned (.slice a zs.length cap) ∧ w'.ownsRow w.heap.size 22 1 (.slice a zs.length cap) zs.length (zs.map (Value.int .u64))) ∧ Below w.heap.size w w' := by
  rcases la with _ | ad
  · obtain rfl := hn rfl
    refine (clone_u64_nil 0 c w).mono ?_
    rintro e w' ⟨rfl, rfl⟩
    exact ⟨⟨none, 0, rfl, World.ownsRow_nil _ _ _ _⟩, Below.refl _ _⟩
  · refine (clone_u64 ad c zs w hx hlen).mono ?_
    rintro e w' ⟨⟨g, cap, rfl, h⟩, b⟩
    exact ⟨⟨_, cap, rfl, h⟩, b⟩

theorem SetCells.span {cs : Array Value} {keys : List Int} {lk : Nat → Int} {ka : Option Addr} {kc : Nat} {sp sp' : Value} (h : SetCells cs keys lk ka kc sp) : SetCells (cs.setIfInBounds 257 sp') keys lk ka kc sp' := by
  have hz := h.size
  refine ⟨by simpa using hz, ?_, fun j hj => ?_, fun j hj => ?_, fun j hj => ?_, ?_⟩
  · rw [Array.getElem?_setIfInBounds_ne (by omega)]; exact h.row
  · rw [Array.getElem?_setIfInBounds_ne (by omega)]; exact h.done j hj
  · rw [Array.getElem?_setIfInBounds_ne (by omega)]; exact h.lock j hj
  · rw [Array.getElem?_setIfInBounds_ne (by omega)]; exact h.link j hj
  · rw [Array.getElem?_setIfInBounds_self_of_lt (by omega)]

theorem span_fin {B : Nat} {w : World} {P : Nat → Prop} {s : Nat} {keys : List Int} {lk : Nat → Int} {rs : List Rg} {cs : Array Value} {ka sa : Option Addr} {kc sc : Nat} {ss : List SP} (h : SetIn B w P s keys lk rs cs ka sa kc sc ss) (hm : rs.length < 64)
    {w1 w2 : World} {la : Option Addr} {lc g cap : Nat} {lo hi : Int} {ls : List Int} {o : Obj} (hls : ls.length ≤ 1000000)
    (b1 : Below w.heap.size w w1) (hown1 : w1.ownsRow w.heap.size 22 1 (.slice la ls.length lc) ls.length (ls.map (Value.int .u64)))
    (hown2 : w2.ownsRow B 37 3 (.slice (some ⟨g, 0, none⟩) (ss.length + 1) cap) (ss.length + 1) (spRow ss ++ [.int .i64 lo, .int .i64 hi, .slice la ls.length lc])) (hgrow : (w1.alloc o).grownBy w2 (Value.slice sa ss.length sc).ownBlock) (hat : (Value.slice sa ss.length sc).ownBlock = some g ∨ g = w1.heap.size + 1) :
    ∃ P', SetAt B (w2.setCell ⟨s, 257, none⟩ (.slice (some ⟨g, 0, none⟩) (ss.length + 1) cap)) P' s keys lk (rs ++ [⟨lo, hi, ls⟩]) ∧ Only P w (w2.setCell ⟨s, 257, none⟩ (.slice (some ⟨g, 0, none⟩) (ss.length + 1) cap)) ∧ Grew w.heap.size P P' := by
  have z1 := b1.size
  have o1 : Only0 w w1 := Below.only0 b1
  have o2 : Only (rowOf (.slice sa ss.length sc)) w w2 := Only.grownP ((o1.any _).alloc o) hgrow (fun k hk _ => hk)
  have hs2 : Blk w2 s 64 cs := o2.blk h.blk (rows_ne h.sp.own h.blk (by decide))
  have hlt := h.blk.lt
  have sp1 := rows_only h.sp.own (S := fun _ => False) o1 (fun _ _ hf => hf)
  have n2 : ¬ rowOf (.slice (some ⟨g, 0, none⟩) (ss.length + 1) cap) s := rows_ne hown2 hs2 (by decide)
  have oS : ∀ {x : World} {v : Value}, Only (fun b => b = s) x (x.setCell ⟨s, 257, none⟩ v) := fun {x v} => (Only.refl (fun b => b = s) x).setCell (p := ⟨s, 257, none⟩) (fun _ => rfl) v
  have hQ : Only (fun b => b = s ∨ rowOf (.slice sa ss.length sc) b) w (w2.setCell ⟨s, 257, none⟩ (.slice (some ⟨g, 0, none⟩) (ss.length + 1) cap)) := (o2.toward (fun b hb => .inr hb)).trans (oS.toward (fun b hb => .inl hb))
  have hQP : ∀ b, (b = s ∨ rowOf (.slice sa ss.length sc) b) → P b := by
    rintro b (rfl | hb)
    · exact h.ps
    · exact h.sp.fp b hb
  have ap : ∀ {v : Value} {n : Nat} {xs : List Value} {B : Nat} {e : TypeId} {z : Nat}, w.ownsRow B e z v n xs → e ≠ 37 → e ≠ 64 → Apart (rowOf v) (fun b => b = s ∨ rowOf (.slice sa ss.length sc) b) := by
    intro v n xs B e z hr m1 m2 b hb hc
    rcases hc with rfl | hc
    · exact rows_ne hr h.blk m2 hb
    · exact rows_apart hr h.sp.own m1 b hb hc
  have hg : (rowOf (.slice sa ss.length sc) g ∨ w.heap.size ≤ g) := by
    rcases hat with e | e
    · exact .inl e
    · exact .inr (by omega)
  have L2 : w2.ownsRow w.heap.size 22 1 (.slice la ls.length lc) ls.length (ls.map (Value.int .u64)) := by
    have oo : Only (rowOf (.slice sa ss.length sc)) w1 w2 := Only.grownP ((Only.refl _ w1).alloc o) hgrow (fun k hk _ => hk)
    exact rows_only hown1 oo (rows_apart hown1 sp1 (by decide))
  have L3 : (w2.setCell ⟨s, 257, none⟩ (.slice (some ⟨g, 0, none⟩) (ss.length + 1) cap)).ownsRow w.heap.size 22 1 (.slice la ls.length lc) ls.length (ls.map (Value.int .u64)) :=
    rows_only L2 oS (fun b hb e => rows_ne L2 hs2 (by decide) (e ▸ hb))
  have hBw : B ≤ w.heap.size := by have := h.above s h.ps; omega
  refine ⟨fun b => P b ∨ b = g ∨ rowOf (.slice la ls.length lc) b, ⟨_, ka, some ⟨g, 0, none⟩, kc, cap, ss ++ [⟨lo, hi, la, ls.length, lc⟩], hs2.set _ _, by simpa using h.cells.span, rows_only h.kown hQ (ap h.kown (by decide) (by decide)), ⟨?_, by simp [h.sp.len], fun i hi' => ?_, ?_⟩, .inl h.ps, fun b hb => .inl (h.pk b hb), ?_, ?_, h.nd, h.kr, by simp; omega⟩, hQ.toward hQP, ?_⟩
  · have := rows_only hown2 (oS (v := .slice (some ⟨g, 0, none⟩) (ss.length + 1) cap)) (fun b hb e => n2 (e ▸ hb))
    rw [spRow_snoc]
    simpa [spCells] using this
  · by_cases hi2 : i < ss.length
    · have R := h.sp.at_ i hi2
      have hr2 : i < rs.length := by have := h.sp.len; omega
      rw [show (ss ++ [(⟨lo, hi, la, ls.length, lc⟩ : SP)]).getD i default = ss.getD i default by simp [List.getD_eq_getElem?_getD, List.getElem?_append_left hi2], show (rs ++ [(⟨lo, hi, ls⟩ : Rg)]).getD i default = rs.getD i default by simp [List.getD_eq_getElem?_getD, List.getElem?_append_left hr2]]
      exact ⟨R.lo, R.hi, R.n, rows_only R.own hQ (ap R.own (by decide) (by decide)), fun b hb => .inl (R.fp b hb), R.short⟩
    · have e1 : i = ss.length := by simp at hi'; omega
      have e2 : i = rs.length := by have := h.sp.len; omega
      rw [show (ss ++ [(⟨lo, hi, la, ls.length, lc⟩ : SP)]).getD i default = ⟨lo, hi, la, ls.length, lc⟩ by rw [e1]; simp [List.getD_eq_getElem?_getD], show (rs ++ [(⟨lo, hi, ls⟩ : Rg)]).getD i default = ⟨lo, hi, ls⟩ by rw [e2]; simp [List.getD_eq_getElem?_getD]]
      exact ⟨rfl, rfl, rfl, rows_base L3 hBw, fun b hb => .inr (.inr hb), hls⟩
  · intro b hb
    have := rowOf_some.1 hb
    exact .inr (.inl this)
  · rintro b (hb | rfl | hb)
    · exact Nat.lt_of_lt_of_le (h.under b hb) hQ.size
    · have := (hown2.lt _ rfl).2; simpa [World.setCell] using this
    · have := (L3.lt b hb).2; exact this
  · rintro b (hb | rfl | hb)
    · exact h.above b hb
    · exact (hown2.lt _ rfl).1
    · exact Nat.le_trans hBw (L3.lt b hb).1
  · rintro b (hb | rfl | hb)
    · exact .inl hb
    · rcases hg with hg | hg
      · exact .inl (h.sp.fp _ hg)
      · exact .inr hg
    · exact .inr (L3.lt b hb).1

set_option maxRecDepth 100000 in
set_option maxHeartbeats 6000000 in
theorem span_go {B : Nat} {w : World} {P : Nat → Prop} {s : Nat} {keys : List Int} {lk : Nat → Int} {rs : List Rg} {cs : Array Value} {ka sa : Option Addr} {kc sc : Nat} {ss : List SP} (h : SetIn B w P s keys lk rs cs ka sa kc sc ss) (hm : rs.length < 64)
    (lo hi : Int) (la : Option Addr) (lc : Nat) (ls : List Int) (hx : Ints .u64 w la ls) (hn : la = none → ls = []) (hls : ls.length ≤ 1000000) (h0 : 0 ≤ lo) (h1 : lo ≤ hi) (h2 : hi ≤ 63) :
    Calls Try.prog 9 #[.pointer (some ⟨s, 0, none⟩), .int .i64 lo, .int .i64 hi, .slice la ls.length lc] w fun e w' => e = .returned (.int .i64 0) ∧ ∃ P', SetAt B w' P' s keys lk (rs ++ [⟨lo, hi, ls⟩]) ∧ Only P w w' ∧ Grew w.heap.size P P' := by
  have i1 := is_any lo w
  have i2 := is_any hi w
  rw [show isKey lo = true by simp [isKey]; omega] at i1
  rw [show isKey hi = true by simp [isKey]; omega] at i2
  have hl := h.sp.len
  have hsl : ss.length < 64 := by omega
  have c1 := (h.blk.cell 257).trans h.cells.spans
  have C := clone_u64_any la lc ls w.drew hx hn (by omega)
  have H := Lib.hid h
  have HL := Lib.hid hl
  obtain ⟨i0, hi0, hz0, hz1, hz2⟩ := info_parts info_scan
  have hBw : B ≤ w.heap.size := by have := h.above s h.ps; have := h.blk.lt; omega
  have hlt := h.blk.lt
  have hlr := spRow_len ss
  have HR := Lib.hid hlr
  have ns : (Value.slice sa ss.length sc).ownBlock ≠ some s := rows_ne h.sp.own h.blk (by decide)
  clear h hl hx hn hlr
  go_enter Try.func9, Try.ntmps9
  go_wp2_with fail
  refine i1.mono ?_
  rintro e w1 ⟨rfl, rfl⟩
  go_wp2_with fail
  refine i2.mono ?_
  rintro e w1 ⟨rfl, rfl⟩
  clear i1 i2
  go_wp2_with fail
  have c1d : w.drew.cell? ⟨s, 257, none⟩ = some (.slice sa ss.length sc) := c1
  clear c1
  have FIN := fun w1 w2 la' lc' g cap o b1 h1 h2 h3 h4 => span_fin H.out hm (w1 := w1) (w2 := w2) (la := la') (lc := lc') (g := g) (cap := cap) (lo := lo) (hi := hi) (ls := ls) (o := o) hls b1 h1 h2 h3 h4
  have FI := Lib.hid FIN
  clear FIN
  go_region_law ((first | (refine step_append_lies _ (by rfl) _ _ _ (by rfl) B 37 i0 _ 3 40 Try.underlying33 hi0 hz0 hz1 hz2 rfl (by omega) (.slice sa ss.length sc) ss.length (spRow ss) (by rfl) (hsp.alloc _) ⟨w1.heap.size, 0, none⟩ 1 1 [.int .i64 lo, .int .i64 hi, .slice la' ls.length lc'] (by rfl) (by rfl) (World.news_of_block (cs := #[.int .i64 lo, .int .i64 hi, .slice la' ls.length lc']) (t := 37) (fr := (0, 0)) (heap_alloc_new w1 _)) (by simp [Value.oneCell']) (by omega) (by unfold maxLen; omega) (by omega) (by simp; omega) (w1.heap.size + 1) (by simp) ?_; intro g cap w2 hown2 hgrow hat hlt2; (have cz2 : w2.cell? ⟨s, 257, none⟩ = some (.slice sa ss.length sc) := (hgrow.cell_far ⟨s, 257, none⟩ (by simp; omega) (Ne.symm ns)).trans (Lib.cell?_alloc_some _ cz)); (have fz2 : w2.frozen? ⟨s, 257, none⟩ = false := (hgrow.frozen_far ⟨s, 257, none⟩ (by simp; omega) (Ne.symm ns)).trans fz)) | (go_simp; refine C.mono ?_; rintro e w1 ⟨⟨la', lc', rfl, hown1⟩, b1⟩; (have b1' : Below w.heap.size w w1 := ⟨b1.os, b1.tape, b1.output, b1.size, b1.block⟩); have hsp := rows_only H.out.sp.own (S := fun _ => False) (Below.only0 b1') (fun _ _ hf => hf); (have cz : w1.cell? ⟨s, 257, none⟩ = some (.slice sa ss.length sc) := (b1.cell (p := ⟨s, 257, none⟩) hlt).trans c1d); (have fz : (w1.alloc (.cells #[.int .i64 lo, .int .i64 hi, .slice la' ls.length lc'] 37)).frozen? ⟨s, 257, none⟩ = false := Blk.free (Blk.alloc ((Below.only0 b1').blk H.out.blk (fun hf => hf)) _) 257); (have zlt : s < w1.heap.size := Nat.lt_of_lt_of_le hlt b1.size); (have hb1 : B ≤ w1.heap.size := Nat.le_trans hBw b1.size); try go_wp2_with fail)))
  all_goals
    go_wp2_with fail
    go_ret
    exact ⟨rfl, FI.out _ _ _ _ _ _ _ b1' hown1 hown2 hgrow hat⟩
end Go.Proofs.Ythjhhclgmkgigaa

/-
  What (*Table).End does: it is refused, or the end is told once, by sync.Once.
-/
import Derived.Test.YtlomgbnggmaeeaaTable
namespace Go.Proofs.Ytlomgbnggmaeeaa
open Go.RowKit
set_option linter.unusedVariables false

set_option maxHeartbeats 400000 in
theorem end_closure (E X p : Nat) (en : Int) (u : Value) (w : World) (hE : w.cell? ⟨E, 0, none⟩ = some (.int .u64 en)) (hX : w.cell? ⟨X, 0, none⟩ = some (ptr p)) (hc : w.cell? ⟨p, 2, none⟩ = some u) (hf : w.frozen? ⟨p, 2, none⟩ = false) :
    Calls Try.prog 27 #[ptr E, ptr X] w fun e w' => e = .returned (.tuple #[]) ∧ w.setCell ⟨p, 2, none⟩ (.int .u64 en) = w' := by
  unfold ptr at *
  go_enter Try.func27, Try.ntmps27
  go_wp2_with fail
  go_end0
  exact ⟨rfl, rfl⟩
theorem end_enter (a : Array Value) (w : World) : (callFunc 27 a).run Try.prog w = .ok (.enter 27 a) w := by kernel_rfl

theorem cells_once1 (x : TX) (h : x.en = 0) : (TX.cells x).setIfInBounds 5 (.int .i32 1) = #[.int .i64 x.level, .int .u64 x.beg, .int .u64 0, .int .i64 x.st, .int .u32 0, .int .i32 1, .int .u32 0] := by simp [TX.cells, h]
theorem cells_end (x : TX) (e : Int) (h : ¬ e = 0) : (((#[.int .i64 x.level, .int .u64 x.beg, .int .u64 0, .int .i64 x.st, .int .u32 0, .int .i32 1, .int .u32 0] : Array Value).setIfInBounds 2 (.int .u64 e)).setIfInBounds 4 (.int .u32 1)).setIfInBounds 5 (.int .i32 0) = TX.cells { x with en := e } := by simp [TX.cells, h]

/-- x.once.Do of the closure, the end not told yet. -/
theorem end_once {w : World} {p E X : Nat} {x : TX} {en : Int} (hx : Blk w p 74 (TX.cells x)) (h0 : x.en = 0) (hen : ¬ en = 0) (hE : w.cell? ⟨E, 0, none⟩ = some (.int .u64 en)) (hX : w.cell? ⟨X, 0, none⟩ = some (ptr p)) (hpE : p ≠ E) (hpX : p ≠ X) :
    Calls Try.prog 26 #[.pointer (some ⟨p, 4, none⟩), .func (.func 27) #[] #[ptr E, ptr X]] w fun e w' => e = .returned (.tuple #[]) ∧ Blk w' p 74 (TX.cells { x with en := en }) ∧ Only (fun k => k = p) w w' := by
  have c4 : w.cell? ⟨p, 4, none⟩ = some (.int .u32 0) := by rw [hx.cell]; simp [TX.cells, h0]
  have c5 : w.cell? ⟨p, 4 + 1, none⟩ = some (.int .i32 0) := by rw [hx.cell]; simp [TX.cells]
  have hx1 := hx.set 5 (.int .i32 1)
  rw [cells_once1 x h0] at hx1
  have o1 : Only (fun k => k = p) w (w.setCell ⟨p, 4 + 1, none⟩ (.int .i32 1)) := (Only.refl (fun k => k = p) w).setCell (fun _ => rfl) _
  have hE1 : (w.setCell ⟨p, 4 + 1, none⟩ (.int .i32 1)).cell? ⟨E, 0, none⟩ = some (.int .u64 en) := by rw [World.cell?_of_block (o1.block E (block_lt_of_cell hE) (Ne.symm hpE))]; exact hE
  have hX1 : (w.setCell ⟨p, 4 + 1, none⟩ (.int .i32 1)).cell? ⟨X, 0, none⟩ = some (ptr p) := by rw [World.cell?_of_block (o1.block X (block_lt_of_cell hX) (Ne.symm hpX))]; exact hX
  have hcl := end_closure E X p en _ _ hE1 hX1 (hx1.cell 2) (hx1.free 2)
  have hx2 := hx1.set 2 (.int .u64 en)
  refine (once_do_first p 4 27 #[ptr E, ptr X] (fun w1 => w1 = (w.setCell ⟨p, 4 + 1, none⟩ (.int .i32 1)).setCell ⟨p, 2, none⟩ (.int .u64 en)) w (fun w => end_enter _ w) c4 c5 (hx.free 4) (hx.free 5) (hcl.mono ?_)).mono ?_
  · rintro e w1 ⟨rfl, rfl⟩
    refine ⟨rfl, rfl, ?_, ?_, hx2.free 4, hx2.free 5⟩
    · rw [hx2.cell]; rfl
    · rw [hx2.cell]; rfl
  · rintro e w' ⟨rfl, w1, rfl, rfl⟩
    refine ⟨rfl, ?_, ?_⟩
    · have hx3 := (hx2.drew.set 4 (.int .u32 1)).set 5 (.int .i32 0)
      rw [cells_end x en hen] at hx3
      exact hx3
    · exact (((o1.setCell (p := ⟨p, 2, none⟩) (fun _ => rfl) (.int .u64 en)).drew.setCell (p := ⟨p, 4, none⟩) (fun _ => rfl) (.int .u32 1)).setCell (p := ⟨p, 4 + 1, none⟩) (fun _ => rfl) (.int .i32 0))

set_option maxRecDepth 100000 in
set_option maxHeartbeats 2000000 in
theorem table_end {B : Nat} {w : World} {t : Nat} {v : Value} {ps : List Nat} {most : Int} {ts : List TX} (h : Tab B w t v ps most ts) (id en : Int) (he : 0 ≤ en ∧ en ≤ 18446744073709551615) (hpos : ∀ x ∈ ts, 0 ≤ x.en) :
    Calls Try.prog 10 #[ptr t, .int .i64 id, .int .u64 en] w fun e w' => e = .returned (.int .i64 (endErr ts id en)) ∧ Tab B w' t v ps most (endTs ts id en) ∧ Only (Foot t v ps) w w' := by
  have hE : Only (fun _ => False) w (w.alloc (.cells #[.int .u64 en] 32)) := (Only.refl _ w).alloc _
  have hT1 := h.only hE (fun _ _ hf => hf)
  have eE : (w.alloc (.cells #[.int .u64 en] 32)).cell? ⟨w.heap.size, 0, none⟩ = some (.int .u64 en) := by rw [(Blk.new w _ _).cell]; rfl
  have hsz : (w.alloc (.cells #[.int .u64 en] 32)).heap.size = w.heap.size + 1 := by simp
  have hfl := h.foot_lt
  rcases tget_cases ts id with ⟨h0, h1, hg⟩ | ⟨hi, hg⟩
  · have hil : (id - 1).toNat < ts.length := by omega
    have hgo := get_on hT1 id h0 h1
    have hp := mem_getD (show (id - 1).toNat < ps.length by rw [h.len]; exact hil)
    have hxm : ts.getD (id - 1).toNat TX.zero ∈ ts := by rw [List.getD_eq_getElem?_getD, List.getElem?_eq_getElem hil]; exact List.getElem_mem _
    have hx0 := hpos _ hxm
    have H2 : Tab B ((w.alloc (.cells #[.int .u64 en] 32)).alloc (.cells #[ptr (ps.getD (id - 1).toNat 0)] 57)) t v ps most ts := hT1.only ((Only.refl (fun _ => False) _).alloc _) (fun _ _ hf => hf)
    have hx := H2.tx _ hil
    have hput := fun w' => H2.put (w' := w') (id - 1).toNat hil { ts.getD (id - 1).toNat TX.zero with en := en }
    have hplt := hfl _ (.inr (.inr hp))
    have eX : ((w.alloc (.cells #[.int .u64 en] 32)).alloc (.cells #[ptr (ps.getD (id - 1).toNat 0)] 57)).cell? ⟨w.heap.size + 1, 0, none⟩ = some (ptr (ps.getD (id - 1).toNat 0)) := by rw [(Blk.new' _ _ _ (w.heap.size + 1) hsz.symm).cell]; rfl
    have eE2 : ((w.alloc (.cells #[.int .u64 en] 32)).alloc (.cells #[ptr (ps.getD (id - 1).toNat 0)] 57)).cell? ⟨w.heap.size, 0, none⟩ = some (.int .u64 en) := by rw [World.cell?_alloc_past _ _ _ (by omega)]; exact eE
    have o2 : Only (Foot t v ps) w ((w.alloc (.cells #[.int .u64 en] 32)).alloc (.cells #[ptr (ps.getD (id - 1).toNat 0)] 57)) := ((Only.refl _ w).alloc _).alloc _
    unfold endTs endErr
    rw [hg]
    dsimp only
    unfold tput
    generalize ts.getD (id - 1).toNat TX.zero = x at *
    generalize ps.getD (id - 1).toNat 0 = p at *
    obtain ⟨c0, c1, c2, c3⟩ := tx_c hx
    obtain ⟨e0, e1⟩ := he
    clear hg hT1 hE
    unfold ptr at *
    by_cases g1 : x.st = 2 ∧ x.en = 0
    · obtain ⟨g1, g2⟩ := g1
      have ho := fun hen n => end_once (E := w.heap.size) (X := w.heap.size + 1) (en := en) (hx.drewN n) g2 hen eE2 eX (by omega) (by omega)
      unfold ptr at ho
      rw [g1] at c3
      rw [g2] at c2
      have hld := i64_load p 3 2 _ c3
      by_cases g3 : en = 0 ∨ 1099511627776 < en ∨ en ≤ x.beg
      · have hv : (if x.st ≠ 2 ∨ 0 < x.en then (7 : Int) else if en = 0 ∨ 1099511627776 < en ∨ en ≤ x.beg then 1 else 0) = 1 := by rw [if_neg (by omega), if_pos g3]
        simp only [hv]
        rw [if_neg (by decide)]
        clear hv
        have hcase : en = 0 ∨ (¬ en = 0 ∧ 1099511627776 < en) ∨ (¬ en = 0 ∧ en ≤ 1099511627776 ∧ en ≤ x.beg) := by omega
        clear g3 g2 g1 hput ho hx hpos hx0
        rcases hcase with g3 | ⟨g3, g4⟩ | ⟨g3, g4, g5⟩
        · subst g3
          go_enter Try.func10, Try.ntmps10
          go_wp2_with fail
          refine hgo.mono ?_
          rintro e w1 ⟨rfl, rfl⟩
          go_wp2_with fail
          refine hld.mono ?_
          rintro e w1 ⟨rfl, rfl⟩
          go_wp2_with fail
          go_quiet (fail)
          go_wp2_with fail
          go_ret
          exact ⟨rfl, H2.only ((Only.refl (fun _ => False) _).drewN _) (fun _ _ hf => hf), o2.drewN _⟩
        · have g3' : (en == 0) = false := by simpa using g3
          go_enter Try.func10, Try.ntmps10
          go_wp2_with fail
          refine hgo.mono ?_
          rintro e w1 ⟨rfl, rfl⟩
          go_wp2_with fail
          refine hld.mono ?_
          rintro e w1 ⟨rfl, rfl⟩
          go_wp2_with fail
          go_quiet (fail)
          go_wp2_with fail
          go_ret
          exact ⟨rfl, H2.only ((Only.refl (fun _ => False) _).drewN _) (fun _ _ hf => hf), o2.drewN _⟩
        · have g3' : (en == 0) = false := by simpa using g3
          have g4' : decide (1099511627776 < en) = false := by simpa using g4
          go_enter Try.func10, Try.ntmps10
          go_wp2_with fail
          refine hgo.mono ?_
          rintro e w1 ⟨rfl, rfl⟩
          go_wp2_with fail
          refine hld.mono ?_
          rintro e w1 ⟨rfl, rfl⟩
          go_wp2_with fail
          go_quiet (fail)
          go_wp2_with fail
          go_ret
          exact ⟨rfl, H2.only ((Only.refl (fun _ => False) _).drewN _) (fun _ _ hf => hf), o2.drewN _⟩
      · have hv : (if x.st ≠ 2 ∨ 0 < x.en then (7 : Int) else if en = 0 ∨ 1099511627776 < en ∨ en ≤ x.beg then 1 else 0) = 0 := by rw [if_neg (by omega), if_neg g3]
        simp only [hv]
        rw [if_pos trivial]
        clear hv
        have g4 : ¬ en = 0 := by omega
        have g5 : en ≤ 1099511627776 := by omega
        have g6 : x.beg < en := by omega
        have g4' : (en == 0) = false := by simpa using g4
        have g5' : decide (1099511627776 < en) = false := by simpa using g5
        have g6' : decide (en ≤ x.beg) = false := by simpa using g6
        have hdo := ho g4
        clear g3 g2 g1 hx hpos hx0 ho
        have hmf : ∀ (fn : Fn) (first cap : Array Value) (w : World), (Instr.makeFunc fn first cap).run Try.prog w = .ok (.func fn first cap) w := fun _ _ _ _ => rfl
        go_enter Try.func10, Try.ntmps10
        go_wp2_with fail
        refine hgo.mono ?_
        rintro e w1 ⟨rfl, rfl⟩
        go_wp2_with fail
        refine hld.mono ?_
        rintro e w1 ⟨rfl, rfl⟩
        go_wp2_with fail
        go_quiet (fail)
        go_wp2_with fail
        refine (hdo nq).mono ?_
        rintro e w1 ⟨rfl, hb, ho⟩
        go_wp2_with fail
        go_ret
        exact ⟨rfl, hput _ (((Only.refl _ _).drewN nq).trans ho) hb, (o2.drewN nq).trans (ho.mono (fun k _ hk => by subst hk; exact .inr (.inr hp)))⟩
    · have hv : (if x.st ≠ 2 ∨ 0 < x.en then (7 : Int) else if en = 0 ∨ 1099511627776 < en ∨ en ≤ x.beg then 1 else 0) = 7 := by rw [if_pos (by omega)]
      simp only [hv]
      rw [if_neg (by decide)]
      clear hv hput hx hpos
      by_cases g2 : x.st = 2
      · have g3 : 0 < x.en := by omega
        rw [g2] at c3
        have hld := i64_load p 3 2 _ c3
        clear g1 g2
        go_enter Try.func10, Try.ntmps10
        go_wp2_with fail
        refine hgo.mono ?_
        rintro e w1 ⟨rfl, rfl⟩
        go_wp2_with fail
        refine hld.mono ?_
        rintro e w1 ⟨rfl, rfl⟩
        go_wp2_with fail
        go_ret
        exact ⟨rfl, H2, o2⟩
      · have hld := i64_load p 3 x.st _ c3
        have g3 : (x.st != 2) = true := by simpa using g2
        go_enter Try.func10, Try.ntmps10
        go_wp2_with fail
        refine hgo.mono ?_
        rintro e w1 ⟨rfl, rfl⟩
        go_wp2_with fail
        refine hld.mono ?_
        rintro e w1 ⟨rfl, rfl⟩
        go_wp2_with fail
        go_ret
        exact ⟨rfl, H2, o2⟩
  · unfold endTs endErr
    rw [hg]
    dsimp only
    have hgo := get_off hT1 id hi
    have o2 : Only (Foot t v ps) w ((w.alloc (.cells #[.int .u64 en] 32)).alloc (.cells #[.pointer none] 57)) := ((Only.refl _ w).alloc _).alloc _
    have H2 : Tab B ((w.alloc (.cells #[.int .u64 en] 32)).alloc (.cells #[.pointer none] 57)) t v ps most ts := hT1.only ((Only.refl (fun _ => False) _).alloc _) (fun _ _ hf => hf)
    unfold ptr at *
    clear hg
    go_enter Try.func10, Try.ntmps10
    go_wp2_with fail
    refine hgo.mono ?_
    rintro e w1 ⟨rfl, rfl⟩
    go_wp2_with fail
    go_ret
    exact ⟨rfl, H2, o2⟩
end Go.Proofs.Ytlomgbnggmaeeaa

/-
  model.Model: Begin, walked.
-/
import Derived.Test.YtcbhafddehipdaaMdBegin
namespace Go.Proofs.Ytcbhafddehipdaa
open Go.RowKit
set_option linter.unusedVariables false
set_option linter.unusedSimpArgs false

theorem heap3 (W : World) (o : Obj) (x : Nat) (h1 : W.heap.size ≤ x) (h2 : x < W.heap.size + 3) : (((W.alloc o).alloc o).alloc o).heap[x]? = some o := by
  show (((W.heap.push o).push o).push o)[x]? = some o
  rw [Array.getElem?_push]
  split
  · rfl
  · rename_i e1
    rw [Array.getElem?_push]
    split
    · rfl
    · rename_i e2
      rw [Array.getElem?_push]
      split
      · rfl
      · rename_i e3
        simp at e1 e2 e3; omega
set_option maxRecDepth 100000 in
set_option maxHeartbeats 16000000 in
theorem md_begin_ok {B m : Nat} {w : World} {P : Nat → Prop} {s : St} {A : Ad} (h : MIn B w P m s A) (j : Nat) (level : Int) (hj : j < 8) (hl : levelB level = true) (htx : s.tx j = none) (hmade : s.made < 2000) (hnow : s.now < s.limit) :
    Calls Try.prog 23 #[.pointer (some ⟨m, 0, none⟩), .int .i64 j, .int .i64 level] w (BeRes B m w P (s.made + 1, 0, { s with made := s.made + 1, now := s.now + 1, tx := upd s.tx j (some (newTx (s.made + 1) level (s.now + 1))) })) := by
  have CS := md_sess j w
  rw [show sessB (j : Int) = true by simp [sessB]; omega] at CS
  have CL := md_level level w
  rw [hl] at CL
  have cj := h.sess j hj
  rw [show txPtr A s.tx j = .pointer none by simp [txPtr, htx]] at cj
  have m1 : w.cell? ⟨m, 1, none⟩ = some (.int .u64 s.limit) := h.mod.cell 1
  have m2 : w.cell? ⟨m, 2, none⟩ = some (.int .u64 s.now) := h.mod.cell 2
  have m3 : w.cell? ⟨m, 3, none⟩ = some (.int .i64 s.made) := h.mod.cell 3
  obtain ⟨n1, n2⟩ := h.ok.now
  obtain ⟨l1, l2⟩ := h.ok.limit
  obtain ⟨d1, d2⟩ := h.ok.made
  have j8 : (j : Int) < 8 := by omega
  have j0 : (0 : Int) ≤ (j : Int) := by omega
  have HH := Lib.hid h
  have hmm := @run_makeMap Try.prog
  clear h htx hl
  go_enter Try.func23, Try.ntmps23
  go_wp2_with fail
  refine CS.mono ?_
  rintro e w1 ⟨rfl, rfl⟩
  go_wp2_with fail
  refine CL.mono ?_
  rintro e w1 ⟨rfl, rfl⟩
  clear CS CL
  go_wp2_with fail
  go_quiet (fail)
  have M1 := HH.out.drewN nq
  have O1 : Only P w (w.drewN nq) := (Only.refl P w).drewN nq
  have z1 : w.heap.size ≤ (w.drewN nq).heap.size := Nat.le_refl _
  replace m2 : (w.drewN nq).cell? ⟨m, 2, none⟩ = some (.int .u64 s.now) := m2
  replace m3 : (w.drewN nq).cell? ⟨m, 3, none⟩ = some (.int .i64 s.made) := m3
  clear m1 cj
  generalize w.drewN nq = W1 at *
  have f2 := M1.mod.free 2
  have f3 := M1.mod.free 3
  obtain ⟨s2, hs2⟩ : ∃ s2 : St, s2 = { s with slots := s.slots, limit := s.limit, now := s.now + 1, made := s.made + 1 } := ⟨_, rfl⟩
  obtain ⟨W2, hW2⟩ : ∃ W2, W2 = (W1.setCell ⟨m, 3, none⟩ (.int .i64 (s.made + 1))).setCell ⟨m, 2, none⟩ (.int .u64 (s.now + 1)) := ⟨_, rfl⟩
  have o12 : Only (fun b => b = m) W1 W2 := by rw [hW2]; exact (Only.set1 W1 m 3 _).trans (Only.set1 _ m 2 _)
  have M2 : MIn B W2 P m s2 A := by
    rw [hs2]
    refine M1.setMod o12 ?_ ⟨M1.ok.slots, M1.ok.limit, by simp; omega, by simp; omega, M1.ok.few, M1.ok.lin, M1.ok.ops, M1.ok.refs⟩
    have := (M1.mod.set 3 (.int .i64 (s.made + 1))).set 2 (.int .u64 (s.now + 1))
    rw [hW2]
    have e : ((modCells A s).setIfInBounds 3 (.int .i64 (s.made + 1))).setIfInBounds 2 (.int .u64 (s.now + 1)) = modCells A { s with slots := s.slots, limit := s.limit, now := s.now + 1, made := s.made + 1 } := by simp [modCells]
    rw [← e]; exact this
  have p2 : W2.cell? ⟨m, 2, none⟩ = some (.int .u64 (s.now + 1)) := by rw [M2.mod.cell 2, hs2]; rfl
  have p3 : W2.cell? ⟨m, 3, none⟩ = some (.int .i64 (s.made + 1)) := by rw [M2.mod.cell 3, hs2]; rfl
  have HM2 := Lib.hid M2
  have HO2' := O1.trans (o12.toward (fun b hb => by subst hb; exact M1.pm))
  have HZ' := Nat.le_trans z1 o12.size
  have pj : ∀ o1 o2 o3 o4, ((((W2.alloc o1).alloc o2).alloc o3).alloc o4).cell? ⟨m, 5 + j, none⟩ = some (txPtr A s2.tx j) := fun o1 o2 o3 o4 => by
    rw [Blk.cell ((((M2.mod.alloc o1).alloc o2).alloc o3).alloc o4), modCells_tx A s2 j hj]
  have pf : ∀ o1 o2 o3 o4, ((((W2.alloc o1).alloc o2).alloc o3).alloc o4).frozen? ⟨m, 5 + j, none⟩ = false := fun o1 o2 o3 o4 => Blk.free ((((M2.mod.alloc o1).alloc o2).alloc o3).alloc o4) _
  have q21 : ∀ o1, (W2.alloc o1).cell? ⟨m, 2, none⟩ = some (.int .u64 (s.now + 1)) := fun o1 => by rw [Blk.cell (M2.mod.alloc o1), hs2]; rfl
  have q22 : ∀ o1 o2, ((W2.alloc o1).alloc o2).cell? ⟨m, 2, none⟩ = some (.int .u64 (s.now + 1)) := fun o1 o2 => by rw [Blk.cell ((M2.mod.alloc o1).alloc o2), hs2]; rfl
  have q23 : ∀ o1 o2 o3, (((W2.alloc o1).alloc o2).alloc o3).cell? ⟨m, 2, none⟩ = some (.int .u64 (s.now + 1)) := fun o1 o2 o3 => by rw [Blk.cell (((M2.mod.alloc o1).alloc o2).alloc o3), hs2]; rfl
  have q31 : ∀ o1, (W2.alloc o1).cell? ⟨m, 3, none⟩ = some (.int .i64 (s.made + 1)) := fun o1 => by rw [Blk.cell (M2.mod.alloc o1), hs2]; rfl
  have q32 : ∀ o1 o2, ((W2.alloc o1).alloc o2).cell? ⟨m, 3, none⟩ = some (.int .i64 (s.made + 1)) := fun o1 o2 => by rw [Blk.cell ((M2.mod.alloc o1).alloc o2), hs2]; rfl
  have q33 : ∀ o1 o2 o3, (((W2.alloc o1).alloc o2).alloc o3).cell? ⟨m, 3, none⟩ = some (.int .i64 (s.made + 1)) := fun o1 o2 o3 => by rw [Blk.cell (((M2.mod.alloc o1).alloc o2).alloc o3), hs2]; rfl
  have q34 : ∀ o1 o2 o3 o4, ((((W2.alloc o1).alloc o2).alloc o3).alloc o4).cell? ⟨m, 3, none⟩ = some (.int .i64 (s.made + 1)) := fun o1 o2 o3 o4 => by rw [Blk.cell ((((M2.mod.alloc o1).alloc o2).alloc o3).alloc o4), hs2]; rfl
  have FIN : ∀ x0 x1 x2 : Nat, (W2.heap.size ≤ x0 ∧ x0 < W2.heap.size + 3) ∧ (W2.heap.size ≤ x1 ∧ x1 < W2.heap.size + 3) ∧ (W2.heap.size ≤ x2 ∧ x2 < W2.heap.size + 3) ∧ x0 ≠ x1 ∧ x0 ≠ x2 ∧ x1 ≠ x2 →
      BeRes B m w P (s.made + 1, 0, { s with made := s.made + 1, now := s.now + 1, tx := upd s.tx j (some (newTx (s.made + 1) level (s.now + 1))) }) (.returned (.tuple #[.int .i64 (s.made + 1), .int .i64 0]))
        (((((W2.alloc (.map #[] 0)).alloc (.map #[] 0)).alloc (.map #[] 0)).alloc (.cells #[.int .i64 (s.made + 1), .int .i64 level, .int .u64 (s.now + 1), .int .i64 0, .map (some x0), .map (some x1), .map (some x2)] 100)).setCell ⟨m, 5 + j, none⟩ (.pointer (some ⟨W2.heap.size + 1 + 1 + 1, 0, none⟩))).drew := by
    rintro x0 x1 x2 ⟨a0, a1, a2, e01, e02, e12⟩
    have hmlt := M2.mod.lt
    obtain ⟨Wb, hWb⟩ : ∃ Wb, Wb = ((W2.alloc (.map #[] 0)).alloc (.map #[] 0)).alloc (.map #[] 0) := ⟨_, rfl⟩
    have zb : Wb.heap.size = W2.heap.size + 3 := by rw [hWb]; simp
    have hmap : ∀ x, W2.heap.size ≤ x → x < W2.heap.size + 3 → Wb.heap[x]? = some (.map #[] 0) := fun x h1 h2 => by
      rw [hWb]; exact heap3 W2 _ x h1 h2
    have ob : Only0 W2 Wb := by rw [hWb]; exact (((Only0.refl _).alloc _).alloc _).alloc _
    rw [← hWb]
    obtain ⟨Wc, hWc⟩ : ∃ Wc, Wc = Wb.alloc (.cells #[.int .i64 (s.made + 1), .int .i64 level, .int .u64 (s.now + 1), .int .i64 0, .map (some x0), .map (some x1), .map (some x2)] 100) := ⟨_, rfl⟩
    rw [← hWc]
    have zc : Wc.heap.size = W2.heap.size + 4 := by rw [hWc]; simp [zb]
    have oc : Only0 W2 Wc := by rw [hWc]; exact ob.alloc _
    have bc : Blk Wc (W2.heap.size + 3) 100 #[.int .i64 (s.made + 1), .int .i64 level, .int .u64 (s.now + 1), .int .i64 0, .map (some x0), .map (some x1), .map (some x2)] := by rw [hWc]; exact Blk.new' _ _ _ _ zb.symm
    have hmc : ∀ x, W2.heap.size ≤ x → x < W2.heap.size + 3 → Wc.heap[x]? = some (.map #[] 0) := fun x h1 h2 => by
      rw [hWc]
      exact (RowKit.Below.heap_alloc _ _ _ (by omega)).trans (hmap x h1 h2)
    obtain ⟨Wd, hWd⟩ : ∃ Wd, Wd = Wc.setCell ⟨m, 5 + j, none⟩ (.pointer (some ⟨W2.heap.size + 1 + 1 + 1, 0, none⟩)) := ⟨_, rfl⟩
    rw [← hWd]
    have od : Only (fun b => b = m) W2 Wd := by rw [hWd]; exact (oc.any _).trans (Only.set1 Wc m (5 + j) _)
    have MN := M2.beginTx (w' := Wd) (n := W2.heap.size + 3) (mj := fun q => if q = 0 then x0 else if q = 1 then x1 else x2) hj (s.made + 1) level (s.now + 1) od (by omega) (by rw [hWd]; simp [zc]) (fun q hq => by
        have hx : W2.heap.size ≤ (if q = 0 then x0 else if q = 1 then x1 else x2) ∧ (if q = 0 then x0 else if q = 1 then x1 else x2) < W2.heap.size + 3 := by split; omega; split <;> omega
        refine ⟨hx.1, ?_⟩
        rw [hWd, heap_setCell_other _ _ _ _ (by show _ ≠ m; omega)]
        exact hmc _ hx.1 hx.2) (fun p q hp hq e => by
        have hp3 : p = 0 ∨ p = 1 ∨ p = 2 := by omega
        have hq3 : q = 0 ∨ q = 1 ∨ q = 2 := by omega
        rcases hp3 with rfl | rfl | rfl <;> rcases hq3 with rfl | rfl | rfl <;> simp at e <;> first | rfl | (exfalso; omega)) (by
        rw [hWd]; exact bc.other ⟨m, 5 + j, none⟩ _ (by show _ ≠ m; omega)) (by
        rw [hWd]; exact (oc.blk M2.mod (fun h => h)).set _ _)
    have MN' := MN.drewN 1
    rw [hs2] at MN'
    refine ⟨_, rfl, ⟨_, MN'⟩, (HO2'.trans (od.toward (fun b hb => by subst hb; exact M2.pm))).drew, fun b hb => ?_⟩
    rcases hb with hb | hb | ⟨q, hq, hb⟩
    · exact .inl hb
    · exact .inr (by have := HZ'; omega)
    · refine .inr ?_
      have := HZ'
      rw [hb]
      show w.heap.size ≤ (if q = 0 then x0 else if q = 1 then x1 else x2)
      split; omega; split <;> omega
  have HFIN := Lib.hid FIN
  clear FIN HO2' HZ'
  clear M1 M2 O1 o12 z1
  go_upto_region 11 with (fail)
  rw [← hW2]
  clear hW2 m2 m3 f2 f3
  go_region
  all_goals
    go_wp2_with fail
    go_ret2
    exact HFIN.out _ _ _ (by omega)
end Go.Proofs.Ytcbhafddehipdaa

/-
  The walk of JudgeWeaker.
-/
import Derived.Test.YtjkdofhlcdimcaaWeak
namespace Go.Proofs.Ytjkdofhlcdimcaa
open Go.RowKit
set_option linter.unusedVariables false
set_option linter.unusedSimpArgs false

theorem RdsIn.below {w w' : World} {a : Option Addr} {l : List RD} (h : RdsIn w a l) (b : Below w.heap.size w w') : RdsIn w' a l := by
  obtain ⟨h1, h2⟩ := h
  refine ⟨?_, fun r hr => ?_⟩
  · rcases h1 with h1 | ⟨bb, off, rfl, hc⟩
    · exact .inl h1
    · refine .inr ⟨bb, off, rfl, fun i j hi hj => ?_⟩
      have e := hc i j hi hj
      have hlt : bb < w.heap.size := by
        have h5 : (rdCells (l.getD i default))[j]? = some ((rdCells (l.getD i default))[j]'(by simp [rdCells]; omega)) := List.getElem?_eq_getElem _
        rw [h5] at e
        exact block_lt_of_cell e
      exact (b.cell (p := ⟨bb, off + i * 5 + j, none⟩) hlt).trans e
  · obtain ⟨q1, q2, q3, q4, q5⟩ := h2 r hr
    exact ⟨q1, q2, q3, q4.below b, q5⟩

set_option maxRecDepth 100000 in
set_option maxHeartbeats 8000000 in
theorem judgeWeaker_walk (a : Option Addr) (c : Nat) (rows : List (List Value)) (a1 : Option Addr) (c1 : Nat) (z : List Int) (same : Bool) (w : World)
    (i0 : RowsAt readQs.length w a rows ∧ ∀ r ∈ rows, r.length = readQs.length ∧ RowQ w readQs r) (s0 : rows.length * 56 ≤ 140737488351232) (l0 : rows.length ≤ c) (m0 : c ≤ 9223372036854775807)
    (i1 : Ints .u64 w a1 z) (f1 : ∀ n ∈ z, (Lit.int .u64 n).wf = true) (s1 : z.length * 8 ≤ 140737488351232) (l1 : z.length ≤ c1) (m1 : c1 ≤ 9223372036854775807) (o1 : a1 = none → c1 = 0) :
    Calls Try.prog 12 #[.slice a rows.length c, .slice a1 z.length c1, .bool same] w fun e w' => e = .returned (.bool true) ∧ Below w.heap.size w w' := by
  obtain ⟨l, hl, hin⟩ := rds_of_rows i0.1 i0.2
  rw [← hl] at s0 l0 ⊢
  have hzn : z.length ≤ 281474976710656 := by omega
  clear i0 hl f1 o1
  obtain ⟨W, hW⟩ : ∃ W, W = (w.alloc (.cells #[.slice a1 z.length c1] 23)).alloc (.cells #[.bool same] 4) := ⟨_, rfl⟩
  have oW : Only0 w W := by rw [hW]; exact ((Only0.refl w).alloc _).alloc _
  have B4 : Blk W w.heap.size 23 #[.slice a1 z.length c1] := by rw [hW]; exact (Blk.new _ _ _).alloc _
  have B5 : Blk W (w.heap.size + 1) 4 #[.bool same] := by rw [hW]; exact Blk.new' _ _ _ _ (by simp)
  have M := made_any a c l W (hin.below oW.below) s0
  have HB4 := Lib.hid B4
  have HB5 := Lib.hid B5
  have OW := Lib.hid oW
  have II := Lib.hid i1
  have lt5 := B5.lt
  rw [hW] at M
  clear hin B4 B5 oW i1
  go_enter Try.func12, Try.ntmps12
  go_wp2_with fail
  ((with_reducible refine M.mono ?_))
  rintro e w1 ⟨P, kv, sv, lk, rfl, hM⟩
  rw [← hW] at hM ⊢
  obtain ⟨ka, kc, rfl, _⟩ := hM.krow.slice
  have hfew := hM.set.set.few
  rw [List.length_map] at hfew
  have HM := Lib.hid hM
  have b1 := hM.set.bel
  have HB1 := Lib.hid b1
  obtain ⟨s, hs⟩ : ∃ s, s = W.heap.size := ⟨_, rfl⟩
  rw [← hs] at HM ⊢
  have hsw : s < w1.heap.size := HM.out.set.set.under s (by obtain ⟨_, _, _, _, _, _, h⟩ := HM.out.set.set; exact h.ps)
  obtain ⟨kl, hkl⟩ : ∃ kl, kl = madeK (l.take 40) := ⟨_, rfl⟩
  obtain ⟨sl, hsl⟩ : ∃ sl, sl = madeS (l.take 40) := ⟨_, rfl⟩
  rw [← hkl] at HM hfew ⊢
  rw [← hsl] at HM
  clear M hM hW hkl hsl b1 hs
  obtain ⟨W2, hW2⟩ : ∃ W2, W2 = (w1.alloc (.cells #[.pointer (some ⟨s, 0, none⟩)] 29)).alloc (.cells #[.slice ka kl.length kc] 60) := ⟨_, rfl⟩
  have o2 : Only0 w1 W2 := by rw [hW2]; exact ((Only0.refl w1).alloc _).alloc _
  have B7 : Blk W2 w1.heap.size 29 #[.pointer (some ⟨s, 0, none⟩)] := by rw [hW2]; exact (Blk.new _ _ _).alloc _
  have B8 : Blk W2 (w1.heap.size + 1) 60 #[.slice ka kl.length kc] := by rw [hW2]; exact Blk.new' _ _ _ _ (by simp)
  have M2 := HM.out.only0 o2
  have hOW1 : Only0 W w1 := Below.only0 HB1.out
  have B4' := (hOW1.trans o2).blk HB4.out (fun hf => hf)
  have B5' := (hOW1.trans o2).blk HB5.out (fun hf => hf)
  have I2 := II.out.below ((OW.out.trans hOW1).trans o2).below
  have BEL := Lib.hid ((OW.out.trans hOW1).trans o2)
  have FN := Lib.hid (fun wx (o : Only0 W2 wx) => weak_now _ _ _ _ _ _ _ _ kl z same wx hfew hzn (o.blk B8 (fun hf => hf)) (rows_only M2.krow (S := fun _ => False) o (fun _ _ hf => hf)) (o.blk B5' (fun hf => hf)) (o.blk B4' (fun hf => hf)) (I2.below o.below))
  have FS := Lib.hid (fun wx (o : Only0 W2 wx) => weak_span (M2.set.set.only0 o) _ (o.blk B7 (fun hf => hf)))
  have FA := Lib.hid (fun wx (o : Only0 W2 wx) => M2.set.set.only0 o)
  have c7 : W2.cell? ⟨w1.heap.size, 0, none⟩ = some (.pointer (some ⟨s, 0, none⟩)) := B7.cell 0
  have HC7 := Lib.hid (fun wx (o : Only0 W2 wx) => ((o.blk B7 (fun hf => hf)).cell 0 : wx.cell? ⟨w1.heap.size, 0, none⟩ = some (.pointer (some ⟨s, 0, none⟩))))
  clear o2 B7 B8 M2 hOW1 B4' B5' I2
  have A1 := all_any (FA.out W2 (Only0.refl _)) 1 (FN.out W2 (Only0.refl _)) (FS.out W2 (Only0.refl _))
  rw [show allRes 1 (kl.map (·.lo)) lk (sl.map toRg) (weakF kl same z) (weakS (sl.map toRg)) = (true, -1) from rfl] at A1
  rw [hW2] at A1
  go_wp2_with fail
  ((with_reducible refine A1.mono ?_))
  rintro e w3 ⟨rfl, o3⟩
  rw [← hW2] at o3
  have c73 := HC7.out w3 o3
  have A2 := all_any (FA.out w3 o3) 2 (FN.out w3 o3) (FS.out w3 o3)
  obtain ⟨b2, k2, e2⟩ : ∃ b2 k2, allRes 2 (kl.map (·.lo)) lk (sl.map toRg) (weakF kl same z) (weakS (sl.map toRg)) = (b2, k2) := ⟨_, _, rfl⟩
  obtain ⟨b3, k3, e3⟩ : ∃ b3 k3, allRes 3 (kl.map (·.lo)) lk (sl.map toRg) (weakF kl same z) (weakS (sl.map toRg)) = (b3, k3) := ⟨_, _, rfl⟩
  have HE3 := Lib.hid e3
  have HWK := Lib.hid (show b3 = true → b2 = true from fun h => by
    have := weaker (keys := kl.map (·.lo)) (lk := lk) (rs := sl.map toRg) (nowf := weakF kl same z) (spanf := weakS (sl.map toRg)) (by rw [e3]; exact h)
    rw [e2] at this; exact this)
  rw [e2] at A2
  have O3 := Lib.hid o3
  clear A1 o3 c7 hW2 e2 e3
  go_wp2_with fail
  ((with_reducible refine A2.mono ?_))
  rintro e w4 ⟨rfl, o4⟩
  have O4 := Lib.hid (O3.out.trans o4)
  have c74 := HC7.out w4 O4.out
  have A3 := all_any (FA.out w4 O4.out) 3 (FN.out w4 O4.out) (FS.out w4 O4.out)
  rw [HE3.out] at A3
  clear A2 o4 O3 c73 HE3
  go_wp2_with fail
  ((with_reducible refine A3.mono ?_))
  rintro e w5 ⟨rfl, o5⟩
  have hbel := ((BEL.out.trans O4.out).trans o5).below
  clear A3 o5 O4 c74
  cases b3
  · cases b2
    all_goals
      go_wp2_with fail
      refine (awake15_any _).mono ?_
      rintro e w9 ⟨rfl, rfl⟩
      go_wp2_with fail
      go_ret
      exact ⟨rfl, hbel⟩
  · obtain rfl : b2 = true := HWK.out rfl
    go_wp2_with fail
    refine (awake15_any _).mono ?_
    rintro e w9 ⟨rfl, rfl⟩
    go_wp2_with fail
    go_ret
    exact ⟨rfl, hbel⟩
end Go.Proofs.Ytjkdofhlcdimcaa

/-
  ModelBounds: what its proof rests on, part 9.
-/
import Derived.Deep.DeepCutAuto
import Derived.Test.YtcbhafddehipdaaZModelBounds4
import Derived.Test.YtcbhafddehipdaaZModelBounds5
namespace Go.Proofs.Ytcbhafddehipdaa
open Go.RowKit
attribute [local go_sem ↓] Go.wp_at_zero Go.wp_at_succ
set_option linter.unusedVariables false
set_option linter.unusedSimpArgs false
set_option maxRecDepth 100000 in
set_option maxHeartbeats 16000000 in
theorem ref_write4 {B m : Nat} {w : World} {P0 : Nat → Prop} {s : RSt} (h : RAt B w P0 m s) (j : Nat) (hj : j < 8) (key hi x : Int) (hk0 : 0 ≤ key) (hk1 : key ≤ 63) (hw : ((s.s j).wrote.length : Int) + 1 ≤ (s.s j).ops) (hr : ((s.s j).reads.length : Int) + 1 ≤ (s.s j).ops) :
    Calls Try.prog 62 #[.pointer (some ⟨m, 0, none⟩), .int .i64 j, .agg #[.int .i64 4, .int .i64 key, .int .i64 hi, .int .i64 x]] w (RRes B m w P0 (resV (s.write j 4 key x).1) (s.write j 4 key x).2) := by
  obtain ⟨A, h⟩ := h
  obtain ⟨W, hW⟩ : ∃ W, W = (w.alloc (.cells #[.int .i64 4, .int .i64 key, .int .i64 hi, .int .i64 x] 31)).alloc (.cells #[.int .i64 0, .int .i64 0, .slice none 0 0, .int .i64 0, .int .i64 0] 27) := ⟨_, rfl⟩
  have oW : Only0 w W := by rw [hW]; exact ((Only0.refl w).alloc _).alloc _
  obtain ⟨ob, hob⟩ : ∃ ob, ob = w.heap.size := ⟨_, rfl⟩
  obtain ⟨n0, hn0⟩ : ∃ n0, n0 = ob + 1 := ⟨_, rfl⟩
  have H0 : Hid (RwI B w P0 m n0 ob #[.int .i64 4, .int .i64 key, .int .i64 hi, .int .i64 x] s P0 A W) := by
    have hu := h.under
    refine ⟨h.only0 oW, ?_, ?_, oW.any _, Grew.refl _ _, fun hp => by have := hu _ hp; omega, fun hp => by have := hu _ hp; omega, by omega⟩
    · rw [hW, hn0, hob]; exact Blk.new' _ _ _ _ (by simp)
    · rw [hW, hob]; exact (Blk.new _ _ _).alloc _
  have HOB := Lib.hid hob
  have HN0 := Lib.hid hn0
  have HOR : Hid (((s.s j).reads.length : Int) + 1 ≤ (s.s j).ops) := hr
  have HOW : Hid (((s.s j).wrote.length : Int) + 1 ≤ (s.s j).ops) := hw
  have j8 : (j : Int) < 8 := by omega
  have j0 : (0 : Int) ≤ (j : Int) := by omega
  clear h oW hob hn0 hr hw
  obtain ⟨t0, t1, t2, t3, t4, t5⟩ := H0.out.mod.txCells hj
  obtain ⟨m0, m1, m2, m51, m52⟩ := H0.out.mod.head
  have c0 : W.cell? ⟨ob, 0, none⟩ = some (.int .i64 4) := H0.out.op.cell 0
  have c1 : W.cell? ⟨ob, 1, none⟩ = some (.int .i64 key) := H0.out.op.cell 1
  have c3 : W.cell? ⟨ob, 3, none⟩ = some (.int .i64 x) := H0.out.op.cell 3
  go_enter Try.func62, Try.ntmps62
  go_upto_region 1 with (fail)
  rw [← hW, ← HOB.out, ← HN0.out]
  clear hW
  go_wp2_with fail
  have CK : Hid (∀ w', Only0 W.drew w' → w'.cell? ⟨m, 3 + j * 6, none⟩ = some (.int .i64 (s.s j).id) ∧ w'.cell? ⟨m, 3 + j * 6 + 1, none⟩ = some (.int .i64 (s.s j).level) ∧ w'.cell? ⟨m, 3 + j * 6 + 2, none⟩ = some (.int .i64 (s.s j).ops) ∧ w'.cell? ⟨m, 3 + j * 6 + 3, none⟩ = some (.int .u64 (s.s j).beg) ∧ w'.cell? ⟨m, 3 + j * 6 + 4, none⟩ = some (.slice (A.wa j) (s.s j).wrote.length (A.wc j)) ∧ w'.cell? ⟨m, 3 + j * 6 + 5, none⟩ = some (.slice (A.ra j) (s.s j).reads.length (A.rc j)) ∧ w'.cell? ⟨ob, 1, none⟩ = some (.int .i64 key)) := fun w' o => by
    have H := H0.out.only0 ((Only0.refl W).drew.trans o)
    obtain ⟨t0, t1, t2, t3, t4, t5⟩ := H.mod.txCells hj
    exact ⟨t0, t1, t2, t3, t4, t5, H.op.cell 1⟩
  refine wp_region_held_drew (S := (fun w' => w'.cell? ⟨m, 3 + j * 6, none⟩ = some (.int .i64 (s.s j).id) ∧ w'.cell? ⟨m, 3 + j * 6 + 1, none⟩ = some (.int .i64 (s.s j).level) ∧ w'.cell? ⟨m, 3 + j * 6 + 2, none⟩ = some (.int .i64 (s.s j).ops) ∧ w'.cell? ⟨m, 3 + j * 6 + 3, none⟩ = some (.int .u64 (s.s j).beg) ∧ w'.cell? ⟨m, 3 + j * 6 + 4, none⟩ = some (.slice (A.wa j) (s.s j).wrote.length (A.wc j)) ∧ w'.cell? ⟨m, 3 + j * 6 + 5, none⟩ = some (.slice (A.ra j) (s.s j).reads.length (A.rc j)) ∧ w'.cell? ⟨ob, 1, none⟩ = some (.int .i64 key))) (by kernel_rfl) ?_ (fun hHeld => ?_)
  · first | exact ⟨t0, t1, t2, t3, t4, t5, c1⟩ | exact CK.out _ (by assumption)
  refine wpAnyH_take (i := 0) (v := ?_) rfl (by kernel_rfl) (by kernel_rfl) (by kernel_rfl) (fun _ _ _ h => h) (Or.inl ⟨by rfl, ?_⟩) (by assumption) ?_; rotate_left; (focus (intro w hSw; (try dsimp only at hSw); go_simp; try with_reducible rfl))
  try simp only [Act.put, List.getElem_toArray, List.getElem_cons_zero, List.getElem_cons_succ, List.setIfInBounds_toArray, List.set_cons_zero, List.set_cons_succ]
  refine wpAnyH_take (i := 1) (v := ?_) rfl (by kernel_rfl) (by kernel_rfl) (by kernel_rfl) (fun _ _ _ h => h) (Or.inl ⟨by rfl, ?_⟩) (by assumption) ?_; rotate_left; (focus (intro w hSw; (try dsimp only at hSw); go_simp; try with_reducible rfl))
  try simp only [Act.put, List.getElem_toArray, List.getElem_cons_zero, List.getElem_cons_succ, List.setIfInBounds_toArray, List.set_cons_zero, List.set_cons_succ]
  refine wpAnyH_take (i := 2) (v := ?_) rfl (by kernel_rfl) (by kernel_rfl) (by kernel_rfl) (fun _ _ _ h => h) (Or.inl ⟨by rfl, ?_⟩) (by assumption) ?_; rotate_left; (focus (intro w hSw; (try dsimp only at hSw); go_simp; try with_reducible rfl))
  try simp only [Act.put, List.getElem_toArray, List.getElem_cons_zero, List.getElem_cons_succ, List.setIfInBounds_toArray, List.set_cons_zero, List.set_cons_succ]
  refine wpAnyH_take (i := 3) (v := ?_) rfl (by kernel_rfl) (by kernel_rfl) (by kernel_rfl) (fun _ _ _ h => h) (Or.inl ⟨by rfl, ?_⟩) (by assumption) ?_; rotate_left; (focus (intro w hSw; (try dsimp only at hSw); go_simp; try with_reducible rfl))
  try simp only [Act.put, List.getElem_toArray, List.getElem_cons_zero, List.getElem_cons_succ, List.setIfInBounds_toArray, List.set_cons_zero, List.set_cons_succ]
  refine wpAnyH_take (i := 4) (v := ?_) rfl (by kernel_rfl) (by kernel_rfl) (by kernel_rfl) (fun _ _ _ h => h) (Or.inl ⟨by rfl, ?_⟩) (by assumption) ?_; rotate_left; (focus (intro w hSw; (try dsimp only at hSw); go_simp; try with_reducible rfl))
  try simp only [Act.put, List.getElem_toArray, List.getElem_cons_zero, List.getElem_cons_succ, List.setIfInBounds_toArray, List.set_cons_zero, List.set_cons_succ]
  refine wpAnyH_take (i := 5) (v := ?_) rfl (by kernel_rfl) (by kernel_rfl) (by kernel_rfl) (fun _ _ _ h => h) (Or.inl ⟨by rfl, ?_⟩) (by assumption) ?_; rotate_left; (focus (intro w hSw; (try dsimp only at hSw); go_simp; try with_reducible rfl))
  try simp only [Act.put, List.getElem_toArray, List.getElem_cons_zero, List.getElem_cons_succ, List.setIfInBounds_toArray, List.set_cons_zero, List.set_cons_succ]
  refine wpAnyH_ready (rs := [6]) (by kernel_rfl) (by simp) ?_
  refine AllReadyH.cons rfl (fun K hK => ?_) AllReadyH.nil
  try simp only [List.getElem_toArray, List.getElem_cons_zero, List.getElem_cons_succ]
  go_simp
  (refine (ref_sees (H0.out.only0 (Only0.refl W).drew).mod (s.s j).id (s.s j).level (s.s j).ops (s.s j).beg _ _ _ _ _ _ key).mono ?_; rintro e w2 ⟨rfl, o2⟩)
  try go_wp2_with fail
  refine hK.out _ _ ?_ (fun hHeld => ?_)
  · first | exact ⟨t0, t1, t2, t3, t4, t5, c1⟩ | exact CK.out _ (by assumption)
  clear hK K
  try simp only [Act.put, List.getElem_toArray, List.getElem_cons_zero, List.getElem_cons_succ, List.setIfInBounds_toArray, List.set_cons_zero, List.set_cons_succ]
  refine wpAnyH_take (i := 7) (v := ?_) rfl (by kernel_rfl) (by kernel_rfl) (by kernel_rfl) (fun _ _ _ h => h) (Or.inl ⟨by rfl, ?_⟩) (by assumption) ?_; rotate_left; (focus (intro w hSw; (try dsimp only at hSw); go_simp; try with_reducible rfl))
  try simp only [Act.put, List.getElem_toArray, List.getElem_cons_zero, List.getElem_cons_succ, List.setIfInBounds_toArray, List.set_cons_zero, List.set_cons_succ]
  refine wpAnyH_done (by kernel_rfl) ?_ _
  have H2 := Lib.hid (H0.out.only0 ((Only0.refl W).drew.trans o2))
  clear o2 CK H0
  clear t0 t1 t2 t3 t4 t5 m0 m1 m2 m51 m52 c0 c1 c3
  obtain ⟨at_, hat⟩ : ∃ a, a = s.sees (s.s j).id (s.s j).beg key := ⟨_, rfl⟩
  rw [← hat]
  have HAT := Lib.hid hat
  clear hat
  go_wp2_with fail
  obtain ⟨t0, t1, t2, t3, t4, t5⟩ := H2.out.mod.txCells hj
  obtain ⟨m0, m1, m2, m51, m52⟩ := H2.out.mod.head
  have c0 : w2.cell? ⟨ob, 0, none⟩ = some (.int .i64 4) := H2.out.op.cell 0
  have c1 : w2.cell? ⟨ob, 1, none⟩ = some (.int .i64 key) := H2.out.op.cell 1
  have c3 : w2.cell? ⟨ob, 3, none⟩ = some (.int .i64 x) := H2.out.op.cell 3
  have C := ref_has (A.wa j) (A.wc j) (s.s j).wrote key w2.drew (by have := (H2.out.mod.few12 j).1; omega) ((H2.out.only0 (Only0.refl w2).drew).mod.wroteAt hj)
  obtain ⟨mine, hmine⟩ : ∃ b, b = hasB (s.s j).wrote key := ⟨_, rfl⟩
  rw [← hmine] at C
  have HMI := Lib.hid hmine
  clear hmine
  refine wp_region_held_drew (S := (fun w' => w'.cell? ⟨m, 3 + j * 6 + 4, none⟩ = some (.slice (A.wa j) (s.s j).wrote.length (A.wc j)) ∧ w'.cell? ⟨ob, 1, none⟩ = some (.int .i64 key))) (by kernel_rfl) ?_ (fun hHeld => ?_)
  · exact ⟨t4, c1⟩
  refine wpAnyH_take (i := 0) (v := ?_) rfl (by kernel_rfl) (by kernel_rfl) (by kernel_rfl) (fun _ _ _ h => h) (Or.inl ⟨by rfl, ?_⟩) (by assumption) ?_; rotate_left; (focus (intro w hSw; (try dsimp only at hSw); go_simp; try with_reducible rfl))
  try simp only [Act.put, List.getElem_toArray, List.getElem_cons_zero, List.getElem_cons_succ, List.setIfInBounds_toArray, List.set_cons_zero, List.set_cons_succ]
  refine wpAnyH_take (i := 1) (v := ?_) rfl (by kernel_rfl) (by kernel_rfl) (by kernel_rfl) (fun _ _ _ h => h) (Or.inl ⟨by rfl, ?_⟩) (by assumption) ?_; rotate_left; (focus (intro w hSw; (try dsimp only at hSw); go_simp; try with_reducible rfl))
  try simp only [Act.put, List.getElem_toArray, List.getElem_cons_zero, List.getElem_cons_succ, List.setIfInBounds_toArray, List.set_cons_zero, List.set_cons_succ]
  refine wpAnyH_take (i := 2) (v := ?_) rfl (by kernel_rfl) (by kernel_rfl) (by kernel_rfl) (fun _ _ _ h => h) (Or.inl ⟨by rfl, ?_⟩) (by assumption) ?_; rotate_left; (focus (intro w hSw; (try dsimp only at hSw); go_simp; try with_reducible rfl))
  try simp only [Act.put, List.getElem_toArray, List.getElem_cons_zero, List.getElem_cons_succ, List.setIfInBounds_toArray, List.set_cons_zero, List.set_cons_succ]
  refine wpAnyH_take (i := 3) (v := ?_) rfl (by kernel_rfl) (by kernel_rfl) (by kernel_rfl) (fun _ _ _ h => h) (Or.inl ⟨by rfl, ?_⟩) (by assumption) ?_; rotate_left; (focus (intro w hSw; (try dsimp only at hSw); go_simp; try with_reducible rfl))
  try simp only [Act.put, List.getElem_toArray, List.getElem_cons_zero, List.getElem_cons_succ, List.setIfInBounds_toArray, List.set_cons_zero, List.set_cons_succ]
  refine wpAnyH_take (i := 4) (v := ?_) rfl (by kernel_rfl) (by kernel_rfl) (by kernel_rfl) (fun _ _ _ h => h) (Or.inl ⟨by rfl, ?_⟩) (by assumption) ?_; rotate_left; (focus (intro w hSw; (try dsimp only at hSw); go_simp; try with_reducible rfl))
  try simp only [Act.put, List.getElem_toArray, List.getElem_cons_zero, List.getElem_cons_succ, List.setIfInBounds_toArray, List.set_cons_zero, List.set_cons_succ]
  refine wpAnyH_take (i := 5) (v := ?_) rfl (by kernel_rfl) (by kernel_rfl) (by kernel_rfl) (fun _ _ _ h => h) (Or.inl ⟨by rfl, ?_⟩) (by assumption) ?_; rotate_left; (focus (intro w hSw; (try dsimp only at hSw); go_simp; try with_reducible rfl))
  try simp only [Act.put, List.getElem_toArray, List.getElem_cons_zero, List.getElem_cons_succ, List.setIfInBounds_toArray, List.set_cons_zero, List.set_cons_succ]
  refine wpAnyH_ready (rs := [6]) (by kernel_rfl) (by simp) ?_
  refine AllReadyH.cons rfl (fun K hK => ?_) AllReadyH.nil
  try simp only [List.getElem_toArray, List.getElem_cons_zero, List.getElem_cons_succ]
  go_simp
  (refine C.mono ?_; rintro e w3 ⟨rfl, rfl⟩)
  try go_wp2_with fail
  refine hK.out _ _ ?_ (fun hHeld => ?_)
  · exact ⟨t4, c1⟩
  clear hK K
  try simp only [Act.put, List.getElem_toArray, List.getElem_cons_zero, List.getElem_cons_succ, List.setIfInBounds_toArray, List.set_cons_zero, List.set_cons_succ]
  refine wpAnyH_take (i := 7) (v := ?_) rfl (by kernel_rfl) (by kernel_rfl) (by kernel_rfl) (fun _ _ _ h => h) (Or.inl ⟨by rfl, ?_⟩) (by assumption) ?_; rotate_left; (focus (intro w hSw; (try dsimp only at hSw); go_simp; try with_reducible rfl))
  try simp only [Act.put, List.getElem_toArray, List.getElem_cons_zero, List.getElem_cons_succ, List.setIfInBounds_toArray, List.set_cons_zero, List.set_cons_succ]
  refine wpAnyH_done (by kernel_rfl) ?_ _
  have H3 := Lib.hid (H2.out.only0 (Only0.refl w2).drew)
  clear C H2
  clear t0 t1 t2 t3 t4 t5 m0 m1 m2 m51 m52 c0 c1 c3
  generalize w2.drew = w3 at *
  cases at_ with
  | none =>
    cases mine with
    | true =>
      have HE0 : s.write j 4 key x = (.err 11, s) := by
        unfold RSt.write
        rw [← HAT.out, ← HMI.out]
        simp
      have HE := Lib.hid HE0
      clear HE0
      have H4 := H3
      obtain ⟨t0, t1, t2, t3, t4, t5⟩ := H3.out.mod.txCells hj
      obtain ⟨m0, m1, m2, m51, m52⟩ := H3.out.mod.head
      have c0 : w3.cell? ⟨ob, 0, none⟩ = some (.int .i64 4) := H3.out.op.cell 0
      have c1 : w3.cell? ⟨ob, 1, none⟩ = some (.int .i64 key) := H3.out.op.cell 1
      have c3 : w3.cell? ⟨ob, 3, none⟩ = some (.int .i64 x) := H3.out.op.cell 3
      have b0 := H4.out.box.cell 0
      have b1 := H4.out.box.cell 1
      have b2 := H4.out.box.cell 2
      have b3 := H4.out.box.cell 3
      have b4 := H4.out.box.cell 4
      have bf := fun i => H4.out.box.free i
      go_wp2_with fail
      skip
      obtain ⟨B9, o9⟩ := set5 H4.out.box (.int .i64 11) (.int .i64 0) (.slice none 0 0) (.int .i64 0) (.int .i64 0)
      refine bodyPost_ret (v := .agg #[.int .i64 11, .int .i64 0, .slice none 0 0, .int .i64 0, .int .i64 0]) (results_cell_row Try.results62 _ _ n0 _ _ _ _ rfl B9 Try.underlying27 rfl info_res) rfl ?_
      rw [HE.out]
      exact RwI.done H4.out o9
    | false =>
      have HE0 : s.write j 4 key x = (.err 11, s.setS j ((s.s j).read ⟨key, key, false, false⟩)) := by
        unfold RSt.write
        rw [← HAT.out, ← HMI.out]
        simp
      have HE := Lib.hid HE0
      clear HE0
      obtain ⟨t0, t1, t2, t3, t4, t5⟩ := H3.out.mod.txCells hj
      obtain ⟨m0, m1, m2, m51, m52⟩ := H3.out.mod.head
      have c0 : w3.cell? ⟨ob, 0, none⟩ = some (.int .i64 4) := H3.out.op.cell 0
      have c1 : w3.cell? ⟨ob, 1, none⟩ = some (.int .i64 key) := H3.out.op.cell 1
      have c3 : w3.cell? ⟨ob, 3, none⟩ = some (.int .i64 x) := H3.out.op.cell 3
      obtain ⟨i0, hi0, hz0, hz1, hz2⟩ := info_parts info_read
      have hbd := (H3.out.mod.few12 j).2
      obtain ⟨W6, hW6⟩ : ∃ W6, W6 = (w3.alloc (.cells #[.int .i64 key, .int .i64 key, .bool false, .bool false] 110)).drew := ⟨_, rfl⟩
      have o6 : Only0 w3 W6 := by rw [hW6]; exact ((Only0.refl _).alloc _).drew
      have HB6 := H3.out.only0 o6
      have m6 : W6.cell? ⟨m, 3 + j * 6 + 5, none⟩ = some (.slice (A.ra j) (s.s j).reads.length (A.rc j)) := by
        have h6 := HB6.mod
        exact (h6.txCells hj).2.2.2.2.2
      have f6 : W6.frozen? ⟨m, 3 + j * 6 + 5, none⟩ = false := HB6.mod.free _
      have R6 := rows_only (H3.out.mod.rs j hj) o6 (fun _ _ hf => hf)
      have z6 : W6.heap.size = w3.heap.size + 1 := by rw [hW6]; simp
      have hm6 : m < W6.heap.size := HB6.mod.mod.lt
      have nrow : ¬ rowOf (.slice (A.ra j) (s.s j).reads.length (A.rc j)) m := rows_ne (H3.out.mod.rs j hj) H3.out.mod.mod (by decide)
      have hB5 : B ≤ w3.heap.size := by have h1 := H3.out.mod.above m H3.out.mod.pm; have h2 := H3.out.mod.mod.lt; omega
      have APP : Hid (∀ (gg cap : Nat) (w1 : World), w1.ownsRow B 110 4 (.slice (some ⟨gg, 0, none⟩) ((s.s j).reads.length + 1) cap) ((s.s j).reads.length + 1) ((rrCells (s.s j).reads) ++ [.int .i64 key, .int .i64 key, .bool false, .bool false]) → W6.grownBy w1 (Value.slice (A.ra j) (s.s j).reads.length (A.rc j)).ownBlock → ((Value.slice (A.ra j) (s.s j).reads.length (A.rc j)).ownBlock = some gg ∨ gg = w3.heap.size + 1) → gg < w1.heap.size →
          ∃ P' A', RwI B w P0 m n0 ob #[.int .i64 4, .int .i64 key, .int .i64 hi, .int .i64 x] (s.setS j ((s.s j).read ⟨key, key, false, false⟩)) P' A' (w1.setCell ⟨m, 3 + j * 6 + 5, none⟩ (.slice (some ⟨gg, 0, none⟩) ((s.s j).reads.length + 1) cap))) := by
        intro gg cap w1 h1 h2 h3 h4
        have oR : Only (rowOf (.slice (A.ra j) (s.s j).reads.length (A.rc j))) W6 w1 := ⟨h2.os, h2.tape, h2.output, h2.size, fun b hb hn => h2.block b hb (fun e => hn e.symm)⟩
        have hat : (Value.slice (A.ra j) (s.s j).reads.length (A.rc j)).ownBlock = some gg ∨ W6.heap.size ≤ gg := h3.imp (fun h => h) (fun h => by omega)
        obtain ⟨A', M', O'⟩ := HB6.mod.pushR hj ⟨key, key, false, false⟩ HOR.out ⟨hk0, hk1, hk0, hk1⟩ h1 oR hat h4
        exact ⟨_, A', H3.out.app o6 (H3.out.mod.pd j hj) hat M' O'⟩
      rw [hW6] at m6 f6 R6 z6 hm6 APP
      clear HB6 hW6 o6
      go_wp2_with fail
      go_region_law
        ((refine step_append_lies _ (by rfl) _ _ _ (by rfl) B 110 i0 _ 4 24 Try.underlying60 hi0 hz0 hz1 hz2 rfl (by omega) (.slice (A.ra j) (s.s j).reads.length (A.rc j)) (s.s j).reads.length (rrCells (s.s j).reads) (by rfl) R6
            ⟨w3.heap.size, 0, none⟩ 1 1 [.int .i64 key, .int .i64 key, .bool false, .bool false] (by rfl) (by rfl) (World.news_of_block (cs := #[.int .i64 key, .int .i64 key, .bool false, .bool false]) (t := 110) (fr := (0, 0)) (heap_alloc_new w3 _)) (by simp [Value.oneCell'])
            (by omega) (by unfold maxLen; omega) (by omega) (by simp; omega) (w3.heap.size + 1) (by simp) ?_; intro gg cap w1 hown2 hgrow hat hlt2
          have cz : w1.cell? ⟨m, 3 + j * 6 + 5, none⟩ = some (.slice (A.ra j) (s.s j).reads.length (A.rc j)) := (hgrow.cell_far ⟨m, 3 + j * 6 + 5, none⟩ hm6 (fun e => nrow e.symm)).trans m6
          have fz1 : w1.frozen? ⟨m, 3 + j * 6 + 5, none⟩ = false := (hgrow.frozen_far ⟨m, 3 + j * 6 + 5, none⟩ hm6 (fun e => nrow e.symm)).trans f6))
      all_goals
        obtain ⟨P7, A7, H7⟩ := APP.out gg cap w1 hown2 hgrow hat hlt2
        have H4 := Lib.hid H7
        clear H7
        generalize hW7 : World.setCell w1 _ _ = W7 at *
        clear hown2 hgrow hat hlt2 cz fz1 hW7 APP m6 f6 R6 z6 hm6 nrow hB5 hbd hi0 hz0 hz1 hz2
        have b0 := H4.out.box.cell 0
        have b1 := H4.out.box.cell 1
        have b2 := H4.out.box.cell 2
        have b3 := H4.out.box.cell 3
        have b4 := H4.out.box.cell 4
        have bf := fun i => H4.out.box.free i
        go_wp2_with fail
        skip
        obtain ⟨B9, o9⟩ := set5 H4.out.box (.int .i64 11) (.int .i64 0) (.slice none 0 0) (.int .i64 0) (.int .i64 0)
        refine bodyPost_ret (v := .agg #[.int .i64 11, .int .i64 0, .slice none 0 0, .int .i64 0, .int .i64 0]) (results_cell_row Try.results62 _ _ n0 _ _ _ _ rfl B9 Try.underlying27 rfl info_res) rfl ?_
        rw [HE.out]
        exact RwI.done H4.out o9
  | some ia =>
    have iA : idxV (some ia) = (ia : Int) := rfl
    obtain ⟨cf, hcf⟩ : ∃ b, b = (!mine && s.taken (s.s j).id (s.s j).beg key) := ⟨_, rfl⟩
    have HCF := Lib.hid hcf
    clear hcf
    obtain ⟨t0, t1, t2, t3, t4, t5⟩ := H3.out.mod.txCells hj
    obtain ⟨m0, m1, m2, m51, m52⟩ := H3.out.mod.head
    have c0 : w3.cell? ⟨ob, 0, none⟩ = some (.int .i64 4) := H3.out.op.cell 0
    have c1 : w3.cell? ⟨ob, 1, none⟩ = some (.int .i64 key) := H3.out.op.cell 1
    have c3 : w3.cell? ⟨ob, 3, none⟩ = some (.int .i64 x) := H3.out.op.cell 3
    go_upto_region 10 with (fail)
    go_cut [9, 76] (fun s9 s76 wx => s9 = .bool mine ∧ s76 = .bool cf ∧ Hid (RwI B w P0 m n0 ob #[.int .i64 4, .int .i64 key, .int .i64 hi, .int .i64 x] s P0 A wx))
    case first =>
      cases mine with
      | true =>
        have H4 := Lib.hid (H3.out.only0 (Only0.refl w3).drew)
        clear H3
        refine wp_region_held_drew (S := (fun _ => True)) (by kernel_rfl) ?_ (fun hHeld => ?_)
        · trivial
        refine wpAnyH_take (i := 0) (v := ?_) rfl (by kernel_rfl) (by kernel_rfl) (by kernel_rfl) (fun _ _ _ h => h) (Or.inl ⟨by rfl, ?_⟩) (by assumption) ?_; rotate_left; (focus (intro w hSw; (try dsimp only at hSw); go_simp; try with_reducible rfl))
        try simp only [Act.put, List.getElem_toArray, List.getElem_cons_zero, List.getElem_cons_succ, List.setIfInBounds_toArray, List.set_cons_zero, List.set_cons_succ]
        refine wpAnyH_take (i := 1) (v := ?_) rfl (by kernel_rfl) (by kernel_rfl) (by kernel_rfl) (fun _ _ _ h => h) (Or.inl ⟨by rfl, ?_⟩) (by assumption) ?_; rotate_left; (focus (intro w hSw; (try dsimp only at hSw); go_simp; try with_reducible rfl))
        try simp only [Act.put, List.getElem_toArray, List.getElem_cons_zero, List.getElem_cons_succ, List.setIfInBounds_toArray, List.set_cons_zero, List.set_cons_succ]
        refine wpAnyH_take (i := 2) (v := ?_) rfl (by kernel_rfl) (by kernel_rfl) (by kernel_rfl) (fun _ _ _ h => h) (Or.inl ⟨by rfl, ?_⟩) (by assumption) ?_; rotate_left; (focus (intro w hSw; (try dsimp only at hSw); go_simp; try with_reducible rfl))
        try simp only [Act.put, List.getElem_toArray, List.getElem_cons_zero, List.getElem_cons_succ, List.setIfInBounds_toArray, List.set_cons_zero, List.set_cons_succ]
        first | (refine wpAnyH_take (i := 3) rfl (by kernel_rfl) (by kernel_rfl) (by kernel_rfl) (fun _ _ _ h => h) (Or.inr ⟨by rfl, rfl⟩) (by assumption) ?_) | (refine wpAnyH_take (i := 3) (v := ?_) rfl (by kernel_rfl) (by kernel_rfl) (by kernel_rfl) (fun _ _ _ h => h) (Or.inl ⟨by rfl, ?_⟩) (by assumption) ?_; rotate_left; (focus (intro w hSw; (try dsimp only at hSw); go_simp; try with_reducible rfl)))
        try simp only [Act.put, List.getElem_toArray, List.getElem_cons_zero, List.getElem_cons_succ, List.setIfInBounds_toArray, List.set_cons_zero, List.set_cons_succ]
        first | (refine wpAnyH_take (i := 4) rfl (by kernel_rfl) (by kernel_rfl) (by kernel_rfl) (fun _ _ _ h => h) (Or.inr ⟨by rfl, rfl⟩) (by assumption) ?_) | (refine wpAnyH_take (i := 4) (v := ?_) rfl (by kernel_rfl) (by kernel_rfl) (by kernel_rfl) (fun _ _ _ h => h) (Or.inl ⟨by rfl, ?_⟩) (by assumption) ?_; rotate_left; (focus (intro w hSw; (try dsimp only at hSw); go_simp; try with_reducible rfl)))
        try simp only [Act.put, List.getElem_toArray, List.getElem_cons_zero, List.getElem_cons_succ, List.setIfInBounds_toArray, List.set_cons_zero, List.set_cons_succ]
        first | (refine wpAnyH_take (i := 5) rfl (by kernel_rfl) (by kernel_rfl) (by kernel_rfl) (fun _ _ _ h => h) (Or.inr ⟨by rfl, rfl⟩) (by assumption) ?_) | (refine wpAnyH_take (i := 5) (v := ?_) rfl (by kernel_rfl) (by kernel_rfl) (by kernel_rfl) (fun _ _ _ h => h) (Or.inl ⟨by rfl, ?_⟩) (by assumption) ?_; rotate_left; (focus (intro w hSw; (try dsimp only at hSw); go_simp; try with_reducible rfl)))
        try simp only [Act.put, List.getElem_toArray, List.getElem_cons_zero, List.getElem_cons_succ, List.setIfInBounds_toArray, List.set_cons_zero, List.set_cons_succ]
        first | (refine wpAnyH_take (i := 6) rfl (by kernel_rfl) (by kernel_rfl) (by kernel_rfl) (fun _ _ _ h => h) (Or.inr ⟨by rfl, rfl⟩) (by assumption) ?_) | (refine wpAnyH_take (i := 6) (v := ?_) rfl (by kernel_rfl) (by kernel_rfl) (by kernel_rfl) (fun _ _ _ h => h) (Or.inl ⟨by rfl, ?_⟩) (by assumption) ?_; rotate_left; (focus (intro w hSw; (try dsimp only at hSw); go_simp; try with_reducible rfl)))
        try simp only [Act.put, List.getElem_toArray, List.getElem_cons_zero, List.getElem_cons_succ, List.setIfInBounds_toArray, List.set_cons_zero, List.set_cons_succ]
        first | (refine wpAnyH_take (i := 7) rfl (by kernel_rfl) (by kernel_rfl) (by kernel_rfl) (fun _ _ _ h => h) (Or.inr ⟨by rfl, rfl⟩) (by assumption) ?_) | (refine wpAnyH_take (i := 7) (v := ?_) rfl (by kernel_rfl) (by kernel_rfl) (by kernel_rfl) (fun _ _ _ h => h) (Or.inl ⟨by rfl, ?_⟩) (by assumption) ?_; rotate_left; (focus (intro w hSw; (try dsimp only at hSw); go_simp; try with_reducible rfl)))
        try simp only [Act.put, List.getElem_toArray, List.getElem_cons_zero, List.getElem_cons_succ, List.setIfInBounds_toArray, List.set_cons_zero, List.set_cons_succ]
        first | (refine wpAnyH_take (i := 8) rfl (by kernel_rfl) (by kernel_rfl) (by kernel_rfl) (fun _ _ _ h => h) (Or.inr ⟨by rfl, rfl⟩) (by assumption) ?_) | (refine wpAnyH_take (i := 8) (v := ?_) rfl (by kernel_rfl) (by kernel_rfl) (by kernel_rfl) (fun _ _ _ h => h) (Or.inl ⟨by rfl, ?_⟩) (by assumption) ?_; rotate_left; (focus (intro w hSw; (try dsimp only at hSw); go_simp; try with_reducible rfl)))
        try simp only [Act.put, List.getElem_toArray, List.getElem_cons_zero, List.getElem_cons_succ, List.setIfInBounds_toArray, List.set_cons_zero, List.set_cons_succ]
        refine wpAnyH_ready (rs := [9]) (by kernel_rfl) (by simp) ?_
        refine AllReadyH.cons rfl (fun K hK => ?_) AllReadyH.nil
        try simp only [List.getElem_toArray, List.getElem_cons_zero, List.getElem_cons_succ]
        rw [if_neg (by simp [Region.wanted, yielded])]
        refine hK.out _ _ ?_ (fun hHeld => ?_)
        · trivial
        clear hK K
        try simp only [Act.put, List.getElem_toArray, List.getElem_cons_zero, List.getElem_cons_succ, List.setIfInBounds_toArray, List.set_cons_zero, List.set_cons_succ]
        refine wpAnyH_take (i := 10) (v := ?_) rfl (by kernel_rfl) (by kernel_rfl) (by kernel_rfl) (fun _ _ _ h => h) (Or.inl ⟨by rfl, ?_⟩) (by assumption) ?_; rotate_left; (focus (intro w hSw; (try dsimp only at hSw); go_simp; try with_reducible rfl))
        try simp only [Act.put, List.getElem_toArray, List.getElem_cons_zero, List.getElem_cons_succ, List.setIfInBounds_toArray, List.set_cons_zero, List.set_cons_succ]
        refine wpAnyH_done (by kernel_rfl) ?_ _
        go_wp2_with fail
        go_meet
        case rel => exact ⟨rfl, by rw [HCF.out]; rfl, H4⟩
      | false =>
        have CK : Hid (∀ w', Only0 w3.drew w' → w'.cell? ⟨m, 3 + j * 6, none⟩ = some (.int .i64 (s.s j).id) ∧ w'.cell? ⟨m, 3 + j * 6 + 1, none⟩ = some (.int .i64 (s.s j).level) ∧ w'.cell? ⟨m, 3 + j * 6 + 2, none⟩ = some (.int .i64 (s.s j).ops) ∧ w'.cell? ⟨m, 3 + j * 6 + 3, none⟩ = some (.int .u64 (s.s j).beg) ∧ w'.cell? ⟨m, 3 + j * 6 + 4, none⟩ = some (.slice (A.wa j) (s.s j).wrote.length (A.wc j)) ∧ w'.cell? ⟨m, 3 + j * 6 + 5, none⟩ = some (.slice (A.ra j) (s.s j).reads.length (A.rc j)) ∧ w'.cell? ⟨ob, 1, none⟩ = some (.int .i64 key)) := fun w' o => by
          have H := H3.out.only0 ((Only0.refl w3).drew.trans o)
          obtain ⟨t0, t1, t2, t3, t4, t5⟩ := H.mod.txCells hj
          exact ⟨t0, t1, t2, t3, t4, t5, H.op.cell 1⟩
        have C := ref_taken (H3.out.only0 (Only0.refl w3).drew).mod (s.s j).id (s.s j).level (s.s j).ops (s.s j).beg (A.wa j) (s.s j).wrote.length (A.wc j) (A.ra j) (s.s j).reads.length (A.rc j) key
        obtain ⟨tk, htk⟩ : ∃ b, b = s.taken (s.s j).id (s.s j).beg key := ⟨_, rfl⟩
        rw [← htk] at C
        have HTK := Lib.hid htk
        clear htk
        refine wp_region_held_drew (S := (fun w' => w'.cell? ⟨m, 3 + j * 6, none⟩ = some (.int .i64 (s.s j).id) ∧ w'.cell? ⟨m, 3 + j * 6 + 1, none⟩ = some (.int .i64 (s.s j).level) ∧ w'.cell? ⟨m, 3 + j * 6 + 2, none⟩ = some (.int .i64 (s.s j).ops) ∧ w'.cell? ⟨m, 3 + j * 6 + 3, none⟩ = some (.int .u64 (s.s j).beg) ∧ w'.cell? ⟨m, 3 + j * 6 + 4, none⟩ = some (.slice (A.wa j) (s.s j).wrote.length (A.wc j)) ∧ w'.cell? ⟨m, 3 + j * 6 + 5, none⟩ = some (.slice (A.ra j) (s.s j).reads.length (A.rc j)) ∧ w'.cell? ⟨ob, 1, none⟩ = some (.int .i64 key))) (by kernel_rfl) ?_ (fun hHeld => ?_)
        · first | exact ⟨t0, t1, t2, t3, t4, t5, c1⟩ | exact CK.out _ (by assumption)
        refine wpAnyH_take (i := 0) (v := ?_) rfl (by kernel_rfl) (by kernel_rfl) (by kernel_rfl) (fun _ _ _ h => h) (Or.inl ⟨by rfl, ?_⟩) (by assumption) ?_; rotate_left; (focus (intro w hSw; (try dsimp only at hSw); go_simp; try with_reducible rfl))
        try simp only [Act.put, List.getElem_toArray, List.getElem_cons_zero, List.getElem_cons_succ, List.setIfInBounds_toArray, List.set_cons_zero, List.set_cons_succ]
        refine wpAnyH_take (i := 1) (v := ?_) rfl (by kernel_rfl) (by kernel_rfl) (by kernel_rfl) (fun _ _ _ h => h) (Or.inl ⟨by rfl, ?_⟩) (by assumption) ?_; rotate_left; (focus (intro w hSw; (try dsimp only at hSw); go_simp; try with_reducible rfl))
        try simp only [Act.put, List.getElem_toArray, List.getElem_cons_zero, List.getElem_cons_succ, List.setIfInBounds_toArray, List.set_cons_zero, List.set_cons_succ]
        refine wpAnyH_take (i := 2) (v := ?_) rfl (by kernel_rfl) (by kernel_rfl) (by kernel_rfl) (fun _ _ _ h => h) (Or.inl ⟨by rfl, ?_⟩) (by assumption) ?_; rotate_left; (focus (intro w hSw; (try dsimp only at hSw); go_simp; try with_reducible rfl))
        try simp only [Act.put, List.getElem_toArray, List.getElem_cons_zero, List.getElem_cons_succ, List.setIfInBounds_toArray, List.set_cons_zero, List.set_cons_succ]
        first | (refine wpAnyH_take (i := 3) rfl (by kernel_rfl) (by kernel_rfl) (by kernel_rfl) (fun _ _ _ h => h) (Or.inr ⟨by rfl, rfl⟩) (by assumption) ?_) | (refine wpAnyH_take (i := 3) (v := ?_) rfl (by kernel_rfl) (by kernel_rfl) (by kernel_rfl) (fun _ _ _ h => h) (Or.inl ⟨by rfl, ?_⟩) (by assumption) ?_; rotate_left; (focus (intro w hSw; (try dsimp only at hSw); go_simp; try with_reducible rfl)))
        try simp only [Act.put, List.getElem_toArray, List.getElem_cons_zero, List.getElem_cons_succ, List.setIfInBounds_toArray, List.set_cons_zero, List.set_cons_succ]
        first | (refine wpAnyH_take (i := 4) rfl (by kernel_rfl) (by kernel_rfl) (by kernel_rfl) (fun _ _ _ h => h) (Or.inr ⟨by rfl, rfl⟩) (by assumption) ?_) | (refine wpAnyH_take (i := 4) (v := ?_) rfl (by kernel_rfl) (by kernel_rfl) (by kernel_rfl) (fun _ _ _ h => h) (Or.inl ⟨by rfl, ?_⟩) (by assumption) ?_; rotate_left; (focus (intro w hSw; (try dsimp only at hSw); go_simp; try with_reducible rfl)))
        try simp only [Act.put, List.getElem_toArray, List.getElem_cons_zero, List.getElem_cons_succ, List.setIfInBounds_toArray, List.set_cons_zero, List.set_cons_succ]
        first | (refine wpAnyH_take (i := 5) rfl (by kernel_rfl) (by kernel_rfl) (by kernel_rfl) (fun _ _ _ h => h) (Or.inr ⟨by rfl, rfl⟩) (by assumption) ?_) | (refine wpAnyH_take (i := 5) (v := ?_) rfl (by kernel_rfl) (by kernel_rfl) (by kernel_rfl) (fun _ _ _ h => h) (Or.inl ⟨by rfl, ?_⟩) (by assumption) ?_; rotate_left; (focus (intro w hSw; (try dsimp only at hSw); go_simp; try with_reducible rfl)))
        try simp only [Act.put, List.getElem_toArray, List.getElem_cons_zero, List.getElem_cons_succ, List.setIfInBounds_toArray, List.set_cons_zero, List.set_cons_succ]
        first | (refine wpAnyH_take (i := 6) rfl (by kernel_rfl) (by kernel_rfl) (by kernel_rfl) (fun _ _ _ h => h) (Or.inr ⟨by rfl, rfl⟩) (by assumption) ?_) | (refine wpAnyH_take (i := 6) (v := ?_) rfl (by kernel_rfl) (by kernel_rfl) (by kernel_rfl) (fun _ _ _ h => h) (Or.inl ⟨by rfl, ?_⟩) (by assumption) ?_; rotate_left; (focus (intro w hSw; (try dsimp only at hSw); go_simp; try with_reducible rfl)))
        try simp only [Act.put, List.getElem_toArray, List.getElem_cons_zero, List.getElem_cons_succ, List.setIfInBounds_toArray, List.set_cons_zero, List.set_cons_succ]
        first | (refine wpAnyH_take (i := 7) rfl (by kernel_rfl) (by kernel_rfl) (by kernel_rfl) (fun _ _ _ h => h) (Or.inr ⟨by rfl, rfl⟩) (by assumption) ?_) | (refine wpAnyH_take (i := 7) (v := ?_) rfl (by kernel_rfl) (by kernel_rfl) (by kernel_rfl) (fun _ _ _ h => h) (Or.inl ⟨by rfl, ?_⟩) (by assumption) ?_; rotate_left; (focus (intro w hSw; (try dsimp only at hSw); go_simp; try with_reducible rfl)))
        try simp only [Act.put, List.getElem_toArray, List.getElem_cons_zero, List.getElem_cons_succ, List.setIfInBounds_toArray, List.set_cons_zero, List.set_cons_succ]
        first | (refine wpAnyH_take (i := 8) rfl (by kernel_rfl) (by kernel_rfl) (by kernel_rfl) (fun _ _ _ h => h) (Or.inr ⟨by rfl, rfl⟩) (by assumption) ?_) | (refine wpAnyH_take (i := 8) (v := ?_) rfl (by kernel_rfl) (by kernel_rfl) (by kernel_rfl) (fun _ _ _ h => h) (Or.inl ⟨by rfl, ?_⟩) (by assumption) ?_; rotate_left; (focus (intro w hSw; (try dsimp only at hSw); go_simp; try with_reducible rfl)))
        try simp only [Act.put, List.getElem_toArray, List.getElem_cons_zero, List.getElem_cons_succ, List.setIfInBounds_toArray, List.set_cons_zero, List.set_cons_succ]
        refine wpAnyH_ready (rs := [9]) (by kernel_rfl) (by simp) ?_
        refine AllReadyH.cons rfl (fun K hK => ?_) AllReadyH.nil
        try simp only [List.getElem_toArray, List.getElem_cons_zero, List.getElem_cons_succ]
        go_simp
        (refine C.mono ?_; rintro e w4 ⟨rfl, o4⟩)
        try go_wp2_with fail
        refine hK.out _ _ ?_ (fun hHeld => ?_)
        · first | exact ⟨t0, t1, t2, t3, t4, t5, c1⟩ | exact CK.out _ (by assumption)
        clear hK K
        try simp only [Act.put, List.getElem_toArray, List.getElem_cons_zero, List.getElem_cons_succ, List.setIfInBounds_toArray, List.set_cons_zero, List.set_cons_succ]
        refine wpAnyH_take (i := 10) (v := ?_) rfl (by kernel_rfl) (by kernel_rfl) (by kernel_rfl) (fun _ _ _ h => h) (Or.inl ⟨by rfl, ?_⟩) (by assumption) ?_; rotate_left; (focus (intro w hSw; (try dsimp only at hSw); go_simp; try with_reducible rfl))
        try simp only [Act.put, List.getElem_toArray, List.getElem_cons_zero, List.getElem_cons_succ, List.setIfInBounds_toArray, List.set_cons_zero, List.set_cons_succ]
        refine wpAnyH_done (by kernel_rfl) ?_ _
        have H4 := Lib.hid (H3.out.only0 ((Only0.refl w3).drew.trans o4))
        clear C CK o4 H3 t0 t1 t2 t3 t4 t5 m0 m1 m2 m51 m52 c0 c1 c3
        go_wp2_with fail
        go_meet
        case rel => exact ⟨rfl, by rw [HCF.out, ← HTK.out]; rfl, H4⟩
    case rest =>
      obtain ⟨rfl, rfl, H4⟩ := hcut
      clear H3 t0 t1 t2 t3 t4 t5 m0 m1 m2 m51 m52 c0 c1 c3
      cases cf with
      | true =>
        have HE0 : s.write j 4 key x = (abortRes 14 2, s.over j) := by
          have e : (!mine && s.taken (s.s j).id (s.s j).beg key) = true := HCF.out.symm
          unfold RSt.write
          rw [← HAT.out, ← HMI.out, e]
          simp
        have HE := Lib.hid HE0
        clear HE0
        go_wp2_with fail
        trace_state
        refine (ref_over ⟨_, H4.out.mod⟩ j hj 14 2).mono ?_
        rintro e w8 ⟨P8, rfl, ⟨A8, M8⟩, o8, g8⟩
        have H8 := Lib.hid (H4.out.step M8 o8 g8)
        clear M8 o8 g8
        have b0 := H8.out.box.cell 0
        have b1 := H8.out.box.cell 1
        have b2 := H8.out.box.cell 2
        have b3 := H8.out.box.cell 3
        have b4 := H8.out.box.cell 4
        have bf := fun i => H8.out.box.free i
        go_wp2_with fail
        obtain ⟨B9, o9⟩ := set5 H8.out.box (.int .i64 14) (.int .i64 0) (.slice none 0 0) (.int .i64 4) (.int .i64 2)
        refine bodyPost_ret (v := .agg #[.int .i64 14, .int .i64 0, .slice none 0 0, .int .i64 4, .int .i64 2]) (results_cell_row Try.results62 _ _ n0 _ _ _ _ rfl B9 Try.underlying27 rfl info_res) rfl ?_
        rw [HE.out]
        exact RwI.done H8.out o9
      | false =>
        have HMT : Hid (mine = true ∨ s.taken (s.s j).id (s.s j).beg key = false) := Lib.hid (by
          have e := HCF.out
          cases mine with
          | true => exact .inl rfl
          | false => exact .inr (by simpa using e))
        clear HCF
        obtain ⟨k_, hk_⟩ : ∃ k, k = s.own (s.s j).id key := ⟨_, rfl⟩
        obtain ⟨t0, t1, t2, t3, t4, t5⟩ := H4.out.mod.txCells hj
        obtain ⟨m0, m1, m2, m51, m52⟩ := H4.out.mod.head
        have c0 : wc.cell? ⟨ob, 0, none⟩ = some (.int .i64 4) := H4.out.op.cell 0
        have c1 : wc.cell? ⟨ob, 1, none⟩ = some (.int .i64 key) := H4.out.op.cell 1
        have c3 : wc.cell? ⟨ob, 3, none⟩ = some (.int .i64 x) := H4.out.op.cell 3
        have C := ref_own (H4.out.only0 (Only0.refl wc).drew).mod (s.s j).id key
        rw [← hk_] at C
        have HK := Lib.hid hk_
        clear hk_
        have CK : Hid (∀ w', Only0 wc.drew w' → w'.cell? ⟨m, 3 + j * 6, none⟩ = some (.int .i64 (s.s j).id) ∧ w'.cell? ⟨ob, 1, none⟩ = some (.int .i64 key)) := fun w' o => by
          have H := H4.out.only0 ((Only0.refl wc).drew.trans o)
          exact ⟨(H.mod.txCells hj).1, H.op.cell 1⟩
        go_wp2_with fail
        refine wp_region_held_drew (S := (fun w' => w'.cell? ⟨m, 3 + j * 6, none⟩ = some (.int .i64 (s.s j).id) ∧ w'.cell? ⟨ob, 1, none⟩ = some (.int .i64 key))) (by kernel_rfl) ?_ (fun hHeld => ?_)
        · first | exact ⟨t0, c1⟩ | exact CK.out _ (by assumption)
        refine wpAnyH_take (i := 0) (v := ?_) rfl (by kernel_rfl) (by kernel_rfl) (by kernel_rfl) (fun _ _ _ h => h) (Or.inl ⟨by rfl, ?_⟩) (by assumption) ?_; rotate_left; (focus (intro w hSw; (try dsimp only at hSw); go_simp; try with_reducible rfl))
        try simp only [Act.put, List.getElem_toArray, List.getElem_cons_zero, List.getElem_cons_succ, List.setIfInBounds_toArray, List.set_cons_zero, List.set_cons_succ]
        refine wpAnyH_take (i := 1) (v := ?_) rfl (by kernel_rfl) (by kernel_rfl) (by kernel_rfl) (fun _ _ _ h => h) (Or.inl ⟨by rfl, ?_⟩) (by assumption) ?_; rotate_left; (focus (intro w hSw; (try dsimp only at hSw); go_simp; try with_reducible rfl))
        try simp only [Act.put, List.getElem_toArray, List.getElem_cons_zero, List.getElem_cons_succ, List.setIfInBounds_toArray, List.set_cons_zero, List.set_cons_succ]
        refine wpAnyH_take (i := 2) (v := ?_) rfl (by kernel_rfl) (by kernel_rfl) (by kernel_rfl) (fun _ _ _ h => h) (Or.inl ⟨by rfl, ?_⟩) (by assumption) ?_; rotate_left; (focus (intro w hSw; (try dsimp only at hSw); go_simp; try with_reducible rfl))
        try simp only [Act.put, List.getElem_toArray, List.getElem_cons_zero, List.getElem_cons_succ, List.setIfInBounds_toArray, List.set_cons_zero, List.set_cons_succ]
        refine wpAnyH_take (i := 3) (v := ?_) rfl (by kernel_rfl) (by kernel_rfl) (by kernel_rfl) (fun _ _ _ h => h) (Or.inl ⟨by rfl, ?_⟩) (by assumption) ?_; rotate_left; (focus (intro w hSw; (try dsimp only at hSw); go_simp; try with_reducible rfl))
        try simp only [Act.put, List.getElem_toArray, List.getElem_cons_zero, List.getElem_cons_succ, List.setIfInBounds_toArray, List.set_cons_zero, List.set_cons_succ]
        refine wpAnyH_take (i := 4) (v := ?_) rfl (by kernel_rfl) (by kernel_rfl) (by kernel_rfl) (fun _ _ _ h => h) (Or.inl ⟨by rfl, ?_⟩) (by assumption) ?_; rotate_left; (focus (intro w hSw; (try dsimp only at hSw); go_simp; try with_reducible rfl))
        try simp only [Act.put, List.getElem_toArray, List.getElem_cons_zero, List.getElem_cons_succ, List.setIfInBounds_toArray, List.set_cons_zero, List.set_cons_succ]
        refine wpAnyH_take (i := 5) (v := ?_) rfl (by kernel_rfl) (by kernel_rfl) (by kernel_rfl) (fun _ _ _ h => h) (Or.inl ⟨by rfl, ?_⟩) (by assumption) ?_; rotate_left; (focus (intro w hSw; (try dsimp only at hSw); go_simp; try with_reducible rfl))
        try simp only [Act.put, List.getElem_toArray, List.getElem_cons_zero, List.getElem_cons_succ, List.setIfInBounds_toArray, List.set_cons_zero, List.set_cons_succ]
        refine wpAnyH_take (i := 6) (v := ?_) rfl (by kernel_rfl) (by kernel_rfl) (by kernel_rfl) (fun _ _ _ h => h) (Or.inl ⟨by rfl, ?_⟩) (by assumption) ?_; rotate_left; (focus (intro w hSw; (try dsimp only at hSw); go_simp; try with_reducible rfl))
        try simp only [Act.put, List.getElem_toArray, List.getElem_cons_zero, List.getElem_cons_succ, List.setIfInBounds_toArray, List.set_cons_zero, List.set_cons_succ]
        refine wpAnyH_ready (rs := [7]) (by kernel_rfl) (by simp) ?_
        refine AllReadyH.cons rfl (fun K hK => ?_) AllReadyH.nil
        try simp only [List.getElem_toArray, List.getElem_cons_zero, List.getElem_cons_succ]
        go_simp
        (refine C.mono ?_; rintro e w5 ⟨rfl, o5⟩)
        try go_wp2_with fail
        refine hK.out _ _ ?_ (fun hHeld => ?_)
        · first | exact ⟨t0, c1⟩ | exact CK.out _ (by assumption)
        clear hK K
        try simp only [Act.put, List.getElem_toArray, List.getElem_cons_zero, List.getElem_cons_succ, List.setIfInBounds_toArray, List.set_cons_zero, List.set_cons_succ]
        refine wpAnyH_take (i := 8) (v := ?_) rfl (by kernel_rfl) (by kernel_rfl) (by kernel_rfl) (fun _ _ _ h => h) (Or.inl ⟨by rfl, ?_⟩) (by assumption) ?_; rotate_left; (focus (intro w hSw; (try dsimp only at hSw); go_simp; try with_reducible rfl))
        try simp only [Act.put, List.getElem_toArray, List.getElem_cons_zero, List.getElem_cons_succ, List.setIfInBounds_toArray, List.set_cons_zero, List.set_cons_succ]
        refine wpAnyH_done (by kernel_rfl) ?_ _
        have H5 := Lib.hid (H4.out.only0 ((Only0.refl wc).drew.trans o5))
        clear C CK o5 H4
        clear t0 t1 t2 t3 t4 t5 m0 m1 m2 m51 m52 c0 c1 c3
        obtain ⟨t0, t1, t2, t3, t4, t5⟩ := H5.out.mod.txCells hj
        obtain ⟨m0, m1, m2, m51, m52⟩ := H5.out.mod.head
        have c0 : w5.cell? ⟨ob, 0, none⟩ = some (.int .i64 4) := H5.out.op.cell 0
        have c1 : w5.cell? ⟨ob, 1, none⟩ = some (.int .i64 key) := H5.out.op.cell 1
        have c3 : w5.cell? ⟨ob, 3, none⟩ = some (.int .i64 x) := H5.out.op.cell 3
        obtain ⟨ff, hff⟩ : ∃ b, b = false := ⟨_, rfl⟩
        have HFF := Lib.hid hff
        clear hff
        go_upto_region 13 with (fail)
        go_cut [10, 107] (fun s10 s107 wx => s10 = .int .i64 (idxV k_) ∧ s107 = .bool ff ∧ Hid (RwI B w P0 m n0 ob #[.int .i64 4, .int .i64 key, .int .i64 hi, .int .i64 x] s P0 A wx))
        case first =>
          refine wp_region_held_drew (S := (fun w' => w'.cell? ⟨ob, 0, none⟩ = some (.int .i64 4))) (by kernel_rfl) ?_ (fun hHeld => ?_)
          · exact c0
          refine wpAnyH_take (i := 0) (v := ?_) rfl (by kernel_rfl) (by kernel_rfl) (by kernel_rfl) (fun _ _ _ h => h) (Or.inl ⟨by rfl, ?_⟩) (by assumption) ?_; rotate_left; (focus (intro w hSw; (try dsimp only at hSw); go_simp; try with_reducible rfl))
          try simp only [Act.put, List.getElem_toArray, List.getElem_cons_zero, List.getElem_cons_succ, List.setIfInBounds_toArray, List.set_cons_zero, List.set_cons_succ]
          refine wpAnyH_take (i := 1) (v := ?_) rfl (by kernel_rfl) (by kernel_rfl) (by kernel_rfl) (fun _ _ _ h => h) (Or.inl ⟨by rfl, ?_⟩) (by assumption) ?_; rotate_left; (focus (intro w hSw; (try dsimp only at hSw); go_simp; try with_reducible rfl))
          try simp only [Act.put, List.getElem_toArray, List.getElem_cons_zero, List.getElem_cons_succ, List.setIfInBounds_toArray, List.set_cons_zero, List.set_cons_succ]
          refine wpAnyH_take (i := 2) (v := ?_) rfl (by kernel_rfl) (by kernel_rfl) (by kernel_rfl) (fun _ _ _ h => h) (Or.inl ⟨by rfl, ?_⟩) (by assumption) ?_; rotate_left; (focus (intro w hSw; (try dsimp only at hSw); go_simp; try with_reducible rfl))
          try simp only [Act.put, List.getElem_toArray, List.getElem_cons_zero, List.getElem_cons_succ, List.setIfInBounds_toArray, List.set_cons_zero, List.set_cons_succ]
          refine wpAnyH_take (i := 3) (v := ?_) rfl (by kernel_rfl) (by kernel_rfl) (by kernel_rfl) (fun _ _ _ h => h) (Or.inl ⟨by rfl, ?_⟩) (by assumption) ?_; rotate_left; (focus (intro w hSw; (try dsimp only at hSw); go_simp; try with_reducible rfl))
          try simp only [Act.put, List.getElem_toArray, List.getElem_cons_zero, List.getElem_cons_succ, List.setIfInBounds_toArray, List.set_cons_zero, List.set_cons_succ]
          first | (refine wpAnyH_take (i := 4) rfl (by kernel_rfl) (by kernel_rfl) (by kernel_rfl) (fun _ _ _ h => h) (Or.inr ⟨by rfl, rfl⟩) (by assumption) ?_) | (refine wpAnyH_take (i := 4) (v := ?_) rfl (by kernel_rfl) (by kernel_rfl) (by kernel_rfl) (fun _ _ _ h => h) (Or.inl ⟨by rfl, ?_⟩) (by assumption) ?_; rotate_left; (focus (intro w hSw; (try dsimp only at hSw); go_simp; try with_reducible rfl)))
          try simp only [Act.put, List.getElem_toArray, List.getElem_cons_zero, List.getElem_cons_succ, List.setIfInBounds_toArray, List.set_cons_zero, List.set_cons_succ]
          first | (refine wpAnyH_take (i := 5) rfl (by kernel_rfl) (by kernel_rfl) (by kernel_rfl) (fun _ _ _ h => h) (Or.inr ⟨by rfl, rfl⟩) (by assumption) ?_) | (refine wpAnyH_take (i := 5) (v := ?_) rfl (by kernel_rfl) (by kernel_rfl) (by kernel_rfl) (fun _ _ _ h => h) (Or.inl ⟨by rfl, ?_⟩) (by assumption) ?_; rotate_left; (focus (intro w hSw; (try dsimp only at hSw); go_simp; try with_reducible rfl)))
          try simp only [Act.put, List.getElem_toArray, List.getElem_cons_zero, List.getElem_cons_succ, List.setIfInBounds_toArray, List.set_cons_zero, List.set_cons_succ]
          refine wpAnyH_take (i := 6) (v := ?_) rfl (by kernel_rfl) (by kernel_rfl) (by kernel_rfl) (fun _ _ _ h => h) (Or.inl ⟨by rfl, ?_⟩) (by assumption) ?_; rotate_left; (focus (intro w hSw; (try dsimp only at hSw); go_simp; try with_reducible rfl))
          try simp only [Act.put, List.getElem_toArray, List.getElem_cons_zero, List.getElem_cons_succ, List.setIfInBounds_toArray, List.set_cons_zero, List.set_cons_succ]
          refine wpAnyH_take (i := 7) (v := ?_) rfl (by kernel_rfl) (by kernel_rfl) (by kernel_rfl) (fun _ _ _ h => h) (Or.inl ⟨by rfl, ?_⟩) (by assumption) ?_; rotate_left; (focus (intro w hSw; (try dsimp only at hSw); go_simp; try with_reducible rfl))
          try simp only [Act.put, List.getElem_toArray, List.getElem_cons_zero, List.getElem_cons_succ, List.setIfInBounds_toArray, List.set_cons_zero, List.set_cons_succ]
          first | (refine wpAnyH_take (i := 8) rfl (by kernel_rfl) (by kernel_rfl) (by kernel_rfl) (fun _ _ _ h => h) (Or.inr ⟨by rfl, rfl⟩) (by assumption) ?_) | (refine wpAnyH_take (i := 8) (v := ?_) rfl (by kernel_rfl) (by kernel_rfl) (by kernel_rfl) (fun _ _ _ h => h) (Or.inl ⟨by rfl, ?_⟩) (by assumption) ?_; rotate_left; (focus (intro w hSw; (try dsimp only at hSw); go_simp; try with_reducible rfl)))
          try simp only [Act.put, List.getElem_toArray, List.getElem_cons_zero, List.getElem_cons_succ, List.setIfInBounds_toArray, List.set_cons_zero, List.set_cons_succ]
          first | (refine wpAnyH_take (i := 9) rfl (by kernel_rfl) (by kernel_rfl) (by kernel_rfl) (fun _ _ _ h => h) (Or.inr ⟨by rfl, rfl⟩) (by assumption) ?_) | (refine wpAnyH_take (i := 9) (v := ?_) rfl (by kernel_rfl) (by kernel_rfl) (by kernel_rfl) (fun _ _ _ h => h) (Or.inl ⟨by rfl, ?_⟩) (by assumption) ?_; rotate_left; (focus (intro w hSw; (try dsimp only at hSw); go_simp; try with_reducible rfl)))
          try simp only [Act.put, List.getElem_toArray, List.getElem_cons_zero, List.getElem_cons_succ, List.setIfInBounds_toArray, List.set_cons_zero, List.set_cons_succ]
          first | (refine wpAnyH_take (i := 10) rfl (by kernel_rfl) (by kernel_rfl) (by kernel_rfl) (fun _ _ _ h => h) (Or.inr ⟨by rfl, rfl⟩) (by assumption) ?_) | (refine wpAnyH_take (i := 10) (v := ?_) rfl (by kernel_rfl) (by kernel_rfl) (by kernel_rfl) (fun _ _ _ h => h) (Or.inl ⟨by rfl, ?_⟩) (by assumption) ?_; rotate_left; (focus (intro w hSw; (try dsimp only at hSw); go_simp; try with_reducible rfl)))
          try simp only [Act.put, List.getElem_toArray, List.getElem_cons_zero, List.getElem_cons_succ, List.setIfInBounds_toArray, List.set_cons_zero, List.set_cons_succ]
          first | (refine wpAnyH_take (i := 11) rfl (by kernel_rfl) (by kernel_rfl) (by kernel_rfl) (fun _ _ _ h => h) (Or.inr ⟨by rfl, rfl⟩) (by assumption) ?_) | (refine wpAnyH_take (i := 11) (v := ?_) rfl (by kernel_rfl) (by kernel_rfl) (by kernel_rfl) (fun _ _ _ h => h) (Or.inl ⟨by rfl, ?_⟩) (by assumption) ?_; rotate_left; (focus (intro w hSw; (try dsimp only at hSw); go_simp; try with_reducible rfl)))
          try simp only [Act.put, List.getElem_toArray, List.getElem_cons_zero, List.getElem_cons_succ, List.setIfInBounds_toArray, List.set_cons_zero, List.set_cons_succ]
          first | (refine wpAnyH_take (i := 12) rfl (by kernel_rfl) (by kernel_rfl) (by kernel_rfl) (fun _ _ _ h => h) (Or.inr ⟨by rfl, rfl⟩) (by assumption) ?_) | (refine wpAnyH_take (i := 12) (v := ?_) rfl (by kernel_rfl) (by kernel_rfl) (by kernel_rfl) (fun _ _ _ h => h) (Or.inl ⟨by rfl, ?_⟩) (by assumption) ?_; rotate_left; (focus (intro w hSw; (try dsimp only at hSw); go_simp; try with_reducible rfl)))
          try simp only [Act.put, List.getElem_toArray, List.getElem_cons_zero, List.getElem_cons_succ, List.setIfInBounds_toArray, List.set_cons_zero, List.set_cons_succ]
          first | (refine wpAnyH_take (i := 13) rfl (by kernel_rfl) (by kernel_rfl) (by kernel_rfl) (fun _ _ _ h => h) (Or.inr ⟨by rfl, rfl⟩) (by assumption) ?_) | (refine wpAnyH_take (i := 13) (v := ?_) rfl (by kernel_rfl) (by kernel_rfl) (by kernel_rfl) (fun _ _ _ h => h) (Or.inl ⟨by rfl, ?_⟩) (by assumption) ?_; rotate_left; (focus (intro w hSw; (try dsimp only at hSw); go_simp; try with_reducible rfl)))
          try simp only [Act.put, List.getElem_toArray, List.getElem_cons_zero, List.getElem_cons_succ, List.setIfInBounds_toArray, List.set_cons_zero, List.set_cons_succ]
          first | (refine wpAnyH_take (i := 14) rfl (by kernel_rfl) (by kernel_rfl) (by kernel_rfl) (fun _ _ _ h => h) (Or.inr ⟨by rfl, rfl⟩) (by assumption) ?_) | (refine wpAnyH_take (i := 14) (v := ?_) rfl (by kernel_rfl) (by kernel_rfl) (by kernel_rfl) (fun _ _ _ h => h) (Or.inl ⟨by rfl, ?_⟩) (by assumption) ?_; rotate_left; (focus (intro w hSw; (try dsimp only at hSw); go_simp; try with_reducible rfl)))
          try simp only [Act.put, List.getElem_toArray, List.getElem_cons_zero, List.getElem_cons_succ, List.setIfInBounds_toArray, List.set_cons_zero, List.set_cons_succ]
          first | (refine wpAnyH_take (i := 15) rfl (by kernel_rfl) (by kernel_rfl) (by kernel_rfl) (fun _ _ _ h => h) (Or.inr ⟨by rfl, rfl⟩) (by assumption) ?_) | (refine wpAnyH_take (i := 15) (v := ?_) rfl (by kernel_rfl) (by kernel_rfl) (by kernel_rfl) (fun _ _ _ h => h) (Or.inl ⟨by rfl, ?_⟩) (by assumption) ?_; rotate_left; (focus (intro w hSw; (try dsimp only at hSw); go_simp; try with_reducible rfl)))
          try simp only [Act.put, List.getElem_toArray, List.getElem_cons_zero, List.getElem_cons_succ, List.setIfInBounds_toArray, List.set_cons_zero, List.set_cons_succ]
          first | (refine wpAnyH_take (i := 16) rfl (by kernel_rfl) (by kernel_rfl) (by kernel_rfl) (fun _ _ _ h => h) (Or.inr ⟨by rfl, rfl⟩) (by assumption) ?_) | (refine wpAnyH_take (i := 16) (v := ?_) rfl (by kernel_rfl) (by kernel_rfl) (by kernel_rfl) (fun _ _ _ h => h) (Or.inl ⟨by rfl, ?_⟩) (by assumption) ?_; rotate_left; (focus (intro w hSw; (try dsimp only at hSw); go_simp; try with_reducible rfl)))
          try simp only [Act.put, List.getElem_toArray, List.getElem_cons_zero, List.getElem_cons_succ, List.setIfInBounds_toArray, List.set_cons_zero, List.set_cons_succ]
          first | (refine wpAnyH_take (i := 17) rfl (by kernel_rfl) (by kernel_rfl) (by kernel_rfl) (fun _ _ _ h => h) (Or.inr ⟨by rfl, rfl⟩) (by assumption) ?_) | (refine wpAnyH_take (i := 17) (v := ?_) rfl (by kernel_rfl) (by kernel_rfl) (by kernel_rfl) (fun _ _ _ h => h) (Or.inl ⟨by rfl, ?_⟩) (by assumption) ?_; rotate_left; (focus (intro w hSw; (try dsimp only at hSw); go_simp; try with_reducible rfl)))
          try simp only [Act.put, List.getElem_toArray, List.getElem_cons_zero, List.getElem_cons_succ, List.setIfInBounds_toArray, List.set_cons_zero, List.set_cons_succ]
          first | (refine wpAnyH_take (i := 18) rfl (by kernel_rfl) (by kernel_rfl) (by kernel_rfl) (fun _ _ _ h => h) (Or.inr ⟨by rfl, rfl⟩) (by assumption) ?_) | (refine wpAnyH_take (i := 18) (v := ?_) rfl (by kernel_rfl) (by kernel_rfl) (by kernel_rfl) (fun _ _ _ h => h) (Or.inl ⟨by rfl, ?_⟩) (by assumption) ?_; rotate_left; (focus (intro w hSw; (try dsimp only at hSw); go_simp; try with_reducible rfl)))
          try simp only [Act.put, List.getElem_toArray, List.getElem_cons_zero, List.getElem_cons_succ, List.setIfInBounds_toArray, List.set_cons_zero, List.set_cons_succ]
          refine wpAnyH_take (i := 19) (v := ?_) rfl (by kernel_rfl) (by kernel_rfl) (by kernel_rfl) (fun _ _ _ h => h) (Or.inl ⟨by rfl, ?_⟩) (by assumption) ?_; rotate_left; (focus (intro w hSw; (try dsimp only at hSw); go_simp; try with_reducible rfl))
          try simp only [Act.put, List.getElem_toArray, List.getElem_cons_zero, List.getElem_cons_succ, List.setIfInBounds_toArray, List.set_cons_zero, List.set_cons_succ]
          refine wpAnyH_done (by kernel_rfl) ?_ _
          have H6 := Lib.hid (H5.out.only0 (Only0.refl w5).drew)
          clear H5
          clear t0 t1 t2 t3 t4 t5 m0 m1 m2 m51 m52 c0 c1 c3
          go_wp2_with fail
          go_meet
          case rel => exact ⟨rfl, by rw [HFF.out] <;> rfl, H6⟩
        case rest =>
          obtain ⟨rfl, rfl, H6⟩ := hcut
          clear H5 t0 t1 t2 t3 t4 t5 m0 m1 m2 m51 m52 c0 c1 c3
          cases ff with
          | true =>
            exact absurd HFF.out (by decide)
          | false =>
            clear HFF
            have HE : Hid (s.write j 4 key x = (.zero, ((s.put1 j key).put2 (some ia) k_ (s.s j).id).put3 k_ (s.s j).id 4 key x)) := Lib.hid (by
              unfold RSt.write
              rw [← HAT.out, ← HMI.out, ← HK.out]
              rcases HMT.out with e | e
              all_goals
                cases k_ with
                | none => simp [e]
                | some ik => simp [e])
            obtain ⟨t0, t1, t2, t3, t4, t5⟩ := H6.out.mod.txCells hj
            obtain ⟨m0, m1, m2, m51, m52⟩ := H6.out.mod.head
            have c0 : wc.cell? ⟨ob, 0, none⟩ = some (.int .i64 4) := H6.out.op.cell 0
            have c1 : wc.cell? ⟨ob, 1, none⟩ = some (.int .i64 key) := H6.out.op.cell 1
            have c3 : wc.cell? ⟨ob, 3, none⟩ = some (.int .i64 x) := H6.out.op.cell 3
            go_upto_if 112 with (fail)
            go_cut [10] (fun s10 wx => s10 = .int .i64 (idxV k_) ∧ ∃ P' A', Hid (RwI B w P0 m n0 ob #[.int .i64 4, .int .i64 key, .int .i64 hi, .int .i64 x] (s.put1 j key) P' A' wx))
            case first =>
              cases mine with
              | true =>
                have HP1 : Hid (RwI B w P0 m n0 ob #[.int .i64 4, .int .i64 key, .int .i64 hi, .int .i64 x] (s.put1 j key) P0 A wc) := by
                  rw [show s.put1 j key = s by unfold RSt.put1; rw [← HMI.out]; rfl]; exact H6
                go_wp2_with fail
                go_meet
                case rel => exact ⟨rfl, _, _, HP1⟩
              | false =>
                have HP1 : Hid (s.put1 j key = s.setS j ((s.s j).write key)) := Lib.hid (by unfold RSt.put1; rw [← HMI.out]; rfl)
                obtain ⟨i0, hi0, hz0, hz1, hz2⟩ := info_parts info_int
                have hbd := (H6.out.mod.few12 j).1
                obtain ⟨W6, hW6⟩ : ∃ W6, W6 = (wc.alloc (.cells #[.int .i64 key] 3)).drew := ⟨_, rfl⟩
                have o6 : Only0 wc W6 := by rw [hW6]; exact ((Only0.refl _).alloc _).drew
                have HB6 := H6.out.only0 o6
                have m6 : W6.cell? ⟨m, 3 + j * 6 + 4, none⟩ = some (.slice (A.wa j) (s.s j).wrote.length (A.wc j)) := by
                  have h6 := HB6.mod
                  exact (h6.txCells hj).2.2.2.2.1
                have f6 : W6.frozen? ⟨m, 3 + j * 6 + 4, none⟩ = false := HB6.mod.free _
                have R6 := rows_only (H6.out.mod.ws j hj) o6 (fun _ _ hf => hf)
                have z6 : W6.heap.size = wc.heap.size + 1 := by rw [hW6]; simp
                have hm6 : m < W6.heap.size := HB6.mod.mod.lt
                have nrow : ¬ rowOf (.slice (A.wa j) (s.s j).wrote.length (A.wc j)) m := rows_ne (H6.out.mod.ws j hj) H6.out.mod.mod (by decide)
                have hB5 : B ≤ wc.heap.size := by have h1 := H6.out.mod.above m H6.out.mod.pm; have h2 := H6.out.mod.mod.lt; omega
                have APP : Hid (∀ (gg cap : Nat) (w1 : World), w1.ownsRow B 3 1 (.slice (some ⟨gg, 0, none⟩) ((s.s j).wrote.length + 1) cap) ((s.s j).wrote.length + 1) ((wrCells (s.s j).wrote) ++ [.int .i64 key]) → W6.grownBy w1 (Value.slice (A.wa j) (s.s j).wrote.length (A.wc j)).ownBlock → ((Value.slice (A.wa j) (s.s j).wrote.length (A.wc j)).ownBlock = some gg ∨ gg = wc.heap.size + 1) → gg < w1.heap.size →
                    ∃ P' A', RwI B w P0 m n0 ob #[.int .i64 4, .int .i64 key, .int .i64 hi, .int .i64 x] (s.setS j ((s.s j).write key)) P' A' (w1.setCell ⟨m, 3 + j * 6 + 4, none⟩ (.slice (some ⟨gg, 0, none⟩) ((s.s j).wrote.length + 1) cap))) := by
                  intro gg cap w1 h1 h2 h3 h4
                  have oR : Only (rowOf (.slice (A.wa j) (s.s j).wrote.length (A.wc j))) W6 w1 := ⟨h2.os, h2.tape, h2.output, h2.size, fun b hb hn => h2.block b hb (fun e => hn e.symm)⟩
                  have hat : (Value.slice (A.wa j) (s.s j).wrote.length (A.wc j)).ownBlock = some gg ∨ W6.heap.size ≤ gg := h3.imp (fun h => h) (fun h => by omega)
                  obtain ⟨A', M', O'⟩ := HB6.mod.pushW hj key HOW.out h1 oR hat h4
                  exact ⟨_, A', H6.out.app o6 (H6.out.mod.pw j hj) hat M' O'⟩
                rw [hW6] at m6 f6 R6 z6 hm6 APP
                clear HB6 hW6 o6
                go_wp2_with fail
                go_region_law
                  ((refine step_append_lies _ (by rfl) _ _ _ (by rfl) B 3 i0 _ 1 8 Try.underlying51 hi0 hz0 hz1 hz2 rfl (by omega) (.slice (A.wa j) (s.s j).wrote.length (A.wc j)) (s.s j).wrote.length (wrCells (s.s j).wrote) (by rfl) R6
                      ⟨wc.heap.size, 0, none⟩ 1 1 [.int .i64 key] (by rfl) (by rfl) (World.news_of_block (cs := #[.int .i64 key]) (t := 3) (fr := (0, 0)) (heap_alloc_new wc _)) (by simp [Value.oneCell'])
                      (by omega) (by unfold maxLen; omega) (by omega) (by simp; omega) (wc.heap.size + 1) (by simp) ?_; intro gg cap w1 hown2 hgrow hat hlt2
                    have cz : w1.cell? ⟨m, 3 + j * 6 + 4, none⟩ = some (.slice (A.wa j) (s.s j).wrote.length (A.wc j)) := (hgrow.cell_far ⟨m, 3 + j * 6 + 4, none⟩ hm6 (fun e => nrow e.symm)).trans m6
                    have fz1 : w1.frozen? ⟨m, 3 + j * 6 + 4, none⟩ = false := (hgrow.frozen_far ⟨m, 3 + j * 6 + 4, none⟩ hm6 (fun e => nrow e.symm)).trans f6))
                all_goals
                  obtain ⟨P7, A7, H7⟩ := APP.out gg cap w1 hown2 hgrow hat hlt2
                  have H7 := Lib.hid H7
                  clear H7
                  generalize hW7 : World.setCell w1 _ _ = W7 at *
                  clear hown2 hgrow hat hlt2 cz fz1 hW7 APP m6 f6 R6 z6 hm6 nrow hB5 hbd hi0 hz0 hz1 hz2
                  rw [← HP1.out] at H7
                  go_wp2_with fail
                  go_meet
                  case rel => exact ⟨rfl, _, _, H7⟩
            case rest =>
              obtain ⟨rfl, P7, A7, H7⟩ := hcut
              clear H6 t0 t1 t2 t3 t4 t5 m0 m1 m2 m51 m52 c0 c1 c3
              have E1 : Hid ((s.put1 j key).v = s.v ∧ (s.put1 j key).slots = s.slots ∧ ((s.put1 j key).s j).id = (s.s j).id) := Lib.hid (put1_v s j key)
              generalize s.put1 j key = s1 at *
              cases k_ with
              | none =>
                have iK : idxV none = -1 := rfl
                have E0 : Hid (s1.v.length = s.v.length ∧ s1.slots = s.slots ∧ (s1.s j).id = (s.s j).id) := Lib.hid ⟨congrArg List.length E1.out.1, E1.out.2⟩
                have hia : ia < s1.v.length := by rw [E1.out.1]; exact sees_lt HAT.out.symm
                have hiaI : (ia : Int) < (s1.v.length : Int) := by omega
                have hia0 : (0 : Int) ≤ (ia : Int) := by omega
                obtain ⟨t0, t1, t2, t3, t4, t5⟩ := H7.out.mod.txCells hj
                obtain ⟨m0, m1, m2, m51, m52⟩ := H7.out.mod.head
                have c0 : wc.cell? ⟨ob, 0, none⟩ = some (.int .i64 4) := H7.out.op.cell 0
                have c1 : wc.cell? ⟨ob, 1, none⟩ = some (.int .i64 key) := H7.out.op.cell 1
                have c3 : wc.cell? ⟨ob, 3, none⟩ = some (.int .i64 x) := H7.out.op.cell 3
                rw [E1.out.2.2] at t0
                obtain ⟨g8, hg8, ⟨q8, hq8⟩, fz8, HS8⟩ := H7.out.setV hia 3 (by decide) (.int .i64 (s.s j).id) (fun v => { v with ended := (s.s j).id }) (fun _ => rfl)
                obtain ⟨s2, hs2⟩ : ∃ s2, s2 = s1.setV ia (fun v => { v with ended := (s.s j).id }) := ⟨_, rfl⟩
                rw [← hs2] at HS8
                have H8 := Lib.hid (HS8.only0 (Only0.refl _).drew)
                have E2 : Hid (s2.v.length = s.v.length ∧ s2.slots = s.slots ∧ (s2.s j).id = (s.s j).id) := Lib.hid (by
                  rw [hs2, ← E1.out.1]
                  exact ⟨by simp [RSt.setV], E1.out.2⟩)
                have HS2 := Lib.hid hs2
                clear HS8 hs2
                rw [hg8] at m2
                go_wp2_with fail
                go_region
                generalize World.drew (World.setCell _ ⟨g8, ia * 7 + 3, none⟩ _) = w8 at *
                clear hq8 fz8 hg8 t0 t1 t2 t3 t4 t5 m0 m1 m2 m51 m52 c0 c1 c3
                obtain ⟨t0, t1, t2, t3, t4, t5⟩ := H8.out.mod.txCells hj
                obtain ⟨m0, m1, m2, m51, m52⟩ := H8.out.mod.head
                have c0 : w8.cell? ⟨ob, 0, none⟩ = some (.int .i64 4) := H8.out.op.cell 0
                have c1 : w8.cell? ⟨ob, 1, none⟩ = some (.int .i64 key) := H8.out.op.cell 1
                have c3 : w8.cell? ⟨ob, 3, none⟩ = some (.int .i64 x) := H8.out.op.cell 3
                rw [E2.out.2.2] at t0
                have b0 := H8.out.box.cell 0
                have b1 := H8.out.box.cell 1
                have b2 := H8.out.box.cell 2
                have b3 := H8.out.box.cell 3
                have b4 := H8.out.box.cell 4
                have bf := fun i => H8.out.box.free i
                go_wp2_with fail
                skip
                obtain ⟨B9, o9⟩ := set5 H8.out.box (.int .i64 0) (.int .i64 0) (.slice none 0 0) (.int .i64 0) (.int .i64 0)
                refine bodyPost_ret (v := .agg #[.int .i64 0, .int .i64 0, .slice none 0 0, .int .i64 0, .int .i64 0]) (results_cell_row Try.results62 _ _ n0 _ _ _ _ rfl B9 Try.underlying27 rfl info_res) rfl ?_
                rw [HE.out, show RSt.put2 s1 (some ia) none (s.s j).id = s2 by rw [HS2.out]; unfold RSt.put2; rfl]
                exact RwI.done H8.out o9
              | some ik =>
                have iK : idxV (some ik) = (ik : Int) := rfl
                have E0 : Hid (s1.v.length = s.v.length ∧ s1.slots = s.slots ∧ (s1.s j).id = (s.s j).id) := Lib.hid ⟨congrArg List.length E1.out.1, E1.out.2⟩
                have hik : ik < s1.v.length := by rw [E1.out.1]; exact own_lt HK.out.symm
                have hikI : (ik : Int) < (s1.v.length : Int) := by omega
                have hia : ia < s1.v.length := by rw [E1.out.1]; exact sees_lt HAT.out.symm
                have hiaI : (ia : Int) < (s1.v.length : Int) := by omega
                have hia0 : (0 : Int) ≤ (ia : Int) := by omega
                by_cases hii : ia = ik
                · subst hii
                  have E2 := E0
                  obtain ⟨t0, t1, t2, t3, t4, t5⟩ := H7.out.mod.txCells hj
                  obtain ⟨m0, m1, m2, m51, m52⟩ := H7.out.mod.head
                  have c0 : wc.cell? ⟨ob, 0, none⟩ = some (.int .i64 4) := H7.out.op.cell 0
                  have c1 : wc.cell? ⟨ob, 1, none⟩ = some (.int .i64 key) := H7.out.op.cell 1
                  have c3 : wc.cell? ⟨ob, 3, none⟩ = some (.int .i64 x) := H7.out.op.cell 3
                  rw [E2.out.2.2] at t0
                  obtain ⟨g9, hg9, ⟨q9, hq9⟩, fz9, HS9⟩ := H7.out.setV hia 3 (by decide) (.int .i64 (s.s j).id) (fun v => { v with ended := (s.s j).id }) (fun _ => rfl)
                  have H9 := Lib.hid (HS9.only0 (Only0.refl _).drew)
                  clear HS9
                  rw [hg9] at m2
                  go_wp2_with fail
                  go_region
                  generalize World.drew (World.setCell _ ⟨g9, ia * 7 + 3, none⟩ _) = w9 at *
                  clear hq9 fz9 t0 t1 t2 t3 t4 t5 m0 m1 m2 m51 m52 c0 c1 c3
                  have b0 := H9.out.box.cell 0
                  have b1 := H9.out.box.cell 1
                  have b2 := H9.out.box.cell 2
                  have b3 := H9.out.box.cell 3
                  have b4 := H9.out.box.cell 4
                  have bf := fun i => H9.out.box.free i
                  go_wp2_with fail
                  skip
                  obtain ⟨B9, o9⟩ := set5 H9.out.box (.int .i64 0) (.int .i64 0) (.slice none 0 0) (.int .i64 0) (.int .i64 0)
                  refine bodyPost_ret (v := .agg #[.int .i64 0, .int .i64 0, .slice none 0 0, .int .i64 0, .int .i64 0]) (results_cell_row Try.results62 _ _ n0 _ _ _ _ rfl B9 Try.underlying27 rfl info_res) rfl ?_
                  rw [HE.out, show RSt.put2 s1 (some ia) (some ia) (s.s j).id = s1 by unfold RSt.put2; simp]
                  exact RwI.done H9.out o9
                · have hiN : ¬ ((ia : Int) = (ik : Int)) := by omega
                  obtain ⟨t0, t1, t2, t3, t4, t5⟩ := H7.out.mod.txCells hj
                  obtain ⟨m0, m1, m2, m51, m52⟩ := H7.out.mod.head
                  have c0 : wc.cell? ⟨ob, 0, none⟩ = some (.int .i64 4) := H7.out.op.cell 0
                  have c1 : wc.cell? ⟨ob, 1, none⟩ = some (.int .i64 key) := H7.out.op.cell 1
                  have c3 : wc.cell? ⟨ob, 3, none⟩ = some (.int .i64 x) := H7.out.op.cell 3
                  rw [E1.out.2.2] at t0
                  obtain ⟨g8, hg8, ⟨q8, hq8⟩, fz8, HS8⟩ := H7.out.setV hia 3 (by decide) (.int .i64 (s.s j).id) (fun v => { v with ended := (s.s j).id }) (fun _ => rfl)
                  obtain ⟨s2, hs2⟩ : ∃ s2, s2 = s1.setV ia (fun v => { v with ended := (s.s j).id }) := ⟨_, rfl⟩
                  rw [← hs2] at HS8
                  have H8 := Lib.hid (HS8.only0 (Only0.refl _).drew)
                  have E2 : Hid (s2.v.length = s.v.length ∧ s2.slots = s.slots ∧ (s2.s j).id = (s.s j).id) := Lib.hid (by
                    rw [hs2, ← E1.out.1]
                    exact ⟨by simp [RSt.setV], E1.out.2⟩)
                  have HS2 := Lib.hid hs2
                  clear HS8 hs2
                  rw [hg8] at m2
                  go_wp2_with fail
                  go_region
                  generalize World.drew (World.setCell _ ⟨g8, ia * 7 + 3, none⟩ _) = w8 at *
                  clear hq8 fz8 hg8 t0 t1 t2 t3 t4 t5 m0 m1 m2 m51 m52 c0 c1 c3
                  have hik : ik < s2.v.length := by rw [E2.out.1, ← E1.out.1]; exact hik
                  have hikI : (ik : Int) < (s2.v.length : Int) := by omega
                  obtain ⟨t0, t1, t2, t3, t4, t5⟩ := H8.out.mod.txCells hj
                  obtain ⟨m0, m1, m2, m51, m52⟩ := H8.out.mod.head
                  have c0 : w8.cell? ⟨ob, 0, none⟩ = some (.int .i64 4) := H8.out.op.cell 0
                  have c1 : w8.cell? ⟨ob, 1, none⟩ = some (.int .i64 key) := H8.out.op.cell 1
                  have c3 : w8.cell? ⟨ob, 3, none⟩ = some (.int .i64 x) := H8.out.op.cell 3
                  rw [E2.out.2.2] at t0
                  obtain ⟨g9, hg9, ⟨q9, hq9⟩, fz9, HS9⟩ := H8.out.setV hik 3 (by decide) (.int .i64 (s.s j).id) (fun v => { v with ended := (s.s j).id }) (fun _ => rfl)
                  have H9 := Lib.hid (HS9.only0 (Only0.refl _).drew)
                  clear HS9
                  rw [hg9] at m2
                  go_wp2_with fail
                  go_region
                  generalize World.drew (World.setCell _ ⟨g9, ik * 7 + 3, none⟩ _) = w9 at *
                  clear hq9 fz9 t0 t1 t2 t3 t4 t5 m0 m1 m2 m51 m52 c0 c1 c3
                  have b0 := H9.out.box.cell 0
                  have b1 := H9.out.box.cell 1
                  have b2 := H9.out.box.cell 2
                  have b3 := H9.out.box.cell 3
                  have b4 := H9.out.box.cell 4
                  have bf := fun i => H9.out.box.free i
                  go_wp2_with fail
                  skip
                  obtain ⟨B9, o9⟩ := set5 H9.out.box (.int .i64 0) (.int .i64 0) (.slice none 0 0) (.int .i64 0) (.int .i64 0)
                  refine bodyPost_ret (v := .agg #[.int .i64 0, .int .i64 0, .slice none 0 0, .int .i64 0, .int .i64 0]) (results_cell_row Try.results62 _ _ n0 _ _ _ _ rfl B9 Try.underlying27 rfl info_res) rfl ?_
                  rw [HE.out, show RSt.put2 s1 (some ia) (some ik) (s.s j).id = s2 by rw [HS2.out]; unfold RSt.put2; simp; intro e; exact absurd e.symm hii]
                  exact RwI.done H9.out o9
end Go.Proofs.Ytcbhafddehipdaa

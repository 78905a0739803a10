/-
  ModelBounds: what its proof rests on, part 11.
-/
import Derived.IntWalk
import Derived.Test.YtcbhafddehipdaaZModelBounds10
namespace Go.Proofs.Ytcbhafddehipdaa
open Go.RowKit
attribute [local go_sem ↓] Go.wp_at_zero Go.wp_at_succ
set_option linter.unusedVariables false
set_option linter.unusedSimpArgs false
set_option maxRecDepth 100000 in
set_option maxHeartbeats 16000000 in
theorem ref_do {B m : Nat} {w : World} {P0 : Nat → Prop} {s : RSt} (h : RAt B w P0 m s) (j kind key hi value : Int) :
    Calls Try.prog 30 #[.pointer (some ⟨m, 0, none⟩), .int .i64 j, .agg #[.int .i64 kind, .int .i64 key, .int .i64 hi, .int .i64 value]] w (RDoRes B m w P0 (s.do_ j ⟨kind, key, hi, value⟩)) := by
  obtain ⟨A, h⟩ := h
  obtain ⟨W, hW⟩ : ∃ W, W = (w.alloc (.cells #[.int .i64 kind, .int .i64 key, .int .i64 hi, .int .i64 value] 31)).alloc (.cells #[.int .i64 0, .int .i64 0, .slice none 0 0, .int .i64 0, .int .i64 0] 27) := ⟨_, rfl⟩
  obtain ⟨ob, hob⟩ : ∃ ob, ob = w.heap.size := ⟨_, rfl⟩
  obtain ⟨n0, hn0⟩ : ∃ n0, n0 = ob + 1 := ⟨_, rfl⟩
  have H0 : Hid (RcI B w P0 m [⟨n0, 27, #[.int .i64 0, .int .i64 0, .slice none 0 0, .int .i64 0, .int .i64 0]⟩, ⟨ob, 31, #[.int .i64 kind, .int .i64 key, .int .i64 hi, .int .i64 value]⟩] s P0 A W) := by
    have h1 := ((RcI.start h).alloc 31 #[.int .i64 kind, .int .i64 key, .int .i64 hi, .int .i64 value]).alloc 27 #[.int .i64 0, .int .i64 0, .slice none 0 0, .int .i64 0, .int .i64 0]
    rw [World.size_alloc] at h1
    rw [hn0, hob, hW]; exact h1
  have HOB := Lib.hid hob
  have HN0 := Lib.hid hn0
  clear h hob hn0
  have hd : j < 0 ∨ (0 ≤ j ∧ 7 < j) ∨ (0 ≤ j ∧ j ≤ 7) := by omega
  rcases hd with h1 | ⟨h1, h2⟩ | ⟨h1, h2⟩
  · have HE : Hid (s.do_ j ⟨kind, key, hi, value⟩ = (.zero, 1, s)) := Lib.hid (by unfold RSt.do_; rw [if_neg]; simp [sessB]; omega)
    go_enter Try.func30, Try.ntmps30
    go_upto_region 1 with (fail)
    rw [← hW, ← HOB.out, ← HN0.out]
    clear hW
    have X9 := (H0.out.own _ List.mem_cons_self).1
    have HX9 := Lib.hid X9
    have b0 := X9.cell 0
    have b1 := X9.cell 1
    have b2 := X9.cell 2
    have b3 := X9.cell 3
    have b4 := X9.cell 4
    have bf := fun i => X9.free i
    clear X9
    go_wp2_with fail
    obtain ⟨B9, o9⟩ := set5 HX9.out (.int .i64 0) (.int .i64 0) (.slice none 0 0) (.int .i64 0) (.int .i64 0)
    refine bodyPost_ret (results_cell_tmp Try.results30 _ _ n0 _ _ _ _ (.int .i64 1) rfl rfl B9 Try.underlying27 rfl info_res) rfl ?_
    rw [HE.out]
    exact H0.out.re List.mem_cons_self o9 (.inl rfl) (fun y hy => by cases hy)
  · have HE : Hid (s.do_ j ⟨kind, key, hi, value⟩ = (.zero, 1, s)) := Lib.hid (by unfold RSt.do_; rw [if_neg]; simp [sessB]; omega)
    go_enter Try.func30, Try.ntmps30
    go_upto_region 1 with (fail)
    rw [← hW, ← HOB.out, ← HN0.out]
    clear hW
    have X9 := (H0.out.own _ List.mem_cons_self).1
    have HX9 := Lib.hid X9
    have b0 := X9.cell 0
    have b1 := X9.cell 1
    have b2 := X9.cell 2
    have b3 := X9.cell 3
    have b4 := X9.cell 4
    have bf := fun i => X9.free i
    clear X9
    go_wp2_with fail
    obtain ⟨B9, o9⟩ := set5 HX9.out (.int .i64 0) (.int .i64 0) (.slice none 0 0) (.int .i64 0) (.int .i64 0)
    refine bodyPost_ret (results_cell_tmp Try.results30 _ _ n0 _ _ _ _ (.int .i64 1) rfl rfl B9 Try.underlying27 rfl info_res) rfl ?_
    rw [HE.out]
    exact H0.out.re List.mem_cons_self o9 (.inl rfl) (fun y hy => by cases hy)
  · obtain ⟨jn, rfl⟩ : ∃ n : Nat, j = n := ⟨j.toNat, by omega⟩
    have hj : jn < 8 := by omega
    have j8 : (jn : Int) < 8 := by omega
    have j0 : (0 : Int) ≤ (jn : Int) := by omega
    obtain ⟨t0, t1, t2, t3, t4, t5⟩ := H0.out.mod.txCells hj
    have o0 : W.cell? ⟨ob, 0, none⟩ = some (.int .i64 kind) := (H0.out.own _ (List.mem_cons_of_mem _ List.mem_cons_self)).1.cell 0
    have o1 : W.cell? ⟨ob, 1, none⟩ = some (.int .i64 key) := (H0.out.own _ (List.mem_cons_of_mem _ List.mem_cons_self)).1.cell 1
    have o2 : W.cell? ⟨ob, 2, none⟩ = some (.int .i64 hi) := (H0.out.own _ (List.mem_cons_of_mem _ List.mem_cons_self)).1.cell 2
    have o3 : W.cell? ⟨ob, 3, none⟩ = some (.int .i64 value) := (H0.out.own _ (List.mem_cons_of_mem _ List.mem_cons_self)).1.cell 3
    by_cases hu : (s.s jn).id = 0
    · have HE : Hid (s.do_ jn ⟨kind, key, hi, value⟩ = (.zero, 9, s)) := Lib.hid (by unfold RSt.do_; rw [if_pos (by simp [sessB]; omega)]; simp [hu])
      rw [hu] at t0
      clear hu
      go_enter Try.func30, Try.ntmps30
      go_upto_region 1 with (fail)
      rw [← hW, ← HOB.out, ← HN0.out]
      clear hW
      have X9 := (H0.out.own _ List.mem_cons_self).1
      have HX9 := Lib.hid X9
      have b0 := X9.cell 0
      have b1 := X9.cell 1
      have b2 := X9.cell 2
      have b3 := X9.cell 3
      have b4 := X9.cell 4
      have bf := fun i => X9.free i
      clear X9
      go_wp2_with fail
      obtain ⟨B9, o9⟩ := set5 HX9.out (.int .i64 0) (.int .i64 0) (.slice none 0 0) (.int .i64 0) (.int .i64 0)
      refine bodyPost_ret (results_cell_tmp Try.results30 _ _ n0 _ _ _ _ (.int .i64 9) rfl rfl B9 Try.underlying27 rfl info_res) rfl ?_
      rw [HE.out]
      exact H0.out.re List.mem_cons_self o9 (.inl rfl) (fun y hy => by cases hy)
    have hub : ((s.s jn).id == 0) = false := by simpa using hu
    have C := ref_opOk kind key hi value W
    have HE0 : Hid (s.do_ jn ⟨kind, key, hi, value⟩ = if opOkB ⟨kind, key, hi, value⟩ then
        if kind = 7 then (abortRes 0 1, 0, s.over jn)
        else if kind = 6 then ((s.commit jn).1, 0, (s.commit jn).2)
        else if 12 ≤ (s.s jn).ops then (.zero, 65, s)
        else if kind = 1 then (((s.setS jn (s.s jn).op).get jn key).1, 0, ((s.setS jn (s.s jn).op).get jn key).2)
        else if kind = 5 then (((s.setS jn (s.s jn).op).scan jn key hi).1, 0, ((s.setS jn (s.s jn).op).scan jn key hi).2)
        else (((s.setS jn (s.s jn).op).write jn kind key value).1, 0, ((s.setS jn (s.s jn).op).write jn kind key value).2)
        else (.zero, 9, s)) := Lib.hid (by unfold RSt.do_; rw [if_pos (by simp [sessB]; omega)]; simp [hu])
    clear hu
    go_enter Try.func30, Try.ntmps30
    go_upto_region 1 with (fail)
    rw [← hW, ← HOB.out, ← HN0.out]
    clear hW
    go_wp2_with fail
    refine C.mono ?_
    rintro e w1 ⟨rfl, o1_⟩
    have H1 := Lib.hid (H0.out.only0 o1_)
    clear H0 C o1_ t0 t1 t2 t3 t4 t5 hub
    clear o0 o1 o2 o3
    cases hok : opOkB ⟨kind, key, hi, value⟩ with
    | false =>
      rw [hok] at HE0
      have HE : Hid (s.do_ jn ⟨kind, key, hi, value⟩ = (.zero, 9, s)) := HE0
      clear HE0 hok
      have X9 := (H1.out.own _ List.mem_cons_self).1
      have HX9 := Lib.hid X9
      have b0 := X9.cell 0
      have b1 := X9.cell 1
      have b2 := X9.cell 2
      have b3 := X9.cell 3
      have b4 := X9.cell 4
      have bf := fun i => X9.free i
      clear X9
      go_wp2_with fail
      obtain ⟨B9, o9⟩ := set5 HX9.out (.int .i64 0) (.int .i64 0) (.slice none 0 0) (.int .i64 0) (.int .i64 0)
      refine bodyPost_ret (results_cell_tmp Try.results30 _ _ n0 _ _ _ _ (.int .i64 9) rfl rfl B9 Try.underlying27 rfl info_res) rfl ?_
      rw [HE.out]
      exact H1.out.re List.mem_cons_self o9 (.inl rfl) (fun y hy => by cases hy)
    | true =>
      rw [hok] at HE0
      have hko := opOk_key hok
      have HKS := Lib.hid (fun hk5 : kind = 5 => opOk_scan hok hk5)
      have HKK := Lib.hid (opOk_kind hok)
      have o0 : w1.cell? ⟨ob, 0, none⟩ = some (.int .i64 kind) := (H1.out.own _ (List.mem_cons_of_mem _ List.mem_cons_self)).1.cell 0
      have o1 : w1.cell? ⟨ob, 1, none⟩ = some (.int .i64 key) := (H1.out.own _ (List.mem_cons_of_mem _ List.mem_cons_self)).1.cell 1
      have o2 : w1.cell? ⟨ob, 2, none⟩ = some (.int .i64 hi) := (H1.out.own _ (List.mem_cons_of_mem _ List.mem_cons_self)).1.cell 2
      have o3 : w1.cell? ⟨ob, 3, none⟩ = some (.int .i64 value) := (H1.out.own _ (List.mem_cons_of_mem _ List.mem_cons_self)).1.cell 3
      obtain ⟨t0, t1, t2, t3, t4, t5⟩ := H1.out.mod.txCells hj
      clear hok
      by_cases k7 : kind = 7
      · have k7b : (kind == 7) = true := by simpa using k7
        have HE : Hid (s.do_ jn ⟨kind, key, hi, value⟩ = (abortRes 0 1, 0, s.over jn)) := Lib.hid (by rw [HE0.out]; simp [k7])
        clear HE0 k7
        go_wp2_with fail
        refine (ref_over ⟨_, H1.out.mod⟩ jn hj 0 1).mono ?_
        rintro e w8 ⟨P8, rfl, ⟨A8, M8⟩, o8, g8⟩
        have H8 := Lib.hid (H1.out.step M8 o8 g8)
        clear M8 o8 g8 H1
        clear t0 t1 t2 t3 t4 t5 o0 o1 o2 o3
        have X9 := (H8.out.own _ List.mem_cons_self).1
        have HX9 := Lib.hid X9
        have b0 := X9.cell 0
        have b1 := X9.cell 1
        have b2 := X9.cell 2
        have b3 := X9.cell 3
        have b4 := X9.cell 4
        have bf := fun i => X9.free i
        clear X9
        go_wp2_with fail
        obtain ⟨B9, o9⟩ := set5 HX9.out (.int .i64 0) (.int .i64 0) (.slice none 0 0) (.int .i64 4) (.int .i64 1)
        refine bodyPost_ret (results_cell_tmp Try.results30 _ _ n0 _ _ _ _ (.int .i64 0) rfl rfl B9 Try.underlying27 rfl info_res) rfl ?_
        rw [HE.out]
        exact H8.out.re List.mem_cons_self o9 (.inl rfl) (fun y hy => by cases hy)
      have k7b : (kind == 7) = false := by simpa using k7
      by_cases k6 : kind = 6
      · have k6b : (kind == 6) = true := by simpa using k6
        have HE : Hid (s.do_ jn ⟨kind, key, hi, value⟩ = ((s.commit jn).1, 0, (s.commit jn).2)) := Lib.hid (by rw [HE0.out]; simp [k6])
        have HPN : Hid ((s.commit jn).1.pairs = []) := Lib.hid (rcommit_pairs s jn)
        clear HE0 k6 k7
        have C := ref_commit ⟨_, H1.out.mod⟩ jn hj
        generalize s.commit jn = rr at *
        obtain ⟨⟨re, rv, rp, ro, rn⟩, s8⟩ := rr
        simp only [resV] at C
        go_wp2_with fail
        refine (C).mono ?_
        rintro e w8 ⟨P8, rfl, ⟨A8, M8⟩, o8, g8⟩
        have H8 := Lib.hid (H1.out.step M8 o8 g8)
        clear M8 o8 g8 H1
        clear t0 t1 t2 t3 t4 t5 o0 o1 o2 o3
        have X9 := (H8.out.own _ List.mem_cons_self).1
        have HX9 := Lib.hid X9
        have b0 := X9.cell 0
        have b1 := X9.cell 1
        have b2 := X9.cell 2
        have b3 := X9.cell 3
        have b4 := X9.cell 4
        have bf := fun i => X9.free i
        clear X9
        go_wp2_with fail
        obtain ⟨B9, o9⟩ := set5 HX9.out (.int .i64 re) (.int .i64 rv) (.slice none 0 0) (.int .i64 ro) (.int .i64 rn)
        refine bodyPost_ret (results_cell_tmp Try.results30 _ _ n0 _ _ _ _ (.int .i64 0) rfl rfl B9 Try.underlying27 rfl info_res) rfl ?_
        rw [HE.out]
        have hpn : rp = [] := HPN.out
        subst hpn
        exact H8.out.re List.mem_cons_self o9 (.inl rfl) (fun y hy => by cases hy)
      have k6b : (kind == 6) = false := by simpa using k6
      by_cases h12 : 12 ≤ (s.s jn).ops
      · have HE : Hid (s.do_ jn ⟨kind, key, hi, value⟩ = (.zero, 65, s)) := Lib.hid (by rw [HE0.out]; simp [k6, k7, h12])
        clear HE0 k6 k7
        have X9 := (H1.out.own _ List.mem_cons_self).1
        have HX9 := Lib.hid X9
        have b0 := X9.cell 0
        have b1 := X9.cell 1
        have b2 := X9.cell 2
        have b3 := X9.cell 3
        have b4 := X9.cell 4
        have bf := fun i => X9.free i
        clear X9
        go_wp2_with fail
        obtain ⟨B9, o9⟩ := set5 HX9.out (.int .i64 0) (.int .i64 0) (.slice none 0 0) (.int .i64 0) (.int .i64 0)
        refine bodyPost_ret (results_cell_tmp Try.results30 _ _ n0 _ _ _ _ (.int .i64 65) rfl rfl B9 Try.underlying27 rfl info_res) rfl ?_
        rw [HE.out]
        exact H1.out.re List.mem_cons_self o9 (.inl rfl) (fun y hy => by cases hy)
      have ho12 : (s.s jn).ops < 12 := by omega
      have hop0 := (H1.out.mod.ok.ops jn).1
      obtain ⟨s1, hs1⟩ : ∃ s1, s1 = s.setS jn (s.s jn).op := ⟨_, rfl⟩
      have HE1 : Hid (s.do_ jn ⟨kind, key, hi, value⟩ = if kind = 1 then ((s1.get jn key).1, 0, (s1.get jn key).2)
        else if kind = 5 then ((s1.scan jn key hi).1, 0, (s1.scan jn key hi).2)
        else ((s1.write jn kind key value).1, 0, (s1.write jn kind key value).2)) := Lib.hid (by rw [HE0.out, hs1]; simp [k6, k7, h12])
      obtain ⟨M2, o2_⟩ := H1.out.mod.opUp hj ho12
      have H2 := Lib.hid (H1.out.step M2 o2_ (Grew.refl _ _))
      have HOW0 : ((s1.s jn).wrote.length : Int) + 1 ≤ (s1.s jn).ops := by
        have := H1.out.mod.ok.wrote jn
        rw [hs1, show (s.setS jn (s.s jn).op).s jn = (s.s jn).op from upd_same _ _ _]
        show ((s.s jn).wrote.length : Int) + 1 ≤ (s.s jn).ops + 1
        omega
      have HOR0 : ((s1.s jn).reads.length : Int) + 1 ≤ (s1.s jn).ops := by
        have := H1.out.mod.ok.reads jn
        rw [hs1, show (s.setS jn (s.s jn).op).s jn = (s.s jn).op from upd_same _ _ _]
        show ((s.s jn).reads.length : Int) + 1 ≤ (s.s jn).ops + 1
        omega
      have HOW := Lib.hid HOW0
      have HOR := Lib.hid HOR0
      rw [← hs1] at H2
      have mf := fun i => H1.out.mod.free i
      have eo : IntKind.i64.wrap ((s.s jn).ops + 1) = (s.s jn).ops + 1 := IntWalk.i64_in _ (by omega)
      clear HE0 k6 k7 M2 o2_ HOW0 HOR0 hs1
      go_wp2_with fail
      refine wp_region_heldL (S := (fun w' => w'.cell? ⟨m, 3 + jn * 6 + 2, none⟩ = some (.int .i64 (s.s jn).ops))) 12 (by kernel_rfl) ?_ (fun hHeld => ?_)
      · exact t2
      refine heldL_take (i := 0) (v := ?_) rfl (by kernel_rfl) (by kernel_rfl) (by kernel_rfl) [12] (by kernel_rfl) (by kernel_rfl) (fun _ _ _ h => h) (Or.inl ⟨by rfl, ?_⟩) (by assumption) ?_; rotate_left; (focus (intro w hSw; (try dsimp only at hSw); go_simp; try with_reducible rfl))
      try simp only [Act.put, List.getElem_toArray, List.getElem_cons_zero, List.getElem_cons_succ, List.setIfInBounds_toArray, List.set_cons_zero, List.set_cons_succ]
      refine heldL_take (i := 1) (v := ?_) rfl (by kernel_rfl) (by kernel_rfl) (by kernel_rfl) [12] (by kernel_rfl) (by kernel_rfl) (fun _ _ _ h => h) (Or.inl ⟨by rfl, ?_⟩) (by assumption) ?_; rotate_left; (focus (intro w hSw; (try dsimp only at hSw); go_simp; try with_reducible rfl))
      try simp only [Act.put, List.getElem_toArray, List.getElem_cons_zero, List.getElem_cons_succ, List.setIfInBounds_toArray, List.set_cons_zero, List.set_cons_succ]
      refine heldL_take (i := 2) (v := ?_) rfl (by kernel_rfl) (by kernel_rfl) (by kernel_rfl) [12] (by kernel_rfl) (by kernel_rfl) (fun _ _ _ h => h) (Or.inl ⟨by rfl, ?_⟩) (by assumption) ?_; rotate_left; (focus (intro w hSw; (try dsimp only at hSw); go_simp; try with_reducible rfl))
      try simp only [Act.put, List.getElem_toArray, List.getElem_cons_zero, List.getElem_cons_succ, List.setIfInBounds_toArray, List.set_cons_zero, List.set_cons_succ]
      refine heldL_take (i := 3) (v := ?_) rfl (by kernel_rfl) (by kernel_rfl) (by kernel_rfl) [12] (by kernel_rfl) (by kernel_rfl) (fun _ _ _ h => h) (Or.inl ⟨by rfl, ?_⟩) (by assumption) ?_; rotate_left; (focus (intro w hSw; (try dsimp only at hSw); go_simp; try with_reducible rfl))
      try simp only [Act.put, List.getElem_toArray, List.getElem_cons_zero, List.getElem_cons_succ, List.setIfInBounds_toArray, List.set_cons_zero, List.set_cons_succ]
      refine heldL_take (i := 4) (v := ?_) rfl (by kernel_rfl) (by kernel_rfl) (by kernel_rfl) [12] (by kernel_rfl) (by kernel_rfl) (fun _ _ _ h => h) (Or.inl ⟨by rfl, ?_⟩) (by assumption) ?_; rotate_left; (focus (intro w hSw; (try dsimp only at hSw); go_simp; try with_reducible rfl))
      try simp only [Act.put, List.getElem_toArray, List.getElem_cons_zero, List.getElem_cons_succ, List.setIfInBounds_toArray, List.set_cons_zero, List.set_cons_succ]
      refine heldL_take (i := 5) (v := ?_) rfl (by kernel_rfl) (by kernel_rfl) (by kernel_rfl) [12] (by kernel_rfl) (by kernel_rfl) (fun _ _ _ h => h) (Or.inl ⟨by rfl, ?_⟩) (by assumption) ?_; rotate_left; (focus (intro w hSw; (try dsimp only at hSw); go_simp; try with_reducible rfl))
      try simp only [Act.put, List.getElem_toArray, List.getElem_cons_zero, List.getElem_cons_succ, List.setIfInBounds_toArray, List.set_cons_zero, List.set_cons_succ]
      refine heldL_take (i := 6) (v := ?_) rfl (by kernel_rfl) (by kernel_rfl) (by kernel_rfl) [12] (by kernel_rfl) (by kernel_rfl) (fun _ _ _ h => h) (Or.inl ⟨by rfl, ?_⟩) (by assumption) ?_; rotate_left; (focus (intro w hSw; (try dsimp only at hSw); go_simp; try with_reducible rfl))
      try simp only [Act.put, List.getElem_toArray, List.getElem_cons_zero, List.getElem_cons_succ, List.setIfInBounds_toArray, List.set_cons_zero, List.set_cons_succ]
      refine heldL_take (i := 7) (v := ?_) rfl (by kernel_rfl) (by kernel_rfl) (by kernel_rfl) [12] (by kernel_rfl) (by kernel_rfl) (fun _ _ _ h => h) (Or.inl ⟨by rfl, ?_⟩) (by assumption) ?_; rotate_left; (focus (intro w hSw; (try dsimp only at hSw); go_simp; try with_reducible rfl))
      try simp only [Act.put, List.getElem_toArray, List.getElem_cons_zero, List.getElem_cons_succ, List.setIfInBounds_toArray, List.set_cons_zero, List.set_cons_succ]
      refine heldL_take (i := 8) (v := ?_) rfl (by kernel_rfl) (by kernel_rfl) (by kernel_rfl) [9, 10, 11, 12] (by kernel_rfl) (by kernel_rfl) (fun _ _ _ h => h) (Or.inl ⟨by rfl, ?_⟩) (by assumption) ?_; rotate_left; (focus (intro w hSw; (try dsimp only at hSw); go_simp; try with_reducible rfl))
      try simp only [Act.put, List.getElem_toArray, List.getElem_cons_zero, List.getElem_cons_succ, List.setIfInBounds_toArray, List.set_cons_zero, List.set_cons_succ]
      refine heldL_take (i := 9) (v := ?_) rfl (by kernel_rfl) (by kernel_rfl) (by kernel_rfl) [10, 11, 12] (by kernel_rfl) (by kernel_rfl) (fun _ _ _ h => h) (Or.inl ⟨by rfl, ?_⟩) (by assumption) ?_; rotate_left; (focus (intro w hSw; (try dsimp only at hSw); go_simp; try with_reducible rfl))
      try simp only [Act.put, List.getElem_toArray, List.getElem_cons_zero, List.getElem_cons_succ, List.setIfInBounds_toArray, List.set_cons_zero, List.set_cons_succ]
      refine heldL_take (i := 10) (v := ?_) rfl (by kernel_rfl) (by kernel_rfl) (by kernel_rfl) [11, 12] (by kernel_rfl) (by kernel_rfl) (fun _ _ _ h => h) (Or.inl ⟨by rfl, ?_⟩) (by assumption) ?_; rotate_left; (focus (intro w hSw; (try dsimp only at hSw); go_simp; try with_reducible rfl))
      try simp only [Act.put, List.getElem_toArray, List.getElem_cons_zero, List.getElem_cons_succ, List.setIfInBounds_toArray, List.set_cons_zero, List.set_cons_succ]
      refine heldL_take (i := 11) (v := ?_) rfl (by kernel_rfl) (by kernel_rfl) (by kernel_rfl) [12] (by kernel_rfl) (by kernel_rfl) (fun _ _ _ h => h) (Or.inl ⟨by rfl, ?_⟩) (by assumption) ?_; rotate_left; (focus (intro w hSw; (try dsimp only at hSw); go_simp; try with_reducible rfl))
      try simp only [Act.put, List.getElem_toArray, List.getElem_cons_zero, List.getElem_cons_succ, List.setIfInBounds_toArray, List.set_cons_zero, List.set_cons_succ]
      refine heldL_last (by kernel_rfl) rfl (by kernel_rfl) (fun K hK => ?_)
      try simp only [List.getElem_toArray, List.getElem_cons_zero, List.getElem_cons_succ]
      go_simp
      skip
      try go_wp2_with fail
      refine hK.out _ _ ?_
      clear hK K
      try simp only [Act.put, List.getElem_toArray, List.getElem_cons_zero, List.getElem_cons_succ, List.setIfInBounds_toArray, List.set_cons_zero, List.set_cons_succ]
      have H3 := Lib.hid (H2.out.only0 (Only0.refl _).drew)
      clear H2 H1
      generalize hW7 : World.drew (World.setCell w1 _ _) = w3 at *
      clear hW7 mf eo t0 t1 t2 t3 t4 t5 h12 ho12 hop0
      clear o0 o1 o2 o3
      obtain ⟨t0, t1, t2, t3, t4, t5⟩ := H3.out.mod.txCells hj
      obtain ⟨id, lv, op, bg, wa, wl, wc_, ra, rl, rc, hTX⟩ : ∃ id lv op bg wa wl wc_ ra rl rc, (id, lv, op, bg, wa, wl, wc_, ra, rl, rc) = ((s1.s jn).id, (s1.s jn).level, (s1.s jn).ops, (s1.s jn).beg, A.wa jn, (s1.s jn).wrote.length, A.wc jn, A.ra jn, (s1.s jn).reads.length, A.rc jn) := ⟨_, _, _, _, _, _, _, _, _, _, rfl⟩
      simp only [Prod.mk.injEq] at hTX
      obtain ⟨e1, e2, e3, e4, e5, e6, e7, e8, e9, e10⟩ := hTX
      rw [← e1] at t0
      rw [← e2] at t1
      rw [← e3] at t2
      rw [← e4] at t3
      rw [← e5, ← e6, ← e7] at t4
      rw [← e8, ← e9, ← e10] at t5
      have TXI := Lib.hid e1
      have TXB := Lib.hid e4
      have TXW := Lib.hid (And.intro e5 (And.intro e6 e7))
      have TX : Hid (Value.slice ra rl rc = .slice (A.ra jn) (s1.s jn).reads.length (A.rc jn)) := Lib.hid (by rw [e8, e9, e10])
      have TXR := Lib.hid (And.intro e8 (And.intro e9 e10))
      clear e1 e2 e3 e4 e5 e6 e7 e8 e9 e10
      obtain ⟨w4, hw4⟩ : ∃ w4, w4 = w3.alloc (.cells #[.int .i64 id, .int .i64 lv, .int .i64 op, .int .u64 bg, .slice wa wl wc_, .slice ra rl rc] 62) := ⟨_, rfl⟩
      obtain ⟨tb, htb⟩ : ∃ tb, tb = w3.heap.size := ⟨_, rfl⟩
      have H4 : Hid (RcI B w P0 m [⟨tb, 62, #[.int .i64 id, .int .i64 lv, .int .i64 op, .int .u64 bg, .slice wa wl wc_, .slice ra rl rc]⟩, ⟨n0, 27, #[.int .i64 0, .int .i64 0, .slice none 0 0, .int .i64 0, .int .i64 0]⟩, ⟨ob, 31, #[.int .i64 kind, .int .i64 key, .int .i64 hi, .int .i64 value]⟩] s1 P0 A w4) := by rw [hw4, htb]; exact H3.out.alloc _ _
      go_upto_region 14 with (fail)
      rw [← hw4, ← htb]
      clear hw4 htb H3 t0 t1 t2 t3 t4 t5
      have o0 : w4.cell? ⟨ob, 0, none⟩ = some (.int .i64 kind) := (H4.out.own _ (List.mem_cons_of_mem _ (List.mem_cons_of_mem _ List.mem_cons_self))).1.cell 0
      have o1 : w4.cell? ⟨ob, 1, none⟩ = some (.int .i64 key) := (H4.out.own _ (List.mem_cons_of_mem _ (List.mem_cons_of_mem _ List.mem_cons_self))).1.cell 1
      have o2 : w4.cell? ⟨ob, 2, none⟩ = some (.int .i64 hi) := (H4.out.own _ (List.mem_cons_of_mem _ (List.mem_cons_of_mem _ List.mem_cons_self))).1.cell 2
      have o3 : w4.cell? ⟨ob, 3, none⟩ = some (.int .i64 value) := (H4.out.own _ (List.mem_cons_of_mem _ (List.mem_cons_of_mem _ List.mem_cons_self))).1.cell 3
      by_cases k1 : kind = 1
      · have k1b : (kind == 1) = true := by simpa using k1
        have HE : Hid (s.do_ jn ⟨kind, key, hi, value⟩ = ((s1.get jn key).1, 0, (s1.get jn key).2)) := Lib.hid (by rw [HE1.out, if_pos k1])
        clear HE1 k1 HKK HKS k7b k6b
        have y0 : w4.cell? ⟨tb, 0, none⟩ = some (.int .i64 id) := (H4.out.own _ List.mem_cons_self).1.cell 0
        have y1 : w4.cell? ⟨tb, 1, none⟩ = some (.int .i64 lv) := (H4.out.own _ List.mem_cons_self).1.cell 1
        have y2 : w4.cell? ⟨tb, 2, none⟩ = some (.int .i64 op) := (H4.out.own _ List.mem_cons_self).1.cell 2
        have y3 : w4.cell? ⟨tb, 3, none⟩ = some (.int .u64 bg) := (H4.out.own _ List.mem_cons_self).1.cell 3
        have y4 : w4.cell? ⟨tb, 4, none⟩ = some (.slice wa wl wc_) := (H4.out.own _ List.mem_cons_self).1.cell 4
        have y5 : w4.cell? ⟨tb, 5, none⟩ = some (.slice ra rl rc) := (H4.out.own _ List.mem_cons_self).1.cell 5
        have C := ref_sees H4.out.mod id lv op bg wa wl wc_ ra rl rc key
        obtain ⟨at_, hat⟩ : ∃ a, a = s1.sees id bg key := ⟨_, rfl⟩
        rw [← hat] at C
        have HAT := Lib.hid hat
        clear hat
        go_wp2_with fail
        refine C.mono ?_
        rintro e w5 ⟨rfl, o5_⟩
        have H5 := Lib.hid (H4.out.only0 o5_)
        clear C o5_ H4
        clear o0 o1 o2 o3
        clear y0 y1 y2 y3 y4 y5
        have y0 : w5.cell? ⟨tb, 0, none⟩ = some (.int .i64 id) := (H5.out.own _ List.mem_cons_self).1.cell 0
        have y1 : w5.cell? ⟨tb, 1, none⟩ = some (.int .i64 lv) := (H5.out.own _ List.mem_cons_self).1.cell 1
        have y2 : w5.cell? ⟨tb, 2, none⟩ = some (.int .i64 op) := (H5.out.own _ List.mem_cons_self).1.cell 2
        have y3 : w5.cell? ⟨tb, 3, none⟩ = some (.int .u64 bg) := (H5.out.own _ List.mem_cons_self).1.cell 3
        have y4 : w5.cell? ⟨tb, 4, none⟩ = some (.slice wa wl wc_) := (H5.out.own _ List.mem_cons_self).1.cell 4
        have y5 : w5.cell? ⟨tb, 5, none⟩ = some (.slice ra rl rc) := (H5.out.own _ List.mem_cons_self).1.cell 5
        have o0 : w5.cell? ⟨ob, 0, none⟩ = some (.int .i64 kind) := (H5.out.own _ (List.mem_cons_of_mem _ (List.mem_cons_of_mem _ List.mem_cons_self))).1.cell 0
        have o1 : w5.cell? ⟨ob, 1, none⟩ = some (.int .i64 key) := (H5.out.own _ (List.mem_cons_of_mem _ (List.mem_cons_of_mem _ List.mem_cons_self))).1.cell 1
        have o2 : w5.cell? ⟨ob, 2, none⟩ = some (.int .i64 hi) := (H5.out.own _ (List.mem_cons_of_mem _ (List.mem_cons_of_mem _ List.mem_cons_self))).1.cell 2
        have o3 : w5.cell? ⟨ob, 3, none⟩ = some (.int .i64 value) := (H5.out.own _ (List.mem_cons_of_mem _ (List.mem_cons_of_mem _ List.mem_cons_self))).1.cell 3
        have C := ref_has wa wc_ (s1.s jn).wrote key w5 (by have := (H5.out.mod.few12 jn).1; omega) (by
          obtain ⟨rfl, rfl, rfl⟩ := TXW.out
          exact H5.out.mod.wroteAt hj)
        rw [← TXW.out.2.1] at C
        obtain ⟨mine, hmine⟩ : ∃ b, b = hasB (s1.s jn).wrote key := ⟨_, rfl⟩
        rw [← hmine] at C
        have HMI := Lib.hid hmine
        clear hmine
        go_wp2_with fail
        refine C.mono ?_
        rintro e w6 ⟨rfl, rfl⟩
        clear C
        cases at_ with
        | none =>
          have iA : idxV none = -1 := rfl
          cases mine with
          | true =>
            have HE2 : Hid (s.do_ jn ⟨kind, key, hi, value⟩ = (.err 11, 0, s1)) := Lib.hid (by rw [HE.out]; unfold RSt.get; rw [← TXI.out, ← TXB.out, ← HAT.out, ← HMI.out]; rfl)
            clear HE
            have X9 := (H5.out.own _ (List.mem_cons_of_mem _ List.mem_cons_self)).1
            have HX9 := Lib.hid X9
            have b0 := X9.cell 0
            have b1 := X9.cell 1
            have b2 := X9.cell 2
            have b3 := X9.cell 3
            have b4 := X9.cell 4
            have bf := fun i => X9.free i
            clear X9
            go_wp2_with fail
            obtain ⟨B9, o9⟩ := set5 HX9.out (.int .i64 11) (.int .i64 0) (.slice none 0 0) (.int .i64 0) (.int .i64 0)
            refine bodyPost_ret (results_cell_tmp Try.results30 _ _ n0 _ _ _ _ (.int .i64 0) rfl rfl B9 Try.underlying27 rfl info_res) rfl ?_
            rw [HE2.out]
            exact H5.out.re (List.mem_cons_of_mem _ List.mem_cons_self) o9 (.inl rfl) (fun y hy => by cases hy)
          | false =>
            have HE2 : Hid (s.do_ jn ⟨kind, key, hi, value⟩ = (.err 11, 0, s1.setS jn ((s1.s jn).read ⟨key, key, false, false⟩))) := Lib.hid (by rw [HE.out]; unfold RSt.get; rw [← TXI.out, ← TXB.out, ← HAT.out, ← HMI.out]; rfl)
            clear HE
            clear o0 o1 o2 o3
            clear y0 y1 y2 y3 y4 y5
            obtain ⟨i0, hi0, hz0, hz1, hz2⟩ := info_parts info_read
            have hbd : rl ≤ 12 := by obtain ⟨rfl, rfl, rfl⟩ := TXR.out; exact (H5.out.mod.few12 jn).2
            obtain ⟨W6, hW6⟩ : ∃ W6, W6 = (w5.alloc (.cells #[.int .i64 key, .int .i64 key, .bool false, .bool false] 110)).drew := ⟨_, rfl⟩
            have oo6 : Only0 w5 W6 := by rw [hW6]; exact ((Only0.refl _).alloc _).drew
            have HB6 := H5.out.only0 oo6
            have m6 : W6.cell? ⟨m, 3 + jn * 6 + 5, none⟩ = some (.slice ra rl rc) := by
              obtain ⟨rfl, rfl, rfl⟩ := TXR.out
              exact (HB6.mod.txCells hj).2.2.2.2.2
            have f6 : W6.frozen? ⟨m, 3 + jn * 6 + 5, none⟩ = false := HB6.mod.free _
            have R6 : W6.ownsRow B 110 4 (.slice ra rl rc) rl (rrCells (s1.s jn).reads) := by
              obtain ⟨rfl, rfl, rfl⟩ := TXR.out
              exact HB6.mod.rs jn hj
            have z6 : W6.heap.size = w5.heap.size + 1 := by rw [hW6]; simp
            have hm6 : m < W6.heap.size := HB6.mod.mod.lt
            have ht6 : tb < W6.heap.size := (HB6.own _ List.mem_cons_self).1.lt
            have ho6 : ob < W6.heap.size := (HB6.own _ (List.mem_cons_of_mem _ (List.mem_cons_of_mem _ List.mem_cons_self))).1.lt
            have nrow : ¬ rowOf (.slice ra rl rc) m := rows_ne R6 HB6.mod.mod (by decide)
            have ntb : ¬ rowOf (.slice ra rl rc) tb := rows_ne R6 (HB6.own _ List.mem_cons_self).1 (by show (110 : TypeId) ≠ 62; decide)
            have nob : ¬ rowOf (.slice ra rl rc) ob := rows_ne R6 (HB6.own _ (List.mem_cons_of_mem _ (List.mem_cons_of_mem _ List.mem_cons_self))).1 (by show (110 : TypeId) ≠ 31; decide)
            have hB5 : B ≤ w5.heap.size := by have h1 := H5.out.mod.above m H5.out.mod.pm; have h2 := H5.out.mod.mod.lt; omega
            have y56 : W6.cell? ⟨tb, 5, none⟩ = some (.slice ra rl rc) := (HB6.own _ List.mem_cons_self).1.cell 5
            have o16 : W6.cell? ⟨ob, 1, none⟩ = some (.int .i64 key) := (HB6.own _ (List.mem_cons_of_mem _ (List.mem_cons_of_mem _ List.mem_cons_self))).1.cell 1
            have o26 : W6.cell? ⟨ob, 2, none⟩ = some (.int .i64 hi) := (HB6.own _ (List.mem_cons_of_mem _ (List.mem_cons_of_mem _ List.mem_cons_self))).1.cell 2
            have APP : Hid (∀ (gg cap : Nat) (w1 : World), w1.ownsRow B 110 4 (.slice (some ⟨gg, 0, none⟩) (rl + 1) cap) (rl + 1) ((rrCells (s1.s jn).reads) ++ [.int .i64 key, .int .i64 key, .bool false, .bool false]) → W6.grownBy w1 (Value.slice ra rl rc).ownBlock → ((Value.slice ra rl rc).ownBlock = some gg ∨ gg = w5.heap.size + 1) → gg < w1.heap.size →
                ∃ P' A', RcI B w P0 m [⟨tb, 62, #[.int .i64 id, .int .i64 lv, .int .i64 op, .int .u64 bg, .slice wa wl wc_, .slice ra rl rc]⟩, ⟨n0, 27, #[.int .i64 0, .int .i64 0, .slice none 0 0, .int .i64 0, .int .i64 0]⟩, ⟨ob, 31, #[.int .i64 kind, .int .i64 key, .int .i64 hi, .int .i64 value]⟩] (s1.setS jn ((s1.s jn).read ⟨key, key, false, false⟩)) P' A' (w1.setCell ⟨m, 3 + jn * 6 + 5, none⟩ (.slice (some ⟨gg, 0, none⟩) (rl + 1) cap))) := by
              intro gg cap w1 h1 h2 h3 h4
              have oR : Only (rowOf (.slice ra rl rc)) W6 w1 := ⟨h2.os, h2.tape, h2.output, h2.size, fun b hb hn => h2.block b hb (fun e => hn e.symm)⟩
              have hat : (Value.slice ra rl rc).ownBlock = some gg ∨ W6.heap.size ≤ gg := h3.imp (fun h => h) (fun h => by omega)
              have HPD : ∀ b, rowOf (.slice ra rl rc) b → P0 b := by
                obtain ⟨rfl, rfl, rfl⟩ := TXR.out
                exact H5.out.mod.pd jn hj
              obtain ⟨rfl, rfl, rfl⟩ := TXR.out
              have PU := HB6.mod.pushR (gg := gg) (cap := cap) (w1 := w1) hj ⟨key, key, false, false⟩ HOR.out ⟨hko.1, hko.2, hko.1, hko.2⟩
              obtain ⟨A', M', O'⟩ := PU h1 oR hat h4
              exact ⟨_, A', H5.out.app oo6 HPD hat M' O'⟩
            rw [hW6] at m6 f6 R6 z6 hm6 ht6 ho6 y56 o16 o26 APP
            have y5 : w5.cell? ⟨tb, 5, none⟩ = some (.slice ra rl rc) := (H5.out.own _ List.mem_cons_self).1.cell 5
            have o1 : w5.cell? ⟨ob, 1, none⟩ = some (.int .i64 key) := (H5.out.own _ (List.mem_cons_of_mem _ (List.mem_cons_of_mem _ List.mem_cons_self))).1.cell 1
            have o2 : w5.cell? ⟨ob, 2, none⟩ = some (.int .i64 hi) := (H5.out.own _ (List.mem_cons_of_mem _ (List.mem_cons_of_mem _ List.mem_cons_self))).1.cell 2
            clear HB6 hW6 oo6
            go_wp2_with fail
            refine wp_region_heldL (S := (fun w' => w'.cell? ⟨tb, 5, none⟩ = some (.slice ra rl rc) ∧ w'.cell? ⟨ob, 1, none⟩ = some (.int .i64 key) ∧ w'.cell? ⟨ob, 2, none⟩ = some (.int .i64 hi))) 17 (by kernel_rfl) ?_ (fun hHeld => ?_)
            · first | exact ⟨y5, o1, o2⟩ | exact ⟨y56, o16, o26⟩ | exact ⟨y5z, o1z, o2z⟩
            refine heldL_take (i := 0) (v := ?_) rfl (by kernel_rfl) (by kernel_rfl) (by kernel_rfl) [17] (by kernel_rfl) (by kernel_rfl) (fun _ _ _ h => h) (Or.inl ⟨by rfl, ?_⟩) (by assumption) ?_; rotate_left; (focus (intro w hSw; (try dsimp only at hSw); go_simp; try with_reducible rfl))
            try simp only [Act.put, List.getElem_toArray, List.getElem_cons_zero, List.getElem_cons_succ, List.setIfInBounds_toArray, List.set_cons_zero, List.set_cons_succ]
            refine heldL_take (i := 1) (v := ?_) rfl (by kernel_rfl) (by kernel_rfl) (by kernel_rfl) [17] (by kernel_rfl) (by kernel_rfl) (fun _ _ _ h => h) (Or.inl ⟨by rfl, ?_⟩) (by assumption) ?_; rotate_left; (focus (intro w hSw; (try dsimp only at hSw); go_simp; try with_reducible rfl))
            try simp only [Act.put, List.getElem_toArray, List.getElem_cons_zero, List.getElem_cons_succ, List.setIfInBounds_toArray, List.set_cons_zero, List.set_cons_succ]
            refine heldL_take (i := 2) (v := ?_) rfl (by kernel_rfl) (by kernel_rfl) (by kernel_rfl) [17] (by kernel_rfl) (by kernel_rfl) (fun _ _ _ h => h) (Or.inl ⟨by rfl, ?_⟩) (by assumption) ?_; rotate_left; (focus (intro w hSw; (try dsimp only at hSw); go_simp; try with_reducible rfl))
            try simp only [Act.put, List.getElem_toArray, List.getElem_cons_zero, List.getElem_cons_succ, List.setIfInBounds_toArray, List.set_cons_zero, List.set_cons_succ]
            refine heldL_take (i := 3) (v := ?_) rfl (by kernel_rfl) (by kernel_rfl) (by kernel_rfl) [17] (by kernel_rfl) (by kernel_rfl) (fun _ _ _ h => h) (Or.inl ⟨by rfl, ?_⟩) (by assumption) ?_; rotate_left; (focus (intro w hSw; (try dsimp only at hSw); go_simp; try with_reducible rfl))
            try simp only [Act.put, List.getElem_toArray, List.getElem_cons_zero, List.getElem_cons_succ, List.setIfInBounds_toArray, List.set_cons_zero, List.set_cons_succ]
            refine heldL_take (i := 4) (v := ?_) rfl (by kernel_rfl) (by kernel_rfl) (by kernel_rfl) [17] (by kernel_rfl) (by kernel_rfl) (fun _ _ _ h => h) (Or.inl ⟨by rfl, ?_⟩) (by assumption) ?_; rotate_left; (focus (intro w hSw; (try dsimp only at hSw); go_simp; try with_reducible rfl))
            try simp only [Act.put, List.getElem_toArray, List.getElem_cons_zero, List.getElem_cons_succ, List.setIfInBounds_toArray, List.set_cons_zero, List.set_cons_succ]
            refine heldL_take (i := 5) (v := ?_) rfl (by kernel_rfl) (by kernel_rfl) (by kernel_rfl) [17] (by kernel_rfl) (by kernel_rfl) (fun _ _ _ h => h) (Or.inl ⟨by rfl, ?_⟩) (by assumption) ?_; rotate_left; (focus (intro w hSw; (try dsimp only at hSw); go_simp; try with_reducible rfl))
            try simp only [Act.put, List.getElem_toArray, List.getElem_cons_zero, List.getElem_cons_succ, List.setIfInBounds_toArray, List.set_cons_zero, List.set_cons_succ]
            refine heldL_take (i := 6) (v := ?_) rfl (by kernel_rfl) (by kernel_rfl) (by kernel_rfl) [17] (by kernel_rfl) (by kernel_rfl) (fun _ _ _ h => h) (Or.inl ⟨by rfl, ?_⟩) (by assumption) ?_; rotate_left; (focus (intro w hSw; (try dsimp only at hSw); go_simp; try with_reducible rfl))
            try simp only [Act.put, List.getElem_toArray, List.getElem_cons_zero, List.getElem_cons_succ, List.setIfInBounds_toArray, List.set_cons_zero, List.set_cons_succ]
            refine heldL_take (i := 7) (v := ?_) rfl (by kernel_rfl) (by kernel_rfl) (by kernel_rfl) [17] (by kernel_rfl) (by kernel_rfl) (fun _ _ _ h => h) (Or.inl ⟨by rfl, ?_⟩) (by assumption) ?_; rotate_left; (focus (intro w hSw; (try dsimp only at hSw); go_simp; try with_reducible rfl))
            try simp only [Act.put, List.getElem_toArray, List.getElem_cons_zero, List.getElem_cons_succ, List.setIfInBounds_toArray, List.set_cons_zero, List.set_cons_succ]
            refine heldL_take (i := 8) (v := ?_) rfl (by kernel_rfl) (by kernel_rfl) (by kernel_rfl) [17] (by kernel_rfl) (by kernel_rfl) (fun _ _ _ h => h) (Or.inl ⟨by rfl, ?_⟩) (by assumption) ?_; rotate_left; (focus (intro w hSw; (try dsimp only at hSw); go_simp; try with_reducible rfl))
            try simp only [Act.put, List.getElem_toArray, List.getElem_cons_zero, List.getElem_cons_succ, List.setIfInBounds_toArray, List.set_cons_zero, List.set_cons_succ]
            refine heldL_take (i := 9) (v := ?_) rfl (by kernel_rfl) (by kernel_rfl) (by kernel_rfl) [17] (by kernel_rfl) (by kernel_rfl) (fun _ _ _ h => h) (Or.inl ⟨by rfl, ?_⟩) (by assumption) ?_; rotate_left; (focus (intro w hSw; (try dsimp only at hSw); go_simp; try with_reducible rfl))
            try simp only [Act.put, List.getElem_toArray, List.getElem_cons_zero, List.getElem_cons_succ, List.setIfInBounds_toArray, List.set_cons_zero, List.set_cons_succ]
            refine heldL_take (i := 10) (v := ?_) rfl (by kernel_rfl) (by kernel_rfl) (by kernel_rfl) [17] (by kernel_rfl) (by kernel_rfl) (fun _ _ _ h => h) (Or.inl ⟨by rfl, ?_⟩) (by assumption) ?_; rotate_left; (focus (intro w hSw; (try dsimp only at hSw); go_simp; try with_reducible rfl))
            try simp only [Act.put, List.getElem_toArray, List.getElem_cons_zero, List.getElem_cons_succ, List.setIfInBounds_toArray, List.set_cons_zero, List.set_cons_succ]
            refine heldL_take (i := 13) (v := ?_) rfl (by kernel_rfl) (by kernel_rfl) (by kernel_rfl) [14, 15, 16, 17] (by kernel_rfl) (by kernel_rfl) (fun _ _ _ h => h) (Or.inl ⟨by rfl, ?_⟩) (by assumption) ?_; rotate_left; (focus (intro w hSw; (try dsimp only at hSw); go_simp; try with_reducible rfl))
            try simp only [Act.put, List.getElem_toArray, List.getElem_cons_zero, List.getElem_cons_succ, List.setIfInBounds_toArray, List.set_cons_zero, List.set_cons_succ]
            refine heldL_take (i := 14) (v := ?_) rfl (by kernel_rfl) (by kernel_rfl) (by kernel_rfl) [15, 16, 17] (by kernel_rfl) (by kernel_rfl) (fun _ _ _ h => h) (Or.inl ⟨by rfl, ?_⟩) (by assumption) ?_; rotate_left; (focus (intro w hSw; (try dsimp only at hSw); go_simp; try with_reducible rfl))
            try simp only [Act.put, List.getElem_toArray, List.getElem_cons_zero, List.getElem_cons_succ, List.setIfInBounds_toArray, List.set_cons_zero, List.set_cons_succ]
            refine heldL_step (i := 11) (by kernel_rfl) rfl (fun K hK => ?_)
            try simp only [List.getElem_toArray, List.getElem_cons_zero, List.getElem_cons_succ]
            go_simp
            skip
            try go_wp2_with fail
            refine hK.out _ _ ?_ (fun hHeld => ?_)
            · first | exact ⟨y5, o1, o2⟩ | exact ⟨y56, o16, o26⟩ | exact ⟨y5z, o1z, o2z⟩
            clear hK K
            try simp only [Act.put, List.getElem_toArray, List.getElem_cons_zero, List.getElem_cons_succ, List.setIfInBounds_toArray, List.set_cons_zero, List.set_cons_succ]
            refine heldL_step (i := 12) (by kernel_rfl) rfl (fun K hK => ?_)
            try simp only [List.getElem_toArray, List.getElem_cons_zero, List.getElem_cons_succ]
            (rw [if_pos (by simp [Region.wanted])]; refine wp_append_lies _ _ _ _ (by rfl) B 110 i0 _ 4 24 Try.underlying60 hi0 hz0 hz1 hz2 rfl (by omega) (.slice ra rl rc) rl (rrCells (s1.s jn).reads) (by rfl) R6 ⟨w5.heap.size, 0, none⟩ 1 1 [.int .i64 key, .int .i64 key, .bool false, .bool false] (by rfl) (by rfl) (World.news_of_block (cs := #[.int .i64 key, .int .i64 key, .bool false, .bool false]) (t := 110) (fr := (0, 0)) (heap_alloc_new w5 _)) (by simp [Value.oneCell']) (by omega) (by unfold maxLen; omega) (by omega) (by simp; omega) (w5.heap.size + 1) (by simp) ?_; intro gg cap w1 hown2 hgrow hat hlt2; have cz : w1.cell? ⟨m, 3 + jn * 6 + 5, none⟩ = some (.slice ra rl rc) := (hgrow.cell_far ⟨m, 3 + jn * 6 + 5, none⟩ hm6 (fun e => nrow e.symm)).trans m6; have fz1 : w1.frozen? ⟨m, 3 + jn * 6 + 5, none⟩ = false := (hgrow.frozen_far ⟨m, 3 + jn * 6 + 5, none⟩ hm6 (fun e => nrow e.symm)).trans f6; have y5z : w1.cell? ⟨tb, 5, none⟩ = some (.slice ra rl rc) := (hgrow.cell_far ⟨tb, 5, none⟩ ht6 (fun e => ntb e.symm)).trans y56; have o1z : w1.cell? ⟨ob, 1, none⟩ = some (.int .i64 key) := (hgrow.cell_far ⟨ob, 1, none⟩ ho6 (fun e => nob e.symm)).trans o16; have o2z : w1.cell? ⟨ob, 2, none⟩ = some (.int .i64 hi) := (hgrow.cell_far ⟨ob, 2, none⟩ ho6 (fun e => nob e.symm)).trans o26)
            refine hK.out _ _ ?_ (fun hHeld => ?_)
            · first | exact ⟨y5, o1, o2⟩ | exact ⟨y56, o16, o26⟩ | exact ⟨y5z, o1z, o2z⟩
            clear hK K
            try simp only [Act.put, List.getElem_toArray, List.getElem_cons_zero, List.getElem_cons_succ, List.setIfInBounds_toArray, List.set_cons_zero, List.set_cons_succ]
            refine heldL_take (i := 15) (v := ?_) rfl (by kernel_rfl) (by kernel_rfl) (by kernel_rfl) [16, 17] (by kernel_rfl) (by kernel_rfl) (fun _ _ _ h => h) (Or.inl ⟨by rfl, ?_⟩) (by assumption) ?_; rotate_left; (focus (intro w hSw; (try dsimp only at hSw); go_simp; try with_reducible rfl))
            try simp only [Act.put, List.getElem_toArray, List.getElem_cons_zero, List.getElem_cons_succ, List.setIfInBounds_toArray, List.set_cons_zero, List.set_cons_succ]
            refine heldL_take (i := 16) (v := ?_) rfl (by kernel_rfl) (by kernel_rfl) (by kernel_rfl) [17] (by kernel_rfl) (by kernel_rfl) (fun _ _ _ h => h) (Or.inl ⟨by rfl, ?_⟩) (by assumption) ?_; rotate_left; (focus (intro w hSw; (try dsimp only at hSw); go_simp; try with_reducible rfl))
            try simp only [Act.put, List.getElem_toArray, List.getElem_cons_zero, List.getElem_cons_succ, List.setIfInBounds_toArray, List.set_cons_zero, List.set_cons_succ]
            refine heldL_last (by kernel_rfl) rfl (by kernel_rfl) (fun K hK => ?_)
            try simp only [List.getElem_toArray, List.getElem_cons_zero, List.getElem_cons_succ]
            go_simp
            skip
            try go_wp2_with fail
            refine hK.out _ _ ?_
            clear hK K
            try simp only [Act.put, List.getElem_toArray, List.getElem_cons_zero, List.getElem_cons_succ, List.setIfInBounds_toArray, List.set_cons_zero, List.set_cons_succ]
            obtain ⟨P7, A7, H7_⟩ := APP.out gg cap w1 hown2 hgrow hat hlt2
            have H7 := Lib.hid H7_
            clear H7_
            generalize hW7 : World.setCell w1 _ _ = W7 at *
            clear hown2 hgrow hat hlt2 cz fz1 hW7 APP m6 f6 R6 z6 hm6 ht6 ho6 nrow ntb nob y56 o16 o26 y5z o1z o2z y5 o1 o2 hB5 hbd hi0 hz0 hz1 hz2
            have X9 := (H7.out.own _ (List.mem_cons_of_mem _ List.mem_cons_self)).1
            have HX9 := Lib.hid X9
            have b0 := X9.cell 0
            have b1 := X9.cell 1
            have b2 := X9.cell 2
            have b3 := X9.cell 3
            have b4 := X9.cell 4
            have bf := fun i => X9.free i
            clear X9
            go_wp2_with fail
            obtain ⟨B9, o9⟩ := set5 HX9.out (.int .i64 11) (.int .i64 0) (.slice none 0 0) (.int .i64 0) (.int .i64 0)
            refine bodyPost_ret (results_cell_tmp Try.results30 _ _ n0 _ _ _ _ (.int .i64 0) rfl rfl B9 Try.underlying27 rfl info_res) rfl ?_
            rw [HE2.out]
            exact H7.out.re (List.mem_cons_of_mem _ List.mem_cons_self) o9 (.inl rfl) (fun y hy => by cases hy)
        | some ia =>
          have iA : idxV (some ia) = (ia : Int) := rfl
          have hia : ia < s1.v.length := sees_lt HAT.out.symm
          have hiaI : (ia : Int) < (s1.v.length : Int) := by omega
          have hia0 : (0 : Int) ≤ (ia : Int) := by omega
          have hsv : s1.v.length ≤ 256 := by have := H5.out.mod.ok.few; have := H5.out.mod.ok.slots; omega
          obtain ⟨vx, hvx⟩ : ∃ x, x = (s1.v.getD ia default).value := ⟨_, rfl⟩
          have HVX := Lib.hid hvx
          clear hvx
          cases mine with
          | true =>
            have HE2 : Hid (s.do_ jn ⟨kind, key, hi, value⟩ = (⟨0, vx, [], 0, 0⟩, 0, s1)) := Lib.hid (by rw [HE.out]; unfold RSt.get; rw [← TXI.out, ← TXB.out, ← HAT.out, ← HMI.out, HVX.out]; rfl)
            clear HE
            obtain ⟨gv, c2, cv⟩ : ∃ g, w5.cell? ⟨m, 2, none⟩ = some (.slice (some ⟨g, 0, none⟩) s1.v.length A.vc) ∧ w5.cell? ⟨g, ia * 7 + 1, none⟩ = some (.int .i64 vx) := by
              have M := H5.out.mod
              rcases M.rowAt with ⟨_, e, _⟩ | ⟨g, hg, _, hc⟩
              · have : s1.v.length = 0 := e
                omega
              · refine ⟨g, ?_, ?_⟩
                · have := M.head.2.2.1
                  rw [hg] at this
                  exact this
                · rw [HVX.out]; exact hc ia 1 hia (by omega)
            have X9 := (H5.out.own _ (List.mem_cons_of_mem _ List.mem_cons_self)).1
            have HX9 := Lib.hid X9
            have b0 := X9.cell 0
            have b1 := X9.cell 1
            have b2 := X9.cell 2
            have b3 := X9.cell 3
            have b4 := X9.cell 4
            have bf := fun i => X9.free i
            clear X9
            go_wp2_with fail
            obtain ⟨B9, o9⟩ := set5 HX9.out (.int .i64 0) (.int .i64 vx) (.slice none 0 0) (.int .i64 0) (.int .i64 0)
            refine bodyPost_ret (results_cell_tmp Try.results30 _ _ n0 _ _ _ _ (.int .i64 0) rfl rfl B9 Try.underlying27 rfl info_res) rfl ?_
            rw [HE2.out]
            exact H5.out.re (List.mem_cons_of_mem _ List.mem_cons_self) o9 (.inl rfl) (fun y hy => by cases hy)
          | false =>
            have HE2 : Hid (s.do_ jn ⟨kind, key, hi, value⟩ = (⟨0, vx, [], 0, 0⟩, 0, s1.setS jn ((s1.s jn).read ⟨key, key, true, false⟩))) := Lib.hid (by rw [HE.out]; unfold RSt.get; rw [← TXI.out, ← TXB.out, ← HAT.out, ← HMI.out, HVX.out]; rfl)
            clear HE
            clear o0 o1 o2 o3
            clear y0 y1 y2 y3 y4 y5
            obtain ⟨i0, hi0, hz0, hz1, hz2⟩ := info_parts info_read
            have hbd : rl ≤ 12 := by obtain ⟨rfl, rfl, rfl⟩ := TXR.out; exact (H5.out.mod.few12 jn).2
            obtain ⟨W6, hW6⟩ : ∃ W6, W6 = (w5.alloc (.cells #[.int .i64 key, .int .i64 key, .bool true, .bool false] 110)).drew := ⟨_, rfl⟩
            have oo6 : Only0 w5 W6 := by rw [hW6]; exact ((Only0.refl _).alloc _).drew
            have HB6 := H5.out.only0 oo6
            have m6 : W6.cell? ⟨m, 3 + jn * 6 + 5, none⟩ = some (.slice ra rl rc) := by
              obtain ⟨rfl, rfl, rfl⟩ := TXR.out
              exact (HB6.mod.txCells hj).2.2.2.2.2
            have f6 : W6.frozen? ⟨m, 3 + jn * 6 + 5, none⟩ = false := HB6.mod.free _
            have R6 : W6.ownsRow B 110 4 (.slice ra rl rc) rl (rrCells (s1.s jn).reads) := by
              obtain ⟨rfl, rfl, rfl⟩ := TXR.out
              exact HB6.mod.rs jn hj
            have z6 : W6.heap.size = w5.heap.size + 1 := by rw [hW6]; simp
            have hm6 : m < W6.heap.size := HB6.mod.mod.lt
            have ht6 : tb < W6.heap.size := (HB6.own _ List.mem_cons_self).1.lt
            have ho6 : ob < W6.heap.size := (HB6.own _ (List.mem_cons_of_mem _ (List.mem_cons_of_mem _ List.mem_cons_self))).1.lt
            have nrow : ¬ rowOf (.slice ra rl rc) m := rows_ne R6 HB6.mod.mod (by decide)
            have ntb : ¬ rowOf (.slice ra rl rc) tb := rows_ne R6 (HB6.own _ List.mem_cons_self).1 (by show (110 : TypeId) ≠ 62; decide)
            have nob : ¬ rowOf (.slice ra rl rc) ob := rows_ne R6 (HB6.own _ (List.mem_cons_of_mem _ (List.mem_cons_of_mem _ List.mem_cons_self))).1 (by show (110 : TypeId) ≠ 31; decide)
            have hB5 : B ≤ w5.heap.size := by have h1 := H5.out.mod.above m H5.out.mod.pm; have h2 := H5.out.mod.mod.lt; omega
            have y56 : W6.cell? ⟨tb, 5, none⟩ = some (.slice ra rl rc) := (HB6.own _ List.mem_cons_self).1.cell 5
            have o16 : W6.cell? ⟨ob, 1, none⟩ = some (.int .i64 key) := (HB6.own _ (List.mem_cons_of_mem _ (List.mem_cons_of_mem _ List.mem_cons_self))).1.cell 1
            have o26 : W6.cell? ⟨ob, 2, none⟩ = some (.int .i64 hi) := (HB6.own _ (List.mem_cons_of_mem _ (List.mem_cons_of_mem _ List.mem_cons_self))).1.cell 2
            have APP : Hid (∀ (gg cap : Nat) (w1 : World), w1.ownsRow B 110 4 (.slice (some ⟨gg, 0, none⟩) (rl + 1) cap) (rl + 1) ((rrCells (s1.s jn).reads) ++ [.int .i64 key, .int .i64 key, .bool true, .bool false]) → W6.grownBy w1 (Value.slice ra rl rc).ownBlock → ((Value.slice ra rl rc).ownBlock = some gg ∨ gg = w5.heap.size + 1) → gg < w1.heap.size →
                ∃ P' A', RcI B w P0 m [⟨tb, 62, #[.int .i64 id, .int .i64 lv, .int .i64 op, .int .u64 bg, .slice wa wl wc_, .slice ra rl rc]⟩, ⟨n0, 27, #[.int .i64 0, .int .i64 0, .slice none 0 0, .int .i64 0, .int .i64 0]⟩, ⟨ob, 31, #[.int .i64 kind, .int .i64 key, .int .i64 hi, .int .i64 value]⟩] (s1.setS jn ((s1.s jn).read ⟨key, key, true, false⟩)) P' A' (w1.setCell ⟨m, 3 + jn * 6 + 5, none⟩ (.slice (some ⟨gg, 0, none⟩) (rl + 1) cap))) := by
              intro gg cap w1 h1 h2 h3 h4
              have oR : Only (rowOf (.slice ra rl rc)) W6 w1 := ⟨h2.os, h2.tape, h2.output, h2.size, fun b hb hn => h2.block b hb (fun e => hn e.symm)⟩
              have hat : (Value.slice ra rl rc).ownBlock = some gg ∨ W6.heap.size ≤ gg := h3.imp (fun h => h) (fun h => by omega)
              have HPD : ∀ b, rowOf (.slice ra rl rc) b → P0 b := by
                obtain ⟨rfl, rfl, rfl⟩ := TXR.out
                exact H5.out.mod.pd jn hj
              obtain ⟨rfl, rfl, rfl⟩ := TXR.out
              have PU := HB6.mod.pushR (gg := gg) (cap := cap) (w1 := w1) hj ⟨key, key, true, false⟩ HOR.out ⟨hko.1, hko.2, hko.1, hko.2⟩
              obtain ⟨A', M', O'⟩ := PU h1 oR hat h4
              exact ⟨_, A', H5.out.app oo6 HPD hat M' O'⟩
            rw [hW6] at m6 f6 R6 z6 hm6 ht6 ho6 y56 o16 o26 APP
            have y5 : w5.cell? ⟨tb, 5, none⟩ = some (.slice ra rl rc) := (H5.out.own _ List.mem_cons_self).1.cell 5
            have o1 : w5.cell? ⟨ob, 1, none⟩ = some (.int .i64 key) := (H5.out.own _ (List.mem_cons_of_mem _ (List.mem_cons_of_mem _ List.mem_cons_self))).1.cell 1
            have o2 : w5.cell? ⟨ob, 2, none⟩ = some (.int .i64 hi) := (H5.out.own _ (List.mem_cons_of_mem _ (List.mem_cons_of_mem _ List.mem_cons_self))).1.cell 2
            clear HB6 hW6 oo6
            go_wp2_with fail
            refine wp_region_heldL (S := (fun w' => w'.cell? ⟨tb, 5, none⟩ = some (.slice ra rl rc) ∧ w'.cell? ⟨ob, 1, none⟩ = some (.int .i64 key) ∧ w'.cell? ⟨ob, 2, none⟩ = some (.int .i64 hi))) 17 (by kernel_rfl) ?_ (fun hHeld => ?_)
            · first | exact ⟨y5, o1, o2⟩ | exact ⟨y56, o16, o26⟩ | exact ⟨y5z, o1z, o2z⟩
            refine heldL_take (i := 0) (v := ?_) rfl (by kernel_rfl) (by kernel_rfl) (by kernel_rfl) [17] (by kernel_rfl) (by kernel_rfl) (fun _ _ _ h => h) (Or.inl ⟨by rfl, ?_⟩) (by assumption) ?_; rotate_left; (focus (intro w hSw; (try dsimp only at hSw); go_simp; try with_reducible rfl))
            try simp only [Act.put, List.getElem_toArray, List.getElem_cons_zero, List.getElem_cons_succ, List.setIfInBounds_toArray, List.set_cons_zero, List.set_cons_succ]
            refine heldL_take (i := 1) (v := ?_) rfl (by kernel_rfl) (by kernel_rfl) (by kernel_rfl) [17] (by kernel_rfl) (by kernel_rfl) (fun _ _ _ h => h) (Or.inl ⟨by rfl, ?_⟩) (by assumption) ?_; rotate_left; (focus (intro w hSw; (try dsimp only at hSw); go_simp; try with_reducible rfl))
            try simp only [Act.put, List.getElem_toArray, List.getElem_cons_zero, List.getElem_cons_succ, List.setIfInBounds_toArray, List.set_cons_zero, List.set_cons_succ]
            refine heldL_take (i := 2) (v := ?_) rfl (by kernel_rfl) (by kernel_rfl) (by kernel_rfl) [17] (by kernel_rfl) (by kernel_rfl) (fun _ _ _ h => h) (Or.inl ⟨by rfl, ?_⟩) (by assumption) ?_; rotate_left; (focus (intro w hSw; (try dsimp only at hSw); go_simp; try with_reducible rfl))
            try simp only [Act.put, List.getElem_toArray, List.getElem_cons_zero, List.getElem_cons_succ, List.setIfInBounds_toArray, List.set_cons_zero, List.set_cons_succ]
            refine heldL_take (i := 3) (v := ?_) rfl (by kernel_rfl) (by kernel_rfl) (by kernel_rfl) [17] (by kernel_rfl) (by kernel_rfl) (fun _ _ _ h => h) (Or.inl ⟨by rfl, ?_⟩) (by assumption) ?_; rotate_left; (focus (intro w hSw; (try dsimp only at hSw); go_simp; try with_reducible rfl))
            try simp only [Act.put, List.getElem_toArray, List.getElem_cons_zero, List.getElem_cons_succ, List.setIfInBounds_toArray, List.set_cons_zero, List.set_cons_succ]
            refine heldL_take (i := 4) (v := ?_) rfl (by kernel_rfl) (by kernel_rfl) (by kernel_rfl) [17] (by kernel_rfl) (by kernel_rfl) (fun _ _ _ h => h) (Or.inl ⟨by rfl, ?_⟩) (by assumption) ?_; rotate_left; (focus (intro w hSw; (try dsimp only at hSw); go_simp; try with_reducible rfl))
            try simp only [Act.put, List.getElem_toArray, List.getElem_cons_zero, List.getElem_cons_succ, List.setIfInBounds_toArray, List.set_cons_zero, List.set_cons_succ]
            refine heldL_take (i := 5) (v := ?_) rfl (by kernel_rfl) (by kernel_rfl) (by kernel_rfl) [17] (by kernel_rfl) (by kernel_rfl) (fun _ _ _ h => h) (Or.inl ⟨by rfl, ?_⟩) (by assumption) ?_; rotate_left; (focus (intro w hSw; (try dsimp only at hSw); go_simp; try with_reducible rfl))
            try simp only [Act.put, List.getElem_toArray, List.getElem_cons_zero, List.getElem_cons_succ, List.setIfInBounds_toArray, List.set_cons_zero, List.set_cons_succ]
            refine heldL_take (i := 6) (v := ?_) rfl (by kernel_rfl) (by kernel_rfl) (by kernel_rfl) [17] (by kernel_rfl) (by kernel_rfl) (fun _ _ _ h => h) (Or.inl ⟨by rfl, ?_⟩) (by assumption) ?_; rotate_left; (focus (intro w hSw; (try dsimp only at hSw); go_simp; try with_reducible rfl))
            try simp only [Act.put, List.getElem_toArray, List.getElem_cons_zero, List.getElem_cons_succ, List.setIfInBounds_toArray, List.set_cons_zero, List.set_cons_succ]
            refine heldL_take (i := 7) (v := ?_) rfl (by kernel_rfl) (by kernel_rfl) (by kernel_rfl) [17] (by kernel_rfl) (by kernel_rfl) (fun _ _ _ h => h) (Or.inl ⟨by rfl, ?_⟩) (by assumption) ?_; rotate_left; (focus (intro w hSw; (try dsimp only at hSw); go_simp; try with_reducible rfl))
            try simp only [Act.put, List.getElem_toArray, List.getElem_cons_zero, List.getElem_cons_succ, List.setIfInBounds_toArray, List.set_cons_zero, List.set_cons_succ]
            refine heldL_take (i := 8) (v := ?_) rfl (by kernel_rfl) (by kernel_rfl) (by kernel_rfl) [17] (by kernel_rfl) (by kernel_rfl) (fun _ _ _ h => h) (Or.inl ⟨by rfl, ?_⟩) (by assumption) ?_; rotate_left; (focus (intro w hSw; (try dsimp only at hSw); go_simp; try with_reducible rfl))
            try simp only [Act.put, List.getElem_toArray, List.getElem_cons_zero, List.getElem_cons_succ, List.setIfInBounds_toArray, List.set_cons_zero, List.set_cons_succ]
            refine heldL_take (i := 9) (v := ?_) rfl (by kernel_rfl) (by kernel_rfl) (by kernel_rfl) [17] (by kernel_rfl) (by kernel_rfl) (fun _ _ _ h => h) (Or.inl ⟨by rfl, ?_⟩) (by assumption) ?_; rotate_left; (focus (intro w hSw; (try dsimp only at hSw); go_simp; try with_reducible rfl))
            try simp only [Act.put, List.getElem_toArray, List.getElem_cons_zero, List.getElem_cons_succ, List.setIfInBounds_toArray, List.set_cons_zero, List.set_cons_succ]
            refine heldL_take (i := 10) (v := ?_) rfl (by kernel_rfl) (by kernel_rfl) (by kernel_rfl) [17] (by kernel_rfl) (by kernel_rfl) (fun _ _ _ h => h) (Or.inl ⟨by rfl, ?_⟩) (by assumption) ?_; rotate_left; (focus (intro w hSw; (try dsimp only at hSw); go_simp; try with_reducible rfl))
            try simp only [Act.put, List.getElem_toArray, List.getElem_cons_zero, List.getElem_cons_succ, List.setIfInBounds_toArray, List.set_cons_zero, List.set_cons_succ]
            refine heldL_take (i := 13) (v := ?_) rfl (by kernel_rfl) (by kernel_rfl) (by kernel_rfl) [14, 15, 16, 17] (by kernel_rfl) (by kernel_rfl) (fun _ _ _ h => h) (Or.inl ⟨by rfl, ?_⟩) (by assumption) ?_; rotate_left; (focus (intro w hSw; (try dsimp only at hSw); go_simp; try with_reducible rfl))
            try simp only [Act.put, List.getElem_toArray, List.getElem_cons_zero, List.getElem_cons_succ, List.setIfInBounds_toArray, List.set_cons_zero, List.set_cons_succ]
            refine heldL_take (i := 14) (v := ?_) rfl (by kernel_rfl) (by kernel_rfl) (by kernel_rfl) [15, 16, 17] (by kernel_rfl) (by kernel_rfl) (fun _ _ _ h => h) (Or.inl ⟨by rfl, ?_⟩) (by assumption) ?_; rotate_left; (focus (intro w hSw; (try dsimp only at hSw); go_simp; try with_reducible rfl))
            try simp only [Act.put, List.getElem_toArray, List.getElem_cons_zero, List.getElem_cons_succ, List.setIfInBounds_toArray, List.set_cons_zero, List.set_cons_succ]
            refine heldL_step (i := 11) (by kernel_rfl) rfl (fun K hK => ?_)
            try simp only [List.getElem_toArray, List.getElem_cons_zero, List.getElem_cons_succ]
            go_simp
            skip
            try go_wp2_with fail
            refine hK.out _ _ ?_ (fun hHeld => ?_)
            · first | exact ⟨y5, o1, o2⟩ | exact ⟨y56, o16, o26⟩ | exact ⟨y5z, o1z, o2z⟩
            clear hK K
            try simp only [Act.put, List.getElem_toArray, List.getElem_cons_zero, List.getElem_cons_succ, List.setIfInBounds_toArray, List.set_cons_zero, List.set_cons_succ]
            refine heldL_step (i := 12) (by kernel_rfl) rfl (fun K hK => ?_)
            try simp only [List.getElem_toArray, List.getElem_cons_zero, List.getElem_cons_succ]
            (rw [if_pos (by simp [Region.wanted])]; refine wp_append_lies _ _ _ _ (by rfl) B 110 i0 _ 4 24 Try.underlying60 hi0 hz0 hz1 hz2 rfl (by omega) (.slice ra rl rc) rl (rrCells (s1.s jn).reads) (by rfl) R6 ⟨w5.heap.size, 0, none⟩ 1 1 [.int .i64 key, .int .i64 key, .bool true, .bool false] (by rfl) (by rfl) (World.news_of_block (cs := #[.int .i64 key, .int .i64 key, .bool true, .bool false]) (t := 110) (fr := (0, 0)) (heap_alloc_new w5 _)) (by simp [Value.oneCell']) (by omega) (by unfold maxLen; omega) (by omega) (by simp; omega) (w5.heap.size + 1) (by simp) ?_; intro gg cap w1 hown2 hgrow hat hlt2; have cz : w1.cell? ⟨m, 3 + jn * 6 + 5, none⟩ = some (.slice ra rl rc) := (hgrow.cell_far ⟨m, 3 + jn * 6 + 5, none⟩ hm6 (fun e => nrow e.symm)).trans m6; have fz1 : w1.frozen? ⟨m, 3 + jn * 6 + 5, none⟩ = false := (hgrow.frozen_far ⟨m, 3 + jn * 6 + 5, none⟩ hm6 (fun e => nrow e.symm)).trans f6; have y5z : w1.cell? ⟨tb, 5, none⟩ = some (.slice ra rl rc) := (hgrow.cell_far ⟨tb, 5, none⟩ ht6 (fun e => ntb e.symm)).trans y56; have o1z : w1.cell? ⟨ob, 1, none⟩ = some (.int .i64 key) := (hgrow.cell_far ⟨ob, 1, none⟩ ho6 (fun e => nob e.symm)).trans o16; have o2z : w1.cell? ⟨ob, 2, none⟩ = some (.int .i64 hi) := (hgrow.cell_far ⟨ob, 2, none⟩ ho6 (fun e => nob e.symm)).trans o26)
            refine hK.out _ _ ?_ (fun hHeld => ?_)
            · first | exact ⟨y5, o1, o2⟩ | exact ⟨y56, o16, o26⟩ | exact ⟨y5z, o1z, o2z⟩
            clear hK K
            try simp only [Act.put, List.getElem_toArray, List.getElem_cons_zero, List.getElem_cons_succ, List.setIfInBounds_toArray, List.set_cons_zero, List.set_cons_succ]
            refine heldL_take (i := 15) (v := ?_) rfl (by kernel_rfl) (by kernel_rfl) (by kernel_rfl) [16, 17] (by kernel_rfl) (by kernel_rfl) (fun _ _ _ h => h) (Or.inl ⟨by rfl, ?_⟩) (by assumption) ?_; rotate_left; (focus (intro w hSw; (try dsimp only at hSw); go_simp; try with_reducible rfl))
            try simp only [Act.put, List.getElem_toArray, List.getElem_cons_zero, List.getElem_cons_succ, List.setIfInBounds_toArray, List.set_cons_zero, List.set_cons_succ]
            refine heldL_take (i := 16) (v := ?_) rfl (by kernel_rfl) (by kernel_rfl) (by kernel_rfl) [17] (by kernel_rfl) (by kernel_rfl) (fun _ _ _ h => h) (Or.inl ⟨by rfl, ?_⟩) (by assumption) ?_; rotate_left; (focus (intro w hSw; (try dsimp only at hSw); go_simp; try with_reducible rfl))
            try simp only [Act.put, List.getElem_toArray, List.getElem_cons_zero, List.getElem_cons_succ, List.setIfInBounds_toArray, List.set_cons_zero, List.set_cons_succ]
            refine heldL_last (by kernel_rfl) rfl (by kernel_rfl) (fun K hK => ?_)
            try simp only [List.getElem_toArray, List.getElem_cons_zero, List.getElem_cons_succ]
            go_simp
            skip
            try go_wp2_with fail
            refine hK.out _ _ ?_
            clear hK K
            try simp only [Act.put, List.getElem_toArray, List.getElem_cons_zero, List.getElem_cons_succ, List.setIfInBounds_toArray, List.set_cons_zero, List.set_cons_succ]
            obtain ⟨P7, A7, H7_⟩ := APP.out gg cap w1 hown2 hgrow hat hlt2
            have H7 := Lib.hid H7_
            clear H7_
            generalize hW7 : World.setCell w1 _ _ = W7 at *
            clear hown2 hgrow hat hlt2 cz fz1 hW7 APP m6 f6 R6 z6 hm6 ht6 ho6 nrow ntb nob y56 o16 o26 y5z o1z o2z y5 o1 o2 hB5 hbd hi0 hz0 hz1 hz2
            obtain ⟨gv, c2, cv⟩ : ∃ g, W7.cell? ⟨m, 2, none⟩ = some (.slice (some ⟨g, 0, none⟩) s1.v.length A7.vc) ∧ W7.cell? ⟨g, ia * 7 + 1, none⟩ = some (.int .i64 vx) := by
              have M := H7.out.mod
              rcases M.rowAt with ⟨_, e, _⟩ | ⟨g, hg, _, hc⟩
              · have : s1.v.length = 0 := e
                omega
              · refine ⟨g, ?_, ?_⟩
                · have := M.head.2.2.1
                  rw [hg] at this
                  exact this
                · rw [HVX.out]; exact hc ia 1 hia (by omega)
            have X9 := (H7.out.own _ (List.mem_cons_of_mem _ List.mem_cons_self)).1
            have HX9 := Lib.hid X9
            have b0 := X9.cell 0
            have b1 := X9.cell 1
            have b2 := X9.cell 2
            have b3 := X9.cell 3
            have b4 := X9.cell 4
            have bf := fun i => X9.free i
            clear X9
            go_wp2_with fail
            obtain ⟨B9, o9⟩ := set5 HX9.out (.int .i64 0) (.int .i64 vx) (.slice none 0 0) (.int .i64 0) (.int .i64 0)
            refine bodyPost_ret (results_cell_tmp Try.results30 _ _ n0 _ _ _ _ (.int .i64 0) rfl rfl B9 Try.underlying27 rfl info_res) rfl ?_
            rw [HE2.out]
            exact H7.out.re (List.mem_cons_of_mem _ List.mem_cons_self) o9 (.inl rfl) (fun y hy => by cases hy)
      have k1b : (kind == 1) = false := by simpa using k1
      by_cases k5 : kind = 5
      · have k5b : (kind == 5) = true := by simpa using k5
        have HE : Hid (s.do_ jn ⟨kind, key, hi, value⟩ = ((s1.scan jn key hi).1, 0, (s1.scan jn key hi).2)) := Lib.hid (by rw [HE1.out, if_neg k1, if_pos k5])
        obtain ⟨s5a, s5b⟩ := HKS.out k5
        clear HE1 k1 k5 HKK HKS k7b k6b
        clear o1 o2 o3
        obtain ⟨i0, hi0, hz0, hz1, hz2⟩ := info_parts info_read
        have hbd : rl ≤ 12 := by obtain ⟨rfl, rfl, rfl⟩ := TXR.out; exact (H4.out.mod.few12 jn).2
        obtain ⟨W6, hW6⟩ : ∃ W6, W6 = (w4.alloc (.cells #[.int .i64 key, .int .i64 hi, .bool false, .bool true] 110)).drew := ⟨_, rfl⟩
        have oo6 : Only0 w4 W6 := by rw [hW6]; exact ((Only0.refl _).alloc _).drew
        have HB6 := H4.out.only0 oo6
        have m6 : W6.cell? ⟨m, 3 + jn * 6 + 5, none⟩ = some (.slice ra rl rc) := by
          obtain ⟨rfl, rfl, rfl⟩ := TXR.out
          exact (HB6.mod.txCells hj).2.2.2.2.2
        have f6 : W6.frozen? ⟨m, 3 + jn * 6 + 5, none⟩ = false := HB6.mod.free _
        have R6 : W6.ownsRow B 110 4 (.slice ra rl rc) rl (rrCells (s1.s jn).reads) := by
          obtain ⟨rfl, rfl, rfl⟩ := TXR.out
          exact HB6.mod.rs jn hj
        have z6 : W6.heap.size = w4.heap.size + 1 := by rw [hW6]; simp
        have hm6 : m < W6.heap.size := HB6.mod.mod.lt
        have ht6 : tb < W6.heap.size := (HB6.own _ List.mem_cons_self).1.lt
        have ho6 : ob < W6.heap.size := (HB6.own _ (List.mem_cons_of_mem _ (List.mem_cons_of_mem _ List.mem_cons_self))).1.lt
        have nrow : ¬ rowOf (.slice ra rl rc) m := rows_ne R6 HB6.mod.mod (by decide)
        have ntb : ¬ rowOf (.slice ra rl rc) tb := rows_ne R6 (HB6.own _ List.mem_cons_self).1 (by show (110 : TypeId) ≠ 62; decide)
        have nob : ¬ rowOf (.slice ra rl rc) ob := rows_ne R6 (HB6.own _ (List.mem_cons_of_mem _ (List.mem_cons_of_mem _ List.mem_cons_self))).1 (by show (110 : TypeId) ≠ 31; decide)
        have hB5 : B ≤ w4.heap.size := by have h1 := H4.out.mod.above m H4.out.mod.pm; have h2 := H4.out.mod.mod.lt; omega
        have y56 : W6.cell? ⟨tb, 5, none⟩ = some (.slice ra rl rc) := (HB6.own _ List.mem_cons_self).1.cell 5
        have o16 : W6.cell? ⟨ob, 1, none⟩ = some (.int .i64 key) := (HB6.own _ (List.mem_cons_of_mem _ (List.mem_cons_of_mem _ List.mem_cons_self))).1.cell 1
        have o26 : W6.cell? ⟨ob, 2, none⟩ = some (.int .i64 hi) := (HB6.own _ (List.mem_cons_of_mem _ (List.mem_cons_of_mem _ List.mem_cons_self))).1.cell 2
        have APP : Hid (∀ (gg cap : Nat) (w1 : World), w1.ownsRow B 110 4 (.slice (some ⟨gg, 0, none⟩) (rl + 1) cap) (rl + 1) ((rrCells (s1.s jn).reads) ++ [.int .i64 key, .int .i64 hi, .bool false, .bool true]) → W6.grownBy w1 (Value.slice ra rl rc).ownBlock → ((Value.slice ra rl rc).ownBlock = some gg ∨ gg = w4.heap.size + 1) → gg < w1.heap.size →
            ∃ P' A', RcI B w P0 m [⟨tb, 62, #[.int .i64 id, .int .i64 lv, .int .i64 op, .int .u64 bg, .slice wa wl wc_, .slice ra rl rc]⟩, ⟨n0, 27, #[.int .i64 0, .int .i64 0, .slice none 0 0, .int .i64 0, .int .i64 0]⟩, ⟨ob, 31, #[.int .i64 kind, .int .i64 key, .int .i64 hi, .int .i64 value]⟩] (s1.setS jn ((s1.s jn).read ⟨key, hi, false, true⟩)) P' A' (w1.setCell ⟨m, 3 + jn * 6 + 5, none⟩ (.slice (some ⟨gg, 0, none⟩) (rl + 1) cap))) := by
          intro gg cap w1 h1 h2 h3 h4
          have oR : Only (rowOf (.slice ra rl rc)) W6 w1 := ⟨h2.os, h2.tape, h2.output, h2.size, fun b hb hn => h2.block b hb (fun e => hn e.symm)⟩
          have hat : (Value.slice ra rl rc).ownBlock = some gg ∨ W6.heap.size ≤ gg := h3.imp (fun h => h) (fun h => by omega)
          have HPD : ∀ b, rowOf (.slice ra rl rc) b → P0 b := by
            obtain ⟨rfl, rfl, rfl⟩ := TXR.out
            exact H4.out.mod.pd jn hj
          obtain ⟨rfl, rfl, rfl⟩ := TXR.out
          have PU := HB6.mod.pushR (gg := gg) (cap := cap) (w1 := w1) hj ⟨key, hi, false, true⟩ HOR.out ⟨hko.1, hko.2, Int.le_trans hko.1 s5a, s5b⟩
          obtain ⟨A', M', O'⟩ := PU h1 oR hat h4
          exact ⟨_, A', H4.out.app oo6 HPD hat M' O'⟩
        rw [hW6] at m6 f6 R6 z6 hm6 ht6 ho6 y56 o16 o26 APP
        have y5 : w4.cell? ⟨tb, 5, none⟩ = some (.slice ra rl rc) := (H4.out.own _ List.mem_cons_self).1.cell 5
        have o1 : w4.cell? ⟨ob, 1, none⟩ = some (.int .i64 key) := (H4.out.own _ (List.mem_cons_of_mem _ (List.mem_cons_of_mem _ List.mem_cons_self))).1.cell 1
        have o2 : w4.cell? ⟨ob, 2, none⟩ = some (.int .i64 hi) := (H4.out.own _ (List.mem_cons_of_mem _ (List.mem_cons_of_mem _ List.mem_cons_self))).1.cell 2
        clear HB6 hW6 oo6
        go_wp2_with fail
        refine wp_region_heldL (S := (fun w' => w'.cell? ⟨tb, 5, none⟩ = some (.slice ra rl rc) ∧ w'.cell? ⟨ob, 1, none⟩ = some (.int .i64 key) ∧ w'.cell? ⟨ob, 2, none⟩ = some (.int .i64 hi))) 15 (by kernel_rfl) ?_ (fun hHeld => ?_)
        · first | exact ⟨y5, o1, o2⟩ | exact ⟨y56, o16, o26⟩ | exact ⟨y5z, o1z, o2z⟩
        refine heldL_take (i := 0) (v := ?_) rfl (by kernel_rfl) (by kernel_rfl) (by kernel_rfl) [15] (by kernel_rfl) (by kernel_rfl) (fun _ _ _ h => h) (Or.inl ⟨by rfl, ?_⟩) (by assumption) ?_; rotate_left; (focus (intro w hSw; (try dsimp only at hSw); go_simp; try with_reducible rfl))
        try simp only [Act.put, List.getElem_toArray, List.getElem_cons_zero, List.getElem_cons_succ, List.setIfInBounds_toArray, List.set_cons_zero, List.set_cons_succ]
        refine heldL_take (i := 1) (v := ?_) rfl (by kernel_rfl) (by kernel_rfl) (by kernel_rfl) [15] (by kernel_rfl) (by kernel_rfl) (fun _ _ _ h => h) (Or.inl ⟨by rfl, ?_⟩) (by assumption) ?_; rotate_left; (focus (intro w hSw; (try dsimp only at hSw); go_simp; try with_reducible rfl))
        try simp only [Act.put, List.getElem_toArray, List.getElem_cons_zero, List.getElem_cons_succ, List.setIfInBounds_toArray, List.set_cons_zero, List.set_cons_succ]
        refine heldL_take (i := 2) (v := ?_) rfl (by kernel_rfl) (by kernel_rfl) (by kernel_rfl) [15] (by kernel_rfl) (by kernel_rfl) (fun _ _ _ h => h) (Or.inl ⟨by rfl, ?_⟩) (by assumption) ?_; rotate_left; (focus (intro w hSw; (try dsimp only at hSw); go_simp; try with_reducible rfl))
        try simp only [Act.put, List.getElem_toArray, List.getElem_cons_zero, List.getElem_cons_succ, List.setIfInBounds_toArray, List.set_cons_zero, List.set_cons_succ]
        refine heldL_take (i := 3) (v := ?_) rfl (by kernel_rfl) (by kernel_rfl) (by kernel_rfl) [15] (by kernel_rfl) (by kernel_rfl) (fun _ _ _ h => h) (Or.inl ⟨by rfl, ?_⟩) (by assumption) ?_; rotate_left; (focus (intro w hSw; (try dsimp only at hSw); go_simp; try with_reducible rfl))
        try simp only [Act.put, List.getElem_toArray, List.getElem_cons_zero, List.getElem_cons_succ, List.setIfInBounds_toArray, List.set_cons_zero, List.set_cons_succ]
        refine heldL_take (i := 4) (v := ?_) rfl (by kernel_rfl) (by kernel_rfl) (by kernel_rfl) [15] (by kernel_rfl) (by kernel_rfl) (fun _ _ _ h => h) (Or.inl ⟨by rfl, ?_⟩) (by assumption) ?_; rotate_left; (focus (intro w hSw; (try dsimp only at hSw); go_simp; try with_reducible rfl))
        try simp only [Act.put, List.getElem_toArray, List.getElem_cons_zero, List.getElem_cons_succ, List.setIfInBounds_toArray, List.set_cons_zero, List.set_cons_succ]
        refine heldL_take (i := 5) (v := ?_) rfl (by kernel_rfl) (by kernel_rfl) (by kernel_rfl) [15] (by kernel_rfl) (by kernel_rfl) (fun _ _ _ h => h) (Or.inl ⟨by rfl, ?_⟩) (by assumption) ?_; rotate_left; (focus (intro w hSw; (try dsimp only at hSw); go_simp; try with_reducible rfl))
        try simp only [Act.put, List.getElem_toArray, List.getElem_cons_zero, List.getElem_cons_succ, List.setIfInBounds_toArray, List.set_cons_zero, List.set_cons_succ]
        refine heldL_take (i := 6) (v := ?_) rfl (by kernel_rfl) (by kernel_rfl) (by kernel_rfl) [15] (by kernel_rfl) (by kernel_rfl) (fun _ _ _ h => h) (Or.inl ⟨by rfl, ?_⟩) (by assumption) ?_; rotate_left; (focus (intro w hSw; (try dsimp only at hSw); go_simp; try with_reducible rfl))
        try simp only [Act.put, List.getElem_toArray, List.getElem_cons_zero, List.getElem_cons_succ, List.setIfInBounds_toArray, List.set_cons_zero, List.set_cons_succ]
        refine heldL_take (i := 7) (v := ?_) rfl (by kernel_rfl) (by kernel_rfl) (by kernel_rfl) [15] (by kernel_rfl) (by kernel_rfl) (fun _ _ _ h => h) (Or.inl ⟨by rfl, ?_⟩) (by assumption) ?_; rotate_left; (focus (intro w hSw; (try dsimp only at hSw); go_simp; try with_reducible rfl))
        try simp only [Act.put, List.getElem_toArray, List.getElem_cons_zero, List.getElem_cons_succ, List.setIfInBounds_toArray, List.set_cons_zero, List.set_cons_succ]
        refine heldL_take (i := 8) (v := ?_) rfl (by kernel_rfl) (by kernel_rfl) (by kernel_rfl) [15] (by kernel_rfl) (by kernel_rfl) (fun _ _ _ h => h) (Or.inl ⟨by rfl, ?_⟩) (by assumption) ?_; rotate_left; (focus (intro w hSw; (try dsimp only at hSw); go_simp; try with_reducible rfl))
        try simp only [Act.put, List.getElem_toArray, List.getElem_cons_zero, List.getElem_cons_succ, List.setIfInBounds_toArray, List.set_cons_zero, List.set_cons_succ]
        refine heldL_take (i := 11) (v := ?_) rfl (by kernel_rfl) (by kernel_rfl) (by kernel_rfl) [12, 13, 14, 15] (by kernel_rfl) (by kernel_rfl) (fun _ _ _ h => h) (Or.inl ⟨by rfl, ?_⟩) (by assumption) ?_; rotate_left; (focus (intro w hSw; (try dsimp only at hSw); go_simp; try with_reducible rfl))
        try simp only [Act.put, List.getElem_toArray, List.getElem_cons_zero, List.getElem_cons_succ, List.setIfInBounds_toArray, List.set_cons_zero, List.set_cons_succ]
        refine heldL_take (i := 12) (v := ?_) rfl (by kernel_rfl) (by kernel_rfl) (by kernel_rfl) [13, 14, 15] (by kernel_rfl) (by kernel_rfl) (fun _ _ _ h => h) (Or.inl ⟨by rfl, ?_⟩) (by assumption) ?_; rotate_left; (focus (intro w hSw; (try dsimp only at hSw); go_simp; try with_reducible rfl))
        try simp only [Act.put, List.getElem_toArray, List.getElem_cons_zero, List.getElem_cons_succ, List.setIfInBounds_toArray, List.set_cons_zero, List.set_cons_succ]
        refine heldL_step (i := 9) (by kernel_rfl) rfl (fun K hK => ?_)
        try simp only [List.getElem_toArray, List.getElem_cons_zero, List.getElem_cons_succ]
        go_simp
        skip
        try go_wp2_with fail
        refine hK.out _ _ ?_ (fun hHeld => ?_)
        · first | exact ⟨y5, o1, o2⟩ | exact ⟨y56, o16, o26⟩ | exact ⟨y5z, o1z, o2z⟩
        clear hK K
        try simp only [Act.put, List.getElem_toArray, List.getElem_cons_zero, List.getElem_cons_succ, List.setIfInBounds_toArray, List.set_cons_zero, List.set_cons_succ]
        refine heldL_step (i := 10) (by kernel_rfl) rfl (fun K hK => ?_)
        try simp only [List.getElem_toArray, List.getElem_cons_zero, List.getElem_cons_succ]
        (rw [if_pos (by simp [Region.wanted])]; refine wp_append_lies _ _ _ _ (by rfl) B 110 i0 _ 4 24 Try.underlying60 hi0 hz0 hz1 hz2 rfl (by omega) (.slice ra rl rc) rl (rrCells (s1.s jn).reads) (by rfl) R6 ⟨w4.heap.size, 0, none⟩ 1 1 [.int .i64 key, .int .i64 hi, .bool false, .bool true] (by rfl) (by rfl) (World.news_of_block (cs := #[.int .i64 key, .int .i64 hi, .bool false, .bool true]) (t := 110) (fr := (0, 0)) (heap_alloc_new w4 _)) (by simp [Value.oneCell']) (by omega) (by unfold maxLen; omega) (by omega) (by simp; omega) (w4.heap.size + 1) (by simp) ?_; intro gg cap w1 hown2 hgrow hat hlt2; have cz : w1.cell? ⟨m, 3 + jn * 6 + 5, none⟩ = some (.slice ra rl rc) := (hgrow.cell_far ⟨m, 3 + jn * 6 + 5, none⟩ hm6 (fun e => nrow e.symm)).trans m6; have fz1 : w1.frozen? ⟨m, 3 + jn * 6 + 5, none⟩ = false := (hgrow.frozen_far ⟨m, 3 + jn * 6 + 5, none⟩ hm6 (fun e => nrow e.symm)).trans f6; have y5z : w1.cell? ⟨tb, 5, none⟩ = some (.slice ra rl rc) := (hgrow.cell_far ⟨tb, 5, none⟩ ht6 (fun e => ntb e.symm)).trans y56; have o1z : w1.cell? ⟨ob, 1, none⟩ = some (.int .i64 key) := (hgrow.cell_far ⟨ob, 1, none⟩ ho6 (fun e => nob e.symm)).trans o16; have o2z : w1.cell? ⟨ob, 2, none⟩ = some (.int .i64 hi) := (hgrow.cell_far ⟨ob, 2, none⟩ ho6 (fun e => nob e.symm)).trans o26)
        refine hK.out _ _ ?_ (fun hHeld => ?_)
        · first | exact ⟨y5, o1, o2⟩ | exact ⟨y56, o16, o26⟩ | exact ⟨y5z, o1z, o2z⟩
        clear hK K
        try simp only [Act.put, List.getElem_toArray, List.getElem_cons_zero, List.getElem_cons_succ, List.setIfInBounds_toArray, List.set_cons_zero, List.set_cons_succ]
        refine heldL_take (i := 13) (v := ?_) rfl (by kernel_rfl) (by kernel_rfl) (by kernel_rfl) [14, 15] (by kernel_rfl) (by kernel_rfl) (fun _ _ _ h => h) (Or.inl ⟨by rfl, ?_⟩) (by assumption) ?_; rotate_left; (focus (intro w hSw; (try dsimp only at hSw); go_simp; try with_reducible rfl))
        try simp only [Act.put, List.getElem_toArray, List.getElem_cons_zero, List.getElem_cons_succ, List.setIfInBounds_toArray, List.set_cons_zero, List.set_cons_succ]
        refine heldL_take (i := 14) (v := ?_) rfl (by kernel_rfl) (by kernel_rfl) (by kernel_rfl) [15] (by kernel_rfl) (by kernel_rfl) (fun _ _ _ h => h) (Or.inl ⟨by rfl, ?_⟩) (by assumption) ?_; rotate_left; (focus (intro w hSw; (try dsimp only at hSw); go_simp; try with_reducible rfl))
        try simp only [Act.put, List.getElem_toArray, List.getElem_cons_zero, List.getElem_cons_succ, List.setIfInBounds_toArray, List.set_cons_zero, List.set_cons_succ]
        refine heldL_last (by kernel_rfl) rfl (by kernel_rfl) (fun K hK => ?_)
        try simp only [List.getElem_toArray, List.getElem_cons_zero, List.getElem_cons_succ]
        go_simp
        skip
        try go_wp2_with fail
        refine hK.out _ _ ?_
        clear hK K
        try simp only [Act.put, List.getElem_toArray, List.getElem_cons_zero, List.getElem_cons_succ, List.setIfInBounds_toArray, List.set_cons_zero, List.set_cons_succ]
        obtain ⟨P7, A7, H7_⟩ := APP.out gg cap w1 hown2 hgrow hat hlt2
        have H7 := Lib.hid H7_
        clear H7_
        generalize hW7 : World.setCell w1 _ _ = W7 at *
        clear hown2 hgrow hat hlt2 cz fz1 hW7 APP m6 f6 R6 z6 hm6 ht6 ho6 nrow ntb nob y56 o16 o26 y5z o1z o2z y5 o1 o2 hB5 hbd hi0 hz0 hz1 hz2
        clear o0
        have C := ref_scanI H7.out.mod id lv op bg wa wl wc_ ra rl rc key hi hko.1 s5a s5b
        obtain ⟨ps, hps⟩ : ∃ ps, ps = (rKeys key hi).filterMap (s1.pairOf id bg) := ⟨_, rfl⟩
        rw [show (s1.setS jn ((s1.s jn).read ⟨key, hi, false, true⟩)).pairOf = s1.pairOf from rfl, ← hps] at C
        have HE2 : Hid (s.do_ jn ⟨kind, key, hi, value⟩ = (⟨0, 0, ps, 0, 0⟩, 0, s1.setS jn ((s1.s jn).read ⟨key, hi, false, true⟩))) := Lib.hid (by rw [HE.out]; unfold RSt.scan; rw [← TXI.out, ← TXB.out, ← hps])
        clear HE hps
        have y0 : W7.cell? ⟨tb, 0, none⟩ = some (.int .i64 id) := (H7.out.own _ List.mem_cons_self).1.cell 0
        have y1 : W7.cell? ⟨tb, 1, none⟩ = some (.int .i64 lv) := (H7.out.own _ List.mem_cons_self).1.cell 1
        have y2 : W7.cell? ⟨tb, 2, none⟩ = some (.int .i64 op) := (H7.out.own _ List.mem_cons_self).1.cell 2
        have y3 : W7.cell? ⟨tb, 3, none⟩ = some (.int .u64 bg) := (H7.out.own _ List.mem_cons_self).1.cell 3
        have y4 : W7.cell? ⟨tb, 4, none⟩ = some (.slice wa wl wc_) := (H7.out.own _ List.mem_cons_self).1.cell 4
        have y5 : W7.cell? ⟨tb, 5, none⟩ = some (.slice ra rl rc) := (H7.out.own _ List.mem_cons_self).1.cell 5
        have o0 : W7.cell? ⟨ob, 0, none⟩ = some (.int .i64 kind) := (H7.out.own _ (List.mem_cons_of_mem _ (List.mem_cons_of_mem _ List.mem_cons_self))).1.cell 0
        have o1 : W7.cell? ⟨ob, 1, none⟩ = some (.int .i64 key) := (H7.out.own _ (List.mem_cons_of_mem _ (List.mem_cons_of_mem _ List.mem_cons_self))).1.cell 1
        have o2 : W7.cell? ⟨ob, 2, none⟩ = some (.int .i64 hi) := (H7.out.own _ (List.mem_cons_of_mem _ (List.mem_cons_of_mem _ List.mem_cons_self))).1.cell 2
        have o3 : W7.cell? ⟨ob, 3, none⟩ = some (.int .i64 value) := (H7.out.own _ (List.mem_cons_of_mem _ (List.mem_cons_of_mem _ List.mem_cons_self))).1.cell 3
        go_wp2_with fail
        refine C.mono ?_
        rintro e w8 ⟨⟨pa, pc, rfl, hpi, hpf⟩, o8_⟩
        have H8 := Lib.hid (H7.out.only0 o8_)
        have HPF : Hid (PairsIn w8 pa ps ∧ ∀ y, pa = some y → w.heap.size ≤ y.block ∧ ¬ P7 y.block ∧ y.block ≠ n0) := Lib.hid ⟨hpi, fun y hy => ⟨Nat.le_trans H7.out.only.size (hpf y hy), fun hp => by have := H7.out.mod.under _ hp; have := hpf y hy; omega, fun e => by have := (H7.out.own _ (List.mem_cons_of_mem _ List.mem_cons_self)).1.lt; have := hpf y hy; simp only at *; omega⟩⟩
        clear C o8_ H7 hpi hpf
        clear o0 o1 o2 o3
        clear y0 y1 y2 y3 y4 y5
        have X9 := (H8.out.own _ (List.mem_cons_of_mem _ List.mem_cons_self)).1
        have HX9 := Lib.hid X9
        have b0 := X9.cell 0
        have b1 := X9.cell 1
        have b2 := X9.cell 2
        have b3 := X9.cell 3
        have b4 := X9.cell 4
        have bf := fun i => X9.free i
        clear X9
        go_wp2_with fail
        obtain ⟨B9, o9⟩ := set5 HX9.out (.int .i64 0) (.int .i64 0) (.slice pa ps.length pc) (.int .i64 0) (.int .i64 0)
        refine bodyPost_ret (results_cell_tmp Try.results30 _ _ n0 _ _ _ _ (.int .i64 0) rfl rfl B9 Try.underlying27 rfl info_res) rfl ?_
        rw [HE2.out]
        exact H8.out.re (List.mem_cons_of_mem _ List.mem_cons_self) o9 HPF.out.1 HPF.out.2
      have k5b : (kind == 5) = false := by simpa using k5
      have HE : Hid (s.do_ jn ⟨kind, key, hi, value⟩ = ((s1.write jn kind key value).1, 0, (s1.write jn kind key value).2)) := Lib.hid (by rw [HE1.out, if_neg k1, if_neg k5])
      have k234 : kind = 2 ∨ kind = 3 ∨ kind = 4 := by
        have := HKK.out
        have n7 : ¬ kind = 7 := by simpa using k7b
        have n6 : ¬ kind = 6 := by simpa using k6b
        omega
      have C := ref_write ⟨_, H4.out.mod⟩ jn hj kind key hi value k234 hko.1 hko.2 HOW.out HOR.out
      have HPN : Hid ((s1.write jn kind key value).1.pairs = []) := Lib.hid (rwrite_pairs s1 jn kind key value)
      clear HE1 k1 k5 HKK HKS k7b k6b k234
      generalize s1.write jn kind key value = rr at *
      obtain ⟨⟨re, rv, rp, ro, rn⟩, s8⟩ := rr
      simp only [resV] at C
      go_wp2_with fail
      refine (C).mono ?_
      rintro e w8 ⟨P8, rfl, ⟨A8, M8⟩, o8, g8⟩
      have H8 := Lib.hid (H4.out.step M8 o8 g8)
      clear M8 o8 g8 H4
      clear o0 o1 o2 o3 C
      have X9 := (H8.out.own _ (List.mem_cons_of_mem _ List.mem_cons_self)).1
      have HX9 := Lib.hid X9
      have b0 := X9.cell 0
      have b1 := X9.cell 1
      have b2 := X9.cell 2
      have b3 := X9.cell 3
      have b4 := X9.cell 4
      have bf := fun i => X9.free i
      clear X9
      go_wp2_with fail
      obtain ⟨B9, o9⟩ := set5 HX9.out (.int .i64 re) (.int .i64 rv) (.slice none 0 0) (.int .i64 ro) (.int .i64 rn)
      refine bodyPost_ret (results_cell_tmp Try.results30 _ _ n0 _ _ _ _ (.int .i64 0) rfl rfl B9 Try.underlying27 rfl info_res) rfl ?_
      rw [HE.out]
      have hpn : rp = [] := HPN.out
      subst hpn
      exact H8.out.re (List.mem_cons_of_mem _ List.mem_cons_self) o9 (.inl rfl) (fun y hy => by cases hy)
  end Go.Proofs.Ytcbhafddehipdaa

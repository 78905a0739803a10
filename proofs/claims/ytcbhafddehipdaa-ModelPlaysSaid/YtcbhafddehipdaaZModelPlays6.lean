/-
  ModelPlays: what its proof rests on, part 6.
-/
import Derived.Deep.QuietTactic
import Derived.BigQuiet
import Derived.Test.YtcbhafddehipdaaZModelPlays4
import Derived.Test.YtcbhafddehipdaaZModelPlays5
namespace Go.Proofs.Ytcbhafddehipdaa
open Go.RowKit
attribute [local go_sem ↓] Go.wp_at_zero Go.wp_at_succ
set_option linter.unusedVariables false
set_option linter.unusedSimpArgs false
theorem set_get_same {α : Type} [Inhabited α] (l : List α) (k : Nat) : l.set k (l.getD k default) = l := by
  refine List.ext_getElem (by simp) fun i h1 h2 => ?_
  rw [List.getElem_set]
  split
  · rename_i e; subst e
    rw [List.getD_eq_getElem?_getD, List.getElem?_eq_getElem h2]; rfl
  · rfl
theorem rDoneV_cases (id now : Int) (kk vv by_ en bg fn : Int) (dd : Bool) : rDoneV id now ⟨kk, vv, by_, en, bg, fn, dd⟩ = ⟨kk, vv, if by_ = id then 0 else by_, if en = id then 0 else en, if by_ = id then now else bg, if en = id then now else fn, dd⟩ := rfl
set_option maxRecDepth 100000 in
set_option maxHeartbeats 16000000 in
theorem ref_commit {B m : Nat} {w : World} {P0 : Nat → Prop} {s : RSt} (h : RAt B w P0 m s) (j : Nat) (hj : j < 8) :
    Calls Try.prog 58 #[.pointer (some ⟨m, 0, none⟩), .int .i64 j] w (RRes B m w P0 (resV (s.commit j).1) (s.commit j).2) := by
  obtain ⟨A, h⟩ := h
  obtain ⟨W, hW⟩ : ∃ W, W = w.alloc (.cells #[.int .i64 0, .int .i64 0, .slice none 0 0, .int .i64 0, .int .i64 0] 27) := ⟨_, rfl⟩
  obtain ⟨n0, hn0⟩ : ∃ n0, n0 = w.heap.size := ⟨_, rfl⟩
  have H0 : Hid (RcI B w P0 m [⟨n0, 27, #[.int .i64 0, .int .i64 0, .slice none 0 0, .int .i64 0, .int .i64 0]⟩] s P0 A W) := by
    rw [hn0, hW]; exact (RcI.start h).alloc _ _
  have HN0 := Lib.hid hn0
  have j8 : (j : Int) < 8 := by omega
  have j0 : (0 : Int) ≤ (j : Int) := by omega
  have tb := h.ok.time
  have lb := h.ok.limit
  clear h hn0
  go_enter Try.func58, Try.ntmps58
  go_upto_region 1 with (fail)
  rw [← hW, ← HN0.out]
  clear hW
  obtain ⟨m0, m1, m2, m51, m52⟩ := H0.out.mod.head
  have H1 := Lib.hid (H0.out.only0 (Only0.refl W).drew)
  clear H0
  refine wp_region_held_drew (S := (fun w' => w'.cell? ⟨m, 51, none⟩ = some (.int .u64 s.time) ∧ w'.cell? ⟨m, 1, none⟩ = some (.int .u64 s.limit))) (by kernel_rfl) ?_ (fun hHeld => ?_)
  · exact ⟨m51, m1⟩
  refine wpAnyH_take (i := 0) (v := ?_) rfl (by kernel_rfl) (by kernel_rfl) (by kernel_rfl) (fun _ _ _ h => h) (Or.inl ⟨by rfl, ?_⟩) (by assumption) ?_; rotate_left; (focus (intro w hSw; (try dsimp only at hSw); go_simp; try with_reducible rfl))
  try simp only [Act.put, List.getElem_toArray, List.getElem_cons_zero, List.getElem_cons_succ, List.setIfInBounds_toArray, List.set_cons_zero, List.set_cons_succ]
  refine wpAnyH_take (i := 1) (v := ?_) rfl (by kernel_rfl) (by kernel_rfl) (by kernel_rfl) (fun _ _ _ h => h) (Or.inl ⟨by rfl, ?_⟩) (by assumption) ?_; rotate_left; (focus (intro w hSw; (try dsimp only at hSw); go_simp; try with_reducible rfl))
  try simp only [Act.put, List.getElem_toArray, List.getElem_cons_zero, List.getElem_cons_succ, List.setIfInBounds_toArray, List.set_cons_zero, List.set_cons_succ]
  refine wpAnyH_take (i := 2) (v := ?_) rfl (by kernel_rfl) (by kernel_rfl) (by kernel_rfl) (fun _ _ _ h => h) (Or.inl ⟨by rfl, ?_⟩) (by assumption) ?_; rotate_left; (focus (intro w hSw; (try dsimp only at hSw); go_simp; try with_reducible rfl))
  try simp only [Act.put, List.getElem_toArray, List.getElem_cons_zero, List.getElem_cons_succ, List.setIfInBounds_toArray, List.set_cons_zero, List.set_cons_succ]
  refine wpAnyH_take (i := 3) (v := ?_) rfl (by kernel_rfl) (by kernel_rfl) (by kernel_rfl) (fun _ _ _ h => h) (Or.inl ⟨by rfl, ?_⟩) (by assumption) ?_; rotate_left; (focus (intro w hSw; (try dsimp only at hSw); go_simp; try with_reducible rfl))
  try simp only [Act.put, List.getElem_toArray, List.getElem_cons_zero, List.getElem_cons_succ, List.setIfInBounds_toArray, List.set_cons_zero, List.set_cons_succ]
  refine wpAnyH_take (i := 4) (v := ?_) rfl (by kernel_rfl) (by kernel_rfl) (by kernel_rfl) (fun _ _ _ h => h) (Or.inl ⟨by rfl, ?_⟩) (by assumption) ?_; rotate_left; (focus (intro w hSw; (try dsimp only at hSw); go_simp; try with_reducible rfl))
  try simp only [Act.put, List.getElem_toArray, List.getElem_cons_zero, List.getElem_cons_succ, List.setIfInBounds_toArray, List.set_cons_zero, List.set_cons_succ]
  refine wpAnyH_take (i := 5) (v := ?_) rfl (by kernel_rfl) (by kernel_rfl) (by kernel_rfl) (fun _ _ _ h => h) (Or.inl ⟨by rfl, ?_⟩) (by assumption) ?_; rotate_left; (focus (intro w hSw; (try dsimp only at hSw); go_simp; try with_reducible rfl))
  try simp only [Act.put, List.getElem_toArray, List.getElem_cons_zero, List.getElem_cons_succ, List.setIfInBounds_toArray, List.set_cons_zero, List.set_cons_succ]
  refine wpAnyH_take (i := 6) (v := ?_) rfl (by kernel_rfl) (by kernel_rfl) (by kernel_rfl) (fun _ _ _ h => h) (Or.inl ⟨by rfl, ?_⟩) (by assumption) ?_; rotate_left; (focus (intro w hSw; (try dsimp only at hSw); go_simp; try with_reducible rfl))
  try simp only [Act.put, List.getElem_toArray, List.getElem_cons_zero, List.getElem_cons_succ, List.setIfInBounds_toArray, List.set_cons_zero, List.set_cons_succ]
  refine wpAnyH_take (i := 7) (v := ?_) rfl (by kernel_rfl) (by kernel_rfl) (by kernel_rfl) (fun _ _ _ h => h) (Or.inl ⟨by rfl, ?_⟩) (by assumption) ?_; rotate_left; (focus (intro w hSw; (try dsimp only at hSw); go_simp; try with_reducible rfl))
  try simp only [Act.put, List.getElem_toArray, List.getElem_cons_zero, List.getElem_cons_succ, List.setIfInBounds_toArray, List.set_cons_zero, List.set_cons_succ]
  refine wpAnyH_take (i := 8) (v := ?_) rfl (by kernel_rfl) (by kernel_rfl) (by kernel_rfl) (fun _ _ _ h => h) (Or.inl ⟨by rfl, ?_⟩) (by assumption) ?_; rotate_left; (focus (intro w hSw; (try dsimp only at hSw); go_simp; try with_reducible rfl))
  try simp only [Act.put, List.getElem_toArray, List.getElem_cons_zero, List.getElem_cons_succ, List.setIfInBounds_toArray, List.set_cons_zero, List.set_cons_succ]
  refine wpAnyH_take (i := 9) (v := ?_) rfl (by kernel_rfl) (by kernel_rfl) (by kernel_rfl) (fun _ _ _ h => h) (Or.inl ⟨by rfl, ?_⟩) (by assumption) ?_; rotate_left; (focus (intro w hSw; (try dsimp only at hSw); go_simp; try with_reducible rfl))
  try simp only [Act.put, List.getElem_toArray, List.getElem_cons_zero, List.getElem_cons_succ, List.setIfInBounds_toArray, List.set_cons_zero, List.set_cons_succ]
  refine wpAnyH_done (by kernel_rfl) ?_ _
  clear m0 m1 m2 m51 m52
  generalize W.drew = w1 at *
  by_cases hl : s.limit ≤ s.time
  · have HE : Hid (s.commit j = (abortRes 14 6, s.over j)) := Lib.hid (by unfold RSt.commit; rw [if_pos hl])
    go_wp2_with fail
    refine (ref_over ⟨_, H1.out.mod⟩ j hj 14 6).mono ?_
    rintro e w8 ⟨P8, rfl, ⟨A8, M8⟩, o8, g8⟩
    have H8 := Lib.hid (H1.out.step M8 o8 g8)
    clear M8 o8 g8 H1
    have X8 := (H8.out.own _ (List.mem_cons_self)).1
    have HX8 := Lib.hid X8
    have b0 := X8.cell 0
    have b1 := X8.cell 1
    have b2 := X8.cell 2
    have b3 := X8.cell 3
    have b4 := X8.cell 4
    have bf := fun i => X8.free i
    clear X8
    go_wp2_with fail
    obtain ⟨B9, o9⟩ := set5 HX8.out (.int .i64 14) (.int .i64 0) (.slice none 0 0) (.int .i64 4) (.int .i64 6)
    refine bodyPost_ret (v := .agg #[.int .i64 14, .int .i64 0, .slice none 0 0, .int .i64 4, .int .i64 6]) (results_cell_row Try.results58 _ _ n0 _ _ _ _ rfl B9 Try.underlying27 rfl info_res) rfl ?_
    rw [HE.out]
    exact H8.out.done List.mem_cons_self o9
  · have hl2 : s.time < s.limit := by omega
    have HE : Hid (s.commit j = if !decide ((s.s j).level = 1) && !s.tick.holds (s.s j) then (abortRes 14 3, s.tick.over j) else (⟨0, 0, [], 3, 0⟩, s.tick.done j)) := Lib.hid (by unfold RSt.commit; rw [if_neg hl])
    obtain ⟨MT, oT⟩ := H1.out.mod.tick hl2
    have H2 := Lib.hid (H1.out.step MT oT (Grew.refl _ _))
    obtain ⟨m0, m1, m2, m51, m52⟩ := H1.out.mod.head
    have mf := fun i => H1.out.mod.free i
    clear H1 MT oT
    obtain ⟨w2, hw2⟩ : ∃ w2, w2 = w1.setCell ⟨m, 51, none⟩ (.int .u64 (s.time + 1)) := ⟨_, rfl⟩
    rw [← hw2] at H2
    go_upto_region 4 with (fail)
    rw [← hw2]
    clear hw2 m0 m1 m2 m51 m52 mf
    have es : Hid ((s.tick).s j = s.s j) := rfl
    have el : Hid ((s.tick).limit = s.limit) := rfl
    have et : Hid ((s.tick).time = s.time + 1) := rfl
    generalize hs1 : s.tick = s1 at *
    have HS1 := Lib.hid hs1
    clear hs1
    obtain ⟨w3, hw3⟩ : ∃ w3, w3 = w2.alloc (.cells #[.int .i64 (s.s j).id, .int .i64 (s.s j).level, .int .i64 (s.s j).ops, .int .u64 (s.s j).beg, .slice (A.wa j) (s.s j).wrote.length (A.wc j), .slice (A.ra j) (s.s j).reads.length (A.rc j)] 62) := ⟨_, rfl⟩
    obtain ⟨tb_, htb⟩ : ∃ b, b = w2.heap.size := ⟨_, rfl⟩
    have H3 : Hid (RcI B w P0 m [⟨tb_, 62, #[.int .i64 (s.s j).id, .int .i64 (s.s j).level, .int .i64 (s.s j).ops, .int .u64 (s.s j).beg, .slice (A.wa j) (s.s j).wrote.length (A.wc j), .slice (A.ra j) (s.s j).reads.length (A.rc j)]⟩, ⟨n0, 27, #[.int .i64 0, .int .i64 0, .slice none 0 0, .int .i64 0, .int .i64 0]⟩] s1 P0 A w3) := by
      rw [htb, hw3]; exact H2.out.alloc _ _
    obtain ⟨t0, t1, t2, t3, t4, t5⟩ := H2.out.mod.txCells hj
    rw [es.out] at t0 t1 t2 t3 t4 t5
    clear H2
    go_upto_region 5 with (fail)
    rw [← hw3, ← htb]
    clear hw3 htb t0 t1 t2 t3 t4 t5
    obtain ⟨bad, hbad⟩ : ∃ b, b = (!decide ((s.s j).level = 1) && !s1.holds (s.s j)) := ⟨_, rfl⟩
    rw [← hbad] at HE
    have HBAD := Lib.hid hbad
    clear hbad
    have X3 := (H3.out.own _ List.mem_cons_self).1
    have x0 := X3.cell 0
    have x1 := X3.cell 1
    have x2 := X3.cell 2
    have x3 := X3.cell 3
    have x4 := X3.cell 4
    have x5 := X3.cell 5
    simp only [List.getElem?_toArray, List.getElem?_cons_zero, List.getElem?_cons_succ] at x0 x1 x2 x3 x4 x5
    clear X3
    go_cut [42] (fun s42 wx => s42 = .bool bad ∧ Hid (RcI B w P0 m [⟨tb_, 62, #[.int .i64 (s.s j).id, .int .i64 (s.s j).level, .int .i64 (s.s j).ops, .int .u64 (s.s j).beg, .slice (A.wa j) (s.s j).wrote.length (A.wc j), .slice (A.ra j) (s.s j).reads.length (A.rc j)]⟩, ⟨n0, 27, #[.int .i64 0, .int .i64 0, .slice none 0 0, .int .i64 0, .int .i64 0]⟩] s1 P0 A wx))
    case first =>
      by_cases h1 : (s.s j).level = 1
      · have hb : Hid (bad = false) := Lib.hid (by rw [HBAD.out]; simp [h1])
        have h1b : ((s.s j).level != 1) = false := by simpa using h1
        clear h1
        go_wp2_with fail
        go_meet
        case rel => exact ⟨by rw [hb.out], H3⟩
      · have h1b : ((s.s j).level != 1) = true := by simpa using h1
        have hb : Hid (bad = !s1.holds (s.s j)) := Lib.hid (by rw [HBAD.out]; simp [h1])
        have hrd := H3.out.mod.readsAt hj
        have hfew := (H3.out.mod.few12 j).2
        have hsp := H3.out.mod.ok.span j
        rw [es.out] at hrd hfew hsp
        have C := ref_holds H3.out.mod (s.s j) (A.wa j) (s.s j).wrote.length (A.wc j) (A.ra j) (A.rc j) (by omega) hrd hsp
        obtain ⟨hs, hhs⟩ : ∃ b, b = s1.holds (s.s j) := ⟨_, rfl⟩
        rw [← hhs] at C hb
        clear hhs h1 hrd hfew hsp
        go_wp2_with fail
        refine C.mono ?_
        rintro e w4 ⟨rfl, o4⟩
        have H4 := Lib.hid (H3.out.only0 o4)
        clear C o4
        go_wp2_with fail
        go_meet
        case rel => exact ⟨by rw [hb.out], H4⟩
    case rest =>
      obtain ⟨rfl, H4⟩ := hcut
      clear H3 x0 x1 x2 x3 x4 x5
      cases bad with
      | true =>
        go_wp2_with fail
        refine (ref_over ⟨_, H4.out.mod⟩ j hj 14 3).mono ?_
        rintro e w8 ⟨P8, rfl, ⟨A8, M8⟩, o8, g8⟩
        have H8 := Lib.hid (H4.out.step M8 o8 g8)
        clear M8 o8 g8 H4
        have X8 := (H8.out.own _ (List.mem_cons_of_mem _ List.mem_cons_self)).1
        have HX8 := Lib.hid X8
        have b0 := X8.cell 0
        have b1 := X8.cell 1
        have b2 := X8.cell 2
        have b3 := X8.cell 3
        have b4 := X8.cell 4
        have bf := fun i => X8.free i
        clear X8
        go_wp2_with fail
        obtain ⟨B9, o9⟩ := set5 HX8.out (.int .i64 14) (.int .i64 0) (.slice none 0 0) (.int .i64 4) (.int .i64 3)
        refine bodyPost_ret (v := .agg #[.int .i64 14, .int .i64 0, .slice none 0 0, .int .i64 4, .int .i64 3]) (results_cell_row Try.results58 _ _ n0 _ _ _ _ rfl B9 Try.underlying27 rfl info_res) rfl ?_
        rw [HE.out]
        exact H8.out.done (List.mem_cons_of_mem _ List.mem_cons_self) o9
      | false =>
        have HE2 : Hid (s.commit j = (⟨0, 0, [], 3, 0⟩, s1.done j)) := HE.out
        clear HE HBAD
        obtain ⟨id, hid⟩ : ∃ id, id = (s.s j).id := ⟨_, rfl⟩
        obtain ⟨nw, hnw⟩ : ∃ nw, nw = s1.time := ⟨_, rfl⟩
        have HID := Lib.hid hid
        have HNW := Lib.hid hnw
        have R0 : Hid (RcI B w P0 m [⟨tb_, 62, #[.int .i64 (s.s j).id, .int .i64 (s.s j).level, .int .i64 (s.s j).ops, .int .u64 (s.s j).beg, .slice (A.wa j) (s.s j).wrote.length (A.wc j), .slice (A.ra j) (s.s j).reads.length (A.rc j)]⟩, ⟨n0, 27, #[.int .i64 0, .int .i64 0, .slice none 0 0, .int .i64 0, .int .i64 0]⟩] { s1 with v := rUpto (rDoneV id nw) s1.v 0 } P0 A wc) := by rw [rUpto_zero]; exact H4.out
        have hlen : s1.v.length ≤ 256 := by have := H4.out.mod.ok.few; have := H4.out.mod.ok.slots; omega
        clear H4 hid hnw tb lb hl hl2 el et
        go_wp2_with fail
        go_loopw [6, 7] (fun s6 s7 wr => ∃ (k : Nat) (v7 : Value), s7 = v7 ∧ k ≤ s1.v.length ∧ s6 = .int .i64 k ∧ Hid (RcI B w P0 m [⟨tb_, 62, #[.int .i64 (s.s j).id, .int .i64 (s.s j).level, .int .i64 (s.s j).ops, .int .u64 (s.s j).beg, .slice (A.wa j) (s.s j).wrote.length (A.wc j), .slice (A.ra j) (s.s j).reads.length (A.rc j)]⟩, ⟨n0, 27, #[.int .i64 0, .int .i64 0, .slice none 0 0, .int .i64 0, .int .i64 0]⟩] { s1 with v := rUpto (rDoneV id nw) s1.v k } P0 A wr)) (fun s6 _ _ => s1.v.length - (intOf s6).toNat)
        case atStart => exact ⟨0, _, rfl, Nat.zero_le _, rfl, R0⟩
        case round =>
          obtain ⟨k, v7, rfl, hk, rfl, HR⟩ := hrel
          clear R0
          have c2 : wr.cell? ⟨m, 2, none⟩ = some (.slice A.va s1.v.length A.vc) := by have := HR.out.mod.head.2.2.1; rw [rUpto_len] at this; exact this
          by_cases hlt : k < s1.v.length
          · obtain ⟨g, hg⟩ : ∃ g, A.va = some ⟨g, 0, none⟩ := by
              rcases HR.out.mod.rowAt with ⟨_, e, _⟩ | ⟨g, hg, _, _⟩
              · rw [rUpto_len] at e; omega
              · exact ⟨g, hg⟩
            have hk' : k < (rUpto (rDoneV id nw) s1.v k).length := by rw [rUpto_len]; exact hlt
            have US := Lib.hid (rUpto_set (rDoneV id nw) s1.v k hlt)
            have hgd := rUpto_get (rDoneV id nw) s1.v k hlt
            obtain ⟨v, hv⟩ : ∃ v, s1.v.getD k default = v := ⟨_, rfl⟩
            rw [hv] at hgd US
            obtain ⟨kk, vv, by_, en, bg, fn, dd⟩ := v
            have HGD := Lib.hid hgd
            obtain ⟨hc, hf⟩ := HR.out.mod.verCells hg hk'
            rw [hgd] at hc
            have q2 : wr.cell? ⟨g, k * 7 + 2, none⟩ = some (.int .i64 by_) := hc 2 (by omega)
            have HX := Lib.hid (HR.out.only0 (Only0.refl wr).drew)
            have x0 : wr.cell? ⟨tb_, 0, none⟩ = some (.int .i64 id) := by rw [HID.out]; exact (HR.out.own _ List.mem_cons_self).1.cell 0
            have HG := Lib.hid hg
            have HK' := Lib.hid hk'
            rw [hg] at c2
            clear hc hf hgd hv HR hk' hg
            go_wp2_with fail
            refine wp_region_held_drew (S := (fun w' => w'.cell? ⟨g, k * 7 + 2, none⟩ = some (.int .i64 by_) ∧ w'.cell? ⟨tb_, 0, none⟩ = some (.int .i64 id))) (by kernel_rfl) ?_ (fun hHeld => ?_)
            · exact ⟨q2, x0⟩
            refine wpAnyH_take (i := 0) (v := ?_) rfl (by kernel_rfl) (by kernel_rfl) (by kernel_rfl) (fun _ _ _ h => h) (Or.inl ⟨by rfl, ?_⟩) (by assumption) ?_; rotate_left; (focus (intro w hSw; (try dsimp only at hSw); go_simp; try with_reducible rfl))
            try simp only [Act.put, List.getElem_toArray, List.getElem_cons_zero, List.getElem_cons_succ, List.setIfInBounds_toArray, List.set_cons_zero, List.set_cons_succ]
            refine wpAnyH_take (i := 1) (v := ?_) rfl (by kernel_rfl) (by kernel_rfl) (by kernel_rfl) (fun _ _ _ h => h) (Or.inl ⟨by rfl, ?_⟩) (by assumption) ?_; rotate_left; (focus (intro w hSw; (try dsimp only at hSw); go_simp; try with_reducible rfl))
            try simp only [Act.put, List.getElem_toArray, List.getElem_cons_zero, List.getElem_cons_succ, List.setIfInBounds_toArray, List.set_cons_zero, List.set_cons_succ]
            refine wpAnyH_take (i := 2) (v := ?_) rfl (by kernel_rfl) (by kernel_rfl) (by kernel_rfl) (fun _ _ _ h => h) (Or.inl ⟨by rfl, ?_⟩) (by assumption) ?_; rotate_left; (focus (intro w hSw; (try dsimp only at hSw); go_simp; try with_reducible rfl))
            try simp only [Act.put, List.getElem_toArray, List.getElem_cons_zero, List.getElem_cons_succ, List.setIfInBounds_toArray, List.set_cons_zero, List.set_cons_succ]
            refine wpAnyH_take (i := 3) (v := ?_) rfl (by kernel_rfl) (by kernel_rfl) (by kernel_rfl) (fun _ _ _ h => h) (Or.inl ⟨by rfl, ?_⟩) (by assumption) ?_; rotate_left; (focus (intro w hSw; (try dsimp only at hSw); go_simp; try with_reducible rfl))
            try simp only [Act.put, List.getElem_toArray, List.getElem_cons_zero, List.getElem_cons_succ, List.setIfInBounds_toArray, List.set_cons_zero, List.set_cons_succ]
            refine wpAnyH_take (i := 4) (v := ?_) rfl (by kernel_rfl) (by kernel_rfl) (by kernel_rfl) (fun _ _ _ h => h) (Or.inl ⟨by rfl, ?_⟩) (by assumption) ?_; rotate_left; (focus (intro w hSw; (try dsimp only at hSw); go_simp; try with_reducible rfl))
            try simp only [Act.put, List.getElem_toArray, List.getElem_cons_zero, List.getElem_cons_succ, List.setIfInBounds_toArray, List.set_cons_zero, List.set_cons_succ]
            refine wpAnyH_take (i := 5) (v := ?_) rfl (by kernel_rfl) (by kernel_rfl) (by kernel_rfl) (fun _ _ _ h => h) (Or.inl ⟨by rfl, ?_⟩) (by assumption) ?_; rotate_left; (focus (intro w hSw; (try dsimp only at hSw); go_simp; try with_reducible rfl))
            try simp only [Act.put, List.getElem_toArray, List.getElem_cons_zero, List.getElem_cons_succ, List.setIfInBounds_toArray, List.set_cons_zero, List.set_cons_succ]
            refine wpAnyH_take (i := 6) (v := ?_) rfl (by kernel_rfl) (by kernel_rfl) (by kernel_rfl) (fun _ _ _ h => h) (Or.inl ⟨by rfl, ?_⟩) (by assumption) ?_; rotate_left; (focus (intro w hSw; (try dsimp only at hSw); go_simp; try with_reducible rfl))
            try simp only [Act.put, List.getElem_toArray, List.getElem_cons_zero, List.getElem_cons_succ, List.setIfInBounds_toArray, List.set_cons_zero, List.set_cons_succ]
            refine wpAnyH_done (by kernel_rfl) ?_ _
            clear q2 x0 c2
            generalize wr.drew = wx at *
            obtain ⟨hc, hf⟩ := HX.out.mod.verCells HG.out HK'.out
            rw [HGD.out] at hc
            have q2 : wx.cell? ⟨g, k * 7 + 2, none⟩ = some (.int .i64 by_) := hc 2 (by omega)
            have q3 : wx.cell? ⟨g, k * 7 + 3, none⟩ = some (.int .i64 en) := hc 3 (by omega)
            have m51 : wx.cell? ⟨m, 51, none⟩ = some (.int .u64 nw) := by rw [HNW.out]; exact HX.out.mod.head.2.2.2.1
            obtain ⟨M1, o1⟩ := HX.out.mod.setVer HG.out HK'.out (f := 2) (by decide) (v' := ⟨kk, vv, 0, en, bg, fn, dd⟩) (u := .int .i64 0) (by rw [HGD.out]; rfl)
            obtain ⟨hc1, hf1⟩ := M1.verCells HG.out (k := k) (by simpa using HK'.out)
            rw [show ({ s1 with v := (rUpto (rDoneV id nw) s1.v k).set k ⟨kk, vv, 0, en, bg, fn, dd⟩ } : RSt).v.getD k default = ⟨kk, vv, 0, en, bg, fn, dd⟩ from getD_set_same _ _ _ HK'.out] at hc1
            have r4 : (wx.setCell ⟨g, k * 7 + 2, none⟩ (.int .i64 0)).cell? ⟨g, k * 7 + 4, none⟩ = some (.int .u64 bg) := hc1 4 (by omega)
            obtain ⟨M2, o2⟩ := HX.out.mod.setVer2 HG.out HK'.out (f := 2) (f2 := 4) (by decide) (by decide) ⟨kk, vv, 0, en, bg, fn, dd⟩ ⟨kk, vv, 0, en, nw, fn, dd⟩ (.int .i64 0) (.int .u64 nw) (by rw [HGD.out]; rfl) rfl
            have HY := Lib.hid (HX.out.step M2 o2 (Grew.refl _ _))
            have HX' : Hid (RcI B w P0 m [⟨tb_, 62, #[.int .i64 (s.s j).id, .int .i64 (s.s j).level, .int .i64 (s.s j).ops, .int .u64 (s.s j).beg, .slice (A.wa j) (s.s j).wrote.length (A.wc j), .slice (A.ra j) (s.s j).reads.length (A.rc j)]⟩, ⟨n0, 27, #[.int .i64 0, .int .i64 0, .slice none 0 0, .int .i64 0, .int .i64 0]⟩] { s1 with v := (rUpto (rDoneV id nw) s1.v k).set k ⟨kk, vv, by_, en, bg, fn, dd⟩ } P0 A wx) := by
              rw [← HGD.out, set_get_same]; exact HX.out
            clear M1 o1 M2 o2 hc hc1 HX
            by_cases h1 : by_ = id
            · have h1b : (by_ == id) = true := by simpa using h1
              have NX : Hid (∃ b1 g1, (b1 = (if by_ = id then 0 else by_) ∧ g1 = (if by_ = id then nw else bg)) ∧ RcI B w P0 m [⟨tb_, 62, #[.int .i64 (s.s j).id, .int .i64 (s.s j).level, .int .i64 (s.s j).ops, .int .u64 (s.s j).beg, .slice (A.wa j) (s.s j).wrote.length (A.wc j), .slice (A.ra j) (s.s j).reads.length (A.rc j)]⟩, ⟨n0, 27, #[.int .i64 0, .int .i64 0, .slice none 0 0, .int .i64 0, .int .i64 0]⟩] { s1 with v := (rUpto (rDoneV id nw) s1.v k).set k ⟨kk, vv, b1, en, g1, fn, dd⟩ } P0 A ((wx.setCell ⟨g, k * 7 + 2, none⟩ (.int .i64 0)).setCell ⟨g, k * 7 + 4, none⟩ (.int .u64 nw))) := ⟨0, nw, by simp [h1], HY.out⟩
              clear HX' HY h1
              go_upto_region 13 with (fail)
              clear q2 q3 m51 r4 h1b hf hf1
              generalize (wx.setCell ⟨g, k * 7 + 2, none⟩ (.int .i64 0)).setCell ⟨g, k * 7 + 4, none⟩ (.int .u64 nw) = wy at *
              obtain ⟨b1, g1, hbg, HY2⟩ := NX.out
              have HBG := Lib.hid hbg
              have HYY := Lib.hid HY2
              have hky : k < ((rUpto (rDoneV id nw) s1.v k).set k (⟨kk, vv, b1, en, g1, fn, dd⟩ : RVer)).length := by simpa using HK'.out
              have HGY : Hid (((rUpto (rDoneV id nw) s1.v k).set k (⟨kk, vv, b1, en, g1, fn, dd⟩ : RVer)).getD k default = ⟨kk, vv, b1, en, g1, fn, dd⟩) := getD_set_same _ _ _ HK'.out
              have HKY := Lib.hid hky
              obtain ⟨hc, hf⟩ := HY2.mod.verCells HG.out hky
              rw [HGY.out] at hc
              have q3 : wy.cell? ⟨g, k * 7 + 3, none⟩ = some (.int .i64 en) := hc 3 (by omega)
              have x0 : wy.cell? ⟨tb_, 0, none⟩ = some (.int .i64 id) := by rw [HID.out]; exact (HY2.own _ List.mem_cons_self).1.cell 0
              have HZ := Lib.hid (HY2.only0 (Only0.refl wy).drew)
              clear hbg HY2 NX HYY hc hf hky
              refine wp_region_held_drew (S := (fun w' => w'.cell? ⟨g, k * 7 + 3, none⟩ = some (.int .i64 en) ∧ w'.cell? ⟨tb_, 0, none⟩ = some (.int .i64 id))) (by kernel_rfl) ?_ (fun hHeld => ?_)
              · exact ⟨q3, x0⟩
              refine wpAnyH_take (i := 0) (v := ?_) rfl (by kernel_rfl) (by kernel_rfl) (by kernel_rfl) (fun _ _ _ h => h) (Or.inl ⟨by rfl, ?_⟩) (by assumption) ?_; rotate_left; (focus (intro w hSw; (try dsimp only at hSw); go_simp; try with_reducible rfl))
              try simp only [Act.put, List.getElem_toArray, List.getElem_cons_zero, List.getElem_cons_succ, List.setIfInBounds_toArray, List.set_cons_zero, List.set_cons_succ]
              refine wpAnyH_take (i := 1) (v := ?_) rfl (by kernel_rfl) (by kernel_rfl) (by kernel_rfl) (fun _ _ _ h => h) (Or.inl ⟨by rfl, ?_⟩) (by assumption) ?_; rotate_left; (focus (intro w hSw; (try dsimp only at hSw); go_simp; try with_reducible rfl))
              try simp only [Act.put, List.getElem_toArray, List.getElem_cons_zero, List.getElem_cons_succ, List.setIfInBounds_toArray, List.set_cons_zero, List.set_cons_succ]
              refine wpAnyH_take (i := 2) (v := ?_) rfl (by kernel_rfl) (by kernel_rfl) (by kernel_rfl) (fun _ _ _ h => h) (Or.inl ⟨by rfl, ?_⟩) (by assumption) ?_; rotate_left; (focus (intro w hSw; (try dsimp only at hSw); go_simp; try with_reducible rfl))
              try simp only [Act.put, List.getElem_toArray, List.getElem_cons_zero, List.getElem_cons_succ, List.setIfInBounds_toArray, List.set_cons_zero, List.set_cons_succ]
              refine wpAnyH_take (i := 3) (v := ?_) rfl (by kernel_rfl) (by kernel_rfl) (by kernel_rfl) (fun _ _ _ h => h) (Or.inl ⟨by rfl, ?_⟩) (by assumption) ?_; rotate_left; (focus (intro w hSw; (try dsimp only at hSw); go_simp; try with_reducible rfl))
              try simp only [Act.put, List.getElem_toArray, List.getElem_cons_zero, List.getElem_cons_succ, List.setIfInBounds_toArray, List.set_cons_zero, List.set_cons_succ]
              refine wpAnyH_take (i := 4) (v := ?_) rfl (by kernel_rfl) (by kernel_rfl) (by kernel_rfl) (fun _ _ _ h => h) (Or.inl ⟨by rfl, ?_⟩) (by assumption) ?_; rotate_left; (focus (intro w hSw; (try dsimp only at hSw); go_simp; try with_reducible rfl))
              try simp only [Act.put, List.getElem_toArray, List.getElem_cons_zero, List.getElem_cons_succ, List.setIfInBounds_toArray, List.set_cons_zero, List.set_cons_succ]
              refine wpAnyH_take (i := 5) (v := ?_) rfl (by kernel_rfl) (by kernel_rfl) (by kernel_rfl) (fun _ _ _ h => h) (Or.inl ⟨by rfl, ?_⟩) (by assumption) ?_; rotate_left; (focus (intro w hSw; (try dsimp only at hSw); go_simp; try with_reducible rfl))
              try simp only [Act.put, List.getElem_toArray, List.getElem_cons_zero, List.getElem_cons_succ, List.setIfInBounds_toArray, List.set_cons_zero, List.set_cons_succ]
              refine wpAnyH_take (i := 6) (v := ?_) rfl (by kernel_rfl) (by kernel_rfl) (by kernel_rfl) (fun _ _ _ h => h) (Or.inl ⟨by rfl, ?_⟩) (by assumption) ?_; rotate_left; (focus (intro w hSw; (try dsimp only at hSw); go_simp; try with_reducible rfl))
              try simp only [Act.put, List.getElem_toArray, List.getElem_cons_zero, List.getElem_cons_succ, List.setIfInBounds_toArray, List.set_cons_zero, List.set_cons_succ]
              refine wpAnyH_done (by kernel_rfl) ?_ _
              clear q3 x0
              generalize wy.drew = wz at *
              obtain ⟨hc, hf⟩ := HZ.out.mod.verCells HG.out HKY.out
              rw [HGY.out] at hc
              have q3 : wz.cell? ⟨g, k * 7 + 3, none⟩ = some (.int .i64 en) := hc 3 (by omega)
              have m51 : wz.cell? ⟨m, 51, none⟩ = some (.int .u64 nw) := by rw [HNW.out]; exact HZ.out.mod.head.2.2.2.1
              obtain ⟨M1, o1⟩ := HZ.out.mod.setVer HG.out HKY.out (f := 3) (by decide) (v' := ⟨kk, vv, b1, 0, g1, fn, dd⟩) (u := .int .i64 0) (by rw [HGY.out]; rfl)
              obtain ⟨hc1, hf1⟩ := M1.verCells HG.out (k := k) (by simpa using HK'.out)
              rw [show ({ s1 with v := ((rUpto (rDoneV id nw) s1.v k).set k ⟨kk, vv, b1, en, g1, fn, dd⟩).set k ⟨kk, vv, b1, 0, g1, fn, dd⟩ } : RSt).v.getD k default = ⟨kk, vv, b1, 0, g1, fn, dd⟩ from getD_set_same _ _ _ HKY.out] at hc1
              have r5 : (wz.setCell ⟨g, k * 7 + 3, none⟩ (.int .i64 0)).cell? ⟨g, k * 7 + 5, none⟩ = some (.int .u64 fn) := hc1 5 (by omega)
              obtain ⟨M2, o2⟩ := HZ.out.mod.setVer2 HG.out HKY.out (f := 3) (f2 := 5) (by decide) (by decide) ⟨kk, vv, b1, 0, g1, fn, dd⟩ ⟨kk, vv, b1, 0, g1, nw, dd⟩ (.int .i64 0) (.int .u64 nw) (by rw [HGY.out]; rfl) rfl
              have M2' := HZ.out.step M2 o2 (Grew.refl _ _)
              simp only [set_set_same] at M2'
              have HM2 := Lib.hid M2'
              clear M1 o1 M2 o2 M2' hc hc1
              by_cases h2 : en = id
              · have h2b : (en == id) = true := by simpa using h2
                have NX : Hid (RcI B w P0 m [⟨tb_, 62, #[.int .i64 (s.s j).id, .int .i64 (s.s j).level, .int .i64 (s.s j).ops, .int .u64 (s.s j).beg, .slice (A.wa j) (s.s j).wrote.length (A.wc j), .slice (A.ra j) (s.s j).reads.length (A.rc j)]⟩, ⟨n0, 27, #[.int .i64 0, .int .i64 0, .slice none 0 0, .int .i64 0, .int .i64 0]⟩] { s1 with v := rUpto (rDoneV id nw) s1.v (k + 1) } P0 A ((wz.setCell ⟨g, k * 7 + 3, none⟩ (.int .i64 0)).setCell ⟨g, k * 7 + 5, none⟩ (.int .u64 nw))) := by
                  rw [← US.out, rDoneV_cases, ← HBG.out.1, ← HBG.out.2, if_pos h2, if_pos h2]; exact HM2.out
                clear HM2 HZ h2 HBG HGD HGY US HG HKY HK'
                go_wp2_with fail
                go_roundw
                case rel => exact ⟨k + 1, _, rfl, by omega, by go_num, NX⟩
                case measure => simp [intOf]; omega
              · have h2b : (en == id) = false := by simpa using h2
                have NX : Hid (RcI B w P0 m [⟨tb_, 62, #[.int .i64 (s.s j).id, .int .i64 (s.s j).level, .int .i64 (s.s j).ops, .int .u64 (s.s j).beg, .slice (A.wa j) (s.s j).wrote.length (A.wc j), .slice (A.ra j) (s.s j).reads.length (A.rc j)]⟩, ⟨n0, 27, #[.int .i64 0, .int .i64 0, .slice none 0 0, .int .i64 0, .int .i64 0]⟩] { s1 with v := rUpto (rDoneV id nw) s1.v (k + 1) } P0 A wz) := by
                  rw [← US.out, rDoneV_cases, ← HBG.out.1, ← HBG.out.2, if_neg h2, if_neg h2]; exact HZ.out
                clear HM2 HZ h2 HBG HGD HGY US HG HKY HK'
                go_wp2_with fail
                go_roundw
                case rel => exact ⟨k + 1, _, rfl, by omega, by go_num, NX⟩
                case measure => simp [intOf]; omega
            · have h1b : (by_ == id) = false := by simpa using h1
              have NX : Hid (∃ b1 g1, (b1 = (if by_ = id then 0 else by_) ∧ g1 = (if by_ = id then nw else bg)) ∧ RcI B w P0 m [⟨tb_, 62, #[.int .i64 (s.s j).id, .int .i64 (s.s j).level, .int .i64 (s.s j).ops, .int .u64 (s.s j).beg, .slice (A.wa j) (s.s j).wrote.length (A.wc j), .slice (A.ra j) (s.s j).reads.length (A.rc j)]⟩, ⟨n0, 27, #[.int .i64 0, .int .i64 0, .slice none 0 0, .int .i64 0, .int .i64 0]⟩] { s1 with v := (rUpto (rDoneV id nw) s1.v k).set k ⟨kk, vv, b1, en, g1, fn, dd⟩ } P0 A wx) := ⟨by_, bg, by simp [h1], HX'.out⟩
              clear HX' HY h1
              go_upto_region 13 with (fail)
              clear q2 q3 m51 r4 h1b hf hf1
              generalize wx = wy at *
              obtain ⟨b1, g1, hbg, HY2⟩ := NX.out
              have HBG := Lib.hid hbg
              have HYY := Lib.hid HY2
              have hky : k < ((rUpto (rDoneV id nw) s1.v k).set k (⟨kk, vv, b1, en, g1, fn, dd⟩ : RVer)).length := by simpa using HK'.out
              have HGY : Hid (((rUpto (rDoneV id nw) s1.v k).set k (⟨kk, vv, b1, en, g1, fn, dd⟩ : RVer)).getD k default = ⟨kk, vv, b1, en, g1, fn, dd⟩) := getD_set_same _ _ _ HK'.out
              have HKY := Lib.hid hky
              obtain ⟨hc, hf⟩ := HY2.mod.verCells HG.out hky
              rw [HGY.out] at hc
              have q3 : wy.cell? ⟨g, k * 7 + 3, none⟩ = some (.int .i64 en) := hc 3 (by omega)
              have x0 : wy.cell? ⟨tb_, 0, none⟩ = some (.int .i64 id) := by rw [HID.out]; exact (HY2.own _ List.mem_cons_self).1.cell 0
              have HZ := Lib.hid (HY2.only0 (Only0.refl wy).drew)
              clear hbg HY2 NX HYY hc hf hky
              refine wp_region_held_drew (S := (fun w' => w'.cell? ⟨g, k * 7 + 3, none⟩ = some (.int .i64 en) ∧ w'.cell? ⟨tb_, 0, none⟩ = some (.int .i64 id))) (by kernel_rfl) ?_ (fun hHeld => ?_)
              · exact ⟨q3, x0⟩
              refine wpAnyH_take (i := 0) (v := ?_) rfl (by kernel_rfl) (by kernel_rfl) (by kernel_rfl) (fun _ _ _ h => h) (Or.inl ⟨by rfl, ?_⟩) (by assumption) ?_; rotate_left; (focus (intro w hSw; (try dsimp only at hSw); go_simp; try with_reducible rfl))
              try simp only [Act.put, List.getElem_toArray, List.getElem_cons_zero, List.getElem_cons_succ, List.setIfInBounds_toArray, List.set_cons_zero, List.set_cons_succ]
              refine wpAnyH_take (i := 1) (v := ?_) rfl (by kernel_rfl) (by kernel_rfl) (by kernel_rfl) (fun _ _ _ h => h) (Or.inl ⟨by rfl, ?_⟩) (by assumption) ?_; rotate_left; (focus (intro w hSw; (try dsimp only at hSw); go_simp; try with_reducible rfl))
              try simp only [Act.put, List.getElem_toArray, List.getElem_cons_zero, List.getElem_cons_succ, List.setIfInBounds_toArray, List.set_cons_zero, List.set_cons_succ]
              refine wpAnyH_take (i := 2) (v := ?_) rfl (by kernel_rfl) (by kernel_rfl) (by kernel_rfl) (fun _ _ _ h => h) (Or.inl ⟨by rfl, ?_⟩) (by assumption) ?_; rotate_left; (focus (intro w hSw; (try dsimp only at hSw); go_simp; try with_reducible rfl))
              try simp only [Act.put, List.getElem_toArray, List.getElem_cons_zero, List.getElem_cons_succ, List.setIfInBounds_toArray, List.set_cons_zero, List.set_cons_succ]
              refine wpAnyH_take (i := 3) (v := ?_) rfl (by kernel_rfl) (by kernel_rfl) (by kernel_rfl) (fun _ _ _ h => h) (Or.inl ⟨by rfl, ?_⟩) (by assumption) ?_; rotate_left; (focus (intro w hSw; (try dsimp only at hSw); go_simp; try with_reducible rfl))
              try simp only [Act.put, List.getElem_toArray, List.getElem_cons_zero, List.getElem_cons_succ, List.setIfInBounds_toArray, List.set_cons_zero, List.set_cons_succ]
              refine wpAnyH_take (i := 4) (v := ?_) rfl (by kernel_rfl) (by kernel_rfl) (by kernel_rfl) (fun _ _ _ h => h) (Or.inl ⟨by rfl, ?_⟩) (by assumption) ?_; rotate_left; (focus (intro w hSw; (try dsimp only at hSw); go_simp; try with_reducible rfl))
              try simp only [Act.put, List.getElem_toArray, List.getElem_cons_zero, List.getElem_cons_succ, List.setIfInBounds_toArray, List.set_cons_zero, List.set_cons_succ]
              refine wpAnyH_take (i := 5) (v := ?_) rfl (by kernel_rfl) (by kernel_rfl) (by kernel_rfl) (fun _ _ _ h => h) (Or.inl ⟨by rfl, ?_⟩) (by assumption) ?_; rotate_left; (focus (intro w hSw; (try dsimp only at hSw); go_simp; try with_reducible rfl))
              try simp only [Act.put, List.getElem_toArray, List.getElem_cons_zero, List.getElem_cons_succ, List.setIfInBounds_toArray, List.set_cons_zero, List.set_cons_succ]
              refine wpAnyH_take (i := 6) (v := ?_) rfl (by kernel_rfl) (by kernel_rfl) (by kernel_rfl) (fun _ _ _ h => h) (Or.inl ⟨by rfl, ?_⟩) (by assumption) ?_; rotate_left; (focus (intro w hSw; (try dsimp only at hSw); go_simp; try with_reducible rfl))
              try simp only [Act.put, List.getElem_toArray, List.getElem_cons_zero, List.getElem_cons_succ, List.setIfInBounds_toArray, List.set_cons_zero, List.set_cons_succ]
              refine wpAnyH_done (by kernel_rfl) ?_ _
              clear q3 x0
              generalize wy.drew = wz at *
              obtain ⟨hc, hf⟩ := HZ.out.mod.verCells HG.out HKY.out
              rw [HGY.out] at hc
              have q3 : wz.cell? ⟨g, k * 7 + 3, none⟩ = some (.int .i64 en) := hc 3 (by omega)
              have m51 : wz.cell? ⟨m, 51, none⟩ = some (.int .u64 nw) := by rw [HNW.out]; exact HZ.out.mod.head.2.2.2.1
              obtain ⟨M1, o1⟩ := HZ.out.mod.setVer HG.out HKY.out (f := 3) (by decide) (v' := ⟨kk, vv, b1, 0, g1, fn, dd⟩) (u := .int .i64 0) (by rw [HGY.out]; rfl)
              obtain ⟨hc1, hf1⟩ := M1.verCells HG.out (k := k) (by simpa using HK'.out)
              rw [show ({ s1 with v := ((rUpto (rDoneV id nw) s1.v k).set k ⟨kk, vv, b1, en, g1, fn, dd⟩).set k ⟨kk, vv, b1, 0, g1, fn, dd⟩ } : RSt).v.getD k default = ⟨kk, vv, b1, 0, g1, fn, dd⟩ from getD_set_same _ _ _ HKY.out] at hc1
              have r5 : (wz.setCell ⟨g, k * 7 + 3, none⟩ (.int .i64 0)).cell? ⟨g, k * 7 + 5, none⟩ = some (.int .u64 fn) := hc1 5 (by omega)
              obtain ⟨M2, o2⟩ := HZ.out.mod.setVer2 HG.out HKY.out (f := 3) (f2 := 5) (by decide) (by decide) ⟨kk, vv, b1, 0, g1, fn, dd⟩ ⟨kk, vv, b1, 0, g1, nw, dd⟩ (.int .i64 0) (.int .u64 nw) (by rw [HGY.out]; rfl) rfl
              have M2' := HZ.out.step M2 o2 (Grew.refl _ _)
              simp only [set_set_same] at M2'
              have HM2 := Lib.hid M2'
              clear M1 o1 M2 o2 M2' hc hc1
              by_cases h2 : en = id
              · have h2b : (en == id) = true := by simpa using h2
                have NX : Hid (RcI B w P0 m [⟨tb_, 62, #[.int .i64 (s.s j).id, .int .i64 (s.s j).level, .int .i64 (s.s j).ops, .int .u64 (s.s j).beg, .slice (A.wa j) (s.s j).wrote.length (A.wc j), .slice (A.ra j) (s.s j).reads.length (A.rc j)]⟩, ⟨n0, 27, #[.int .i64 0, .int .i64 0, .slice none 0 0, .int .i64 0, .int .i64 0]⟩] { s1 with v := rUpto (rDoneV id nw) s1.v (k + 1) } P0 A ((wz.setCell ⟨g, k * 7 + 3, none⟩ (.int .i64 0)).setCell ⟨g, k * 7 + 5, none⟩ (.int .u64 nw))) := by
                  rw [← US.out, rDoneV_cases, ← HBG.out.1, ← HBG.out.2, if_pos h2, if_pos h2]; exact HM2.out
                clear HM2 HZ h2 HBG HGD HGY US HG HKY HK'
                go_wp2_with fail
                go_roundw
                case rel => exact ⟨k + 1, _, rfl, by omega, by go_num, NX⟩
                case measure => simp [intOf]; omega
              · have h2b : (en == id) = false := by simpa using h2
                have NX : Hid (RcI B w P0 m [⟨tb_, 62, #[.int .i64 (s.s j).id, .int .i64 (s.s j).level, .int .i64 (s.s j).ops, .int .u64 (s.s j).beg, .slice (A.wa j) (s.s j).wrote.length (A.wc j), .slice (A.ra j) (s.s j).reads.length (A.rc j)]⟩, ⟨n0, 27, #[.int .i64 0, .int .i64 0, .slice none 0 0, .int .i64 0, .int .i64 0]⟩] { s1 with v := rUpto (rDoneV id nw) s1.v (k + 1) } P0 A wz) := by
                  rw [← US.out, rDoneV_cases, ← HBG.out.1, ← HBG.out.2, if_neg h2, if_neg h2]; exact HZ.out
                clear HM2 HZ h2 HBG HGD HGY US HG HKY HK'
                go_wp2_with fail
                go_roundw
                case rel => exact ⟨k + 1, _, rfl, by omega, by go_num, NX⟩
                case measure => simp [intOf]; omega
          · obtain rfl : k = s1.v.length := by omega
            have H9 := HR.out
            rw [rUpto_all] at H9
            obtain ⟨A', MA, OA⟩ := H9.mod.empty hj
            have HA := H9.step MA OA (Grew.refl _ _)
            obtain ⟨t0, t1, t2, t3, t4, t5⟩ := H9.mod.txCells hj
            have tf := fun i => H9.mod.free i
            obtain ⟨W8, hW8⟩ : ∃ W8, W8 = ((((((wr.setCell ⟨m, 3 + j * 6, none⟩ (.int .i64 0)).setCell ⟨m, 3 + j * 6 + 1, none⟩ (.int .i64 0)).setCell ⟨m, 3 + j * 6 + 2, none⟩ (.int .i64 0)).setCell ⟨m, 3 + j * 6 + 3, none⟩ (.int .u64 0)).setCell ⟨m, 3 + j * 6 + 4, none⟩ (.slice none 0 0)).setCell ⟨m, 3 + j * 6 + 5, none⟩ (.slice none 0 0)) := ⟨_, rfl⟩
            rw [← hW8] at HA
            rw [show ({ s1 with v := s1.v.map (rDoneV id nw) } : RSt).setS j RTx.zero = s1.done j by unfold RSt.done RSt.setS; rw [HID.out, HNW.out, es.out]] at HA
            have HA8 := Lib.hid HA
            have X8 := (HA.own _ (List.mem_cons_of_mem _ List.mem_cons_self)).1
            have HX8 := Lib.hid X8
            have b0 := X8.cell 0
            have b1 := X8.cell 1
            have b2 := X8.cell 2
            have b3 := X8.cell 3
            have b4 := X8.cell 4
            have bf := fun i => X8.free i
            clear H9 MA OA HA X8 HR
            go_upto_region 16 with (fail)
            rw [← hW8]
            clear hW8 t0 t1 t2 t3 t4 t5 tf
            go_wp2_with fail
            obtain ⟨B9, o9⟩ := set5 HX8.out (.int .i64 0) (.int .i64 0) (.slice none 0 0) (.int .i64 3) (.int .i64 0)
            refine bodyPost_ret (v := .agg #[.int .i64 0, .int .i64 0, .slice none 0 0, .int .i64 3, .int .i64 0]) (results_cell_row Try.results58 _ _ n0 _ _ _ _ rfl B9 Try.underlying27 rfl info_res) rfl ?_
            rw [HE2.out]
            exact HA8.out.done (List.mem_cons_of_mem _ List.mem_cons_self) o9
end Go.Proofs.Ytcbhafddehipdaa
namespace Go.Proofs.Ytcbhafddehipdaa
open Go.RowKit
set_option linter.unusedVariables false
set_option linter.unusedSimpArgs false
set_option maxRecDepth 100000 in
theorem part0 (a b : Int) (w : World) : (part 3 #[.int .i64 a, .int .i64 b] 0).run Try.prog w = .ok (.int .i64 a) w := by kernel_rfl
set_option maxRecDepth 100000 in
theorem part1 (a b : Int) (w : World) : (part 3 #[.int .i64 a, .int .i64 b] 1).run Try.prog w = .ok (.int .i64 b) w := by kernel_rfl
set_option maxRecDepth 100000 in
theorem stood_pair : Try.prog.stoodInHeld 48 = false := by kernel_rfl
set_option maxRecDepth 100000 in
theorem fields_pair : Try.prog.underlying 48 = some (.struct (Try.prog.fieldsOf 48)) := by kernel_rfl
set_option maxRecDepth 100000 in
theorem guardt_pair : Try.prog.eqGuardType Try.prog.depth 48 = false := by kernel_rfl
set_option maxRecDepth 100000 in
set_option maxHeartbeats 1000000 in
theorem pair_neq (a b c d : Int) (w : World) : (binOp .neq 48 (.agg #[.int .i64 a, .int .i64 b]) (.agg #[.int .i64 c, .int .i64 d])).run Try.prog w = .ok (.bool (!(decide (a = c) && decide (b = d)))) w := by
  rw [run_neq_struct, run_equalIn_agg w 9999 _ _ _ fields_pair stood_pair]
  have e : ∀ (x y : Int), (Op.equalIn 9999 3 (.int .i64 x) (.int .i64 y)).run Try.prog w = .ok (x == y) w := fun x y => run_equalIn_int w 9998 _ _ _ x y Try.underlying3
  unfold Program.fieldsOf
  rw [Try.underlying48]
  by_cases e1 : a = c <;> by_cases e2 : b = d <;> simp [Op.eqFields, part0, part1, e, e1, e2, Result.andThen]
set_option maxRecDepth 100000 in
set_option maxHeartbeats 1000000 in
theorem pair_equalIn (a b c d : Int) (w : World) : (Op.equalIn 10000 48 (.agg #[.int .i64 a, .int .i64 b]) (.agg #[.int .i64 c, .int .i64 d])).run Try.prog w = .ok (decide (a = c) && decide (b = d)) w := by
  rw [run_equalIn_agg w 9999 _ _ _ fields_pair stood_pair]
  have e : ∀ (x y : Int), (Op.equalIn 9999 3 (.int .i64 x) (.int .i64 y)).run Try.prog w = .ok (x == y) w := fun x y => run_equalIn_int w 9998 _ _ _ x y Try.underlying3
  unfold Program.fieldsOf
  rw [Try.underlying48]
  by_cases e1 : a = c <;> by_cases e2 : b = d <;> simp [Op.eqFields, part0, part1, e, e1, e2, Result.andThen]
theorem PairsIn.at {w : World} {a : Option Addr} {ps : List (Int × Int)} (h : PairsIn w a ps) (hn : 0 < ps.length) :
    ∃ b off, a = some ⟨b, off, none⟩ ∧ ∀ i, i < ps.length → w.cell? ⟨b, off + i * 2, none⟩ = some (.int .i64 (ps.getD i (0, 0)).1) ∧ w.cell? ⟨b, off + (i * 2 + 1), none⟩ = some (.int .i64 (ps.getD i (0, 0)).2) := by
  rcases h with rfl | h
  · simp at hn
  · exact h
def uptoP (xs ys : List (Int × Int)) (k : Nat) : Prop := ∀ j, j < k → xs.getD j (0, 0) = ys.getD j (0, 0)
theorem uptoP_all {xs ys : List (Int × Int)} (h : xs.length = ys.length) (hu : uptoP xs ys xs.length) : xs = ys := by
  apply List.ext_getElem h
  intro i h1 h2
  have := hu i h1
  simpa [List.getD_eq_getElem?_getD, h1, h2] using this
theorem uptoP_succ {xs ys : List (Int × Int)} {k : Nat} (h : uptoP xs ys k) (h1 : xs.getD k (0, 0) = ys.getD k (0, 0)) : uptoP xs ys (k + 1) := by
  intro j hj
  rcases Nat.lt_or_ge j k with h2 | h2
  · exact h j h2
  · obtain rfl : j = k := by omega
    exact h1
set_option maxRecDepth 100000 in
set_option maxHeartbeats 4000000 in
theorem samePairs_any (a a' : Option Addr) (c c' : Nat) (xs ys : List (Int × Int)) (w : World) (hx : PairsIn w a xs) (hy : PairsIn w a' ys) (lx : xs.length ≤ 1000000) (ly : ys.length ≤ 1000000) :
    Calls Try.prog 36 #[.slice a xs.length c, .slice a' ys.length c'] w fun e w' => e = .returned (.bool (decide (xs = ys))) ∧ ∃ n, w' = w.drewN n := by
  by_cases hl : xs.length = ys.length
  · have hl1 : ((xs.length : Int) != (ys.length : Int)) = false := by simp [hl]
    have H := Lib.hid hl
    clear hl
    go_enter Try.func36, Try.ntmps36
    go_wp2_with fail
    go_loopw [5] (fun i wr => ∃ k m : Nat, k ≤ xs.length ∧ i = .int .i64 k ∧ wr = w.drewN m ∧ Hid (uptoP xs ys k)) (fun i _ => xs.length - (intOf i).toNat)
    case atStart => exact ⟨0, 0, Nat.zero_le _, rfl, rfl, Lib.hid (fun j hj => by omega)⟩
    case round =>
      obtain ⟨k, m, hk, rfl, rfl, HU⟩ := hrel
      by_cases hlt : k < xs.length
      · have hly : k < ys.length := by have := H.out; omega
        obtain ⟨b, off, rfl, hc⟩ := hx.at (by omega)
        obtain ⟨b', off', rfl, hc'⟩ := hy.at (by omega)
        obtain ⟨h1, h1'⟩ := hc k hlt
        obtain ⟨h2, h2'⟩ := hc' k hly
        have U1 := Lib.hid (show xs.getD k (0, 0) = ys.getD k (0, 0) → uptoP xs ys (k + 1) from fun e => uptoP_succ HU.out e)
        have U2 := Lib.hid (show xs.getD k (0, 0) ≠ ys.getD k (0, 0) → decide (xs = ys) = false from fun e => decide_eq_false (fun e' => e (by rw [e'])))
        generalize xs.getD k (0, 0) = x at h1 h1' U1 U2
        generalize ys.getD k (0, 0) = y at h2 h2' U1 U2
        obtain ⟨x1, x2⟩ := x
        obtain ⟨y1, y2⟩ := y
        have hq : ∀ n, (binOp .neq 48 (.agg #[.int .i64 x1, .int .i64 x2]) (.agg #[.int .i64 y1, .int .i64 y2])).run Try.prog ((w.drewN m).drewN n) = .ok (.bool (!(decide (x1 = y1) && decide (x2 = y2)))) ((w.drewN m).drewN n) := fun n => pair_neq _ _ _ _ _
        have hq2 : ∀ n, (Op.equalIn 10000 48 (.agg #[.int .i64 x1, .int .i64 x2]) (.agg #[.int .i64 y1, .int .i64 y2])).run Try.prog ((w.drewN m).drewN n) = .ok (decide (x1 = y1) && decide (x2 = y2)) ((w.drewN m).drewN n) := fun n => pair_equalIn _ _ _ _ _
        have hg := guardt_pair
        clear hc hc'
        dsimp only at h1 h1' h2 h2'
        rw [← Nat.add_assoc] at h1' h2'
        by_cases exy : x1 = y1 ∧ x2 = y2
        · obtain ⟨rfl, rfl⟩ := exy
          have U4 := Lib.hid (U1.out rfl)
          simp only [decide_true, Bool.and_self, Bool.not_true] at hq hq2
          clear U1 U2 HU
          go_wp2_with fail
          go_quiet (fail)
          go_wp2_with fail
          go_roundw
          case rel => exact ⟨k + 1, _, by omega, by go_num, rfl, U4⟩
          case measure => simp [intOf]; omega
        · have U4 := Lib.hid (U2.out (fun e => exy (by injection e with e1 e2; exact ⟨e1, e2⟩)))
          have eb : (decide (x1 = y1) && decide (x2 = y2)) = false := by simpa using exy
          rw [eb] at hq hq2
          have hd : (x1 == y1) = false ∨ (x1 = y1 ∧ (x2 == y2) = false) := by
            by_cases e1 : x1 = y1
            · exact .inr ⟨e1, by simpa using fun e2 => exy ⟨e1, e2⟩⟩
            · exact .inl (by simpa using e1)
          clear U1 U2 HU exy eb
          rcases hd with hd | ⟨rfl, hd⟩
          all_goals
            go_wp2_with fail
            go_quiet (fail)
            go_wp2_with fail
            go_ret
            exact ⟨ret_bool (by rw [U4.out]), _, World.drewN_drewN _ _ _⟩
      · obtain rfl : k = xs.length := by omega
        have U3 := Lib.hid (show decide (xs = ys) = true from decide_eq_true (uptoP_all H.out HU.out))
        go_wp2_with fail
        go_ret
        exact ⟨ret_bool (by rw [U3.out]), _, rfl⟩
  · have hl1 : ((xs.length : Int) != (ys.length : Int)) = true := by simp; omega
    have U3 := Lib.hid (show decide (xs = ys) = false from decide_eq_false (fun e => hl (by rw [e])))
    clear hl
    go_enter Try.func36, Try.ntmps36
    go_wp2_with fail
    go_ret
    exact ⟨ret_bool (by rw [U3.out]), 0, rfl⟩
end Go.Proofs.Ytcbhafddehipdaa

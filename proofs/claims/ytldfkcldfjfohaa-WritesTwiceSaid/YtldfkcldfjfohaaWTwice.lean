/-
  The walk of WritesTwice.
-/
import Derived.Test.YtldfkcldfjfohaaWLaw2
namespace Go.Proofs.Ytldfkcldfjfohaa
open Go.RowKit Go.ChangeShapes Go.WideShapes Go.Deep
attribute [local go_sem ↓] Go.wp_at_zero Go.wp_at_succ
set_option linter.unusedVariables false
set_option linter.unusedSimpArgs false

/-- Another set beside one that is written. -/
theorem SW.beside {w0 w w' : World} {P Q : Nat → Prop} {c : Nat} {z : Wr} (h : SW w0 w Q c z) (o : Only P w w') (hP : Above P w0.heap.size) (ap : Apart P Q) : SW w0 w' Q c z :=
  ⟨h.set.only o ap.symm, ((h.o.any P).trans o).mono (fun k hk hp => by have := hP k hp; omega)⟩
set_option maxRecDepth 100000 in
set_option maxHeartbeats 32000000 in
theorem writesTwice_walk (la : Option Addr) (lc : Nat) (l : List (List Int)) (keys : Int) (w : World) (hl : OpsIn w la l) (hs : l.length * 24 ≤ 140737488351232) (hlc : l.length ≤ lc) (hm : lc ≤ 9223372036854775807) (hk : (Lit.int .u64 keys).wf = true) :
    Calls Try.prog 6 #[.slice la l.length lc, .int .u64 keys] w fun e w' => e = .returned (.bool true) ∧ Below w.heap.size w w' := by
  obtain ⟨i0, hi0, hz0, hz1, hz2⟩ := info_parts info_pair
  obtain ⟨X, rfl, hX⟩ := u64_nat hk
  have HL := Lib.hid hl
  have NW := wr_new w
  obtain ⟨b, hb⟩ : ∃ b, b = w.heap.size := ⟨_, rfl⟩
  rw [← hb] at NW
  have HB := Lib.hid hb
  clear hb hl hk
  go_enter Try.func6, Try.ntmps6
  go_wp2_with fail
  refine NW.mono ?_
  rintro e w1 ⟨rfl, h1, o1, z1⟩
  have K00 : Hid (SW w w1 (fun x => x = b) b Wr.new) := Lib.hid (by have hb := HB.out; subst hb; exact SW.new (Only0.refl w) h1 o1)
  have NW2 := wr_new w1
  obtain ⟨c0, hc0⟩ : ∃ c0, c0 = w1.heap.size := ⟨_, rfl⟩
  rw [← hc0] at NW2
  have HC := Lib.hid hc0
  clear NW h1 o1 z1 hc0
  go_wp2_with fail
  refine NW2.mono ?_
  rintro e w2 ⟨rfl, h2, o2, z2⟩
  have K0 : Hid (∃ P s Q, SW w w2 P b s ∧ SW w w2 Q c0 Wr.new ∧ Apart P Q) := by
    refine Lib.hid ⟨_, _, _, K00.out.only0 o2, by have hc := HC.out; subst hc; exact SW.new K00.out.o h2 o2, ?_⟩
    intro x hx hx2
    have := K00.out.set.under x hx
    have := HC.out
    have hx2' : x = w1.heap.size := hx2
    omega
  clear NW2 h2 o2 z2 K00
  go_wp2_with fail
  go_loopw [7] (fun i wr => ∃ n : Nat, n ≤ l.length ∧ n ≤ 40 ∧ i = .int .i64 n ∧ Hid (∃ P s Q, SW w wr P b s ∧ SW w wr Q c0 Wr.new ∧ Apart P Q)) (fun i _ => 40 - (intOf i).toNat)
  case atStart => exact ⟨0, by omega, by omega, rfl, K0⟩
  case round =>
    clear K0
    obtain ⟨n, hn1, hn2, rfl, KR⟩ := hrel
    by_cases hlt : n < l.length ∧ n < 40
    · obtain ⟨hlt1, hlt2⟩ := hlt
      obtain ⟨P, s, Q, SS, SQ, ap⟩ := KR.out
      obtain ⟨bl, off, Kd, I, V, rfl, -, q0, q1, q2⟩ := op_at HL.out SS.o hlt1
      have i0 : (0 : Int) ≤ (n : Int) := by omega
      have i1 : (n : Int) < (l.length : Int) := by omega
      have i2 : (n : Int) < 40 := by omega
      have hbl : bl < w.heap.size := by
        have := op_block HL.out hlt1 rfl
        exact this
      have HBL := Lib.hid hbl
      clear KR hbl
      by_cases hK : Kd = 0
      · subst hK
        have SQD := SQ.only0 ((Only0.refl wr).drew)
        replace SS := SS.only0 ((Only0.refl wr).drew)
        have C := wr_put SS.set (bits .and .i64 I 63) (bits .and .i64 V 65535)
        have HS := Lib.hid SS
        clear SS
        generalize wrCode (bits .and .i64 I 63) (bits .and .i64 V 65535) = rc at *
        have CK : Hid (∀ P' wz, Only P' wr.drew wz → (∀ c, P' c → w.heap.size ≤ c) → wz.cell? ⟨bl, off + n * 3 + 1, none⟩ = some (.int .i64 I) ∧ wz.cell? ⟨bl, off + n * 3 + 2, none⟩ = some (.int .i64 V)) := by
          refine Lib.hid (fun P' wz oz hP' => ?_)
          have e := oz.block bl (block_lt_of_cell q0) (fun h => by have := hP' _ h; have := HBL.out; omega)
          exact ⟨(World.cell?_of_block e).trans q1, (World.cell?_of_block e).trans q2⟩
        go_wp2_with fail
        refine wp_region_held_drew (S := (fun w' => w'.cell? ⟨bl, off + n * 3 + 1, none⟩ = some (.int .i64 I) ∧ w'.cell? ⟨bl, off + n * 3 + 2, none⟩ = some (.int .i64 V))) (by kernel_rfl) ?_ (fun hHeld => ?_)
        · (first | exact ⟨q1, q2⟩ | exact kk)
        refine wpAnyH_take (i := 0) (v := ?_) rfl (by kernel_rfl) (by kernel_rfl) (by kernel_rfl) (fun _ _ _ h => h) (Or.inl ⟨by rfl, ?_⟩) (by assumption) ?_; rotate_left; (focus (intro w hSw; (try dsimp only at hSw); go_simp; try with_reducible rfl))
        try simp only [Act.put, List.getElem_toArray, List.getElem_cons_zero, List.getElem_cons_succ, List.setIfInBounds_toArray, List.set_cons_zero, List.set_cons_succ]
        refine wpAnyH_take (i := 1) (v := ?_) rfl (by kernel_rfl) (by kernel_rfl) (by kernel_rfl) (fun _ _ _ h => h) (Or.inl ⟨by rfl, ?_⟩) (by assumption) ?_; rotate_left; (focus (intro w hSw; (try dsimp only at hSw); go_simp; try with_reducible rfl))
        try simp only [Act.put, List.getElem_toArray, List.getElem_cons_zero, List.getElem_cons_succ, List.setIfInBounds_toArray, List.set_cons_zero, List.set_cons_succ]
        refine wpAnyH_take (i := 2) (v := ?_) rfl (by kernel_rfl) (by kernel_rfl) (by kernel_rfl) (fun _ _ _ h => h) (Or.inl ⟨by rfl, ?_⟩) (by assumption) ?_; rotate_left; (focus (intro w hSw; (try dsimp only at hSw); go_simp; try with_reducible rfl))
        try simp only [Act.put, List.getElem_toArray, List.getElem_cons_zero, List.getElem_cons_succ, List.setIfInBounds_toArray, List.set_cons_zero, List.set_cons_succ]
        refine wpAnyH_take (i := 3) (v := ?_) rfl (by kernel_rfl) (by kernel_rfl) (by kernel_rfl) (fun _ _ _ h => h) (Or.inl ⟨by rfl, ?_⟩) (by assumption) ?_; rotate_left; (focus (intro w hSw; (try dsimp only at hSw); go_simp; try with_reducible rfl))
        try simp only [Act.put, List.getElem_toArray, List.getElem_cons_zero, List.getElem_cons_succ, List.setIfInBounds_toArray, List.set_cons_zero, List.set_cons_succ]
        refine wpAnyH_take (i := 4) (v := ?_) rfl (by kernel_rfl) (by kernel_rfl) (by kernel_rfl) (fun _ _ _ h => h) (Or.inl ⟨by rfl, ?_⟩) (by assumption) ?_; rotate_left; (focus (intro w hSw; (try dsimp only at hSw); go_simp; try with_reducible rfl))
        try simp only [Act.put, List.getElem_toArray, List.getElem_cons_zero, List.getElem_cons_succ, List.setIfInBounds_toArray, List.set_cons_zero, List.set_cons_succ]
        refine wpAnyH_take (i := 5) (v := ?_) rfl (by kernel_rfl) (by kernel_rfl) (by kernel_rfl) (fun _ _ _ h => h) (Or.inl ⟨by rfl, ?_⟩) (by assumption) ?_; rotate_left; (focus (intro w hSw; (try dsimp only at hSw); go_simp; try with_reducible rfl))
        try simp only [Act.put, List.getElem_toArray, List.getElem_cons_zero, List.getElem_cons_succ, List.setIfInBounds_toArray, List.set_cons_zero, List.set_cons_succ]
        refine wpAnyH_take (i := 6) (v := ?_) rfl (by kernel_rfl) (by kernel_rfl) (by kernel_rfl) (fun _ _ _ h => h) (Or.inl ⟨by rfl, ?_⟩) (by assumption) ?_; rotate_left; (focus (intro w hSw; (try dsimp only at hSw); go_simp; try with_reducible rfl))
        try simp only [Act.put, List.getElem_toArray, List.getElem_cons_zero, List.getElem_cons_succ, List.setIfInBounds_toArray, List.set_cons_zero, List.set_cons_succ]
        refine wpAnyH_take (i := 7) (v := ?_) rfl (by kernel_rfl) (by kernel_rfl) (by kernel_rfl) (fun _ _ _ h => h) (Or.inl ⟨by rfl, ?_⟩) (by assumption) ?_; rotate_left; (focus (intro w hSw; (try dsimp only at hSw); go_simp; try with_reducible rfl))
        try simp only [Act.put, List.getElem_toArray, List.getElem_cons_zero, List.getElem_cons_succ, List.setIfInBounds_toArray, List.set_cons_zero, List.set_cons_succ]
        refine wpAnyH_take (i := 8) (v := ?_) rfl (by kernel_rfl) (by kernel_rfl) (by kernel_rfl) (fun _ _ _ h => h) (Or.inl ⟨by rfl, ?_⟩) (by assumption) ?_; rotate_left; (focus (intro w hSw; (try dsimp only at hSw); go_simp; try with_reducible rfl))
        try simp only [Act.put, List.getElem_toArray, List.getElem_cons_zero, List.getElem_cons_succ, List.setIfInBounds_toArray, List.set_cons_zero, List.set_cons_succ]
        refine wpAnyH_take (i := 9) (v := ?_) rfl (by kernel_rfl) (by kernel_rfl) (by kernel_rfl) (fun _ _ _ h => h) (Or.inl ⟨by rfl, ?_⟩) (by assumption) ?_; rotate_left; (focus (intro w hSw; (try dsimp only at hSw); go_simp; try with_reducible rfl))
        try simp only [Act.put, List.getElem_toArray, List.getElem_cons_zero, List.getElem_cons_succ, List.setIfInBounds_toArray, List.set_cons_zero, List.set_cons_succ]
        refine wpAnyH_take (i := 10) (v := ?_) rfl (by kernel_rfl) (by kernel_rfl) (by kernel_rfl) (fun _ _ _ h => h) (Or.inl ⟨by rfl, ?_⟩) (by assumption) ?_; rotate_left; (focus (intro w hSw; (try dsimp only at hSw); go_simp; try with_reducible rfl))
        try simp only [Act.put, List.getElem_toArray, List.getElem_cons_zero, List.getElem_cons_succ, List.setIfInBounds_toArray, List.set_cons_zero, List.set_cons_succ]
        refine wpAnyH_take (i := 11) (v := ?_) rfl (by kernel_rfl) (by kernel_rfl) (by kernel_rfl) (fun _ _ _ h => h) (Or.inl ⟨by rfl, ?_⟩) (by assumption) ?_; rotate_left; (focus (intro w hSw; (try dsimp only at hSw); go_simp; try with_reducible rfl))
        try simp only [Act.put, List.getElem_toArray, List.getElem_cons_zero, List.getElem_cons_succ, List.setIfInBounds_toArray, List.set_cons_zero, List.set_cons_succ]
        refine wpAnyH_take (i := 12) (v := ?_) rfl (by kernel_rfl) (by kernel_rfl) (by kernel_rfl) (fun _ _ _ h => h) (Or.inl ⟨by rfl, ?_⟩) (by assumption) ?_; rotate_left; (focus (intro w hSw; (try dsimp only at hSw); go_simp; try with_reducible rfl))
        try simp only [Act.put, List.getElem_toArray, List.getElem_cons_zero, List.getElem_cons_succ, List.setIfInBounds_toArray, List.set_cons_zero, List.set_cons_succ]
        refine wpAnyH_ready (rs := [13]) (by kernel_rfl) (by simp) ?_
        refine AllReadyH.cons rfl (fun K hK => ?_) AllReadyH.nil
        try simp only [List.getElem_toArray, List.getElem_cons_zero, List.getElem_cons_succ]
        go_simp
        (refine C.mono ?_; rintro e w5 ⟨rfl, P5, h5, o5, g5⟩; have kk := CK.out _ w5 o5 (fun c hc => HS.out.set.above c hc))
        try go_wp2_with fail
        refine hK.out _ _ ?_ (fun hHeld => ?_)
        · (first | exact ⟨q1, q2⟩ | exact kk)
        clear hK K
        try simp only [Act.put, List.getElem_toArray, List.getElem_cons_zero, List.getElem_cons_succ, List.setIfInBounds_toArray, List.set_cons_zero, List.set_cons_succ]
        refine wpAnyH_done (by kernel_rfl) ?_ _
        have K5 := Lib.hid (⟨P5, _, Q, HS.out.step h5 o5, SW.beside SQD o5 HS.out.set.above ap, ap.grew g5 SQD.set.under⟩ : ∃ P s Q, SW w w5 P b s ∧ SW w w5 Q c0 Wr.new ∧ Apart P Q)
        clear HS CK kk h5 o5 g5 C
        go_wp2_with fail
        go_roundw
        case rel => exact ⟨n + 1, by omega, by omega, by go_num, K5⟩
        case measure => simp [intOf]; omega
      · have C := wr_drop SS.set (bits .and .i64 I 63)
        have HS := Lib.hid SS
        clear SS
        generalize wrCode (bits .and .i64 I 63) 0 = rc at *
        go_wp2_with fail
        refine C.mono ?_
        rintro e w5 ⟨rfl, P5, h5, o5, g5⟩
        have K5 := Lib.hid (⟨P5, _, Q, HS.out.step h5 o5, SW.beside SQ o5 HS.out.set.above ap, ap.grew g5 SQ.set.under⟩ : ∃ P s Q, SW w w5 P b s ∧ SW w w5 Q c0 Wr.new ∧ Apart P Q)
        clear HS h5 o5 g5 C
        go_wp2_with fail
        go_roundw
        case rel => exact ⟨n + 1, by omega, by omega, by go_num, K5⟩
        case measure => simp [intOf]; omega
    · have K1 := Lib.hid KR.out
      clear KR
      rcases Nat.lt_or_ge n l.length with hll | hll
      · obtain rfl : n = 40 := by omega
        go_wp2_with fail
        go_loopw [8, 9] (fun s8 i wr => ∃ (k len : Nat) (pa : Option Addr) (pc : Nat), k ≤ 64 ∧ i = .int .i64 k ∧ s8 = .slice pa len pc ∧ len ≤ k ∧ Hid (∃ p : PL, p.length = len ∧ Srt p ∧ (∀ x ∈ p, x.1 < (k : Int)) ∧ wr.ownsRow w.heap.size 31 2 (.slice pa len pc) len (pairCells p) ∧ ∃ P s Q, SW w wr P b s ∧ SW w wr Q c0 Wr.new ∧ Apart P (rowOf (.slice pa len pc)) ∧ Apart Q (rowOf (.slice pa len pc)))) (fun _ i _ => 64 - (intOf i).toNat)
        case atStart => exact ⟨0, 0, none, 0, by omega, rfl, rfl, by omega, Lib.hid ⟨[], rfl, List.Pairwise.nil, fun x hx => (by cases hx), World.ownsRow_nil _ _ _ _, by obtain ⟨P, s, Q, SS, SQ, -⟩ := K1.out; exact ⟨P, s, Q, SS, SQ, fun c hc h => rowOf_none _ _ _ h, fun c hc h => rowOf_none _ _ _ h⟩⟩⟩
        case round =>
          clear K1
          obtain ⟨k, len, pa, pc, hk, rfl, rfl, hlen, KR⟩ := hrel
          by_cases hlt : k < 64
          · have sh0 : (0 : Int) ≤ (k : Int) := by omega
            rcases bit_fact X k with ⟨br, -⟩ | ⟨br, -⟩
            · have K2 : Hid (∃ p : PL, p.length = len ∧ Srt p ∧ (∀ x ∈ p, x.1 < ((k + 1 : Nat) : Int)) ∧ wr.ownsRow w.heap.size 31 2 (.slice pa len pc) len (pairCells p) ∧ ∃ P s Q, SW w wr P b s ∧ SW w wr Q c0 Wr.new ∧ Apart P (rowOf (.slice pa len pc)) ∧ Apart Q (rowOf (.slice pa len pc))) := by
                obtain ⟨p, a1, a2, a3, a4⟩ := KR.out
                exact Lib.hid ⟨p, a1, a2, fun x hx => by have := a3 x hx; omega, a4⟩
              clear KR
              go_wp2_with fail
              go_roundw
              case rel => exact ⟨k + 1, len, pa, pc, by omega, by go_num, rfl, by omega, K2⟩
              case measure => simp [intOf]; omega
            · obtain ⟨p, a1, a2, a3, hown, P, s, Q, SS, SQ, ap, ap2⟩ := KR.out
              have hwz : w.heap.size ≤ wr.heap.size := (SS.o).size
              have NEXT := Lib.hid (fun (gg cap : Nat) (w2 : World) (h2 : w2.ownsRow w.heap.size 31 2 (.slice (some ⟨gg, 0, none⟩) (len + 1) cap) (len + 1) (pairCells p ++ [.int .i64 k, .int .i64 (3 * k)])) (h3 : (wr.alloc (.cells #[.int .i64 k, .int .i64 (3 * k)] 31)).grownBy w2 (Value.slice pa len pc).ownBlock) (h4 : (Value.slice pa len pc).ownBlock = some gg ∨ gg = wr.heap.size + 1) =>
                (show ∃ p : PL, p.length = len + 1 ∧ Srt p ∧ (∀ x ∈ p, x.1 < ((k + 1 : Nat) : Int)) ∧ w2.ownsRow w.heap.size 31 2 (.slice (some ⟨gg, 0, none⟩) (len + 1) cap) (len + 1) (pairCells p) ∧ ∃ P s Q, SW w w2 P b s ∧ SW w w2 Q c0 Wr.new ∧ Apart P (rowOf (.slice (some ⟨gg, 0, none⟩) (len + 1) cap)) ∧ Apart Q (rowOf (.slice (some ⟨gg, 0, none⟩) (len + 1) cap)) from by
                  refine ⟨p ++ [((k : Int), ((3 * k) : Int))], by simp [a1], ?_, fun x hx => ?_, by rw [pairCells_snoc]; exact h2, ⟨P, s, Q, SS.grown (rows_above hown) ap h3, SQ.grown (rows_above hown) ap2 h3, ap_grown SS.set.under ap h4, ap_grown SQ.set.under ap2 h4⟩⟩
                  · refine List.pairwise_append.2 ⟨a2, List.pairwise_singleton _ _, fun x hx y hy => ?_⟩
                    simp at hy; subst hy; exact a3 x hx
                  · rcases List.mem_append.1 hx with hx | hx
                    · have := a3 x hx; omega
                    · simp at hx; subst hx; show (k : Int) < _; omega))
              generalize pairCells p = PC at *
              clear a1 a2 a3 KR SS SQ ap ap2
              go_wp2_with (at_builtin; refine wpList_append_lies _ rfl _ _ 32 rfl w.heap.size 31 i0 _ 2 16 Try.underlying32 hi0 hz0 hz1 hz2 rfl (by decide) (.slice pa len pc) len PC rfl (hown.alloc _) ⟨wr.heap.size, 0, none⟩ 1 1 [.int .i64 k, .int .i64 (3 * k)] rfl rfl ?c1 ?c2 (by decide) ?c3 ?c4 ?c5 (wr.heap.size + 1) ?c6 ?_)
              case c1 => exact World.news_of_block (cs := #[.int .i64 k, .int .i64 (3 * k)]) (t := 31) (fr := (0, 0)) (heap_alloc_new wr _)
              case c2 => intro u hu; simp at hu; rcases hu with rfl | rfl <;> rfl
              case c3 => unfold maxLen; omega
              case c4 => omega
              case c5 => simp; omega
              case c6 => simp
              intro gg cap w6 hown2 hgrow hat hlt2
              have R2 := Lib.hid (NEXT.out gg cap w6 hown2 hgrow hat)
              clear NEXT hown hown2 hgrow hat hlt2
              go_wp2_with fail
              go_roundw
              case rel => exact ⟨k + 1, len + 1, _, cap, by omega, by go_num, rfl, by omega, R2⟩
              case measure => simp [intOf]; omega
          · obtain rfl : k = 64 := by omega
            obtain ⟨p, a1, a2, a3, hown, KS⟩ := KR.out
            subst a1
            have hpi := PairsIn.of_own hown
            have HP := Lib.hid hpi
            have HSR := Lib.hid a2
            clear a2 a3 hown hpi KR
            have e64 : ((64 : Nat) : Int) = 64 := rfl
            obtain ⟨P, s, Q, KS, KQ, -, -⟩ := KS
            have few : ∀ k, k ∈ s.keys → 0 ≤ k ∧ k ≤ 63 := KS.set.ok.key
            have HF := Lib.hid few
            have HS := Lib.hid KS
            have HQ := Lib.hid KQ
            clear few KS KQ
            have C1 := sw_over HS.out pa pc p 0 63 HP.out HSR.out (by omega)
            go_wp2_with fail
            refine C1.mono ?_
            rintro e W1 ⟨a, a1, c1, rfl, v1, p1, l1, k1⟩
            have S1 := Lib.hid (HS.out.only0 k1)
            have Q1 := Lib.hid (HQ.out.only0 k1)
            have P1 := Lib.hid (HP.out.only k1 (fun _ _ hf => hf))
            have V1 := Lib.hid v1
            have PA1 := Lib.hid p1
            have C2 := sw_over S1.out a1 c1 a 0 63 p1 v1.srt (by omega)
            clear C1 v1 p1 k1 HS HP HQ
            go_wp2_with fail
            refine C2.mono ?_
            rintro e W2 ⟨x, ax, cx, rfl, v2, p2, l2, k2⟩
            have S2 := Lib.hid (S1.out.only0 k2)
            have Q2 := Lib.hid (Q1.out.only0 k2)
            have P2 := Lib.hid (P1.out.only k2 (fun _ _ hf => hf))
            have PA2 := Lib.hid (PA1.out.only k2 (fun _ _ hf => hf))
            have E1 := Lib.hid (over_over V1.out v2 V1.out (fun k hk => by have := HF.out k hk; omega))
            have C6 := samePairs_any ax a1 cx c1 x a W2 p2 PA2.out (by omega) (by omega)
            rw [decide_eq_true E1.out] at C6
            clear C2 v2 p2 k2 S1 P1 Q1 PA1 E1
            go_wp2_with fail
            refine C6.mono ?_
            rintro e W6 ⟨rfl, n6, rfl⟩
            clear C6
            obtain ⟨W3, hW3⟩ : ∃ W3, W3 = W2.drewN n6 := ⟨_, rfl⟩
            have k3 : Only0 W2 W3 := by rw [hW3]; exact (Only0.refl W2).drewN n6
            have Q3 := Lib.hid (Q2.out.only0 k3)
            have P3 := Lib.hid (P2.out.only k3 (fun _ _ hf => hf))
            have PA3 := Lib.hid (PA2.out.only k3 (fun _ _ hf => hf))
            have C7 := sw_over Q3.out pa pc p 0 63 P3.out HSR.out (by omega)
            clear S2 Q2 P2 PA2 k3
            rw [← hW3]
            clear hW3
            go_wp2_with fail
            refine C7.mono ?_
            rintro e W4 ⟨y, ay, cy, rfl, v4, p4, l4, k4⟩
            have E4 := over_none v4 HSR.out (fun k hk => by cases hk)
            have Q4 := Lib.hid (Q3.out.only0 k4)
            have P4 := Lib.hid (P3.out.only k4 (fun _ _ hf => hf))
            have PA4 := Lib.hid (PA3.out.only k4 (fun _ _ hf => hf))
            have C8 := samePairs_any ay pa cy pc y p W4 p4 P4.out (by omega) (by omega)
            rw [decide_eq_true E4] at C8
            clear C7 v4 p4 k4 E4 Q3 P3 PA3 P4
            go_wp2_with fail
            refine C8.mono ?_
            rintro e W8 ⟨rfl, n8, rfl⟩
            clear C8
            have C9 := rising_any a1 c1 a (W4.drewN n8) (PA4.out.only ((Only.refl (fun _ => False) W4).drewN n8) (fun _ _ hf => hf)) (by omega)
            rw [(risesB_iff a).2 V1.out.srt] at C9
            clear PA4
            go_wp2_with fail
            refine C9.mono ?_
            rintro e W9 ⟨rfl, n9, rfl⟩
            clear C9
            have C10 := awake_any (W4.drewN (n8 + n9))
            go_wp2_with fail
            refine C10.mono ?_
            rintro e W10 ⟨rfl, k10⟩
            clear C10
            have FIN := Lib.hid ((Q4.out.o.trans ((Only0.refl W4).drewN (n8 + n9))).trans k10)
            go_wp2_with fail
            go_ret
            exact ⟨rfl, FIN.out.below⟩
      · obtain rfl : n = l.length := by omega
        go_wp2_with fail
        go_loopw [8, 9] (fun s8 i wr => ∃ (k len : Nat) (pa : Option Addr) (pc : Nat), k ≤ 64 ∧ i = .int .i64 k ∧ s8 = .slice pa len pc ∧ len ≤ k ∧ Hid (∃ p : PL, p.length = len ∧ Srt p ∧ (∀ x ∈ p, x.1 < (k : Int)) ∧ wr.ownsRow w.heap.size 31 2 (.slice pa len pc) len (pairCells p) ∧ ∃ P s Q, SW w wr P b s ∧ SW w wr Q c0 Wr.new ∧ Apart P (rowOf (.slice pa len pc)) ∧ Apart Q (rowOf (.slice pa len pc)))) (fun _ i _ => 64 - (intOf i).toNat)
        case atStart => exact ⟨0, 0, none, 0, by omega, rfl, rfl, by omega, Lib.hid ⟨[], rfl, List.Pairwise.nil, fun x hx => (by cases hx), World.ownsRow_nil _ _ _ _, by obtain ⟨P, s, Q, SS, SQ, -⟩ := K1.out; exact ⟨P, s, Q, SS, SQ, fun c hc h => rowOf_none _ _ _ h, fun c hc h => rowOf_none _ _ _ h⟩⟩⟩
        case round =>
          clear K1
          obtain ⟨k, len, pa, pc, hk, rfl, rfl, hlen, KR⟩ := hrel
          by_cases hlt : k < 64
          · have sh0 : (0 : Int) ≤ (k : Int) := by omega
            rcases bit_fact X k with ⟨br, -⟩ | ⟨br, -⟩
            · have K2 : Hid (∃ p : PL, p.length = len ∧ Srt p ∧ (∀ x ∈ p, x.1 < ((k + 1 : Nat) : Int)) ∧ wr.ownsRow w.heap.size 31 2 (.slice pa len pc) len (pairCells p) ∧ ∃ P s Q, SW w wr P b s ∧ SW w wr Q c0 Wr.new ∧ Apart P (rowOf (.slice pa len pc)) ∧ Apart Q (rowOf (.slice pa len pc))) := by
                obtain ⟨p, a1, a2, a3, a4⟩ := KR.out
                exact Lib.hid ⟨p, a1, a2, fun x hx => by have := a3 x hx; omega, a4⟩
              clear KR
              go_wp2_with fail
              go_roundw
              case rel => exact ⟨k + 1, len, pa, pc, by omega, by go_num, rfl, by omega, K2⟩
              case measure => simp [intOf]; omega
            · obtain ⟨p, a1, a2, a3, hown, P, s, Q, SS, SQ, ap, ap2⟩ := KR.out
              have hwz : w.heap.size ≤ wr.heap.size := (SS.o).size
              have NEXT := Lib.hid (fun (gg cap : Nat) (w2 : World) (h2 : w2.ownsRow w.heap.size 31 2 (.slice (some ⟨gg, 0, none⟩) (len + 1) cap) (len + 1) (pairCells p ++ [.int .i64 k, .int .i64 (3 * k)])) (h3 : (wr.alloc (.cells #[.int .i64 k, .int .i64 (3 * k)] 31)).grownBy w2 (Value.slice pa len pc).ownBlock) (h4 : (Value.slice pa len pc).ownBlock = some gg ∨ gg = wr.heap.size + 1) =>
                (show ∃ p : PL, p.length = len + 1 ∧ Srt p ∧ (∀ x ∈ p, x.1 < ((k + 1 : Nat) : Int)) ∧ w2.ownsRow w.heap.size 31 2 (.slice (some ⟨gg, 0, none⟩) (len + 1) cap) (len + 1) (pairCells p) ∧ ∃ P s Q, SW w w2 P b s ∧ SW w w2 Q c0 Wr.new ∧ Apart P (rowOf (.slice (some ⟨gg, 0, none⟩) (len + 1) cap)) ∧ Apart Q (rowOf (.slice (some ⟨gg, 0, none⟩) (len + 1) cap)) from by
                  refine ⟨p ++ [((k : Int), ((3 * k) : Int))], by simp [a1], ?_, fun x hx => ?_, by rw [pairCells_snoc]; exact h2, ⟨P, s, Q, SS.grown (rows_above hown) ap h3, SQ.grown (rows_above hown) ap2 h3, ap_grown SS.set.under ap h4, ap_grown SQ.set.under ap2 h4⟩⟩
                  · refine List.pairwise_append.2 ⟨a2, List.pairwise_singleton _ _, fun x hx y hy => ?_⟩
                    simp at hy; subst hy; exact a3 x hx
                  · rcases List.mem_append.1 hx with hx | hx
                    · have := a3 x hx; omega
                    · simp at hx; subst hx; show (k : Int) < _; omega))
              generalize pairCells p = PC at *
              clear a1 a2 a3 KR SS SQ ap ap2
              go_wp2_with (at_builtin; refine wpList_append_lies _ rfl _ _ 32 rfl w.heap.size 31 i0 _ 2 16 Try.underlying32 hi0 hz0 hz1 hz2 rfl (by decide) (.slice pa len pc) len PC rfl (hown.alloc _) ⟨wr.heap.size, 0, none⟩ 1 1 [.int .i64 k, .int .i64 (3 * k)] rfl rfl ?c1 ?c2 (by decide) ?c3 ?c4 ?c5 (wr.heap.size + 1) ?c6 ?_)
              case c1 => exact World.news_of_block (cs := #[.int .i64 k, .int .i64 (3 * k)]) (t := 31) (fr := (0, 0)) (heap_alloc_new wr _)
              case c2 => intro u hu; simp at hu; rcases hu with rfl | rfl <;> rfl
              case c3 => unfold maxLen; omega
              case c4 => omega
              case c5 => simp; omega
              case c6 => simp
              intro gg cap w6 hown2 hgrow hat hlt2
              have R2 := Lib.hid (NEXT.out gg cap w6 hown2 hgrow hat)
              clear NEXT hown hown2 hgrow hat hlt2
              go_wp2_with fail
              go_roundw
              case rel => exact ⟨k + 1, len + 1, _, cap, by omega, by go_num, rfl, by omega, R2⟩
              case measure => simp [intOf]; omega
          · obtain rfl : k = 64 := by omega
            obtain ⟨p, a1, a2, a3, hown, KS⟩ := KR.out
            subst a1
            have hpi := PairsIn.of_own hown
            have HP := Lib.hid hpi
            have HSR := Lib.hid a2
            clear a2 a3 hown hpi KR
            have e64 : ((64 : Nat) : Int) = 64 := rfl
            obtain ⟨P, s, Q, KS, KQ, -, -⟩ := KS
            have few : ∀ k, k ∈ s.keys → 0 ≤ k ∧ k ≤ 63 := KS.set.ok.key
            have HF := Lib.hid few
            have HS := Lib.hid KS
            have HQ := Lib.hid KQ
            clear few KS KQ
            have C1 := sw_over HS.out pa pc p 0 63 HP.out HSR.out (by omega)
            go_wp2_with fail
            refine C1.mono ?_
            rintro e W1 ⟨a, a1, c1, rfl, v1, p1, l1, k1⟩
            have S1 := Lib.hid (HS.out.only0 k1)
            have Q1 := Lib.hid (HQ.out.only0 k1)
            have P1 := Lib.hid (HP.out.only k1 (fun _ _ hf => hf))
            have V1 := Lib.hid v1
            have PA1 := Lib.hid p1
            have C2 := sw_over S1.out a1 c1 a 0 63 p1 v1.srt (by omega)
            clear C1 v1 p1 k1 HS HP HQ
            go_wp2_with fail
            refine C2.mono ?_
            rintro e W2 ⟨x, ax, cx, rfl, v2, p2, l2, k2⟩
            have S2 := Lib.hid (S1.out.only0 k2)
            have Q2 := Lib.hid (Q1.out.only0 k2)
            have P2 := Lib.hid (P1.out.only k2 (fun _ _ hf => hf))
            have PA2 := Lib.hid (PA1.out.only k2 (fun _ _ hf => hf))
            have E1 := Lib.hid (over_over V1.out v2 V1.out (fun k hk => by have := HF.out k hk; omega))
            have C6 := samePairs_any ax a1 cx c1 x a W2 p2 PA2.out (by omega) (by omega)
            rw [decide_eq_true E1.out] at C6
            clear C2 v2 p2 k2 S1 P1 Q1 PA1 E1
            go_wp2_with fail
            refine C6.mono ?_
            rintro e W6 ⟨rfl, n6, rfl⟩
            clear C6
            obtain ⟨W3, hW3⟩ : ∃ W3, W3 = W2.drewN n6 := ⟨_, rfl⟩
            have k3 : Only0 W2 W3 := by rw [hW3]; exact (Only0.refl W2).drewN n6
            have Q3 := Lib.hid (Q2.out.only0 k3)
            have P3 := Lib.hid (P2.out.only k3 (fun _ _ hf => hf))
            have PA3 := Lib.hid (PA2.out.only k3 (fun _ _ hf => hf))
            have C7 := sw_over Q3.out pa pc p 0 63 P3.out HSR.out (by omega)
            clear S2 Q2 P2 PA2 k3
            rw [← hW3]
            clear hW3
            go_wp2_with fail
            refine C7.mono ?_
            rintro e W4 ⟨y, ay, cy, rfl, v4, p4, l4, k4⟩
            have E4 := over_none v4 HSR.out (fun k hk => by cases hk)
            have Q4 := Lib.hid (Q3.out.only0 k4)
            have P4 := Lib.hid (P3.out.only k4 (fun _ _ hf => hf))
            have PA4 := Lib.hid (PA3.out.only k4 (fun _ _ hf => hf))
            have C8 := samePairs_any ay pa cy pc y p W4 p4 P4.out (by omega) (by omega)
            rw [decide_eq_true E4] at C8
            clear C7 v4 p4 k4 E4 Q3 P3 PA3 P4
            go_wp2_with fail
            refine C8.mono ?_
            rintro e W8 ⟨rfl, n8, rfl⟩
            clear C8
            have C9 := rising_any a1 c1 a (W4.drewN n8) (PA4.out.only ((Only.refl (fun _ => False) W4).drewN n8) (fun _ _ hf => hf)) (by omega)
            rw [(risesB_iff a).2 V1.out.srt] at C9
            clear PA4
            go_wp2_with fail
            refine C9.mono ?_
            rintro e W9 ⟨rfl, n9, rfl⟩
            clear C9
            have C10 := awake_any (W4.drewN (n8 + n9))
            go_wp2_with fail
            refine C10.mono ?_
            rintro e W10 ⟨rfl, k10⟩
            clear C10
            have FIN := Lib.hid ((Q4.out.o.trans ((Only0.refl W4).drewN (n8 + n9))).trans k10)
            go_wp2_with fail
            go_ret
            exact ⟨rfl, FIN.out.below⟩
end Go.Proofs.Ytldfkcldfjfohaa

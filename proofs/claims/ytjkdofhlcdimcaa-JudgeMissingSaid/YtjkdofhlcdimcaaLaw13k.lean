/-
  The walk of ReadsKeeps.
-/
import Derived.Test.YtjkdofhlcdimcaaLaw13
namespace Go.Proofs.Ytjkdofhlcdimcaa
open Go.RowKit
set_option linter.unusedVariables false
set_option linter.unusedSimpArgs false

theorem SpansOut.one {B : Nat} {w : World} {P : Nat → Prop} {a : Option Addr} {ss : List SP} {r : Rg} (h : SpansOut B w P a ss [r]) (hne : 0 < r.ls.length) :
    ∃ g gl lc, a = some ⟨g, 0, none⟩ ∧ (B ≤ g ∧ g < w.heap.size) ∧ (B ≤ gl ∧ gl < w.heap.size) ∧ w.cell? ⟨g, 0, none⟩ = some (.int .i64 r.lo) ∧ w.cell? ⟨g, 1, none⟩ = some (.int .i64 r.hi) ∧ w.cell? ⟨g, 2, none⟩ = some (.slice (some ⟨gl, 0, none⟩) r.ls.length lc) ∧ w.frozen? ⟨g, 0, none⟩ = false ∧ w.frozen? ⟨gl, 0, none⟩ = false ∧ w.cell? ⟨gl, 0, none⟩ = some (.int .u64 (r.ls.getD 0 0)) ∧ g ≠ gl ∧ Ints .u64 w (some ⟨gl, 0, none⟩) r.ls := by
  obtain ⟨cap, hc⟩ := h.own
  have hl : ss.length = 1 := h.len
  have o := h.at_ 0 (by omega)
  rw [show ([r] : List Rg).getD 0 default = r from rfl] at o
  obtain ⟨capl, hol⟩ := o.own
  rcases hc.2 with ⟨h0, hz⟩ | ⟨g, cap', cur, hv, _, _, _⟩
  · omega
  injection hv with h1 h2 h3
  subst h1
  rcases hla : (ss.getD 0 default).la with _ | ad
  · rw [hla] at hol
    have := own_none hol; omega
  rw [hla] at hol
  obtain ⟨gl, rfl⟩ : ∃ gl, ad = ⟨gl, 0, none⟩ := by
    rcases hol.2 with ⟨h0, _⟩ | ⟨g, cap, cur, hv, _⟩
    · cases h0
    · injection hv with h1; injection h1 with h1; exact ⟨g, h1⟩
  have G := spRow_get ss 0 (by omega)
  have e0 := (hc.cellAt 0 (by omega)).trans G.1
  have e1 := (hc.cellAt 1 (by omega)).trans G.2.1
  have e2 := (hc.cellAt 2 (by omega)).trans G.2.2
  rw [o.lo] at e0
  rw [o.hi] at e1
  rw [hla, o.n] at e2
  refine ⟨g, gl, _, rfl, hc.lt g rfl, hol.lt gl rfl, e0, e1, e2, hc.frozenAt 0, hol.frozenAt 0, ?_, ?_, ints_of_own hol⟩
  · rw [hol.cellAt 0 (by omega), List.getElem?_map, List.getElem?_eq_getElem hne, List.getD_eq_getElem?_getD, List.getElem?_eq_getElem hne]; rfl
  · intro e
    exact rows_apart hc hol (by decide) g rfl (by rw [e]; rfl)

/-- A row of one's own lies as numbers. -/
theorem own_some {B n m cap : Nat} {w : World} {e : TypeId} {v : Value} {xs : List Value} (h : w.ownsRow B e 1 v n xs) (hn : ¬ v = .slice none 0 0) : ∃ g cap, v = .slice (some ⟨g, 0, none⟩) n cap ∧ B ≤ g ∧ g < w.heap.size := by
  rcases h.2 with ⟨h0, _⟩ | ⟨g, cap, cur, hv, _⟩
  · exact absurd h0 hn
  · exact ⟨g, cap, hv, h.lt g (by rw [hv]; rfl)⟩

set_option maxRecDepth 100000 in
set_option maxHeartbeats 8000000 in
theorem readsKeeps_walk (a0 a1 : Int) (a2 : Option Addr) (c2 : Nat) (z : List Int) (w : World) (w0 : (Lit.int .i64 a0).wf = true) (w1 : (Lit.int .i64 a1).wf = true)
    (i2 : Ints .u64 w a2 z) (f2 : ∀ n ∈ z, (Lit.int .u64 n).wf = true) (s2 : z.length * 8 ≤ 140737488351232) (l2 : z.length ≤ c2) (m2 : c2 ≤ 9223372036854775807) :
    Calls Try.prog 5 #[.int .i64 a0, .int .i64 a1, .slice a2 z.length c2] w fun e w' => e = .returned (.bool true) ∧ Below w.heap.size w w' := by
  by_cases hz : z.length = 0 ∨ (¬ z.length = 0 ∧ 50 < z.length)
  · clear i2
    rcases hz with hz | ⟨hz, hz2⟩
    all_goals
      go_enter Try.func5, Try.ntmps5
      go_wp2_with fail
      refine (set_new w).mono ?_
      rintro e w1 ⟨rfl, h1, o1, -⟩
      have H1 := SW.new (Below.refl _ w) h1 o1
      clear h1 o1
      go_wp2_with fail
      refine (awake13_any _).mono ?_
      rintro e w9 ⟨rfl, b9⟩
      have hT9 := H1.bel0 b9
      clear H1
      go_wp2_with fail
      go_ret
      exact ⟨rfl, hT9.bel⟩
  · obtain ⟨hz1, hz2⟩ : 0 < z.length ∧ z.length ≤ 50 := by omega
    clear hz
    have t0 : ¬ z.length = 0 := by omega
    have t1 : ¬ z = [] := fun e => t0 (by rw [e]; rfl)
    have t2 : ((z.length : Int) == 0) = false := by simpa using t1
    obtain ⟨b, off, rfl, hc⟩ := i2.at hz1
    have HC := Lib.hid hc
    have x1 := i64_and63 a0
    have x2 := i64_and63 a1
    obtain ⟨p, hp, hp1⟩ : ∃ p : Nat, a0 % 64 = (p : Int) ∧ p < 64 := ⟨(a0 % 64).toNat, by omega, by omega⟩
    obtain ⟨q, hq, hq1⟩ : ∃ q : Nat, a1 % 64 = (q : Int) ∧ q < 64 := ⟨(a1 % 64).toNat, by omega, by omega⟩
    rw [hp] at x1
    rw [hq] at x2
    obtain ⟨i0, hi0, hz0, hz1', hz2'⟩ := info_parts info_u64'
    have hbw := block_lt_of_cell (hc 0 hz1)
    have LN := Lib.hid (show ∀ wx, Below w.heap.size w wx → ∀ (o : Obj) (j : Nat) (u : Value), (z.map (Value.int .u64))[j]? = some u → (wx.alloc o).cell? ((⟨b, off, none⟩ : Addr).add j) = some u from fun wx hb o j u hj => by
      have hjn : j < z.length := by
        have := (List.getElem?_eq_some_iff.1 hj).1
        simpa using this
      rw [Addr.add_lit]
      refine Lib.cell?_alloc_some _ ?_
      rw [hb.cell (p := ⟨b, off + j, none⟩) hbw, HC.out j hjn]
      have e : (z.map (Value.int .u64))[j]? = some (Value.int .u64 (z.getD j 0)) := by simp [List.getD, List.getElem?_eq_getElem hjn]
      rw [e] at hj
      exact hj)
    clear hp hq hc i2 w0 w1 f2
    by_cases hpq : q < p
    · obtain ⟨lo, rfl⟩ : ∃ lo, lo = q := ⟨_, rfl⟩
      obtain ⟨hi, rfl⟩ : ∃ hi, hi = p := ⟨_, rfl⟩
      have hle : lo ≤ hi := by omega
      go_enter Try.func5, Try.ntmps5
      go_wp2_with fail
      refine (set_new w).mono ?_
      rintro e w1 ⟨rfl, h1, o1, -⟩
      have H1 := SW.new (Below.refl _ w) h1 o1
      have hs1 : w.heap.size < w1.heap.size := H1.set.under _ rfl
      clear h1 o1
      obtain ⟨s, hs⟩ : ∃ s, s = w.heap.size := ⟨_, rfl⟩
      have HS := Lib.hid hs
      have LN1 := LN.out w1 H1.bel
      have LN1' := Lib.hid LN1
      clear LN1
      rw [← hs] at H1 hs1 ⊢
      clear hs
      go_wp2_with (at_builtin; refine wpList_append_own _ rfl _ _ 23 rfl w1.heap.size 22 i0 (.int .u64 0) 1 8 Try.underlying23 hi0 hz0 hz1' hz2' rfl (by decide) _ _ _ rfl (World.ownsRow_made w1 #[] 0 (Nat.le_refl _) (Nat.zero_le _) rfl) ⟨b, off, none⟩ z.length c2 (z.map (Value.int .u64)) rfl ?qc1 ?qc2 ?qc3 ?qc4 ?qc5 ?qc6 ?_)
      case qc1 => simp
      case qc2 => exact LN1'.out _
      case qc3 => intro u hu; obtain ⟨x, _, rfl⟩ := List.mem_map.1 hu; rfl
      case qc4 => unfold maxLen; omega
      case qc5 => omega
      case qc6 => simp
      intro v1 w2 hown1 hgrow1 hnil1
      obtain ⟨g1, cap1, rfl, hg1, hg1'⟩ := own_some (n := z.length) (m := 0) (cap := 0) (by simpa using hown1) hnil1
      have hW1 : w2.ownsRow w1.heap.size 22 1 (.slice (some ⟨g1, 0, none⟩) z.length cap1) z.length (z.map (Value.int .u64)) := by simpa using hown1
      have o2 : Only0 w1 w2 := ((Only0.refl w1).alloc _).grown hgrow1 (fun k hk => by simp [Value.ownBlock] at hk; omega)
      have H2 := H1.only0 o2
      have hz12 := o2.size
      have LN2' := Lib.hid (LN.out w2 H2.bel)
      clear hown1 hgrow1 hnil1 o2 H1 LN1'
      go_wp2_with (at_builtin; refine wpList_append_own _ rfl _ _ 23 rfl w2.heap.size 22 i0 (.int .u64 0) 1 8 Try.underlying23 hi0 hz0 hz1' hz2' rfl (by decide) _ _ _ rfl (World.ownsRow_made w2 #[] 0 (Nat.le_refl _) (Nat.zero_le _) rfl) ⟨b, off, none⟩ z.length c2 (z.map (Value.int .u64)) rfl ?rc1 ?rc2 ?rc3 ?rc4 ?rc5 ?rc6 ?_)
      case rc1 => simp
      case rc2 => exact LN2'.out _
      case rc3 => intro u hu; obtain ⟨x, _, rfl⟩ := List.mem_map.1 hu; rfl
      case rc4 => unfold maxLen; omega
      case rc5 => omega
      case rc6 => simp
      intro v2 w3 hown2 hgrow2 hnil2
      obtain ⟨g2, cap2, rfl, hg2, hg2'⟩ := own_some (n := z.length) (m := 0) (cap := 0) (by simpa using hown2) hnil2
      have hW2 : w3.ownsRow w2.heap.size 22 1 (.slice (some ⟨g2, 0, none⟩) z.length cap2) z.length (z.map (Value.int .u64)) := by simpa using hown2
      have o3 : Only0 w2 w3 := ((Only0.refl w2).alloc _).grown hgrow2 (fun k hk => by simp [Value.ownBlock] at hk; omega)
      have H3 := H2.only0 o3
      have hz23 := o3.size
      have hW1' := rows_only hW1 (S := fun _ => False) o3 (fun _ _ hf => hf)
      clear hown2 hgrow2 hnil2 o3 H2 LN2' hW1 LN
      have hsb : spanBad (lo : Int) (hi : Int) = false := by simp [spanBad]; omega
      have A := set_span H3.set (lo : Int) (hi : Int) (some ⟨g2, 0, none⟩) cap2 z (ints_of_own hW2) (fun e => by cases e) (by omega)
      rw [show spanRes [] lo hi = 0 by simp [spanRes, hsb], show spanRs [] lo hi z = [⟨lo, hi, z⟩] by simp [spanRs, hsb]] at A
      have HW1 := Lib.hid hW1'
      have HW2 := Lib.hid hW2
      clear hW1' hW2 hsb
      go_wp2_with fail
      refine A.mono ?_
      rintro e w4 ⟨rfl, P4, h4, o4, gr4⟩
      have H4 := H3.step h4 o4
      have hz34 := o4.size
      have n1 : ¬ P4 g1 := fun h => by rcases gr4 g1 h with h | h <;> omega
      have n2 : ¬ P4 g2 := fun h => by rcases gr4 g2 h with h | h <;> omega
      have a1 : Apart (rowOf (.slice (some ⟨g1, 0, none⟩) z.length cap1)) (fun b => b = s) := fun b hb e => by have := rowOf_some.1 hb; omega
      have a2 : Apart (rowOf (.slice (some ⟨g2, 0, none⟩) z.length cap2)) (fun b => b = s) := fun b hb e => by have := rowOf_some.1 hb; omega
      have V1 := rows_only HW1.out o4 a1
      have V2 := rows_only HW2.out o4 a2
      have cz := V2.cellAt 0 (by omega)
      have fz := V2.frozenAt 0
      rw [List.getElem?_map, List.getElem?_eq_getElem hz1, show some z[0] = some (z.getD 0 0) by rw [List.getD_eq_getElem?_getD, List.getElem?_eq_getElem hz1]; rfl, Option.map_some] at cz
      clear A h4 o4 H3 HW1 HW2 gr4 a1 a2 V2
      obtain ⟨y0, hy0⟩ : ∃ y, y = z.getD 0 0 := ⟨_, rfl⟩
      rw [← hy0] at cz
      have HY := Lib.hid hy0
      clear hy0
      have ST := Lib.hid (show ∀ u, SW w (w4.setCell ⟨g2, 0, none⟩ u) P4 s [] (fun _ => 0) [⟨lo, hi, z⟩] ∧ (w4.setCell ⟨g2, 0, none⟩ u).ownsRow w1.heap.size 22 1 (.slice (some ⟨g1, 0, none⟩) z.length cap1) z.length (z.map (Value.int .u64)) from fun u => by
        have oo : Only (fun b => b = g2) w4 (w4.setCell ⟨g2, 0, none⟩ u) := (Only.refl (fun b => b = g2) w4).setCell (p := ⟨g2, 0, none⟩) (fun _ => rfl) u
        have hb4 := H4.bel.size
        have hsw := HS.out
        exact ⟨⟨H4.set.only oo (fun b hb e => n2 (e ▸ hb)), H4.bel.trans (oo.below _ hb4 (fun b hb => by omega))⟩, rows_only V1 oo (fun b hb e => by have := rowOf_some.1 hb; omega)⟩)
      clear H4 V1
      go_wp2_with fail
      generalize hW5 : w4.setCell _ _ = w5
      obtain ⟨H5, V5⟩ : SW w w5 P4 s [] (fun _ => 0) [⟨lo, hi, z⟩] ∧ w5.ownsRow w1.heap.size 22 1 (.slice (some ⟨g1, 0, none⟩) z.length cap1) z.length (z.map (Value.int .u64)) := by rw [← hW5]; exact ST.out _
      have hz45 : w4.heap.size = w5.heap.size := by rw [← hW5]; simp [World.setCell]
      have hz45' : w4.heap.size ≤ w5.heap.size := Nat.le_of_eq hz45
      clear hW5 ST cz fz hz45
      refine (set_spans H5.set).mono ?_
      rintro e w6 ⟨⟨a6, ss6, rfl, h6, _⟩, b6⟩
      have H6 := H5.bel0 b6
      have V6 := rows_only V5 (S := fun _ => False) (Below.only0 b6) (fun _ _ hf => hf)
      obtain ⟨gx, gl, lc, rfl, hgx, hgl, d0, d1, d2, e0, e1, e2, hne, hI⟩ := h6.one hz1
      have hne' := hne.symm
      have S6 := same_any (some ⟨gl, 0, none⟩) (some ⟨g1, 0, none⟩) lc cap1 z z w6 hI (ints_of_own V6) (by omega) (by omega)
      rw [show decide (z = z) = true from decide_eq_true rfl] at S6
      have b6z := b6.size
      have UN := H5.set.under
      have HUN := Lib.hid UN
      clear h6 H5 V5 b6 hI UN
      simp only at d0 d1 d2
      go_wp2_with fail
      refine S6.mono ?_
      rintro e w7 ⟨rfl, m7, rfl⟩
      have D0 : (w6.drewN m7).cell? ⟨gx, 0, none⟩ = some (.int .i64 lo) := d0
      have D2 : (w6.drewN m7).cell? ⟨gx, 2, none⟩ = some (.slice (some ⟨gl, 0, none⟩) z.length lc) := d2
      have E2 : (w6.drewN m7).cell? ⟨gl, 0, none⟩ = some (.int .u64 (z.getD 0 0)) := e2
      have F0 : (w6.drewN m7).frozen? ⟨gx, 0, none⟩ = false := e0
      have F1 : (w6.drewN m7).frozen? ⟨gl, 0, none⟩ = false := e1
      have V7 : (w6.drewN m7).ownsRow w1.heap.size 22 1 (.slice (some ⟨g1, 0, none⟩) z.length cap1) z.length (z.map (Value.int .u64)) := rows_only V6 (S := fun _ => False) ((Only0.refl w6).drewN m7) (fun _ _ hf => hf)
      have H7 := H6.drewN ⟨m7, rfl⟩
      rw [← HY.out] at E2
      have z7 : (w6.drewN m7).heap.size = w6.heap.size := rfl
      generalize w6.drewN m7 = w7 at *
      have Z7 : w6.heap.size ≤ w7.heap.size := Nat.le_of_eq z7.symm
      have Z7' : w7.heap.size ≤ w6.heap.size := Nat.le_of_eq z7
      clear d0 d1 d2 e0 e1 e2 V6 H6 S6 z7
      have ST := Lib.hid (show ∀ u u', SW w ((w7.setCell ⟨gl, 0, none⟩ u).setCell ⟨gx, 0, none⟩ u') P4 s [] (fun _ => 0) [⟨lo, hi, z⟩] ∧ ((w7.setCell ⟨gl, 0, none⟩ u).setCell ⟨gx, 0, none⟩ u').ownsRow w1.heap.size 22 1 (.slice (some ⟨g1, 0, none⟩) z.length cap1) z.length (z.map (Value.int .u64)) from fun u u' => by
        have oo : Only (fun b => b = gl ∨ b = gx) w7 ((w7.setCell ⟨gl, 0, none⟩ u).setCell ⟨gx, 0, none⟩ u') := ((Only.refl (fun b => b = gl ∨ b = gx) w7).setCell (p := ⟨gl, 0, none⟩) (fun _ => .inl rfl) u).setCell (p := ⟨gx, 0, none⟩) (fun _ => .inr rfl) u'
        have hb4 := H7.bel.size
        have hsw := HS.out
        exact ⟨⟨H7.set.only oo (fun b hb e => by have := HUN.out b hb; omega), H7.bel.trans (oo.below _ hb4 (fun b hb => by omega))⟩, rows_only V7 oo (fun b hb e => by have := rowOf_some.1 hb; omega)⟩)
      clear H7 V7
      go_wp2_with fail
      generalize hW8 : World.setCell _ _ _ = w8
      obtain ⟨H8, V8⟩ : SW w w8 P4 s [] (fun _ => 0) [⟨lo, hi, z⟩] ∧ w8.ownsRow w1.heap.size 22 1 (.slice (some ⟨g1, 0, none⟩) z.length cap1) z.length (z.map (Value.int .u64)) := by rw [← hW8]; exact ST.out _ _
      clear hW8 ST D0 D2 E2 F0 F1 HUN Z7 Z7' hgx hgl hne hne'
      refine (set_spans H8.set).mono ?_
      rintro e w9 ⟨⟨a9, ss9, rfl, h9, _⟩, b9⟩
      have H9 := H8.bel0 b9
      have V9 := rows_only V8 (S := fun _ => False) (Below.only0 b9) (fun _ _ hf => hf)
      obtain ⟨gy, gm, ly, rfl, hgx, hgl, d0, d1, d2, e0, e1, e2, hne, hI⟩ := h9.one hz1
      have S9 := same_any (some ⟨gm, 0, none⟩) (some ⟨g1, 0, none⟩) ly cap1 z z w9 hI (ints_of_own V9) (by omega) (by omega)
      rw [show decide (z = z) = true from decide_eq_true rfl] at S9
      clear h9 H8 V8 b9 hI V9
      simp only at d0 d1 d2
      go_wp2_with fail
      refine S9.mono ?_
      rintro e w10 ⟨rfl, m10, rfl⟩
      have H10 := H9.drewN ⟨m10, rfl⟩
      clear H9 S9
      go_wp2_with fail
      refine (awake13_any _).mono ?_
      rintro e w11 ⟨rfl, b11⟩
      have hT := H10.bel0 b11
      go_wp2_with fail
      go_ret
      exact ⟨rfl, hT.bel⟩
    · obtain ⟨hi, rfl⟩ : ∃ hi, hi = q := ⟨_, rfl⟩
      obtain ⟨lo, rfl⟩ : ∃ lo, lo = p := ⟨_, rfl⟩
      have hle : lo ≤ hi := by omega
      go_enter Try.func5, Try.ntmps5
      go_wp2_with fail
      refine (set_new w).mono ?_
      rintro e w1 ⟨rfl, h1, o1, -⟩
      have H1 := SW.new (Below.refl _ w) h1 o1
      have hs1 : w.heap.size < w1.heap.size := H1.set.under _ rfl
      clear h1 o1
      obtain ⟨s, hs⟩ : ∃ s, s = w.heap.size := ⟨_, rfl⟩
      have HS := Lib.hid hs
      have LN1 := LN.out w1 H1.bel
      have LN1' := Lib.hid LN1
      clear LN1
      rw [← hs] at H1 hs1 ⊢
      clear hs
      go_wp2_with (at_builtin; refine wpList_append_own _ rfl _ _ 23 rfl w1.heap.size 22 i0 (.int .u64 0) 1 8 Try.underlying23 hi0 hz0 hz1' hz2' rfl (by decide) _ _ _ rfl (World.ownsRow_made w1 #[] 0 (Nat.le_refl _) (Nat.zero_le _) rfl) ⟨b, off, none⟩ z.length c2 (z.map (Value.int .u64)) rfl ?qc1 ?qc2 ?qc3 ?qc4 ?qc5 ?qc6 ?_)
      case qc1 => simp
      case qc2 => exact LN1'.out _
      case qc3 => intro u hu; obtain ⟨x, _, rfl⟩ := List.mem_map.1 hu; rfl
      case qc4 => unfold maxLen; omega
      case qc5 => omega
      case qc6 => simp
      intro v1 w2 hown1 hgrow1 hnil1
      obtain ⟨g1, cap1, rfl, hg1, hg1'⟩ := own_some (n := z.length) (m := 0) (cap := 0) (by simpa using hown1) hnil1
      have hW1 : w2.ownsRow w1.heap.size 22 1 (.slice (some ⟨g1, 0, none⟩) z.length cap1) z.length (z.map (Value.int .u64)) := by simpa using hown1
      have o2 : Only0 w1 w2 := ((Only0.refl w1).alloc _).grown hgrow1 (fun k hk => by simp [Value.ownBlock] at hk; omega)
      have H2 := H1.only0 o2
      have hz12 := o2.size
      have LN2' := Lib.hid (LN.out w2 H2.bel)
      clear hown1 hgrow1 hnil1 o2 H1 LN1'
      go_wp2_with (at_builtin; refine wpList_append_own _ rfl _ _ 23 rfl w2.heap.size 22 i0 (.int .u64 0) 1 8 Try.underlying23 hi0 hz0 hz1' hz2' rfl (by decide) _ _ _ rfl (World.ownsRow_made w2 #[] 0 (Nat.le_refl _) (Nat.zero_le _) rfl) ⟨b, off, none⟩ z.length c2 (z.map (Value.int .u64)) rfl ?rc1 ?rc2 ?rc3 ?rc4 ?rc5 ?rc6 ?_)
      case rc1 => simp
      case rc2 => exact LN2'.out _
      case rc3 => intro u hu; obtain ⟨x, _, rfl⟩ := List.mem_map.1 hu; rfl
      case rc4 => unfold maxLen; omega
      case rc5 => omega
      case rc6 => simp
      intro v2 w3 hown2 hgrow2 hnil2
      obtain ⟨g2, cap2, rfl, hg2, hg2'⟩ := own_some (n := z.length) (m := 0) (cap := 0) (by simpa using hown2) hnil2
      have hW2 : w3.ownsRow w2.heap.size 22 1 (.slice (some ⟨g2, 0, none⟩) z.length cap2) z.length (z.map (Value.int .u64)) := by simpa using hown2
      have o3 : Only0 w2 w3 := ((Only0.refl w2).alloc _).grown hgrow2 (fun k hk => by simp [Value.ownBlock] at hk; omega)
      have H3 := H2.only0 o3
      have hz23 := o3.size
      have hW1' := rows_only hW1 (S := fun _ => False) o3 (fun _ _ hf => hf)
      clear hown2 hgrow2 hnil2 o3 H2 LN2' hW1 LN
      have hsb : spanBad (lo : Int) (hi : Int) = false := by simp [spanBad]; omega
      have A := set_span H3.set (lo : Int) (hi : Int) (some ⟨g2, 0, none⟩) cap2 z (ints_of_own hW2) (fun e => by cases e) (by omega)
      rw [show spanRes [] lo hi = 0 by simp [spanRes, hsb], show spanRs [] lo hi z = [⟨lo, hi, z⟩] by simp [spanRs, hsb]] at A
      have HW1 := Lib.hid hW1'
      have HW2 := Lib.hid hW2
      clear hW1' hW2 hsb
      go_wp2_with fail
      refine A.mono ?_
      rintro e w4 ⟨rfl, P4, h4, o4, gr4⟩
      have H4 := H3.step h4 o4
      have hz34 := o4.size
      have n1 : ¬ P4 g1 := fun h => by rcases gr4 g1 h with h | h <;> omega
      have n2 : ¬ P4 g2 := fun h => by rcases gr4 g2 h with h | h <;> omega
      have a1 : Apart (rowOf (.slice (some ⟨g1, 0, none⟩) z.length cap1)) (fun b => b = s) := fun b hb e => by have := rowOf_some.1 hb; omega
      have a2 : Apart (rowOf (.slice (some ⟨g2, 0, none⟩) z.length cap2)) (fun b => b = s) := fun b hb e => by have := rowOf_some.1 hb; omega
      have V1 := rows_only HW1.out o4 a1
      have V2 := rows_only HW2.out o4 a2
      have cz := V2.cellAt 0 (by omega)
      have fz := V2.frozenAt 0
      rw [List.getElem?_map, List.getElem?_eq_getElem hz1, show some z[0] = some (z.getD 0 0) by rw [List.getD_eq_getElem?_getD, List.getElem?_eq_getElem hz1]; rfl, Option.map_some] at cz
      clear A h4 o4 H3 HW1 HW2 gr4 a1 a2 V2
      obtain ⟨y0, hy0⟩ : ∃ y, y = z.getD 0 0 := ⟨_, rfl⟩
      rw [← hy0] at cz
      have HY := Lib.hid hy0
      clear hy0
      have ST := Lib.hid (show ∀ u, SW w (w4.setCell ⟨g2, 0, none⟩ u) P4 s [] (fun _ => 0) [⟨lo, hi, z⟩] ∧ (w4.setCell ⟨g2, 0, none⟩ u).ownsRow w1.heap.size 22 1 (.slice (some ⟨g1, 0, none⟩) z.length cap1) z.length (z.map (Value.int .u64)) from fun u => by
        have oo : Only (fun b => b = g2) w4 (w4.setCell ⟨g2, 0, none⟩ u) := (Only.refl (fun b => b = g2) w4).setCell (p := ⟨g2, 0, none⟩) (fun _ => rfl) u
        have hb4 := H4.bel.size
        have hsw := HS.out
        exact ⟨⟨H4.set.only oo (fun b hb e => n2 (e ▸ hb)), H4.bel.trans (oo.below _ hb4 (fun b hb => by omega))⟩, rows_only V1 oo (fun b hb e => by have := rowOf_some.1 hb; omega)⟩)
      clear H4 V1
      go_wp2_with fail
      generalize hW5 : w4.setCell _ _ = w5
      obtain ⟨H5, V5⟩ : SW w w5 P4 s [] (fun _ => 0) [⟨lo, hi, z⟩] ∧ w5.ownsRow w1.heap.size 22 1 (.slice (some ⟨g1, 0, none⟩) z.length cap1) z.length (z.map (Value.int .u64)) := by rw [← hW5]; exact ST.out _
      have hz45 : w4.heap.size = w5.heap.size := by rw [← hW5]; simp [World.setCell]
      have hz45' : w4.heap.size ≤ w5.heap.size := Nat.le_of_eq hz45
      clear hW5 ST cz fz hz45
      refine (set_spans H5.set).mono ?_
      rintro e w6 ⟨⟨a6, ss6, rfl, h6, _⟩, b6⟩
      have H6 := H5.bel0 b6
      have V6 := rows_only V5 (S := fun _ => False) (Below.only0 b6) (fun _ _ hf => hf)
      obtain ⟨gx, gl, lc, rfl, hgx, hgl, d0, d1, d2, e0, e1, e2, hne, hI⟩ := h6.one hz1
      have hne' := hne.symm
      have S6 := same_any (some ⟨gl, 0, none⟩) (some ⟨g1, 0, none⟩) lc cap1 z z w6 hI (ints_of_own V6) (by omega) (by omega)
      rw [show decide (z = z) = true from decide_eq_true rfl] at S6
      have b6z := b6.size
      have UN := H5.set.under
      have HUN := Lib.hid UN
      clear h6 H5 V5 b6 hI UN
      simp only at d0 d1 d2
      go_wp2_with fail
      refine S6.mono ?_
      rintro e w7 ⟨rfl, m7, rfl⟩
      have D0 : (w6.drewN m7).cell? ⟨gx, 0, none⟩ = some (.int .i64 lo) := d0
      have D2 : (w6.drewN m7).cell? ⟨gx, 2, none⟩ = some (.slice (some ⟨gl, 0, none⟩) z.length lc) := d2
      have E2 : (w6.drewN m7).cell? ⟨gl, 0, none⟩ = some (.int .u64 (z.getD 0 0)) := e2
      have F0 : (w6.drewN m7).frozen? ⟨gx, 0, none⟩ = false := e0
      have F1 : (w6.drewN m7).frozen? ⟨gl, 0, none⟩ = false := e1
      have V7 : (w6.drewN m7).ownsRow w1.heap.size 22 1 (.slice (some ⟨g1, 0, none⟩) z.length cap1) z.length (z.map (Value.int .u64)) := rows_only V6 (S := fun _ => False) ((Only0.refl w6).drewN m7) (fun _ _ hf => hf)
      have H7 := H6.drewN ⟨m7, rfl⟩
      rw [← HY.out] at E2
      have z7 : (w6.drewN m7).heap.size = w6.heap.size := rfl
      generalize w6.drewN m7 = w7 at *
      have Z7 : w6.heap.size ≤ w7.heap.size := Nat.le_of_eq z7.symm
      have Z7' : w7.heap.size ≤ w6.heap.size := Nat.le_of_eq z7
      clear d0 d1 d2 e0 e1 e2 V6 H6 S6 z7
      have ST := Lib.hid (show ∀ u u', SW w ((w7.setCell ⟨gl, 0, none⟩ u).setCell ⟨gx, 0, none⟩ u') P4 s [] (fun _ => 0) [⟨lo, hi, z⟩] ∧ ((w7.setCell ⟨gl, 0, none⟩ u).setCell ⟨gx, 0, none⟩ u').ownsRow w1.heap.size 22 1 (.slice (some ⟨g1, 0, none⟩) z.length cap1) z.length (z.map (Value.int .u64)) from fun u u' => by
        have oo : Only (fun b => b = gl ∨ b = gx) w7 ((w7.setCell ⟨gl, 0, none⟩ u).setCell ⟨gx, 0, none⟩ u') := ((Only.refl (fun b => b = gl ∨ b = gx) w7).setCell (p := ⟨gl, 0, none⟩) (fun _ => .inl rfl) u).setCell (p := ⟨gx, 0, none⟩) (fun _ => .inr rfl) u'
        have hb4 := H7.bel.size
        have hsw := HS.out
        exact ⟨⟨H7.set.only oo (fun b hb e => by have := HUN.out b hb; omega), H7.bel.trans (oo.below _ hb4 (fun b hb => by omega))⟩, rows_only V7 oo (fun b hb e => by have := rowOf_some.1 hb; omega)⟩)
      clear H7 V7
      go_wp2_with fail
      generalize hW8 : World.setCell _ _ _ = w8
      obtain ⟨H8, V8⟩ : SW w w8 P4 s [] (fun _ => 0) [⟨lo, hi, z⟩] ∧ w8.ownsRow w1.heap.size 22 1 (.slice (some ⟨g1, 0, none⟩) z.length cap1) z.length (z.map (Value.int .u64)) := by rw [← hW8]; exact ST.out _ _
      clear hW8 ST D0 D2 E2 F0 F1 HUN Z7 Z7' hgx hgl hne hne'
      refine (set_spans H8.set).mono ?_
      rintro e w9 ⟨⟨a9, ss9, rfl, h9, _⟩, b9⟩
      have H9 := H8.bel0 b9
      have V9 := rows_only V8 (S := fun _ => False) (Below.only0 b9) (fun _ _ hf => hf)
      obtain ⟨gy, gm, ly, rfl, hgx, hgl, d0, d1, d2, e0, e1, e2, hne, hI⟩ := h9.one hz1
      have S9 := same_any (some ⟨gm, 0, none⟩) (some ⟨g1, 0, none⟩) ly cap1 z z w9 hI (ints_of_own V9) (by omega) (by omega)
      rw [show decide (z = z) = true from decide_eq_true rfl] at S9
      clear h9 H8 V8 b9 hI V9
      simp only at d0 d1 d2
      go_wp2_with fail
      refine S9.mono ?_
      rintro e w10 ⟨rfl, m10, rfl⟩
      have H10 := H9.drewN ⟨m10, rfl⟩
      clear H9 S9
      go_wp2_with fail
      refine (awake13_any _).mono ?_
      rintro e w11 ⟨rfl, b11⟩
      have hT := H10.bel0 b11
      go_wp2_with fail
      go_ret
      exact ⟨rfl, hT.bel⟩
end Go.Proofs.Ytjkdofhlcdimcaa

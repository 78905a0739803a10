/-
  The walk of vinculumlaw15.made.
-/
import Derived.Test.YtjkdofhlcdimcaaMade
import Derived.Deep.QuietTactic
import Derived.BigQuiet
namespace Go.Proofs.Ytjkdofhlcdimcaa
open Go.RowKit
set_option linter.unusedVariables false
set_option linter.unusedSimpArgs false

theorem info_read : (Try.prog.info? 64).map (fun i => (i.zero, i.size, i.bytes)) = some (some (.agg #[.bool false, .int .i64 0, .int .i64 0, .int .u64 0, .slice none 0 0]), 5, 56) := by kernel_rfl
theorem news_of_cells {w : World} {b : Nat} {t : TypeId} {cs : List Value} (h : Blk w b t cs.toArray) : ∀ j u, cs[j]? = some u → w.cell? ((⟨b, 0, none⟩ : Addr).add j) = some u := fun j u hu => by
  rw [Addr.add_lit, Nat.zero_add, h.cell]; simpa using hu
def anyUpto (kl : List RD) (x : Int) (k : Nat) : Bool := hasKey (kl.take k) x
theorem anyUpto_succ {kl : List RD} {x : Int} {k : Nat} (h : k < kl.length) : anyUpto kl x (k + 1) = (anyUpto kl x k || ((kl.getD k default).lo == x)) := by
  unfold anyUpto hasKey
  rw [List.take_succ_eq_append_getElem h, List.any_append, List.getD_eq_getElem?_getD, List.getElem?_eq_getElem h]; simp
theorem anyUpto_all (kl : List RD) (x : Int) : anyUpto kl x kl.length = hasKey kl x := by simp [anyUpto]
theorem hasKey_map {kl : List RD} {x : Int} : (x ∈ kl.map (·.lo)) ↔ hasKey kl x = true := hasKey_mem.symm

set_option maxRecDepth 100000 in
set_option maxHeartbeats 16000000 in
theorem made_any (a : Option Addr) (c : Nat) (l : List RD) (w : World) (hin : RdsIn w a l) (hr : l.length * 56 ≤ 140737488351232) :
    Calls Try.prog 36 #[.slice a l.length c] w fun e w' => ∃ P kv sv lk, e = .returned (.tuple #[.pointer (some ⟨w.heap.size, 0, none⟩), kv, sv]) ∧ MW w w' P w.heap.size kv sv (madeK (l.take 40)) (madeS (l.take 40)) lk := by
  obtain ⟨i0, hi0, hz0, hz1, hz2⟩ := info_parts info_read
  have HI := Lib.hid hin
  clear hin
  go_enter Try.func36, Try.ntmps36
  go_wp2_with fail
  refine (set_new w).mono ?_
  rintro e w1 ⟨rfl, h1, o1, -⟩
  have H1 := SW.new (Below.refl _ w) h1 o1
  have M1 : MW w w1 (fun b => b = w.heap.size) w.heap.size (.slice none 0 0) (.slice none 0 0) [] [] (fun _ => 0) := ⟨H1, World.ownsRow_nil _ _ _ _, World.ownsRow_nil _ _ _ _, fun b _ hb => rowOf_none _ _ _ hb, fun b _ hb => rowOf_none _ _ _ hb, fun b hb => absurd hb (rowOf_none _ _ _), fun r hr => by simp at hr, fun r hr => by simp at hr⟩
  clear h1 o1 H1
  obtain ⟨s, hs⟩ : ∃ s, s = w.heap.size := ⟨_, rfl⟩
  rw [← hs] at M1 ⊢
  have HS := Lib.hid hs
  clear hs
  go_wp2_with fail
  go_loopw [6, 7, 8] (fun kv sv i wr => ∃ (k : Nat) (kv0 sv0 : Value) (P : Nat → Prop) (lk : Nat → Int) (kl sl : List RD), kv0 = kv ∧ sv0 = sv ∧ k ≤ l.length ∧ k ≤ 40 ∧ i = .int .i64 k ∧ kl = madeK (l.take k) ∧ sl = madeS (l.take k) ∧ sl.length ≤ k ∧ MW w wr P s kv0 sv0 kl sl lk) (fun _ _ i _ => l.length - (intOf i).toNat)
  case atStart => exact ⟨0, _, _, _, _, [], [], rfl, rfl, by omega, by omega, rfl, rfl, rfl, by simp, M1⟩
  case round =>
    obtain ⟨k, kv, sv, P, lk, kl, sl, rfl, rfl, hk, hk4, rfl, hkl, hsl, hsn, hM⟩ := hrel
    have HKL := Lib.hid hkl
    have HSL := Lib.hid hsl
    have HM := Lib.hid hM
    have hfew := hM.set.set.few
    rw [List.length_map] at hfew
    clear M1 hkl hsl
    obtain ⟨ka, kc, rfl, hka⟩ := hM.krow.slice
    obtain ⟨sa, sc, rfl, hsa⟩ := hM.srow.slice
    clear hM hsa
    by_cases hgo : k < l.length ∧ k < 40
    · obtain ⟨g1, g2⟩ := hgo
      obtain ⟨hcells, hall⟩ := HI.out
      rcases hcells with h0 | ⟨b, off, rfl, hc⟩
      · rw [h0] at g1; simp at g1
      have hmem : l.getD k default ∈ l := by rw [List.getD_eq_getElem?_getD, List.getElem?_eq_getElem g1]; exact List.getElem_mem _
      obtain ⟨wlo, whi, wlk, hI, hwf, hlc, hcc, hno⟩ := hall _ hmem
      have hbw := block_lt_of_cell ((hc k 0 g1 (by decide)).trans rfl)
      have hbel := HM.out.set.bel
      have q0 := (hbel.cell (p := ⟨b, off + k * 5 + 0, none⟩) hbw).trans (hc k 0 g1 (by decide))
      have q1 := (hbel.cell (p := ⟨b, off + k * 5 + 1, none⟩) hbw).trans (hc k 1 g1 (by decide))
      have q2 := (hbel.cell (p := ⟨b, off + k * 5 + 2, none⟩) hbw).trans (hc k 2 g1 (by decide))
      have q3 := (hbel.cell (p := ⟨b, off + k * 5 + 3, none⟩) hbw).trans (hc k 3 g1 (by decide))
      have q4 := (hbel.cell (p := ⟨b, off + k * 5 + 4, none⟩) hbw).trans (hc k 4 g1 (by decide))
      have hK1 := madeK_succ g1
      have hS1 := madeS_succ g1
      rw [← HKL.out] at hK1
      rw [← HSL.out] at hS1
      obtain ⟨r, hrr⟩ : ∃ r, r = l.getD k default := ⟨_, rfl⟩
      rw [← hrr] at wlo whi wlk hI hwf hlc hno q0 q1 q2 q3 q4 hK1 hS1 hcc
      clear hrr hmem hc hall
      obtain ⟨sp, rlo, rhi, rlink, la, ls, lc⟩ := r
      simp only [rdCells, List.getElem?_cons_zero, List.getElem?_cons_succ, Nat.add_zero] at q0 q1 q2 q3 q4
      simp only at wlo whi wlk hI hwf hlc hno hcc
      have x1 := i64_and63 rlo
      have x2 := i64_and63 rhi
      have x3 := u64_and3 rlink
      obtain ⟨p, hp, hp1⟩ : ∃ p : Nat, rlo % 64 = (p : Int) ∧ p < 64 := ⟨(rlo % 64).toNat, by omega, by omega⟩
      obtain ⟨q, hq, hq1⟩ : ∃ q : Nat, rhi % 64 = (q : Int) ∧ q < 64 := ⟨(rhi % 64).toNat, by omega, by omega⟩
      obtain ⟨x, hx, hx1⟩ : ∃ x : Nat, rlink % 4 = (x : Int) ∧ x < 4 := ⟨(rlink % 4).toNat, by omega, by omega⟩
      rw [hp] at x1
      rw [hq] at x2
      rw [hx] at x3
      have hnull : la = none → ls = [] := fun e => List.eq_nil_of_length_eq_zero (by have := hno e; omega)
      have hNR : nrm ⟨sp, rlo, rhi, rlink, la, ls, lc⟩ = ⟨sp, if q < p then (q : Int) else p, if q < p then (p : Int) else q, x, la, ls.take 5, lc⟩ := by
        unfold nrm
        simp only [hp, hq, hx]
        by_cases h : q < p
        · have h' : (q : Int) < (p : Int) := by omega
          simp [h, h']
        · have h' : ¬ (q : Int) < (p : Int) := by omega
          simp [h, h']
      clear hp hq hx wlo whi wlk hwf hno
      have HI5 := Lib.hid (show Ints .u64 w la (ls.take 5) from by
        rcases hI with h | ⟨b', off', e, hc⟩
        · left; rw [h]; rfl
        · right
          refine ⟨b', off', e, fun i hi => ?_⟩
          rw [hc i (by simp at hi; omega)]
          congr 2
          simp at hi
          simp [List.getD_eq_getElem?_getD, hi, show i < ls.length by omega, show i < 5 by omega])
      have HN5 := Lib.hid (show la = none → ls.take 5 = [] from fun e => by rw [hnull e]; rfl)
      have HLC := Lib.hid (show (ls.take 5).length ≤ lc by simp; omega)
      by_cases h5 : 5 < ls.length
      · obtain ⟨bl, ol, hla, _⟩ := hI.at (by omega)
        subst hla
        have hlen : (ls.take 5).length = 5 := by simp; omega
        clear hI hnull
        by_cases hpq : q < p
        · rw [if_pos hpq, if_pos hpq] at hNR
          obtain ⟨lo, rfl⟩ : ∃ lo, lo = q := ⟨_, rfl⟩
          obtain ⟨hi, rfl⟩ : ∃ hi, hi = p := ⟨_, rfl⟩
          have hle : lo ≤ hi := by omega
          obtain ⟨W, hW⟩ : ∃ W, W = wr.alloc (.cells #[.bool sp, .int .i64 (lo : Nat), .int .i64 (hi : Nat), .int .u64 (x : Nat), .slice (some (⟨bl, ol, none⟩ : Addr)) 5 lc] 64) := ⟨_, rfl⟩
          have oW : Only0 wr W := by rw [hW]; exact (Only0.refl wr).alloc _
          have MWW := HM.out.only0 oW
          have BX : Blk W wr.heap.size 64 #[.bool sp, .int .i64 (lo : Nat), .int .i64 (hi : Nat), .int .u64 (x : Nat), .slice (some (⟨bl, ol, none⟩ : Addr)) 5 lc] := by rw [hW]; exact Blk.new _ _ _
          have hPb := HM.out.set.set.under
          have HPB := Lib.hid hPb
          have HMW := Lib.hid MWW
          have HBX := Lib.hid BX
          have hbx0 : W.cell? ⟨wr.heap.size, 0, none⟩ = some (.bool sp) := BX.cell 0
          have hWz := BX.lt
          have HIR := Lib.hid (show Ints .u64 w (some (⟨bl, ol, none⟩ : Addr)) (ls.take 5) ∧ (ls.take 5).length ≤ 5 ∧ ((some (⟨bl, ol, none⟩ : Addr)) = none → ls.take 5 = []) ∧ (ls.take 5).length ≤ lc ∧ lc ≤ 9223372036854775807 from ⟨HI5.out, by simp; omega, HN5.out, HLC.out, hcc⟩)
          have HWB := Lib.hid MWW.set.bel.size
          clear MWW BX oW HM hPb
          cases sp
          · have hKK : stepK kl ⟨false, rlo, rhi, rlink, (some (⟨bl, ol, none⟩ : Addr)), ls, lc⟩ = if hasKey kl lo then kl else kl ++ [⟨false, lo, hi, x, (some (⟨bl, ol, none⟩ : Addr)), ls.take 5, lc⟩] := by unfold stepK; rw [hNR]; rfl
            have hSS : stepS sl ⟨false, rlo, rhi, rlink, (some (⟨bl, ol, none⟩ : Addr)), ls, lc⟩ = sl := by unfold stepS; rw [hNR]; rfl
            rw [hKK] at hK1
            rw [hSS] at hS1
            have HK1 := Lib.hid hK1
            have HS1 := Lib.hid hS1
            have HLEN := Lib.hid hlen
            clear hKK hSS hK1 hS1 hNR hlen
            go_wp2_with fail
            rw [← hW]
            clear hW
            go_loopw [10, 11] (fun d i wr2 => ∃ (j m : Nat), j ≤ kl.length ∧ i = .int .i64 j ∧ d = .bool (anyUpto kl lo j) ∧ wr2 = W.drewN m) (fun _ i _ => kl.length - (intOf i).toNat)
            case atStart => exact ⟨0, 0, by omega, rfl, by simp [anyUpto, hasKey], rfl⟩
            case round =>
              obtain ⟨j, m, hj, rfl, rfl, rfl⟩ := hrel
              have hbx1 : W.cell? ⟨wr.heap.size, 1, none⟩ = some (.int .i64 (lo : Nat)) := HBX.out.cell 1
              by_cases hjn : j < kl.length
              · obtain ⟨gk, hgk⟩ := hka (by omega)
                subst hgk
                have qk := HMW.out.krow.cell rfl j hjn 1 (by decide)
                simp only [rdCells, List.getElem?_cons_zero, List.getElem?_cons_succ] at qk
                have hS := anyUpto_succ (x := (lo : Int)) hjn
                generalize (kl.getD j default).lo = y at qk hS
                have HS2 := Lib.hid hS
                have j0 : (0 : Int) ≤ (j : Int) := by omega
                have j1 : (j : Int) < (kl.length : Int) := by omega
                generalize anyUpto kl lo j = d at *
                clear hS hka
                cases d
                · by_cases hy : y = (lo : Int)
                  · subst hy
                    go_wp2_with fail
                    go_quiet (fail)
                    go_wp2_with fail
                    go_roundw
                    case rel => exact ⟨j + 1, _, by omega, by go_num, by rw [HS2.out]; simp, rfl⟩
                    case measure => simp [intOf]; omega
                  · have hyb : (y == (lo : Int)) = false := by simpa using hy
                    go_wp2_with fail
                    go_quiet (fail)
                    go_wp2_with fail
                    go_roundw
                    case rel => exact ⟨j + 1, _, by omega, by go_num, by rw [HS2.out]; simp [hy], rfl⟩
                    case measure => simp [intOf]; omega
                · go_wp2_with fail
                  go_quiet (fail)
                  go_wp2_with fail
                  go_roundw
                  case rel => exact ⟨j + 1, _, by omega, by go_num, by rw [HS2.out]; simp, rfl⟩
                  case measure => simp [intOf]; omega
              · obtain rfl : j = kl.length := by omega
                rw [anyUpto_all]
                have MWD := HMW.out.only0 ((Only0.refl W).drewN m)
                have BXD : Blk (W.drewN m) wr.heap.size 64 #[.bool false, .int .i64 (lo : Nat), .int .i64 (hi : Nat), .int .u64 (x : Nat), .slice (some (⟨bl, ol, none⟩ : Addr)) 5 lc] := HBX.out.drewN m
                have hbx3 : W.cell? ⟨wr.heap.size, 3, none⟩ = some (.int .u64 (x : Nat)) := HBX.out.cell 3
                have hlo64 : lo < 64 := by omega
                have A := set_add MWD.set.set lo hlo64 (x : Int)
                by_cases hkb : hasKey kl (lo : Int) = true
                · have hmm : (lo : Int) ∈ kl.map (·.lo) := hasKey_mem.1 hkb
                  have hal : addL (kl.map (·.lo)) lk lo x = lk := if_pos hmm
                  rw [show addK (kl.map (·.lo)) (lo : Int) = kl.map (·.lo) from if_pos hmm, hal] at A
                  have HK2 := Lib.hid (show madeK (l.take (k + 1)) = kl by rw [HK1.out, if_pos hkb])
                  have HKB := Lib.hid hkb
                  rw [hkb]
                  clear hmm hal hkb hka
                  go_wp2_with fail
                  refine A.mono ?_
                  rintro e w3 ⟨rfl, P3, h3, o3, g3⟩
                  obtain ⟨S3, k3, s3, ap1, ap2, ap3⟩ := MWD.pieces h3 o3 g3
                  have M3 : MW w w3 P3 s (.slice ka kl.length kc) (.slice sa sl.length sc) kl sl lk := ⟨S3, k3, s3, ap1, ap2, ap3, HMW.out.lks, HMW.out.ints⟩
                  clear A h3 o3 g3 S3 k3 s3 ap1 ap2 ap3 MWD BXD
                  go_wp2_with fail
                  go_roundw
                  case rel => exact ⟨k + 1, _, _, P3, _, _, _, rfl, rfl, by omega, by omega, by go_num, HK2.out.symm, HS1.out.symm, by omega, M3⟩
                  case measure => simp [intOf]; omega
                · rw [Bool.not_eq_true] at hkb
                  have hnm : (lo : Int) ∉ kl.map (·.lo) := fun e => by rw [hasKey_mem.2 e] at hkb; cases hkb
                  rw [show addK (kl.map (·.lo)) (lo : Int) = (kl ++ [(⟨false, lo, hi, x, (some (⟨bl, ol, none⟩ : Addr)), ls.take 5, lc⟩ : RD)]).map (·.lo) by unfold addK; rw [if_neg hnm]; simp] at A
                  have HL := Lib.hid (MWD.lks_new ⟨false, lo, hi, x, (some (⟨bl, ol, none⟩ : Addr)), ls.take 5, lc⟩ lo rfl hkb)
                  have HK2 := Lib.hid (show madeK (l.take (k + 1)) = kl ++ [(⟨false, lo, hi, x, (some (⟨bl, ol, none⟩ : Addr)), ls.take 5, lc⟩ : RD)] by rw [HK1.out, if_neg (by rw [hkb]; decide)])
                  rw [hkb]
                  clear hnm hkb hka
                  go_wp2_with fail
                  refine A.mono ?_
                  rintro e w3 ⟨rfl, P3, h3, o3, g3⟩
                  have BX3 := o3.blk BXD (fun hp => by have := HPB.out _ hp; omega)
                  obtain ⟨S3, k3, s3, ap1, ap2, ap3⟩ := MWD.pieces h3 o3 g3
                  have hz3 := S3.bel.size
                  have n0 : w3.cell? ⟨wr.heap.size, 0, none⟩ = some (.bool false) := BX3.cell 0
                  have n1 : w3.cell? ⟨wr.heap.size, 1, none⟩ = some (.int .i64 (lo : Nat)) := BX3.cell 1
                  have n2 : w3.cell? ⟨wr.heap.size, 2, none⟩ = some (.int .i64 (hi : Nat)) := BX3.cell 2
                  have n3 : w3.cell? ⟨wr.heap.size, 3, none⟩ = some (.int .u64 (x : Nat)) := BX3.cell 3
                  have n4 : w3.cell? ⟨wr.heap.size, 4, none⟩ = some (.slice (some (⟨bl, ol, none⟩ : Addr)) 5 lc) := BX3.cell 4
                  have MA := Lib.hid (fun w4 g cap ob h1 h2 h3 => MW.appK (w2 := w4) (g := g) (cap := cap) (ob := ob) S3 k3 s3 ap1 ap2 ap3 HL.out HMW.out.ints HIR.out h1 h2 h3)
                  have hown3 : w3.ownsRow w.heap.size 64 5 (.slice ka kl.length kc) kl.length (rdRow kl) := k3
                  clear A h3 o3 g3 S3 k3 s3 ap1 ap2 ap3 BX3 MWD BXD HL
                  go_wp2_with (at_builtin; refine wpList_append_lies _ rfl _ _ 60 rfl w.heap.size 64 i0 (.agg #[.bool false, .int .i64 0, .int .i64 0, .int .u64 0, .slice none 0 0]) 5 56 Try.underlying60 hi0 hz0 hz1 hz2 rfl (by decide) (.slice ka kl.length kc) kl.length (rdRow kl) rfl (hown3.alloc _) ⟨w3.heap.size, 0, none⟩ 1 1 (rdCells ⟨false, lo, hi, x, (some (⟨bl, ol, none⟩ : Addr)), ls.take 5, lc⟩) rfl rfl ?c1 ?c2 (by decide) ?c3 ?c4 ?c5 (w3.heap.size + 1) ?c6 ?_)
                  case c1 =>
                    refine news_of_cells (t := 64) ?_
                    simp only [rdCells]
                    rw [HLEN.out]
                    exact Blk.new _ _ _
                  case c2 => intro u hu; simp [rdCells] at hu; rcases hu with rfl | rfl | rfl | rfl | rfl <;> rfl
                  case c3 => unfold maxLen; omega
                  case c4 => omega
                  case c5 => simp; omega
                  case c6 => simp
                  intro g cap w4 hown4 hgrow4 hat4 hg4
                  have M4 := MA.out _ _ _ _ hown4 hgrow4 hat4
                  clear MA hown4 hgrow4 hat4 hg4 hown3 n0 n1 n2 n3 n4
                  go_wp2_with fail
                  go_roundw
                  case rel => exact ⟨k + 1, _, _, P3, _, _, _, rfl, rfl, by omega, by omega, by go_num, HK2.out.symm, HS1.out.symm, by omega, M4⟩
                  case measure => simp [intOf]; omega
          · have hKK : stepK kl ⟨true, rlo, rhi, rlink, (some (⟨bl, ol, none⟩ : Addr)), ls, lc⟩ = kl := by unfold stepK; rw [hNR]; rfl
            have hSS : stepS sl ⟨true, rlo, rhi, rlink, (some (⟨bl, ol, none⟩ : Addr)), ls, lc⟩ = sl ++ [⟨true, lo, hi, x, (some (⟨bl, ol, none⟩ : Addr)), ls.take 5, lc⟩] := by unfold stepS; rw [hNR]; rfl
            rw [hKK] at hK1
            rw [hSS] at hS1
            have HK1 := Lib.hid hK1
            have HS1 := Lib.hid hS1
            clear hKK hSS hK1 hS1 hNR
            have A := set_span HMW.out.set.set (lo : Int) (hi : Int) (some (⟨bl, ol, none⟩ : Addr)) lc (ls.take 5) (HI5.out.below HMW.out.set.bel) HN5.out (by simp; omega)
            have hsb : spanBad (lo : Int) (hi : Int) = false := by simp [spanBad]; omega
            have hl64 : ¬ 64 ≤ (sl.map toRg).length := by rw [List.length_map]; omega
            rw [show spanRes (sl.map toRg) lo hi = 0 by simp only [spanRes, hsb, Bool.false_eq_true, if_false, hl64], show spanRs (sl.map toRg) lo hi (ls.take 5) = (sl ++ [(⟨true, lo, hi, x, (some (⟨bl, ol, none⟩ : Addr)), ls.take 5, lc⟩ : RD)]).map toRg by simp only [spanRs, hsb, Bool.false_eq_true, if_false, hl64, List.map_append]; rfl, hlen] at A
            have HLEN := Lib.hid hlen
            clear hsb hl64 hlen hka
            rw [hW] at A
            go_wp2_with fail
            refine A.mono ?_
            rw [← hW]
            rintro e w3 ⟨rfl, P3, h3, o3, g3⟩
            have BX3 := o3.blk HBX.out (fun hp => by have := HPB.out _ hp; omega)
            obtain ⟨S3, k3, s3, ap1, ap2, ap3⟩ := HMW.out.pieces h3 o3 g3
            have hz3 := S3.bel.size
            have n0 : w3.cell? ⟨wr.heap.size, 0, none⟩ = some (.bool true) := BX3.cell 0
            have n1 : w3.cell? ⟨wr.heap.size, 1, none⟩ = some (.int .i64 (lo : Nat)) := BX3.cell 1
            have n2 : w3.cell? ⟨wr.heap.size, 2, none⟩ = some (.int .i64 (hi : Nat)) := BX3.cell 2
            have n3 : w3.cell? ⟨wr.heap.size, 3, none⟩ = some (.int .u64 (x : Nat)) := BX3.cell 3
            have n4 : w3.cell? ⟨wr.heap.size, 4, none⟩ = some (.slice (some (⟨bl, ol, none⟩ : Addr)) 5 lc) := BX3.cell 4
            have MA := Lib.hid (fun w4 g cap ob h1 h2 h3 => MW.appS (w2 := w4) (g := g) (cap := cap) (ob := ob) S3 k3 s3 ap1 ap2 ap3 HMW.out.lks HMW.out.ints HIR.out h1 h2 h3)
            have hown3 : w3.ownsRow w.heap.size 64 5 (.slice sa sl.length sc) sl.length (rdRow sl) := s3
            clear A h3 o3 g3 S3 k3 s3 ap1 ap2 ap3 BX3 hW
            go_wp2_with (at_builtin; refine wpList_append_lies _ rfl _ _ 60 rfl w.heap.size 64 i0 (.agg #[.bool false, .int .i64 0, .int .i64 0, .int .u64 0, .slice none 0 0]) 5 56 Try.underlying60 hi0 hz0 hz1 hz2 rfl (by decide) (.slice sa sl.length sc) sl.length (rdRow sl) rfl (hown3.alloc _) ⟨w3.heap.size, 0, none⟩ 1 1 (rdCells ⟨true, lo, hi, x, (some (⟨bl, ol, none⟩ : Addr)), ls.take 5, lc⟩) rfl rfl ?c1 ?c2 (by decide) ?c3 ?c4 ?c5 (w3.heap.size + 1) ?c6 ?_)
            case c1 =>
              refine news_of_cells (t := 64) ?_
              simp only [rdCells]
              rw [HLEN.out]
              exact Blk.new _ _ _
            case c2 => intro u hu; simp [rdCells] at hu; rcases hu with rfl | rfl | rfl | rfl | rfl <;> rfl
            case c3 => unfold maxLen; omega
            case c4 => omega
            case c5 => simp; omega
            case c6 => simp
            intro g cap w4 hown4 hgrow4 hat4 hg4
            have M4 := MA.out _ _ _ _ hown4 hgrow4 hat4
            clear MA hown4 hgrow4 hat4 hg4 hown3 n0 n1 n2 n3 n4
            go_wp2_with fail
            go_roundw
            case rel => exact ⟨k + 1, _, _, P3, _, _, _, rfl, rfl, by omega, by omega, by go_num, HK1.out.symm, HS1.out.symm, by simp; omega, M4⟩
            case measure => simp [intOf]; omega
        · rw [if_neg hpq, if_neg hpq] at hNR
          obtain ⟨hi, rfl⟩ : ∃ hi, hi = q := ⟨_, rfl⟩
          obtain ⟨lo, rfl⟩ : ∃ lo, lo = p := ⟨_, rfl⟩
          have hle : lo ≤ hi := by omega
          obtain ⟨W, hW⟩ : ∃ W, W = wr.alloc (.cells #[.bool sp, .int .i64 (lo : Nat), .int .i64 (hi : Nat), .int .u64 (x : Nat), .slice (some (⟨bl, ol, none⟩ : Addr)) 5 lc] 64) := ⟨_, rfl⟩
          have oW : Only0 wr W := by rw [hW]; exact (Only0.refl wr).alloc _
          have MWW := HM.out.only0 oW
          have BX : Blk W wr.heap.size 64 #[.bool sp, .int .i64 (lo : Nat), .int .i64 (hi : Nat), .int .u64 (x : Nat), .slice (some (⟨bl, ol, none⟩ : Addr)) 5 lc] := by rw [hW]; exact Blk.new _ _ _
          have hPb := HM.out.set.set.under
          have HPB := Lib.hid hPb
          have HMW := Lib.hid MWW
          have HBX := Lib.hid BX
          have hbx0 : W.cell? ⟨wr.heap.size, 0, none⟩ = some (.bool sp) := BX.cell 0
          have hWz := BX.lt
          have HIR := Lib.hid (show Ints .u64 w (some (⟨bl, ol, none⟩ : Addr)) (ls.take 5) ∧ (ls.take 5).length ≤ 5 ∧ ((some (⟨bl, ol, none⟩ : Addr)) = none → ls.take 5 = []) ∧ (ls.take 5).length ≤ lc ∧ lc ≤ 9223372036854775807 from ⟨HI5.out, by simp; omega, HN5.out, HLC.out, hcc⟩)
          have HWB := Lib.hid MWW.set.bel.size
          clear MWW BX oW HM hPb
          cases sp
          · have hKK : stepK kl ⟨false, rlo, rhi, rlink, (some (⟨bl, ol, none⟩ : Addr)), ls, lc⟩ = if hasKey kl lo then kl else kl ++ [⟨false, lo, hi, x, (some (⟨bl, ol, none⟩ : Addr)), ls.take 5, lc⟩] := by unfold stepK; rw [hNR]; rfl
            have hSS : stepS sl ⟨false, rlo, rhi, rlink, (some (⟨bl, ol, none⟩ : Addr)), ls, lc⟩ = sl := by unfold stepS; rw [hNR]; rfl
            rw [hKK] at hK1
            rw [hSS] at hS1
            have HK1 := Lib.hid hK1
            have HS1 := Lib.hid hS1
            have HLEN := Lib.hid hlen
            clear hKK hSS hK1 hS1 hNR hlen
            go_wp2_with fail
            rw [← hW]
            clear hW
            go_loopw [10, 11] (fun d i wr2 => ∃ (j m : Nat), j ≤ kl.length ∧ i = .int .i64 j ∧ d = .bool (anyUpto kl lo j) ∧ wr2 = W.drewN m) (fun _ i _ => kl.length - (intOf i).toNat)
            case atStart => exact ⟨0, 0, by omega, rfl, by simp [anyUpto, hasKey], rfl⟩
            case round =>
              obtain ⟨j, m, hj, rfl, rfl, rfl⟩ := hrel
              have hbx1 : W.cell? ⟨wr.heap.size, 1, none⟩ = some (.int .i64 (lo : Nat)) := HBX.out.cell 1
              by_cases hjn : j < kl.length
              · obtain ⟨gk, hgk⟩ := hka (by omega)
                subst hgk
                have qk := HMW.out.krow.cell rfl j hjn 1 (by decide)
                simp only [rdCells, List.getElem?_cons_zero, List.getElem?_cons_succ] at qk
                have hS := anyUpto_succ (x := (lo : Int)) hjn
                generalize (kl.getD j default).lo = y at qk hS
                have HS2 := Lib.hid hS
                have j0 : (0 : Int) ≤ (j : Int) := by omega
                have j1 : (j : Int) < (kl.length : Int) := by omega
                generalize anyUpto kl lo j = d at *
                clear hS hka
                cases d
                · by_cases hy : y = (lo : Int)
                  · subst hy
                    go_wp2_with fail
                    go_quiet (fail)
                    go_wp2_with fail
                    go_roundw
                    case rel => exact ⟨j + 1, _, by omega, by go_num, by rw [HS2.out]; simp, rfl⟩
                    case measure => simp [intOf]; omega
                  · have hyb : (y == (lo : Int)) = false := by simpa using hy
                    go_wp2_with fail
                    go_quiet (fail)
                    go_wp2_with fail
                    go_roundw
                    case rel => exact ⟨j + 1, _, by omega, by go_num, by rw [HS2.out]; simp [hy], rfl⟩
                    case measure => simp [intOf]; omega
                · go_wp2_with fail
                  go_quiet (fail)
                  go_wp2_with fail
                  go_roundw
                  case rel => exact ⟨j + 1, _, by omega, by go_num, by rw [HS2.out]; simp, rfl⟩
                  case measure => simp [intOf]; omega
              · obtain rfl : j = kl.length := by omega
                rw [anyUpto_all]
                have MWD := HMW.out.only0 ((Only0.refl W).drewN m)
                have BXD : Blk (W.drewN m) wr.heap.size 64 #[.bool false, .int .i64 (lo : Nat), .int .i64 (hi : Nat), .int .u64 (x : Nat), .slice (some (⟨bl, ol, none⟩ : Addr)) 5 lc] := HBX.out.drewN m
                have hbx3 : W.cell? ⟨wr.heap.size, 3, none⟩ = some (.int .u64 (x : Nat)) := HBX.out.cell 3
                have hlo64 : lo < 64 := by omega
                have A := set_add MWD.set.set lo hlo64 (x : Int)
                by_cases hkb : hasKey kl (lo : Int) = true
                · have hmm : (lo : Int) ∈ kl.map (·.lo) := hasKey_mem.1 hkb
                  have hal : addL (kl.map (·.lo)) lk lo x = lk := if_pos hmm
                  rw [show addK (kl.map (·.lo)) (lo : Int) = kl.map (·.lo) from if_pos hmm, hal] at A
                  have HK2 := Lib.hid (show madeK (l.take (k + 1)) = kl by rw [HK1.out, if_pos hkb])
                  have HKB := Lib.hid hkb
                  rw [hkb]
                  clear hmm hal hkb hka
                  go_wp2_with fail
                  refine A.mono ?_
                  rintro e w3 ⟨rfl, P3, h3, o3, g3⟩
                  obtain ⟨S3, k3, s3, ap1, ap2, ap3⟩ := MWD.pieces h3 o3 g3
                  have M3 : MW w w3 P3 s (.slice ka kl.length kc) (.slice sa sl.length sc) kl sl lk := ⟨S3, k3, s3, ap1, ap2, ap3, HMW.out.lks, HMW.out.ints⟩
                  clear A h3 o3 g3 S3 k3 s3 ap1 ap2 ap3 MWD BXD
                  go_wp2_with fail
                  go_roundw
                  case rel => exact ⟨k + 1, _, _, P3, _, _, _, rfl, rfl, by omega, by omega, by go_num, HK2.out.symm, HS1.out.symm, by omega, M3⟩
                  case measure => simp [intOf]; omega
                · rw [Bool.not_eq_true] at hkb
                  have hnm : (lo : Int) ∉ kl.map (·.lo) := fun e => by rw [hasKey_mem.2 e] at hkb; cases hkb
                  rw [show addK (kl.map (·.lo)) (lo : Int) = (kl ++ [(⟨false, lo, hi, x, (some (⟨bl, ol, none⟩ : Addr)), ls.take 5, lc⟩ : RD)]).map (·.lo) by unfold addK; rw [if_neg hnm]; simp] at A
                  have HL := Lib.hid (MWD.lks_new ⟨false, lo, hi, x, (some (⟨bl, ol, none⟩ : Addr)), ls.take 5, lc⟩ lo rfl hkb)
                  have HK2 := Lib.hid (show madeK (l.take (k + 1)) = kl ++ [(⟨false, lo, hi, x, (some (⟨bl, ol, none⟩ : Addr)), ls.take 5, lc⟩ : RD)] by rw [HK1.out, if_neg (by rw [hkb]; decide)])
                  rw [hkb]
                  clear hnm hkb hka
                  go_wp2_with fail
                  refine A.mono ?_
                  rintro e w3 ⟨rfl, P3, h3, o3, g3⟩
                  have BX3 := o3.blk BXD (fun hp => by have := HPB.out _ hp; omega)
                  obtain ⟨S3, k3, s3, ap1, ap2, ap3⟩ := MWD.pieces h3 o3 g3
                  have hz3 := S3.bel.size
                  have n0 : w3.cell? ⟨wr.heap.size, 0, none⟩ = some (.bool false) := BX3.cell 0
                  have n1 : w3.cell? ⟨wr.heap.size, 1, none⟩ = some (.int .i64 (lo : Nat)) := BX3.cell 1
                  have n2 : w3.cell? ⟨wr.heap.size, 2, none⟩ = some (.int .i64 (hi : Nat)) := BX3.cell 2
                  have n3 : w3.cell? ⟨wr.heap.size, 3, none⟩ = some (.int .u64 (x : Nat)) := BX3.cell 3
                  have n4 : w3.cell? ⟨wr.heap.size, 4, none⟩ = some (.slice (some (⟨bl, ol, none⟩ : Addr)) 5 lc) := BX3.cell 4
                  have MA := Lib.hid (fun w4 g cap ob h1 h2 h3 => MW.appK (w2 := w4) (g := g) (cap := cap) (ob := ob) S3 k3 s3 ap1 ap2 ap3 HL.out HMW.out.ints HIR.out h1 h2 h3)
                  have hown3 : w3.ownsRow w.heap.size 64 5 (.slice ka kl.length kc) kl.length (rdRow kl) := k3
                  clear A h3 o3 g3 S3 k3 s3 ap1 ap2 ap3 BX3 MWD BXD HL
                  go_wp2_with (at_builtin; refine wpList_append_lies _ rfl _ _ 60 rfl w.heap.size 64 i0 (.agg #[.bool false, .int .i64 0, .int .i64 0, .int .u64 0, .slice none 0 0]) 5 56 Try.underlying60 hi0 hz0 hz1 hz2 rfl (by decide) (.slice ka kl.length kc) kl.length (rdRow kl) rfl (hown3.alloc _) ⟨w3.heap.size, 0, none⟩ 1 1 (rdCells ⟨false, lo, hi, x, (some (⟨bl, ol, none⟩ : Addr)), ls.take 5, lc⟩) rfl rfl ?c1 ?c2 (by decide) ?c3 ?c4 ?c5 (w3.heap.size + 1) ?c6 ?_)
                  case c1 =>
                    refine news_of_cells (t := 64) ?_
                    simp only [rdCells]
                    rw [HLEN.out]
                    exact Blk.new _ _ _
                  case c2 => intro u hu; simp [rdCells] at hu; rcases hu with rfl | rfl | rfl | rfl | rfl <;> rfl
                  case c3 => unfold maxLen; omega
                  case c4 => omega
                  case c5 => simp; omega
                  case c6 => simp
                  intro g cap w4 hown4 hgrow4 hat4 hg4
                  have M4 := MA.out _ _ _ _ hown4 hgrow4 hat4
                  clear MA hown4 hgrow4 hat4 hg4 hown3 n0 n1 n2 n3 n4
                  go_wp2_with fail
                  go_roundw
                  case rel => exact ⟨k + 1, _, _, P3, _, _, _, rfl, rfl, by omega, by omega, by go_num, HK2.out.symm, HS1.out.symm, by omega, M4⟩
                  case measure => simp [intOf]; omega
          · have hKK : stepK kl ⟨true, rlo, rhi, rlink, (some (⟨bl, ol, none⟩ : Addr)), ls, lc⟩ = kl := by unfold stepK; rw [hNR]; rfl
            have hSS : stepS sl ⟨true, rlo, rhi, rlink, (some (⟨bl, ol, none⟩ : Addr)), ls, lc⟩ = sl ++ [⟨true, lo, hi, x, (some (⟨bl, ol, none⟩ : Addr)), ls.take 5, lc⟩] := by unfold stepS; rw [hNR]; rfl
            rw [hKK] at hK1
            rw [hSS] at hS1
            have HK1 := Lib.hid hK1
            have HS1 := Lib.hid hS1
            clear hKK hSS hK1 hS1 hNR
            have A := set_span HMW.out.set.set (lo : Int) (hi : Int) (some (⟨bl, ol, none⟩ : Addr)) lc (ls.take 5) (HI5.out.below HMW.out.set.bel) HN5.out (by simp; omega)
            have hsb : spanBad (lo : Int) (hi : Int) = false := by simp [spanBad]; omega
            have hl64 : ¬ 64 ≤ (sl.map toRg).length := by rw [List.length_map]; omega
            rw [show spanRes (sl.map toRg) lo hi = 0 by simp only [spanRes, hsb, Bool.false_eq_true, if_false, hl64], show spanRs (sl.map toRg) lo hi (ls.take 5) = (sl ++ [(⟨true, lo, hi, x, (some (⟨bl, ol, none⟩ : Addr)), ls.take 5, lc⟩ : RD)]).map toRg by simp only [spanRs, hsb, Bool.false_eq_true, if_false, hl64, List.map_append]; rfl, hlen] at A
            have HLEN := Lib.hid hlen
            clear hsb hl64 hlen hka
            rw [hW] at A
            go_wp2_with fail
            refine A.mono ?_
            rw [← hW]
            rintro e w3 ⟨rfl, P3, h3, o3, g3⟩
            have BX3 := o3.blk HBX.out (fun hp => by have := HPB.out _ hp; omega)
            obtain ⟨S3, k3, s3, ap1, ap2, ap3⟩ := HMW.out.pieces h3 o3 g3
            have hz3 := S3.bel.size
            have n0 : w3.cell? ⟨wr.heap.size, 0, none⟩ = some (.bool true) := BX3.cell 0
            have n1 : w3.cell? ⟨wr.heap.size, 1, none⟩ = some (.int .i64 (lo : Nat)) := BX3.cell 1
            have n2 : w3.cell? ⟨wr.heap.size, 2, none⟩ = some (.int .i64 (hi : Nat)) := BX3.cell 2
            have n3 : w3.cell? ⟨wr.heap.size, 3, none⟩ = some (.int .u64 (x : Nat)) := BX3.cell 3
            have n4 : w3.cell? ⟨wr.heap.size, 4, none⟩ = some (.slice (some (⟨bl, ol, none⟩ : Addr)) 5 lc) := BX3.cell 4
            have MA := Lib.hid (fun w4 g cap ob h1 h2 h3 => MW.appS (w2 := w4) (g := g) (cap := cap) (ob := ob) S3 k3 s3 ap1 ap2 ap3 HMW.out.lks HMW.out.ints HIR.out h1 h2 h3)
            have hown3 : w3.ownsRow w.heap.size 64 5 (.slice sa sl.length sc) sl.length (rdRow sl) := s3
            clear A h3 o3 g3 S3 k3 s3 ap1 ap2 ap3 BX3 hW
            go_wp2_with (at_builtin; refine wpList_append_lies _ rfl _ _ 60 rfl w.heap.size 64 i0 (.agg #[.bool false, .int .i64 0, .int .i64 0, .int .u64 0, .slice none 0 0]) 5 56 Try.underlying60 hi0 hz0 hz1 hz2 rfl (by decide) (.slice sa sl.length sc) sl.length (rdRow sl) rfl (hown3.alloc _) ⟨w3.heap.size, 0, none⟩ 1 1 (rdCells ⟨true, lo, hi, x, (some (⟨bl, ol, none⟩ : Addr)), ls.take 5, lc⟩) rfl rfl ?c1 ?c2 (by decide) ?c3 ?c4 ?c5 (w3.heap.size + 1) ?c6 ?_)
            case c1 =>
              refine news_of_cells (t := 64) ?_
              simp only [rdCells]
              rw [HLEN.out]
              exact Blk.new _ _ _
            case c2 => intro u hu; simp [rdCells] at hu; rcases hu with rfl | rfl | rfl | rfl | rfl <;> rfl
            case c3 => unfold maxLen; omega
            case c4 => omega
            case c5 => simp; omega
            case c6 => simp
            intro g cap w4 hown4 hgrow4 hat4 hg4
            have M4 := MA.out _ _ _ _ hown4 hgrow4 hat4
            clear MA hown4 hgrow4 hat4 hg4 hown3 n0 n1 n2 n3 n4
            go_wp2_with fail
            go_roundw
            case rel => exact ⟨k + 1, _, _, P3, _, _, _, rfl, rfl, by omega, by omega, by go_num, HK1.out.symm, HS1.out.symm, by simp; omega, M4⟩
            case measure => simp [intOf]; omega
      · have hlen : (ls.take 5).length = ls.length := by simp; omega
        clear hI hnull
        by_cases hpq : q < p
        · rw [if_pos hpq, if_pos hpq] at hNR
          obtain ⟨lo, rfl⟩ : ∃ lo, lo = q := ⟨_, rfl⟩
          obtain ⟨hi, rfl⟩ : ∃ hi, hi = p := ⟨_, rfl⟩
          have hle : lo ≤ hi := by omega
          obtain ⟨W, hW⟩ : ∃ W, W = wr.alloc (.cells #[.bool sp, .int .i64 (lo : Nat), .int .i64 (hi : Nat), .int .u64 (x : Nat), .slice la ls.length lc] 64) := ⟨_, rfl⟩
          have oW : Only0 wr W := by rw [hW]; exact (Only0.refl wr).alloc _
          have MWW := HM.out.only0 oW
          have BX : Blk W wr.heap.size 64 #[.bool sp, .int .i64 (lo : Nat), .int .i64 (hi : Nat), .int .u64 (x : Nat), .slice la ls.length lc] := by rw [hW]; exact Blk.new _ _ _
          have hPb := HM.out.set.set.under
          have HPB := Lib.hid hPb
          have HMW := Lib.hid MWW
          have HBX := Lib.hid BX
          have hbx0 : W.cell? ⟨wr.heap.size, 0, none⟩ = some (.bool sp) := BX.cell 0
          have hWz := BX.lt
          have HIR := Lib.hid (show Ints .u64 w la (ls.take 5) ∧ (ls.take 5).length ≤ 5 ∧ (la = none → ls.take 5 = []) ∧ (ls.take 5).length ≤ lc ∧ lc ≤ 9223372036854775807 from ⟨HI5.out, by simp; omega, HN5.out, HLC.out, hcc⟩)
          have HWB := Lib.hid MWW.set.bel.size
          clear MWW BX oW HM hPb
          cases sp
          · have hKK : stepK kl ⟨false, rlo, rhi, rlink, la, ls, lc⟩ = if hasKey kl lo then kl else kl ++ [⟨false, lo, hi, x, la, ls.take 5, lc⟩] := by unfold stepK; rw [hNR]; rfl
            have hSS : stepS sl ⟨false, rlo, rhi, rlink, la, ls, lc⟩ = sl := by unfold stepS; rw [hNR]; rfl
            rw [hKK] at hK1
            rw [hSS] at hS1
            have HK1 := Lib.hid hK1
            have HS1 := Lib.hid hS1
            have HLEN := Lib.hid hlen
            clear hKK hSS hK1 hS1 hNR hlen
            go_wp2_with fail
            rw [← hW]
            clear hW
            go_loopw [10, 11] (fun d i wr2 => ∃ (j m : Nat), j ≤ kl.length ∧ i = .int .i64 j ∧ d = .bool (anyUpto kl lo j) ∧ wr2 = W.drewN m) (fun _ i _ => kl.length - (intOf i).toNat)
            case atStart => exact ⟨0, 0, by omega, rfl, by simp [anyUpto, hasKey], rfl⟩
            case round =>
              obtain ⟨j, m, hj, rfl, rfl, rfl⟩ := hrel
              have hbx1 : W.cell? ⟨wr.heap.size, 1, none⟩ = some (.int .i64 (lo : Nat)) := HBX.out.cell 1
              by_cases hjn : j < kl.length
              · obtain ⟨gk, hgk⟩ := hka (by omega)
                subst hgk
                have qk := HMW.out.krow.cell rfl j hjn 1 (by decide)
                simp only [rdCells, List.getElem?_cons_zero, List.getElem?_cons_succ] at qk
                have hS := anyUpto_succ (x := (lo : Int)) hjn
                generalize (kl.getD j default).lo = y at qk hS
                have HS2 := Lib.hid hS
                have j0 : (0 : Int) ≤ (j : Int) := by omega
                have j1 : (j : Int) < (kl.length : Int) := by omega
                generalize anyUpto kl lo j = d at *
                clear hS hka
                cases d
                · by_cases hy : y = (lo : Int)
                  · subst hy
                    go_wp2_with fail
                    go_quiet (fail)
                    go_wp2_with fail
                    go_roundw
                    case rel => exact ⟨j + 1, _, by omega, by go_num, by rw [HS2.out]; simp, rfl⟩
                    case measure => simp [intOf]; omega
                  · have hyb : (y == (lo : Int)) = false := by simpa using hy
                    go_wp2_with fail
                    go_quiet (fail)
                    go_wp2_with fail
                    go_roundw
                    case rel => exact ⟨j + 1, _, by omega, by go_num, by rw [HS2.out]; simp [hy], rfl⟩
                    case measure => simp [intOf]; omega
                · go_wp2_with fail
                  go_quiet (fail)
                  go_wp2_with fail
                  go_roundw
                  case rel => exact ⟨j + 1, _, by omega, by go_num, by rw [HS2.out]; simp, rfl⟩
                  case measure => simp [intOf]; omega
              · obtain rfl : j = kl.length := by omega
                rw [anyUpto_all]
                have MWD := HMW.out.only0 ((Only0.refl W).drewN m)
                have BXD : Blk (W.drewN m) wr.heap.size 64 #[.bool false, .int .i64 (lo : Nat), .int .i64 (hi : Nat), .int .u64 (x : Nat), .slice la ls.length lc] := HBX.out.drewN m
                have hbx3 : W.cell? ⟨wr.heap.size, 3, none⟩ = some (.int .u64 (x : Nat)) := HBX.out.cell 3
                have hlo64 : lo < 64 := by omega
                have A := set_add MWD.set.set lo hlo64 (x : Int)
                by_cases hkb : hasKey kl (lo : Int) = true
                · have hmm : (lo : Int) ∈ kl.map (·.lo) := hasKey_mem.1 hkb
                  have hal : addL (kl.map (·.lo)) lk lo x = lk := if_pos hmm
                  rw [show addK (kl.map (·.lo)) (lo : Int) = kl.map (·.lo) from if_pos hmm, hal] at A
                  have HK2 := Lib.hid (show madeK (l.take (k + 1)) = kl by rw [HK1.out, if_pos hkb])
                  have HKB := Lib.hid hkb
                  rw [hkb]
                  clear hmm hal hkb hka
                  go_wp2_with fail
                  refine A.mono ?_
                  rintro e w3 ⟨rfl, P3, h3, o3, g3⟩
                  obtain ⟨S3, k3, s3, ap1, ap2, ap3⟩ := MWD.pieces h3 o3 g3
                  have M3 : MW w w3 P3 s (.slice ka kl.length kc) (.slice sa sl.length sc) kl sl lk := ⟨S3, k3, s3, ap1, ap2, ap3, HMW.out.lks, HMW.out.ints⟩
                  clear A h3 o3 g3 S3 k3 s3 ap1 ap2 ap3 MWD BXD
                  go_wp2_with fail
                  go_roundw
                  case rel => exact ⟨k + 1, _, _, P3, _, _, _, rfl, rfl, by omega, by omega, by go_num, HK2.out.symm, HS1.out.symm, by omega, M3⟩
                  case measure => simp [intOf]; omega
                · rw [Bool.not_eq_true] at hkb
                  have hnm : (lo : Int) ∉ kl.map (·.lo) := fun e => by rw [hasKey_mem.2 e] at hkb; cases hkb
                  rw [show addK (kl.map (·.lo)) (lo : Int) = (kl ++ [(⟨false, lo, hi, x, la, ls.take 5, lc⟩ : RD)]).map (·.lo) by unfold addK; rw [if_neg hnm]; simp] at A
                  have HL := Lib.hid (MWD.lks_new ⟨false, lo, hi, x, la, ls.take 5, lc⟩ lo rfl hkb)
                  have HK2 := Lib.hid (show madeK (l.take (k + 1)) = kl ++ [(⟨false, lo, hi, x, la, ls.take 5, lc⟩ : RD)] by rw [HK1.out, if_neg (by rw [hkb]; decide)])
                  rw [hkb]
                  clear hnm hkb hka
                  go_wp2_with fail
                  refine A.mono ?_
                  rintro e w3 ⟨rfl, P3, h3, o3, g3⟩
                  have BX3 := o3.blk BXD (fun hp => by have := HPB.out _ hp; omega)
                  obtain ⟨S3, k3, s3, ap1, ap2, ap3⟩ := MWD.pieces h3 o3 g3
                  have hz3 := S3.bel.size
                  have n0 : w3.cell? ⟨wr.heap.size, 0, none⟩ = some (.bool false) := BX3.cell 0
                  have n1 : w3.cell? ⟨wr.heap.size, 1, none⟩ = some (.int .i64 (lo : Nat)) := BX3.cell 1
                  have n2 : w3.cell? ⟨wr.heap.size, 2, none⟩ = some (.int .i64 (hi : Nat)) := BX3.cell 2
                  have n3 : w3.cell? ⟨wr.heap.size, 3, none⟩ = some (.int .u64 (x : Nat)) := BX3.cell 3
                  have n4 : w3.cell? ⟨wr.heap.size, 4, none⟩ = some (.slice la ls.length lc) := BX3.cell 4
                  have MA := Lib.hid (fun w4 g cap ob h1 h2 h3 => MW.appK (w2 := w4) (g := g) (cap := cap) (ob := ob) S3 k3 s3 ap1 ap2 ap3 HL.out HMW.out.ints HIR.out h1 h2 h3)
                  have hown3 : w3.ownsRow w.heap.size 64 5 (.slice ka kl.length kc) kl.length (rdRow kl) := k3
                  clear A h3 o3 g3 S3 k3 s3 ap1 ap2 ap3 BX3 MWD BXD HL
                  go_wp2_with (at_builtin; refine wpList_append_lies _ rfl _ _ 60 rfl w.heap.size 64 i0 (.agg #[.bool false, .int .i64 0, .int .i64 0, .int .u64 0, .slice none 0 0]) 5 56 Try.underlying60 hi0 hz0 hz1 hz2 rfl (by decide) (.slice ka kl.length kc) kl.length (rdRow kl) rfl (hown3.alloc _) ⟨w3.heap.size, 0, none⟩ 1 1 (rdCells ⟨false, lo, hi, x, la, ls.take 5, lc⟩) rfl rfl ?c1 ?c2 (by decide) ?c3 ?c4 ?c5 (w3.heap.size + 1) ?c6 ?_)
                  case c1 =>
                    refine news_of_cells (t := 64) ?_
                    simp only [rdCells]
                    rw [HLEN.out]
                    exact Blk.new _ _ _
                  case c2 => intro u hu; simp [rdCells] at hu; rcases hu with rfl | rfl | rfl | rfl | rfl <;> rfl
                  case c3 => unfold maxLen; omega
                  case c4 => omega
                  case c5 => simp; omega
                  case c6 => simp
                  intro g cap w4 hown4 hgrow4 hat4 hg4
                  have M4 := MA.out _ _ _ _ hown4 hgrow4 hat4
                  clear MA hown4 hgrow4 hat4 hg4 hown3 n0 n1 n2 n3 n4
                  go_wp2_with fail
                  go_roundw
                  case rel => exact ⟨k + 1, _, _, P3, _, _, _, rfl, rfl, by omega, by omega, by go_num, HK2.out.symm, HS1.out.symm, by omega, M4⟩
                  case measure => simp [intOf]; omega
          · have hKK : stepK kl ⟨true, rlo, rhi, rlink, la, ls, lc⟩ = kl := by unfold stepK; rw [hNR]; rfl
            have hSS : stepS sl ⟨true, rlo, rhi, rlink, la, ls, lc⟩ = sl ++ [⟨true, lo, hi, x, la, ls.take 5, lc⟩] := by unfold stepS; rw [hNR]; rfl
            rw [hKK] at hK1
            rw [hSS] at hS1
            have HK1 := Lib.hid hK1
            have HS1 := Lib.hid hS1
            clear hKK hSS hK1 hS1 hNR
            have A := set_span HMW.out.set.set (lo : Int) (hi : Int) la lc (ls.take 5) (HI5.out.below HMW.out.set.bel) HN5.out (by simp; omega)
            have hsb : spanBad (lo : Int) (hi : Int) = false := by simp [spanBad]; omega
            have hl64 : ¬ 64 ≤ (sl.map toRg).length := by rw [List.length_map]; omega
            rw [show spanRes (sl.map toRg) lo hi = 0 by simp only [spanRes, hsb, Bool.false_eq_true, if_false, hl64], show spanRs (sl.map toRg) lo hi (ls.take 5) = (sl ++ [(⟨true, lo, hi, x, la, ls.take 5, lc⟩ : RD)]).map toRg by simp only [spanRs, hsb, Bool.false_eq_true, if_false, hl64, List.map_append]; rfl, hlen] at A
            have HLEN := Lib.hid hlen
            clear hsb hl64 hlen hka
            rw [hW] at A
            go_wp2_with fail
            refine A.mono ?_
            rw [← hW]
            rintro e w3 ⟨rfl, P3, h3, o3, g3⟩
            have BX3 := o3.blk HBX.out (fun hp => by have := HPB.out _ hp; omega)
            obtain ⟨S3, k3, s3, ap1, ap2, ap3⟩ := HMW.out.pieces h3 o3 g3
            have hz3 := S3.bel.size
            have n0 : w3.cell? ⟨wr.heap.size, 0, none⟩ = some (.bool true) := BX3.cell 0
            have n1 : w3.cell? ⟨wr.heap.size, 1, none⟩ = some (.int .i64 (lo : Nat)) := BX3.cell 1
            have n2 : w3.cell? ⟨wr.heap.size, 2, none⟩ = some (.int .i64 (hi : Nat)) := BX3.cell 2
            have n3 : w3.cell? ⟨wr.heap.size, 3, none⟩ = some (.int .u64 (x : Nat)) := BX3.cell 3
            have n4 : w3.cell? ⟨wr.heap.size, 4, none⟩ = some (.slice la ls.length lc) := BX3.cell 4
            have MA := Lib.hid (fun w4 g cap ob h1 h2 h3 => MW.appS (w2 := w4) (g := g) (cap := cap) (ob := ob) S3 k3 s3 ap1 ap2 ap3 HMW.out.lks HMW.out.ints HIR.out h1 h2 h3)
            have hown3 : w3.ownsRow w.heap.size 64 5 (.slice sa sl.length sc) sl.length (rdRow sl) := s3
            clear A h3 o3 g3 S3 k3 s3 ap1 ap2 ap3 BX3 hW
            go_wp2_with (at_builtin; refine wpList_append_lies _ rfl _ _ 60 rfl w.heap.size 64 i0 (.agg #[.bool false, .int .i64 0, .int .i64 0, .int .u64 0, .slice none 0 0]) 5 56 Try.underlying60 hi0 hz0 hz1 hz2 rfl (by decide) (.slice sa sl.length sc) sl.length (rdRow sl) rfl (hown3.alloc _) ⟨w3.heap.size, 0, none⟩ 1 1 (rdCells ⟨true, lo, hi, x, la, ls.take 5, lc⟩) rfl rfl ?c1 ?c2 (by decide) ?c3 ?c4 ?c5 (w3.heap.size + 1) ?c6 ?_)
            case c1 =>
              refine news_of_cells (t := 64) ?_
              simp only [rdCells]
              rw [HLEN.out]
              exact Blk.new _ _ _
            case c2 => intro u hu; simp [rdCells] at hu; rcases hu with rfl | rfl | rfl | rfl | rfl <;> rfl
            case c3 => unfold maxLen; omega
            case c4 => omega
            case c5 => simp; omega
            case c6 => simp
            intro g cap w4 hown4 hgrow4 hat4 hg4
            have M4 := MA.out _ _ _ _ hown4 hgrow4 hat4
            clear MA hown4 hgrow4 hat4 hg4 hown3 n0 n1 n2 n3 n4
            go_wp2_with fail
            go_roundw
            case rel => exact ⟨k + 1, _, _, P3, _, _, _, rfl, rfl, by omega, by omega, by go_num, HK1.out.symm, HS1.out.symm, by simp; omega, M4⟩
            case measure => simp [intOf]; omega
        · rw [if_neg hpq, if_neg hpq] at hNR
          obtain ⟨hi, rfl⟩ : ∃ hi, hi = q := ⟨_, rfl⟩
          obtain ⟨lo, rfl⟩ : ∃ lo, lo = p := ⟨_, rfl⟩
          have hle : lo ≤ hi := by omega
          obtain ⟨W, hW⟩ : ∃ W, W = wr.alloc (.cells #[.bool sp, .int .i64 (lo : Nat), .int .i64 (hi : Nat), .int .u64 (x : Nat), .slice la ls.length lc] 64) := ⟨_, rfl⟩
          have oW : Only0 wr W := by rw [hW]; exact (Only0.refl wr).alloc _
          have MWW := HM.out.only0 oW
          have BX : Blk W wr.heap.size 64 #[.bool sp, .int .i64 (lo : Nat), .int .i64 (hi : Nat), .int .u64 (x : Nat), .slice la ls.length lc] := by rw [hW]; exact Blk.new _ _ _
          have hPb := HM.out.set.set.under
          have HPB := Lib.hid hPb
          have HMW := Lib.hid MWW
          have HBX := Lib.hid BX
          have hbx0 : W.cell? ⟨wr.heap.size, 0, none⟩ = some (.bool sp) := BX.cell 0
          have hWz := BX.lt
          have HIR := Lib.hid (show Ints .u64 w la (ls.take 5) ∧ (ls.take 5).length ≤ 5 ∧ (la = none → ls.take 5 = []) ∧ (ls.take 5).length ≤ lc ∧ lc ≤ 9223372036854775807 from ⟨HI5.out, by simp; omega, HN5.out, HLC.out, hcc⟩)
          have HWB := Lib.hid MWW.set.bel.size
          clear MWW BX oW HM hPb
          cases sp
          · have hKK : stepK kl ⟨false, rlo, rhi, rlink, la, ls, lc⟩ = if hasKey kl lo then kl else kl ++ [⟨false, lo, hi, x, la, ls.take 5, lc⟩] := by unfold stepK; rw [hNR]; rfl
            have hSS : stepS sl ⟨false, rlo, rhi, rlink, la, ls, lc⟩ = sl := by unfold stepS; rw [hNR]; rfl
            rw [hKK] at hK1
            rw [hSS] at hS1
            have HK1 := Lib.hid hK1
            have HS1 := Lib.hid hS1
            have HLEN := Lib.hid hlen
            clear hKK hSS hK1 hS1 hNR hlen
            go_wp2_with fail
            rw [← hW]
            clear hW
            go_loopw [10, 11] (fun d i wr2 => ∃ (j m : Nat), j ≤ kl.length ∧ i = .int .i64 j ∧ d = .bool (anyUpto kl lo j) ∧ wr2 = W.drewN m) (fun _ i _ => kl.length - (intOf i).toNat)
            case atStart => exact ⟨0, 0, by omega, rfl, by simp [anyUpto, hasKey], rfl⟩
            case round =>
              obtain ⟨j, m, hj, rfl, rfl, rfl⟩ := hrel
              have hbx1 : W.cell? ⟨wr.heap.size, 1, none⟩ = some (.int .i64 (lo : Nat)) := HBX.out.cell 1
              by_cases hjn : j < kl.length
              · obtain ⟨gk, hgk⟩ := hka (by omega)
                subst hgk
                have qk := HMW.out.krow.cell rfl j hjn 1 (by decide)
                simp only [rdCells, List.getElem?_cons_zero, List.getElem?_cons_succ] at qk
                have hS := anyUpto_succ (x := (lo : Int)) hjn
                generalize (kl.getD j default).lo = y at qk hS
                have HS2 := Lib.hid hS
                have j0 : (0 : Int) ≤ (j : Int) := by omega
                have j1 : (j : Int) < (kl.length : Int) := by omega
                generalize anyUpto kl lo j = d at *
                clear hS hka
                cases d
                · by_cases hy : y = (lo : Int)
                  · subst hy
                    go_wp2_with fail
                    go_quiet (fail)
                    go_wp2_with fail
                    go_roundw
                    case rel => exact ⟨j + 1, _, by omega, by go_num, by rw [HS2.out]; simp, rfl⟩
                    case measure => simp [intOf]; omega
                  · have hyb : (y == (lo : Int)) = false := by simpa using hy
                    go_wp2_with fail
                    go_quiet (fail)
                    go_wp2_with fail
                    go_roundw
                    case rel => exact ⟨j + 1, _, by omega, by go_num, by rw [HS2.out]; simp [hy], rfl⟩
                    case measure => simp [intOf]; omega
                · go_wp2_with fail
                  go_quiet (fail)
                  go_wp2_with fail
                  go_roundw
                  case rel => exact ⟨j + 1, _, by omega, by go_num, by rw [HS2.out]; simp, rfl⟩
                  case measure => simp [intOf]; omega
              · obtain rfl : j = kl.length := by omega
                rw [anyUpto_all]
                have MWD := HMW.out.only0 ((Only0.refl W).drewN m)
                have BXD : Blk (W.drewN m) wr.heap.size 64 #[.bool false, .int .i64 (lo : Nat), .int .i64 (hi : Nat), .int .u64 (x : Nat), .slice la ls.length lc] := HBX.out.drewN m
                have hbx3 : W.cell? ⟨wr.heap.size, 3, none⟩ = some (.int .u64 (x : Nat)) := HBX.out.cell 3
                have hlo64 : lo < 64 := by omega
                have A := set_add MWD.set.set lo hlo64 (x : Int)
                by_cases hkb : hasKey kl (lo : Int) = true
                · have hmm : (lo : Int) ∈ kl.map (·.lo) := hasKey_mem.1 hkb
                  have hal : addL (kl.map (·.lo)) lk lo x = lk := if_pos hmm
                  rw [show addK (kl.map (·.lo)) (lo : Int) = kl.map (·.lo) from if_pos hmm, hal] at A
                  have HK2 := Lib.hid (show madeK (l.take (k + 1)) = kl by rw [HK1.out, if_pos hkb])
                  have HKB := Lib.hid hkb
                  rw [hkb]
                  clear hmm hal hkb hka
                  go_wp2_with fail
                  refine A.mono ?_
                  rintro e w3 ⟨rfl, P3, h3, o3, g3⟩
                  obtain ⟨S3, k3, s3, ap1, ap2, ap3⟩ := MWD.pieces h3 o3 g3
                  have M3 : MW w w3 P3 s (.slice ka kl.length kc) (.slice sa sl.length sc) kl sl lk := ⟨S3, k3, s3, ap1, ap2, ap3, HMW.out.lks, HMW.out.ints⟩
                  clear A h3 o3 g3 S3 k3 s3 ap1 ap2 ap3 MWD BXD
                  go_wp2_with fail
                  go_roundw
                  case rel => exact ⟨k + 1, _, _, P3, _, _, _, rfl, rfl, by omega, by omega, by go_num, HK2.out.symm, HS1.out.symm, by omega, M3⟩
                  case measure => simp [intOf]; omega
                · rw [Bool.not_eq_true] at hkb
                  have hnm : (lo : Int) ∉ kl.map (·.lo) := fun e => by rw [hasKey_mem.2 e] at hkb; cases hkb
                  rw [show addK (kl.map (·.lo)) (lo : Int) = (kl ++ [(⟨false, lo, hi, x, la, ls.take 5, lc⟩ : RD)]).map (·.lo) by unfold addK; rw [if_neg hnm]; simp] at A
                  have HL := Lib.hid (MWD.lks_new ⟨false, lo, hi, x, la, ls.take 5, lc⟩ lo rfl hkb)
                  have HK2 := Lib.hid (show madeK (l.take (k + 1)) = kl ++ [(⟨false, lo, hi, x, la, ls.take 5, lc⟩ : RD)] by rw [HK1.out, if_neg (by rw [hkb]; decide)])
                  rw [hkb]
                  clear hnm hkb hka
                  go_wp2_with fail
                  refine A.mono ?_
                  rintro e w3 ⟨rfl, P3, h3, o3, g3⟩
                  have BX3 := o3.blk BXD (fun hp => by have := HPB.out _ hp; omega)
                  obtain ⟨S3, k3, s3, ap1, ap2, ap3⟩ := MWD.pieces h3 o3 g3
                  have hz3 := S3.bel.size
                  have n0 : w3.cell? ⟨wr.heap.size, 0, none⟩ = some (.bool false) := BX3.cell 0
                  have n1 : w3.cell? ⟨wr.heap.size, 1, none⟩ = some (.int .i64 (lo : Nat)) := BX3.cell 1
                  have n2 : w3.cell? ⟨wr.heap.size, 2, none⟩ = some (.int .i64 (hi : Nat)) := BX3.cell 2
                  have n3 : w3.cell? ⟨wr.heap.size, 3, none⟩ = some (.int .u64 (x : Nat)) := BX3.cell 3
                  have n4 : w3.cell? ⟨wr.heap.size, 4, none⟩ = some (.slice la ls.length lc) := BX3.cell 4
                  have MA := Lib.hid (fun w4 g cap ob h1 h2 h3 => MW.appK (w2 := w4) (g := g) (cap := cap) (ob := ob) S3 k3 s3 ap1 ap2 ap3 HL.out HMW.out.ints HIR.out h1 h2 h3)
                  have hown3 : w3.ownsRow w.heap.size 64 5 (.slice ka kl.length kc) kl.length (rdRow kl) := k3
                  clear A h3 o3 g3 S3 k3 s3 ap1 ap2 ap3 BX3 MWD BXD HL
                  go_wp2_with (at_builtin; refine wpList_append_lies _ rfl _ _ 60 rfl w.heap.size 64 i0 (.agg #[.bool false, .int .i64 0, .int .i64 0, .int .u64 0, .slice none 0 0]) 5 56 Try.underlying60 hi0 hz0 hz1 hz2 rfl (by decide) (.slice ka kl.length kc) kl.length (rdRow kl) rfl (hown3.alloc _) ⟨w3.heap.size, 0, none⟩ 1 1 (rdCells ⟨false, lo, hi, x, la, ls.take 5, lc⟩) rfl rfl ?c1 ?c2 (by decide) ?c3 ?c4 ?c5 (w3.heap.size + 1) ?c6 ?_)
                  case c1 =>
                    refine news_of_cells (t := 64) ?_
                    simp only [rdCells]
                    rw [HLEN.out]
                    exact Blk.new _ _ _
                  case c2 => intro u hu; simp [rdCells] at hu; rcases hu with rfl | rfl | rfl | rfl | rfl <;> rfl
                  case c3 => unfold maxLen; omega
                  case c4 => omega
                  case c5 => simp; omega
                  case c6 => simp
                  intro g cap w4 hown4 hgrow4 hat4 hg4
                  have M4 := MA.out _ _ _ _ hown4 hgrow4 hat4
                  clear MA hown4 hgrow4 hat4 hg4 hown3 n0 n1 n2 n3 n4
                  go_wp2_with fail
                  go_roundw
                  case rel => exact ⟨k + 1, _, _, P3, _, _, _, rfl, rfl, by omega, by omega, by go_num, HK2.out.symm, HS1.out.symm, by omega, M4⟩
                  case measure => simp [intOf]; omega
          · have hKK : stepK kl ⟨true, rlo, rhi, rlink, la, ls, lc⟩ = kl := by unfold stepK; rw [hNR]; rfl
            have hSS : stepS sl ⟨true, rlo, rhi, rlink, la, ls, lc⟩ = sl ++ [⟨true, lo, hi, x, la, ls.take 5, lc⟩] := by unfold stepS; rw [hNR]; rfl
            rw [hKK] at hK1
            rw [hSS] at hS1
            have HK1 := Lib.hid hK1
            have HS1 := Lib.hid hS1
            clear hKK hSS hK1 hS1 hNR
            have A := set_span HMW.out.set.set (lo : Int) (hi : Int) la lc (ls.take 5) (HI5.out.below HMW.out.set.bel) HN5.out (by simp; omega)
            have hsb : spanBad (lo : Int) (hi : Int) = false := by simp [spanBad]; omega
            have hl64 : ¬ 64 ≤ (sl.map toRg).length := by rw [List.length_map]; omega
            rw [show spanRes (sl.map toRg) lo hi = 0 by simp only [spanRes, hsb, Bool.false_eq_true, if_false, hl64], show spanRs (sl.map toRg) lo hi (ls.take 5) = (sl ++ [(⟨true, lo, hi, x, la, ls.take 5, lc⟩ : RD)]).map toRg by simp only [spanRs, hsb, Bool.false_eq_true, if_false, hl64, List.map_append]; rfl, hlen] at A
            have HLEN := Lib.hid hlen
            clear hsb hl64 hlen hka
            rw [hW] at A
            go_wp2_with fail
            refine A.mono ?_
            rw [← hW]
            rintro e w3 ⟨rfl, P3, h3, o3, g3⟩
            have BX3 := o3.blk HBX.out (fun hp => by have := HPB.out _ hp; omega)
            obtain ⟨S3, k3, s3, ap1, ap2, ap3⟩ := HMW.out.pieces h3 o3 g3
            have hz3 := S3.bel.size
            have n0 : w3.cell? ⟨wr.heap.size, 0, none⟩ = some (.bool true) := BX3.cell 0
            have n1 : w3.cell? ⟨wr.heap.size, 1, none⟩ = some (.int .i64 (lo : Nat)) := BX3.cell 1
            have n2 : w3.cell? ⟨wr.heap.size, 2, none⟩ = some (.int .i64 (hi : Nat)) := BX3.cell 2
            have n3 : w3.cell? ⟨wr.heap.size, 3, none⟩ = some (.int .u64 (x : Nat)) := BX3.cell 3
            have n4 : w3.cell? ⟨wr.heap.size, 4, none⟩ = some (.slice la ls.length lc) := BX3.cell 4
            have MA := Lib.hid (fun w4 g cap ob h1 h2 h3 => MW.appS (w2 := w4) (g := g) (cap := cap) (ob := ob) S3 k3 s3 ap1 ap2 ap3 HMW.out.lks HMW.out.ints HIR.out h1 h2 h3)
            have hown3 : w3.ownsRow w.heap.size 64 5 (.slice sa sl.length sc) sl.length (rdRow sl) := s3
            clear A h3 o3 g3 S3 k3 s3 ap1 ap2 ap3 BX3 hW
            go_wp2_with (at_builtin; refine wpList_append_lies _ rfl _ _ 60 rfl w.heap.size 64 i0 (.agg #[.bool false, .int .i64 0, .int .i64 0, .int .u64 0, .slice none 0 0]) 5 56 Try.underlying60 hi0 hz0 hz1 hz2 rfl (by decide) (.slice sa sl.length sc) sl.length (rdRow sl) rfl (hown3.alloc _) ⟨w3.heap.size, 0, none⟩ 1 1 (rdCells ⟨true, lo, hi, x, la, ls.take 5, lc⟩) rfl rfl ?c1 ?c2 (by decide) ?c3 ?c4 ?c5 (w3.heap.size + 1) ?c6 ?_)
            case c1 =>
              refine news_of_cells (t := 64) ?_
              simp only [rdCells]
              rw [HLEN.out]
              exact Blk.new _ _ _
            case c2 => intro u hu; simp [rdCells] at hu; rcases hu with rfl | rfl | rfl | rfl | rfl <;> rfl
            case c3 => unfold maxLen; omega
            case c4 => omega
            case c5 => simp; omega
            case c6 => simp
            intro g cap w4 hown4 hgrow4 hat4 hg4
            have M4 := MA.out _ _ _ _ hown4 hgrow4 hat4
            clear MA hown4 hgrow4 hat4 hg4 hown3 n0 n1 n2 n3 n4
            go_wp2_with fail
            go_roundw
            case rel => exact ⟨k + 1, _, _, P3, _, _, _, rfl, rfl, by omega, by omega, by go_num, HK1.out.symm, HS1.out.symm, by simp; omega, M4⟩
            case measure => simp [intOf]; omega
    · have hways : ¬ k < l.length ∨ (k < l.length ∧ ¬ k < 40) := by omega
      have e1 : l.take k = l.take 40 := by
        rcases hways with h | ⟨h, h'⟩
        · rw [List.take_of_length_le (by omega), List.take_of_length_le (by omega)]
        · have : k = 40 := by omega
          rw [this]
      have HMF := Lib.hid (show MW w wr P w.heap.size (.slice ka kl.length kc) (.slice sa sl.length sc) (madeK (l.take 40)) (madeS (l.take 40)) lk by
        have ek : kl = madeK (l.take 40) := by rw [← e1]; exact HKL.out
        have es : sl = madeS (l.take 40) := by rw [← e1]; exact HSL.out
        rw [← ek, ← es, ← HS.out]
        exact HM.out)
      rcases hways with h | ⟨h, h'⟩
      · clear hgo e1
        go_wp2_with fail
        go_ret3
        exact ⟨P, _, _, lk, by rw [← HS.out]; rfl, HMF.out⟩
      · clear hgo e1
        go_wp2_with fail
        go_ret3
        exact ⟨P, _, _, lk, by rw [← HS.out]; rfl, HMF.out⟩
end Go.Proofs.Ytjkdofhlcdimcaa

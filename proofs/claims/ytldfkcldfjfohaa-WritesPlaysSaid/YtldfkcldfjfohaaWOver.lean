/-
  writes.Set's Over: what was written of a range, laid over Pairs.
-/
import Derived.Test.YtldfkcldfjfohaaWSort
import Derived.Deep.Cut
import Derived.Laws.EntriesVeiled
namespace Go.Proofs.Ytldfkcldfjfohaa
open Go.RowKit
attribute [local go_sem ↓] Go.wp_at_zero Go.wp_at_succ
set_option linter.unusedVariables false
set_option linter.unusedSimpArgs false

def Wr.addOne (s : Wr) (lo hi k : Int) : Option (Int × Int) := if s.mine lo hi k && !s.gone k then some (k, s.val k) else none
def Wr.addsTo (s : Wr) (lo hi : Int) (k : Nat) : PL := (s.keys.take k).filterMap (s.addOne lo hi)
theorem addsTo_all (s : Wr) (lo hi : Int) : s.addsTo lo hi s.keys.length = s.adds lo hi := by unfold Wr.addsTo Wr.adds; rw [List.take_length]; rfl
theorem addsTo_succ {s : Wr} {lo hi : Int} {k : Nat} (hk : k < s.keys.length) : s.addsTo lo hi (k + 1) = s.addsTo lo hi k ++ (s.addOne lo hi (s.keys.getD k 0)).toList := by
  unfold Wr.addsTo
  rw [List.take_succ_eq_append_getElem hk, List.filterMap_append]
  have : s.keys[k] = s.keys.getD k 0 := by simp [hk]
  rw [this]
  generalize s.keys.getD k 0 = x
  cases e : s.addOne lo hi x <;> simp [e]
theorem addsTo_len (s : Wr) (lo hi : Int) (k : Nat) : (s.addsTo lo hi k).length ≤ k := by
  unfold Wr.addsTo
  exact Nat.le_trans (List.length_filterMap_le _ _) (by simp; omega)

/-- Over, while it lays the writes behind what it kept. -/
structure OvL (B : Nat) (w wr : World) (P : Nat → Prop) (b : Nat) (s : Wr) (lo hi : Int) (n0 : Nat) (bm : Nat) (a3 : Option Addr) (c3 : Nat) (oa : Option Addr) (len oc : Nat) (L : PL) : Prop where
  ov : OvAt B wr P b s lo hi n0
  box : Blk wr bm 71 #[mineV n0]
  bmlt : bm < n0 + 4
  all : wr.ownsRow (n0 + 4) 38 3 (.slice a3 s.keys.length c3) s.keys.length (s.rowsOf s.keys)
  out : wr.ownsRow (n0 + 4) 31 2 (.slice oa len oc) len (pairCells L)
  len : L.length = len
  o : Only (fun x => n0 + 4 ≤ x) w wr
  z : n0 + 4 ≤ wr.heap.size
theorem OvL.only0 {B : Nat} {w wr w2 : World} {P : Nat → Prop} {b : Nat} {s : Wr} {lo hi : Int} {n0 bm : Nat} {a3 : Option Addr} {c3 : Nat} {oa : Option Addr} {len oc : Nat} {L : PL} (h : OvL B w wr P b s lo hi n0 bm a3 c3 oa len oc L) (o : Only0 wr w2) : OvL B w w2 P b s lo hi n0 bm a3 c3 oa len oc L :=
  ⟨h.ov.only0 o, o.blk h.box (fun h => h), h.bmlt, rows_only h.all o (fun _ _ h => h), rows_only h.out o (fun _ _ h => h), h.len, h.o.trans (o.any _), Nat.le_trans h.z o.size⟩
theorem OvL.app {B : Nat} {w wr w2 : World} {P : Nat → Prop} {b : Nat} {s : Wr} {lo hi : Int} {n0 bm : Nat} {a3 : Option Addr} {c3 : Nat} {oa : Option Addr} {len oc : Nat} {L : PL} (h : OvL B w wr P b s lo hi n0 bm a3 c3 oa len oc L) {x : Int × Int} {g cap : Nat}
    (hg : wr.grownBy w2 (Value.slice oa len oc).ownBlock) (h2 : w2.ownsRow (n0 + 4) 31 2 (.slice (some ⟨g, 0, none⟩) (len + 1) cap) (len + 1) (pairCells L ++ [.int .i64 x.1, .int .i64 x.2])) :
    OvL B w w2 P b s lo hi n0 bm a3 c3 (some ⟨g, 0, none⟩) (len + 1) cap (L ++ [x]) := by
  have oR : Only (rowOf (.slice oa len oc)) wr w2 := ⟨hg.os, hg.tape, hg.output, hg.size, fun b hb hn => hg.block b hb (fun e => hn e.symm)⟩
  have hab := rows_above h.out
  refine ⟨h.ov.only oR (fun c hc => by have := hab c hc; omega), oR.blk h.box (fun hc => by have := hab _ hc; have := h.bmlt; omega), h.bmlt, rows_only h.all oR (rows_apart h.all h.out (by decide)), ?_, by simp [h.len], h.o.trans (oR.toward (fun c hc => hab c hc)), Nat.le_trans h.z oR.size⟩
  rw [pairCells_snoc]; exact h2

/-- What Over tells. -/
def OverOut (s : Wr) (ps : PL) (lo hi : Int) (o : PL) : Prop := if risesB ps then IsOver s ps lo hi o else o = []

set_option maxRecDepth 100000 in
set_option maxHeartbeats 16000000 in
theorem wr_over {B : Nat} {w : World} {P : Nat → Prop} {b : Nat} {s : Wr} (h : WAt B w P b s) (a : Option Addr) (c : Nat) (ps : PL) (lo hi : Int) (hp : PairsIn w a ps) (hlen : ps.length ≤ 100000) :
    Calls Try.prog 12 #[.pointer (some ⟨b, 0, none⟩), .slice a ps.length c, .int .i64 lo, .int .i64 hi] w fun e w' => (∃ (o : PL) (a' : Option Addr) (c' : Nat), e = .returned (.slice a' o.length c') ∧ OverOut s ps lo hi o ∧ PairsIn w' a' o ∧ o.length ≤ ps.length + 64 ∧ ∀ x, a' = some x → w.heap.size ≤ x.block) ∧ Only0 w w' := by
  obtain ⟨i0, hi0, hz0, hz1, hz2⟩ := info_parts info_pair
  have few := h.ok.few
  obtain ⟨n0, hn0⟩ : ∃ n0, n0 = w.heap.size := ⟨_, rfl⟩
  obtain ⟨W0, hW0⟩ : ∃ W0, W0 = ((w.alloc (.cells #[.pointer (some ⟨b, 0, none⟩)] 23)).alloc (.cells #[.int .i64 lo] 3)).alloc (.cells #[.int .i64 hi] 3) := ⟨_, rfl⟩
  have o0 : Only0 w W0 := by rw [hW0]; exact (((Only0.refl w).alloc _).alloc _).alloc _
  have z0 : W0.heap.size = n0 + 3 := by rw [hW0, hn0]; simp
  have OV : OvAt B W0 P b s lo hi n0 := by
    refine ⟨h.only0 o0, ?_, ?_, ?_, by rw [hn0]; exact h.under⟩
    · rw [hW0, hn0]; exact ((Blk.new _ _ _).alloc _).alloc _
    · rw [hW0]; exact (Blk.new' _ _ _ _ (by simp [hn0])).alloc _
    · rw [hW0]; exact Blk.new' _ _ _ _ (by simp [hn0])
  have HOV := Lib.hid OV
  have HO0 := Lib.hid o0
  have HN0 := Lib.hid hn0
  have HZ0 := Lib.hid z0
  have RI := rises_any a c ps W0 (hp.only o0 (fun _ _ hf => hf)) (by omega)
  have HH := Lib.hid h
  have HP := Lib.hid hp
  clear h hp OV o0 z0
  cases hr : risesB ps with
  | false =>
    rw [hr] at RI
    have R := Lib.hid (show OverOut s ps lo hi [] by unfold OverOut; rw [hr]; rfl)
    clear hr
    rw [hW0] at RI HO0
    clear hW0 HOV hn0 HZ0 HN0
    go_enter Try.func12, Try.ntmps12
    go_wp2_with fail
    refine RI.mono ?_
    rintro e w1 ⟨rfl, n, rfl⟩
    go_wp2_with fail
    refine bodyPost_ret (results_tmp rfl _ _ _) rfl ?_
    exact ⟨⟨[], none, 0, rfl, R.out, .inl rfl, by simp, fun x hx => by cases hx⟩, HO0.out.drewN n⟩
  | true =>
    rw [hr] at RI
    have HSR := Lib.hid ((risesB_iff ps).1 hr)
    have HOO := Lib.hid (fun o (h : IsOver s ps lo hi o) => (by unfold OverOut; rw [hr]; exact h : OverOut s ps lo hi o))
    clear hr hn0
    go_enter Try.func12, Try.ntmps12
    go_upto_region 1 with (fail)
    rw [← hW0, ← HN0.out]
    clear hW0
    go_wp2_with fail
    refine RI.mono ?_
    rintro e w1 ⟨rfl, n1, rfl⟩
    clear RI
    obtain ⟨bm, hbm0⟩ : ∃ bm, bm = W0.heap.size := ⟨_, rfl⟩
    have ab : Blk ((W0.drewN n1).alloc (.cells #[.nilFunc] 71)) W0.heap.size 71 #[.nilFunc] := Blk.new _ _ _
    have afz := ab.free 0
    have acl : ((W0.drewN n1).alloc (.cells #[.nilFunc] 71)).cell? ⟨W0.heap.size, 0, none⟩ = some .nilFunc := ab.cell 0
    obtain ⟨W1, hW1⟩ : ∃ W1, W1 = ((W0.drewN n1).alloc (.cells #[.nilFunc] 71)).setCell ⟨W0.heap.size, 0, none⟩ (.func (.func 19) #[] #[.pointer (some ⟨n0 + 1, 0, none⟩), .pointer (some ⟨n0 + 1 + 1, 0, none⟩), .pointer (some ⟨n0, 0, none⟩)]) := ⟨_, rfl⟩
    have hbm : Blk W1 bm 71 #[mineV n0] := by rw [hW1, hbm0]; exact ab.set 0 _
    have o1 : Only0 W0 W1 := by rw [hW1]; exact (((Only0.refl W0).drewN n1).alloc _).setCell (by simp) _
    have z1 : W1.heap.size = n0 + 4 := by rw [hW1]; simp [HZ0.out]
    have CL := clone_pairs a c ps W1 (HP.out.only (HO0.out.trans o1) (fun _ _ hf => hf)) (by omega)
    have HOV1 := Lib.hid (HOV.out.only0 o1)
    have HBM := Lib.hid hbm
    have HO1 := Lib.hid (HO0.out.trans o1)
    have HZ1 := Lib.hid z1
    have HBL := Lib.hid (show bm < n0 + 4 by rw [hbm0, HZ0.out]; omega)
    have HB0 := Lib.hid hbm0
    clear hbm o1 z1 HOV HO0 hbm0 ab
    go_wp2_with fail
    rw [← hW1, ← HB0.out]
    clear hW1 HB0 HZ0 afz acl
    refine CL.mono ?_
    rintro e w2 ⟨a1, c1, rfl, own1, o2⟩
    clear CL
    rw [HZ1.out] at own1
    have DL := del_pairs (HOV1.out.only0 o2) (o2.blk HBM.out (fun h => h)) HBL.out (by omega) a1 c1 ps own1 (by omega)
    have HOV2 := Lib.hid (HOV1.out.only0 o2)
    have HBM2 := Lib.hid (o2.blk HBM.out (fun h => h))
    have HO2 := Lib.hid (HO1.out.trans o2)
    have HZ2 := Lib.hid (show n0 + 4 ≤ w2.heap.size by rw [← HZ1.out]; exact o2.size)
    clear o2 HOV1 HBM HO1 own1
    go_wp2_with fail
    refine DL.mono ?_
    rintro e w3 ⟨a2, c2, rfl, own2, o3⟩
    clear DL
    have HOV3 := Lib.hid (HOV2.out.only o3 (fun x hx => by omega))
    have HBM3 := Lib.hid (o3.blk HBM2.out (fun hx => by have := HBL.out; omega))
    have HO3 := Lib.hid (HO2.out.any (fun x => n0 + 4 ≤ x) |>.trans o3)
    have AL := wr_all HOV3.out.set
    have HOW := Lib.hid own2
    have HZ3 := Lib.hid (Nat.le_trans HZ2.out o3.size)
    have hl3 : (ps.filter fun x => !s.mine lo hi x.1).length ≤ 100000 := Nat.le_trans (List.length_filter_le _ _) hlen
    have HL3 := Lib.hid (List.length_filter_le (fun x : Int × Int => !s.mine lo hi x.1) ps)
    have c4 := (HOV3.out.bs.cell 0)
    clear HOV2 HBM2 HO2 HZ2 own2 o3
    obtain ⟨L0, hL0⟩ : ∃ L0, L0 = ps.filter fun x => !s.mine lo hi x.1 := ⟨_, rfl⟩
    rw [← hL0] at HOW hl3 HL3 ⊢
    have HL0 := Lib.hid hL0
    clear hL0
    go_wp2_with fail
    refine AL.mono ?_
    rintro e w4 ⟨⟨a3, c3, rfl, own3⟩, o4⟩
    clear AL c4
    have HI : OvL B w w4 P b s lo hi n0 bm a3 c3 a2 L0.length c2 L0 := ⟨HOV3.out.only0 o4, o4.blk HBM3.out (fun h => h), HBL.out, rows_base own3 HZ3.out, rows_only HOW.out o4 (fun _ _ h => h), rfl, HO3.out.trans (o4.any _), Nat.le_trans HZ3.out o4.size⟩
    have HI0 := Lib.hid HI
    clear HI o4 own3 HOW HO3 HBM3 HOV3 HZ3 HBL HZ1
    go_wp2_with fail
    go_loopw [10, 12, 24] (fun s10 s12 s24 wr => ∃ (k len : Nat) (oa : Option Addr) (oc : Nat) (v : Value), s12 = v ∧ s24 = .int .i64 k ∧ k ≤ s.keys.length ∧ s10 = .slice oa len oc ∧ len ≤ 100000 + k ∧ Hid (OvL B w wr P b s lo hi n0 bm a3 c3 oa len oc (L0 ++ s.addsTo lo hi k))) (fun _ _ s24 _ => s.keys.length - (intOf s24).toNat)
    case atStart => exact ⟨0, L0.length, a2, c2, _, rfl, rfl, Nat.zero_le _, rfl, by omega, Lib.hid (by rw [show s.addsTo lo hi 0 = [] from rfl, List.append_nil]; exact HI0.out)⟩
    case round =>
      obtain ⟨k, len, oa, oc, v, rfl, rfl, hk, rfl, hln, HL⟩ := hrel
      by_cases hlt : k < s.keys.length
      · obtain ⟨g, rfl, hc⟩ : ∃ g, a3 = some ⟨g, 0, none⟩ ∧ ∀ i, i < s.keys.length → wr.cell? ⟨g, i * 3, none⟩ = some (.int .i64 (s.keys.getD i 0)) ∧ wr.cell? ⟨g, i * 3 + 1, none⟩ = some (.int .i64 (s.val (s.keys.getD i 0))) ∧ wr.cell? ⟨g, i * 3 + 2, none⟩ = some (.bool (s.gone (s.keys.getD i 0))) := by
          rcases WritesIn.of_own HL.out.all with h | h
          · rw [h] at hlt; simp at hlt
          · exact h
        obtain ⟨c1, c2', c3'⟩ := hc k hlt
        have ES := Lib.hid (addsTo_succ (lo := lo) (hi := hi) hlt)
        have cm : wr.cell? ⟨bm, 0, none⟩ = some (mineV n0) := HL.out.box.cell 0
        unfold mineV at cm
        obtain ⟨K, hK⟩ : ∃ K, K = s.keys.getD k 0 := ⟨_, rfl⟩
        rw [← hK] at c1 c2' c3' ES
        obtain ⟨W, hW⟩ : ∃ W, W = wr.alloc (.cells #[.int .i64 K, .int .i64 (s.val K), .bool (s.gone K)] 38) := ⟨_, rfl⟩
        have oW : Only0 wr W := by rw [hW]; exact (Only0.refl wr).alloc _
        have hnb : Blk W wr.heap.size 38 #[.int .i64 K, .int .i64 (s.val K), .bool (s.gone K)] := by rw [hW]; exact Blk.new _ _ _
        have C : Calls Try.prog 19 #[.int .i64 K, .pointer (some ⟨n0 + 1, 0, none⟩), .pointer (some ⟨n0 + 1 + 1, 0, none⟩), .pointer (some ⟨n0, 0, none⟩)] W fun e w' => e = .returned (.bool (s.mine lo hi K)) ∧ Only0 W w' := (mine_fn (HL.out.ov.only0 oW) K).mono fun e w' ⟨he, n, hw⟩ => ⟨he, by rw [hw]; exact (Only0.refl W).drewN n⟩
        have cm2 : W.cell? ⟨bm, 0, none⟩ = some (mineV n0) := (oW.blk HL.out.box (fun h => h)).cell 0
        unfold mineV at cm2
        have HLW := Lib.hid (HL.out.only0 oW)
        have HNB := Lib.hid hnb
        have hx1 : W.cell? ⟨wr.heap.size, 0, none⟩ = some (.int .i64 K) := hnb.cell 0
        rw [hW] at cm2 hx1
        clear HL hc hK oW hnb
        cases hm : s.mine lo hi K with
        | false =>
          rw [hm] at C
          have R := Lib.hid (show s.addsTo lo hi (k + 1) = s.addsTo lo hi k by rw [ES.out]; simp [Wr.addOne, hm])
          clear ES hm
          generalize s.val K = x at *
          generalize s.gone K = y at *
          rw [hW] at C HLW HNB
          clear hW
          go_wp2_with fail
          refine C.mono ?_
          rintro e w5 ⟨rfl, o5⟩
          have R2 := Lib.hid (show OvL B w w5 P b s lo hi n0 bm (some ⟨g, 0, none⟩) c3 oa len oc (L0 ++ s.addsTo lo hi (k + 1)) by rw [R.out]; exact HLW.out.only0 o5)
          clear R HLW HNB C o5 cm2 cm hx1
          go_wp2_with fail
          go_roundw
          case rel => exact ⟨k + 1, len, oa, oc, _, rfl, by go_num, by omega, rfl, by omega, R2⟩
          case measure => simp [intOf]; omega
        | true =>
          rw [hm] at C
          cases hg : s.gone K with
          | true =>
            have R := Lib.hid (show s.addsTo lo hi (k + 1) = s.addsTo lo hi k by rw [ES.out]; simp [Wr.addOne, hm, hg])
            rw [hg] at c3' HNB hW cm2 hx1
            clear ES hm hg
            generalize s.val K = x at *
            rw [hW] at C HLW HNB
            clear hW
            go_wp2_with fail
            refine C.mono ?_
            rintro e w5 ⟨rfl, o5⟩
            have R2 := Lib.hid (show OvL B w w5 P b s lo hi n0 bm (some ⟨g, 0, none⟩) c3 oa len oc (L0 ++ s.addsTo lo hi (k + 1)) by rw [R.out]; exact HLW.out.only0 o5)
            have x3 : w5.cell? ⟨wr.heap.size, 2, none⟩ = some (.bool true) := (o5.blk HNB.out (fun h => h)).cell 2
            clear R HLW HNB C o5 cm2 cm hx1
            go_wp2_with fail
            go_roundw
            case rel => exact ⟨k + 1, len, oa, oc, _, rfl, by go_num, by omega, rfl, by omega, R2⟩
            case measure => simp [intOf]; omega
          | false =>
            have R := Lib.hid (show s.addsTo lo hi (k + 1) = s.addsTo lo hi k ++ [(K, s.val K)] by rw [ES.out]; simp [Wr.addOne, hm, hg])
            rw [hg] at c3' HNB hW cm2 hx1
            clear ES hm hg
            generalize s.val K = x at *
            rw [hW] at C HLW HNB
            clear hW
            go_wp2_with fail
            refine C.mono ?_
            rintro e w5 ⟨rfl, o5⟩
            have HL5 := Lib.hid (HLW.out.only0 o5)
            have x3 : w5.cell? ⟨wr.heap.size, 2, none⟩ = some (.bool false) := (o5.blk HNB.out (fun h => h)).cell 2
            have x1 : w5.cell? ⟨wr.heap.size, 0, none⟩ = some (.int .i64 K) := (o5.blk HNB.out (fun h => h)).cell 0
            have x2 : w5.cell? ⟨wr.heap.size, 1, none⟩ = some (.int .i64 x) := (o5.blk HNB.out (fun h => h)).cell 1
            have hown := HL5.out.out
            have hz5 := HL5.out.z
            have NEXT := Lib.hid (fun (gg cap : Nat) (w2 : World) (h2 : w2.ownsRow (n0 + 4) 31 2 (.slice (some ⟨gg, 0, none⟩) (len + 1) cap) (len + 1) (pairCells (L0 ++ s.addsTo lo hi k) ++ [.int .i64 K, .int .i64 x])) (h3 : (w5.alloc (.cells #[.int .i64 K, .int .i64 x] 31)).grownBy w2 (Value.slice oa len oc).ownBlock) =>
              (show OvL B w w2 P b s lo hi n0 bm (some ⟨g, 0, none⟩) c3 (some ⟨gg, 0, none⟩) (len + 1) cap (L0 ++ s.addsTo lo hi (k + 1)) by
                rw [R.out, ← List.append_assoc]
                exact (HL5.out.only0 ((Only0.refl w5).alloc _)).app (x := (K, x)) h3 h2))
            clear R HLW HNB C o5 cm2 cm hx1
            generalize pairCells (L0 ++ s.addsTo lo hi k) = PC at *
            go_wp2_with (at_builtin; refine wpList_append_lies _ rfl _ _ 32 rfl (n0 + 4) 31 i0 _ 2 16 Try.underlying32 hi0 hz0 hz1 hz2 rfl (by decide) (.slice oa len oc) len PC rfl (hown.alloc _) ⟨w5.heap.size, 0, none⟩ 1 1 [.int .i64 K, .int .i64 x] rfl rfl ?c1 ?c2 (by decide) ?c3 ?c4 ?c5 (w5.heap.size + 1) ?c6 ?_)
            case c1 => exact World.news_of_block (cs := #[.int .i64 K, .int .i64 x]) (t := 31) (fr := (0, 0)) (heap_alloc_new w5 _)
            case c2 => intro u hu; simp at hu; rcases hu with rfl | rfl <;> rfl
            case c3 => unfold maxLen; omega
            case c4 => omega
            case c5 => simp; omega
            case c6 => simp
            intro gg cap w6 hown2 hgrow hat hlt2
            have R2 := Lib.hid (NEXT.out gg cap w6 hown2 hgrow)
            clear NEXT hown hown2 hgrow hat hlt2
            go_wp2_with fail
            go_roundw
            case rel => exact ⟨k + 1, len + 1, _, cap, _, rfl, by go_num, by omega, rfl, by omega, R2⟩
            case measure => simp [intOf]; omega
      · obtain rfl : k = s.keys.length := by omega
        have hlL := HL.out.len
        rw [addsTo_all] at HL hlL
        have hpre : L0 ++ s.adds lo hi = s.pre ps lo hi := by rw [HL0.out]; rfl
        rw [hpre] at HL hlL
        have hl2 : len ≤ ps.length + 64 := by rw [← hlL]; exact pre_len HH.out.ok ps lo hi
        have hown := HL.out.out
        rw [← hlL] at hown
        have SP := sort_pairs oa oc (s.pre ps lo hi) hown (by rw [hlL]; omega)
        rw [hlL] at SP
        have hcap : len ≤ oc ∧ oc ≤ 9223372036854775807 := by
          rw [hlL] at hown
          rcases hown.2 with ⟨h0, h1⟩ | ⟨g, cap, cur, hv, _, _, h1, h2, _⟩
          · injection h0 with _ h0 h00; subst h0 h00; omega
          · injection hv with _ _ hv; subst hv; unfold maxLen at h2; omega
        have HO := Lib.hid HL.out.o
        have HLL := Lib.hid hlL
        clear hown hpre hlL HL HL0 HL3
        go_wp2_with fail
        refine SP.mono ?_
        rintro e w7 ⟨rfl, o, hperm, hsorted, own7, o7⟩
        have CP := clip_pairs oa len oc w7 hcap.1 hcap.2
        have hol : o.length = len := by rw [hperm.length_eq]; exact HLL.out
        have R := Lib.hid (isOver_of HH.out.ok HSR.out hperm (hsorted.imp (fun h => by omega)))
        have hpi : PairsIn w7 oa o := by
          rw [← hol] at own7
          exact PairsIn.of_own own7
        have hab : ∀ x, oa = some x → w.heap.size ≤ x.block := fun x hx => by
          have := rows_above own7 x.block (by subst hx; rfl)
          rw [← HN0.out]; omega
        have hfin : Only0 w w7 := (HO.out.trans o7).mono (fun k hk hx => by rw [← HN0.out] at hk; omega)
        have RR := Lib.hid (And.intro hpi (And.intro hab hfin))
        clear SP hperm hsorted own7 o7 hpi hab hfin
        go_wp2_with fail
        refine CP.mono ?_
        rintro e w8 ⟨rfl, rfl⟩
        go_wp2_with fail
        refine bodyPost_ret (results_tmp rfl _ _ _) rfl ?_
        exact ⟨⟨o, oa, len, by rw [hol]; rfl, HOO.out o R.out, RR.out.1, by omega, RR.out.2.1⟩, RR.out.2.2⟩
end Go.Proofs.Ytldfkcldfjfohaa

/-
  The walk of JudgeAll.
-/
import Derived.Test.YtjkdofhlcdimcaaAllLaw
import Derived.Test.YtjkdofhlcdimcaaLaw15w
import Derived.Deep.RegionHeld3
import Derived.Deep.DrawnRows
import Derived.Deep.DeepCutAuto
import Derived.Deep.CutBlock
namespace Go.Proofs.Ytjkdofhlcdimcaa
open Go.RowKit
set_option linter.unusedVariables false
set_option linter.unusedSimpArgs false
attribute [local go_sem ↓] Go.wp_at_zero Go.wp_at_succ

theorem RdOwn.at {B n cap : Nat} {w : World} {a : Option Addr} {l : List RD} (h : RdOwn B w (.slice a n cap) l) (i : Nat) (hi : i < l.length) : ∃ g, a = some ⟨g, 0, none⟩ ∧ B ≤ g ∧ g < w.heap.size ∧ w.cell? ⟨g, i * 5 + 1, none⟩ = some (.int .i64 (l.getD i default).lo) ∧ w.cell? ⟨g, i * 5 + 2, none⟩ = some (.int .i64 (l.getD i default).hi) ∧ w.cell? ⟨g, i * 5 + 3, none⟩ = some (.int .u64 (l.getD i default).link) ∧ w.cell? ⟨g, i * 5 + 4, none⟩ = some (.slice (l.getD i default).la (l.getD i default).ls.length (l.getD i default).lc) := by
  obtain ⟨a', c', hv, hg⟩ := h.slice
  injection hv with e1 e2 e3
  subst e1 e2 e3
  obtain ⟨g, rfl⟩ := hg (by omega)
  have hl := World.ownsRow.lt h g rfl
  exact ⟨g, rfl, hl.1, hl.2, h.cell rfl i hi 1 (by decide), h.cell rfl i hi 2 (by decide), h.cell rfl i hi 3 (by decide), h.cell rfl i hi 4 (by decide)⟩

theorem same_heap {a w w' : World} (o : Only0 a w) (h1 : w'.os = w.os) (h2 : w'.tape = w.tape) (h3 : w'.output = w.output) (h4 : w'.heap = w.heap) : Only0 a w' :=
  ⟨h1.trans o.os, h2.trans o.tape, h3.trans o.output, by rw [h4]; exact o.size, fun k hk hn => by rw [h4]; exact o.block k hk hn⟩
/-- All that JudgeAll has in memory, ahead of its loops. -/
structure AW (w0 w : World) (P : Nat → Prop) (s b6 b7 : Nat) (ka sa na za : Option Addr) (kc sc nc zc : Nat) (kl sl : List RD) (lk : Nat → Int) (nz zs : List Int) : Prop where
  m : MW w0 w P s (.slice ka kl.length kc) (.slice sa sl.length sc) kl sl lk
  box6 : Blk w b6 23 #[.slice na nz.length nc]
  box7 : Blk w b7 23 #[.slice za zs.length zc]
  in_ : Ints .u64 w na nz
  iz : Ints .u64 w za zs
theorem AW.only0 {w0 w w' : World} {P : Nat → Prop} {s b6 b7 : Nat} {ka sa na za : Option Addr} {kc sc nc zc : Nat} {kl sl : List RD} {lk : Nat → Int} {nz zs : List Int} (h : AW w0 w P s b6 b7 ka sa na za kc sc nc zc kl sl lk nz zs) (o : Only0 w w') : AW w0 w' P s b6 b7 ka sa na za kc sc nc zc kl sl lk nz zs :=
  ⟨h.m.only0 o, o.blk h.box6 (fun hf => hf), o.blk h.box7 (fun hf => hf), h.in_.below o.below, h.iz.below o.below⟩

set_option maxRecDepth 100000 in
set_option maxHeartbeats 16000000 in
theorem all_long (lv : Int) (a : Option Addr) (c : Nat) (l : List RD) (a1 : Option Addr) (c1 : Nat) (nz : List Int) (a2 : Option Addr) (c2 : Nat) (zs : List Int) (w : World) (hin : RdsIn w a l) (s0 : l.length * 56 ≤ 140737488351232) (hz : 100 < zs.length) :
    Calls Try.prog 11 #[.int .i64 lv, .slice a l.length c, .slice a1 nz.length c1, .slice a2 zs.length c2] w fun e w' => e = .returned (.bool true) ∧ Below w.heap.size w w' := by
  obtain ⟨W, hW⟩ : ∃ W, W = (w.alloc (.cells #[.slice a1 nz.length c1] 23)).alloc (.cells #[.slice a2 zs.length c2] 23) := ⟨_, rfl⟩
  have oW : Only0 w W := by rw [hW]; exact ((Only0.refl w).alloc _).alloc _
  have B7 : Blk W (w.heap.size + 1) 23 #[.slice a2 zs.length c2] := by rw [hW]; exact Blk.new' _ _ _ _ (by simp)
  have M := made_any a c l W (hin.below oW.below) s0
  have HB7 := Lib.hid B7
  have OW := Lib.hid oW
  rw [hW] at M
  clear hin B7 oW
  go_enter Try.func11, Try.ntmps11
  go_wp2_with fail
  ((with_reducible refine M.mono ?_))
  rintro e w1 ⟨P, kv, sv, lk, rfl, hM⟩
  rw [← hW] at hM ⊢
  have b1 := hM.set.bel
  have c7 : w1.cell? ⟨w.heap.size + 1, 0, none⟩ = some (.slice a2 zs.length c2) := (((Below.only0 b1).blk HB7.out (fun hf => hf)).cell 0 : _)
  have hbel := (OW.out.trans (Below.only0 b1)).below
  clear M hM hW b1
  go_wp2_with fail
  refine (awake15_any _).mono ?_
  rintro e w9 ⟨rfl, rfl⟩
  go_wp2_with fail
  go_ret
  exact ⟨rfl, hbel⟩

set_option maxRecDepth 100000 in
set_option maxHeartbeats 32000000 in
theorem all_walk (lv : Int) (a : Option Addr) (c : Nat) (l : List RD) (a1 : Option Addr) (c1 : Nat) (nz : List Int) (a2 : Option Addr) (c2 : Nat) (zs : List Int) (w : World) (hin : RdsIn w a l) (s0 : l.length * 56 ≤ 140737488351232) (hz : zs.length ≤ 100)
    (i1 : Ints .u64 w a1 nz) (hn : nz.length ≤ 281474976710656) (i2 : Ints .u64 w a2 zs) (hcn : zs.length ≤ c2) (hcc : c2 ≤ 9223372036854775807) (hno : a2 = none → c2 = 0) :
    Calls Try.prog 11 #[.int .i64 lv, .slice a l.length c, .slice a1 nz.length c1, .slice a2 zs.length c2] w fun e w' => e = .returned (.bool true) ∧ Below w.heap.size w w' := by
  obtain ⟨W, hW⟩ : ∃ W, W = (w.alloc (.cells #[.slice a1 nz.length c1] 23)).alloc (.cells #[.slice a2 zs.length c2] 23) := ⟨_, rfl⟩
  have oW : Only0 w W := by rw [hW]; exact ((Only0.refl w).alloc _).alloc _
  have B6 : Blk W w.heap.size 23 #[.slice a1 nz.length c1] := by rw [hW]; exact (Blk.new _ _ _).alloc _
  have B7 : Blk W (w.heap.size + 1) 23 #[.slice a2 zs.length c2] := by rw [hW]; exact Blk.new' _ _ _ _ (by simp)
  have M := made_any a c l W (hin.below oW.below) s0
  have HB6 := Lib.hid B6
  have HB7 := Lib.hid B7
  have OW := Lib.hid oW
  have I1' := Lib.hid i1
  have I2' := Lib.hid i2
  have HNO := Lib.hid hno
  rw [hW] at M
  clear hin B6 B7 oW i1 i2 hno
  go_enter Try.func11, Try.ntmps11
  go_wp2_with fail
  ((with_reducible refine M.mono ?_))
  rintro e w1 ⟨P, kv, sv, lk, rfl, hM⟩
  rw [← hW] at hM ⊢
  obtain ⟨ka, kc, rfl, _⟩ := hM.krow.slice
  obtain ⟨sa, sc, rfl, _⟩ := hM.srow.slice
  have hfew := hM.set.set.few
  have hmost := hM.set.set.most
  rw [List.length_map] at hfew hmost
  have b1 := hM.set.bel
  have hAW : AW W w1 P W.heap.size w.heap.size (w.heap.size + 1) ka sa a1 a2 kc sc c1 c2 (madeK (l.take 40)) (madeS (l.take 40)) lk nz zs := ⟨hM, (Below.only0 b1).blk HB6.out (fun hf => hf), (Below.only0 b1).blk HB7.out (fun hf => hf), I1'.out.below (OW.out.trans (Below.only0 b1)).below, I2'.out.below (OW.out.trans (Below.only0 b1)).below⟩
  have HBEL := Lib.hid (OW.out.trans (Below.only0 b1))
  obtain ⟨s, hs⟩ : ∃ s, s = W.heap.size := ⟨_, rfl⟩
  have HAW := Lib.hid hAW
  rw [← hs] at HAW ⊢
  obtain ⟨kl, hkl⟩ : ∃ kl, kl = madeK (l.take 40) := ⟨_, rfl⟩
  obtain ⟨sl, hsl⟩ : ∃ sl, sl = madeS (l.take 40) := ⟨_, rfl⟩
  rw [← hkl] at HAW hfew ⊢
  rw [← hsl] at HAW hmost ⊢
  have HLAW := Lib.hid (judge_law (l := lv) (nowf := restF nz) (spanf := spanA zs) (sl := sl) HAW.out.m.lks)
  have HNEED := Lib.hid (needA_eq (l := lv) HAW.out.m.lks)
  have c7 : w1.cell? ⟨w.heap.size + 1, 0, none⟩ = some (.slice a2 zs.length c2) := HAW.out.box7.cell 0
  clear M hM hW hkl hsl b1 hs hAW
  go_upto_region 6 with (fail)
  go_cut [14, 15] (fun s14 s15 wx => s14 = .bool (lvl lv) ∧ s15 = .int .i64 (-1) ∧ wx = w1)
  case first =>
    have h3 : lv < 1 ∨ (1 ≤ lv ∧ lv ≤ 3) ∨ 3 < lv := by omega
    rcases h3 with h | ⟨h, h'⟩ | h
    · have e : lvl lv = false := by simp [lvl]; omega
      go_wp2_with fail
      go_meet
      case rel => exact ⟨by rw [e], rfl, rfl⟩
    · have e : lvl lv = true := by simp [lvl]; omega
      go_wp2_with fail
      go_meet
      case rel => exact ⟨by rw [e], rfl, rfl⟩
    · have e : lvl lv = false := by simp [lvl]; omega
      go_wp2_with fail
      go_meet
      case rel => exact ⟨by rw [e]; exact congrArg Value.bool (decide_eq_false (by omega)), rfl, rfl⟩
  case rest =>
    obtain ⟨rfl, rfl, hwc⟩ := hcut
    obtain rfl : w1 = _ := hwc.symm
    clear c7
    go_upto_block 0 with (fail)
    go_cut [14, 15] (fun s14 s15 wx => ∃ (b : Bool) (v : Int), s14 = .bool b ∧ s15 = .int .i64 v ∧ R1 lv kl (restF nz) = (b, v) ∧ Only0 w1 wx)
    case first =>
      go_wp2_with fail
      go_loopw [14, 15, 16] (fun s14 s15 s16 wr => ∃ (i : Nat) (b : Bool) (v : Int), i ≤ kl.length ∧ s14 = .bool b ∧ s15 = .int .i64 v ∧ s16 = .int .i64 i ∧ I1 lv kl (restF nz) i b v ∧ Only0 w1 wr) (fun _ _ s16 _ => kl.length - (intOf s16).toNat)
      case atStart => exact ⟨0, _, _, by omega, rfl, rfl, rfl, I1.start _ _ _, Only0.refl _⟩
      case round =>
        obtain ⟨i, b, v, hi, rfl, rfl, rfl, hI, o1⟩ := hrel
        have HII := Lib.hid hI
        clear hI
        by_cases hlt : i < kl.length
        · cases b
          · have HR := Lib.hid (HII.out.done (.inr rfl))
            go_wp2_with fail
            go_meet
            case rel => exact ⟨_, _, rfl, rfl, HR.out, o1⟩
          · have AWr := HAW.out.only0 o1
            obtain ⟨g, rfl, hg1, hg2, q1, _, q3, _⟩ := AWr.m.krow.at i hlt
            have hmem : kl.getD i default ∈ kl := by rw [List.getD_eq_getElem?_getD, List.getElem?_eq_getElem hlt]; exact List.getElem_mem _
            have hkr := AWr.m.set.set.kr (kl.getD i default).lo (List.mem_map.2 ⟨_, hmem, rfl⟩)
            have hb1 := fun h => HII.out.good (i := i) h
            have hb2 := fun h => HII.out.bad hlt h
            have hbk : badKey lv (restF nz) (kl.getD i default) = !jkey lv (kl.getD i default).link (restF nz (kl.getD i default).lo) := rfl
            obtain ⟨r, hr⟩ : ∃ r, r = kl.getD i default := ⟨_, rfl⟩
            rw [← hr] at q1 q3 hkr hb1 hb2 hbk
            obtain ⟨rsp, rlo, rhi, rlink, rla, rls, rlc⟩ := r
            simp only at q1 q3 hkr hbk
            obtain ⟨lo, rfl⟩ := Int.eq_ofNat_of_zero_le hkr.1
            have hlo : lo < 64 := by have := hkr.2; omega
            have KF := all_key_any w.heap.size lo a1 c1 nz wr.drew hlo hn AWr.box6.drew (AWr.in_.below ((Only0.refl wr).drew).below)
            have KK := fun wx => rkey_any lv rlink (restF nz (lo : Int)) wx
            have i0 : (0 : Int) ≤ (i : Int) := by omega
            have i1 : (i : Int) < (kl.length : Int) := by omega
            have HB1 := Lib.hid hb1
            have HB2 := Lib.hid hb2
            clear hmem hkr hr hb1 hb2 HII AWr
            cases hj : jkey lv rlink (restF nz (lo : Int))
            · have HQ := Lib.hid (HB2.out (by rw [hbk, hj]; rfl))
              rw [hj] at KK
              clear hbk hj HB1 HB2
              go_wp2_with fail
              refine wp_region_held_drew (S := (fun w' => w'.cell? ⟨g, i * 5 + 1, none⟩ = some (.int .i64 (lo : Nat)) ∧ w'.cell? ⟨g, i * 5 + 3, none⟩ = some (.int .u64 rlink))) (by kernel_rfl) ?_ (fun hHeld => ?_)
              · exact ⟨q1, q3⟩
              refine wpAnyH_take (i := 0) (v := ?_) rfl (by kernel_rfl) (by kernel_rfl) (by kernel_rfl) (fun _ _ _ h => h) (Or.inl ⟨by rfl, ?_⟩) (by assumption) ?_; rotate_left; (focus (intro w hSw; (try dsimp only at hSw); go_simp; try with_reducible rfl))
              try simp only [Act.put, List.getElem_toArray, List.getElem_cons_zero, List.getElem_cons_succ, List.setIfInBounds_toArray, List.set_cons_zero, List.set_cons_succ]
              refine wpAnyH_take (i := 1) (v := ?_) rfl (by kernel_rfl) (by kernel_rfl) (by kernel_rfl) (fun _ _ _ h => h) (Or.inl ⟨by rfl, ?_⟩) (by assumption) ?_; rotate_left; (focus (intro w hSw; (try dsimp only at hSw); go_simp; try with_reducible rfl))
              try simp only [Act.put, List.getElem_toArray, List.getElem_cons_zero, List.getElem_cons_succ, List.setIfInBounds_toArray, List.set_cons_zero, List.set_cons_succ]
              refine wpAnyH_take (i := 2) (v := ?_) rfl (by kernel_rfl) (by kernel_rfl) (by kernel_rfl) (fun _ _ _ h => h) (Or.inl ⟨by rfl, ?_⟩) (by assumption) ?_; rotate_left; (focus (intro w hSw; (try dsimp only at hSw); go_simp; try with_reducible rfl))
              try simp only [Act.put, List.getElem_toArray, List.getElem_cons_zero, List.getElem_cons_succ, List.setIfInBounds_toArray, List.set_cons_zero, List.set_cons_succ]
              refine wpAnyH_take (i := 3) (v := ?_) rfl (by kernel_rfl) (by kernel_rfl) (by kernel_rfl) (fun _ _ _ h => h) (Or.inl ⟨by rfl, ?_⟩) (by assumption) ?_; rotate_left; (focus (intro w hSw; (try dsimp only at hSw); go_simp; try with_reducible rfl))
              try simp only [Act.put, List.getElem_toArray, List.getElem_cons_zero, List.getElem_cons_succ, List.setIfInBounds_toArray, List.set_cons_zero, List.set_cons_succ]
              refine wpAnyH_take (i := 4) (v := ?_) rfl (by kernel_rfl) (by kernel_rfl) (by kernel_rfl) (fun _ _ _ h => h) (Or.inl ⟨by rfl, ?_⟩) (by assumption) ?_; rotate_left; (focus (intro w hSw; (try dsimp only at hSw); go_simp; try with_reducible rfl))
              try simp only [Act.put, List.getElem_toArray, List.getElem_cons_zero, List.getElem_cons_succ, List.setIfInBounds_toArray, List.set_cons_zero, List.set_cons_succ]
              refine wpAnyH_take (i := 5) (v := ?_) rfl (by kernel_rfl) (by kernel_rfl) (by kernel_rfl) (fun _ _ _ h => h) (Or.inl ⟨by rfl, ?_⟩) (by assumption) ?_; rotate_left; (focus (intro w hSw; (try dsimp only at hSw); go_simp; try with_reducible rfl))
              try simp only [Act.put, List.getElem_toArray, List.getElem_cons_zero, List.getElem_cons_succ, List.setIfInBounds_toArray, List.set_cons_zero, List.set_cons_succ]
              refine wpAnyH_take (i := 6) (v := ?_) rfl (by kernel_rfl) (by kernel_rfl) (by kernel_rfl) (fun _ _ _ h => h) (Or.inl ⟨by rfl, ?_⟩) (by assumption) ?_; rotate_left; (focus (intro w hSw; (try dsimp only at hSw); go_simp; try with_reducible rfl))
              try simp only [Act.put, List.getElem_toArray, List.getElem_cons_zero, List.getElem_cons_succ, List.setIfInBounds_toArray, List.set_cons_zero, List.set_cons_succ]
              refine wpAnyH_take (i := 7) (v := ?_) rfl (by kernel_rfl) (by kernel_rfl) (by kernel_rfl) (fun _ _ _ h => h) (Or.inl ⟨by rfl, ?_⟩) (by assumption) ?_; rotate_left; (focus (intro w hSw; (try dsimp only at hSw); go_simp; try with_reducible rfl))
              try simp only [Act.put, List.getElem_toArray, List.getElem_cons_zero, List.getElem_cons_succ, List.setIfInBounds_toArray, List.set_cons_zero, List.set_cons_succ]
              refine wpAnyH_take (i := 8) (v := ?_) rfl (by kernel_rfl) (by kernel_rfl) (by kernel_rfl) (fun _ _ _ h => h) (Or.inl ⟨by rfl, ?_⟩) (by assumption) ?_; rotate_left; (focus (intro w hSw; (try dsimp only at hSw); go_simp; try with_reducible rfl))
              try simp only [Act.put, List.getElem_toArray, List.getElem_cons_zero, List.getElem_cons_succ, List.setIfInBounds_toArray, List.set_cons_zero, List.set_cons_succ]
              refine wpAnyH_take (i := 9) (v := ?_) rfl (by kernel_rfl) (by kernel_rfl) (by kernel_rfl) (fun _ _ _ h => h) (Or.inl ⟨by rfl, ?_⟩) (by assumption) ?_; rotate_left; (focus (intro w hSw; (try dsimp only at hSw); go_simp; try with_reducible rfl))
              try simp only [Act.put, List.getElem_toArray, List.getElem_cons_zero, List.getElem_cons_succ, List.setIfInBounds_toArray, List.set_cons_zero, List.set_cons_succ]
              refine wpAnyH_take (i := 10) (v := ?_) rfl (by kernel_rfl) (by kernel_rfl) (by kernel_rfl) (fun _ _ _ h => h) (Or.inl ⟨by rfl, ?_⟩) (by assumption) ?_; rotate_left; (focus (intro w hSw; (try dsimp only at hSw); go_simp; try with_reducible rfl))
              try simp only [Act.put, List.getElem_toArray, List.getElem_cons_zero, List.getElem_cons_succ, List.setIfInBounds_toArray, List.set_cons_zero, List.set_cons_succ]
              refine wpAnyH_take (i := 11) (v := ?_) rfl (by kernel_rfl) (by kernel_rfl) (by kernel_rfl) (fun _ _ _ h => h) (Or.inl ⟨by rfl, ?_⟩) (by assumption) ?_; rotate_left; (focus (intro w hSw; (try dsimp only at hSw); go_simp; try with_reducible rfl))
              try simp only [Act.put, List.getElem_toArray, List.getElem_cons_zero, List.getElem_cons_succ, List.setIfInBounds_toArray, List.set_cons_zero, List.set_cons_succ]
              refine wpAnyH_ready (rs := [12]) (by kernel_rfl) (by simp) ?_
              refine AllReadyH.cons rfl (fun K hK => ?_) AllReadyH.nil
              try simp only [List.getElem_toArray, List.getElem_cons_zero, List.getElem_cons_succ]
              go_simp
              (refine KF.mono ?_; rintro e w7 ⟨rfl, nn, rfl⟩)
              try go_wp2_with fail
              refine hK.out _ _ ?_ (fun hHeld => ?_)
              · exact ⟨q1, q3⟩
              clear hK K
              try simp only [Act.put, List.getElem_toArray, List.getElem_cons_zero, List.getElem_cons_succ, List.setIfInBounds_toArray, List.set_cons_zero, List.set_cons_succ]
              refine wpAnyH_ready (rs := [13]) (by kernel_rfl) (by simp) ?_
              refine AllReadyH.cons rfl (fun K hK => ?_) AllReadyH.nil
              try simp only [List.getElem_toArray, List.getElem_cons_zero, List.getElem_cons_succ]
              go_simp
              (refine (KK _).mono ?_; rintro e w8 ⟨rfl, rfl⟩)
              try go_wp2_with fail
              refine hK.out _ _ ?_ (fun hHeld => ?_)
              · exact ⟨q1, q3⟩
              clear hK K
              try simp only [Act.put, List.getElem_toArray, List.getElem_cons_zero, List.getElem_cons_succ, List.setIfInBounds_toArray, List.set_cons_zero, List.set_cons_succ]
              refine wpAnyH_take (i := 14) (v := ?_) rfl (by kernel_rfl) (by kernel_rfl) (by kernel_rfl) (fun _ _ _ h => h) (Or.inl ⟨by rfl, ?_⟩) (by assumption) ?_; rotate_left; (focus (intro w hSw; (try dsimp only at hSw); go_simp; try with_reducible rfl))
              try simp only [Act.put, List.getElem_toArray, List.getElem_cons_zero, List.getElem_cons_succ, List.setIfInBounds_toArray, List.set_cons_zero, List.set_cons_succ]
              refine wpAnyH_done (by kernel_rfl) ?_ _
              go_wp2_with fail
              have q1' : (wr.drew.drewN nn).cell? ⟨g, i * 5 + 1, none⟩ = some (.int .i64 (lo : Nat)) := q1
              go_quiet (fail)
              go_wp2_with fail
              go_roundw
              case rel => exact ⟨i + 1, false, _, by omega, rfl, rfl, by go_num, HQ.out, same_heap o1 rfl rfl rfl rfl⟩
              case measure => simp [intOf]; omega
            · have HQ := Lib.hid (HB1.out (by rw [hbk, hj]; rfl))
              rw [hj] at KK
              clear hbk hj HB1 HB2
              go_wp2_with fail
              refine wp_region_held_drew (S := (fun w' => w'.cell? ⟨g, i * 5 + 1, none⟩ = some (.int .i64 (lo : Nat)) ∧ w'.cell? ⟨g, i * 5 + 3, none⟩ = some (.int .u64 rlink))) (by kernel_rfl) ?_ (fun hHeld => ?_)
              · exact ⟨q1, q3⟩
              refine wpAnyH_take (i := 0) (v := ?_) rfl (by kernel_rfl) (by kernel_rfl) (by kernel_rfl) (fun _ _ _ h => h) (Or.inl ⟨by rfl, ?_⟩) (by assumption) ?_; rotate_left; (focus (intro w hSw; (try dsimp only at hSw); go_simp; try with_reducible rfl))
              try simp only [Act.put, List.getElem_toArray, List.getElem_cons_zero, List.getElem_cons_succ, List.setIfInBounds_toArray, List.set_cons_zero, List.set_cons_succ]
              refine wpAnyH_take (i := 1) (v := ?_) rfl (by kernel_rfl) (by kernel_rfl) (by kernel_rfl) (fun _ _ _ h => h) (Or.inl ⟨by rfl, ?_⟩) (by assumption) ?_; rotate_left; (focus (intro w hSw; (try dsimp only at hSw); go_simp; try with_reducible rfl))
              try simp only [Act.put, List.getElem_toArray, List.getElem_cons_zero, List.getElem_cons_succ, List.setIfInBounds_toArray, List.set_cons_zero, List.set_cons_succ]
              refine wpAnyH_take (i := 2) (v := ?_) rfl (by kernel_rfl) (by kernel_rfl) (by kernel_rfl) (fun _ _ _ h => h) (Or.inl ⟨by rfl, ?_⟩) (by assumption) ?_; rotate_left; (focus (intro w hSw; (try dsimp only at hSw); go_simp; try with_reducible rfl))
              try simp only [Act.put, List.getElem_toArray, List.getElem_cons_zero, List.getElem_cons_succ, List.setIfInBounds_toArray, List.set_cons_zero, List.set_cons_succ]
              refine wpAnyH_take (i := 3) (v := ?_) rfl (by kernel_rfl) (by kernel_rfl) (by kernel_rfl) (fun _ _ _ h => h) (Or.inl ⟨by rfl, ?_⟩) (by assumption) ?_; rotate_left; (focus (intro w hSw; (try dsimp only at hSw); go_simp; try with_reducible rfl))
              try simp only [Act.put, List.getElem_toArray, List.getElem_cons_zero, List.getElem_cons_succ, List.setIfInBounds_toArray, List.set_cons_zero, List.set_cons_succ]
              refine wpAnyH_take (i := 4) (v := ?_) rfl (by kernel_rfl) (by kernel_rfl) (by kernel_rfl) (fun _ _ _ h => h) (Or.inl ⟨by rfl, ?_⟩) (by assumption) ?_; rotate_left; (focus (intro w hSw; (try dsimp only at hSw); go_simp; try with_reducible rfl))
              try simp only [Act.put, List.getElem_toArray, List.getElem_cons_zero, List.getElem_cons_succ, List.setIfInBounds_toArray, List.set_cons_zero, List.set_cons_succ]
              refine wpAnyH_take (i := 5) (v := ?_) rfl (by kernel_rfl) (by kernel_rfl) (by kernel_rfl) (fun _ _ _ h => h) (Or.inl ⟨by rfl, ?_⟩) (by assumption) ?_; rotate_left; (focus (intro w hSw; (try dsimp only at hSw); go_simp; try with_reducible rfl))
              try simp only [Act.put, List.getElem_toArray, List.getElem_cons_zero, List.getElem_cons_succ, List.setIfInBounds_toArray, List.set_cons_zero, List.set_cons_succ]
              refine wpAnyH_take (i := 6) (v := ?_) rfl (by kernel_rfl) (by kernel_rfl) (by kernel_rfl) (fun _ _ _ h => h) (Or.inl ⟨by rfl, ?_⟩) (by assumption) ?_; rotate_left; (focus (intro w hSw; (try dsimp only at hSw); go_simp; try with_reducible rfl))
              try simp only [Act.put, List.getElem_toArray, List.getElem_cons_zero, List.getElem_cons_succ, List.setIfInBounds_toArray, List.set_cons_zero, List.set_cons_succ]
              refine wpAnyH_take (i := 7) (v := ?_) rfl (by kernel_rfl) (by kernel_rfl) (by kernel_rfl) (fun _ _ _ h => h) (Or.inl ⟨by rfl, ?_⟩) (by assumption) ?_; rotate_left; (focus (intro w hSw; (try dsimp only at hSw); go_simp; try with_reducible rfl))
              try simp only [Act.put, List.getElem_toArray, List.getElem_cons_zero, List.getElem_cons_succ, List.setIfInBounds_toArray, List.set_cons_zero, List.set_cons_succ]
              refine wpAnyH_take (i := 8) (v := ?_) rfl (by kernel_rfl) (by kernel_rfl) (by kernel_rfl) (fun _ _ _ h => h) (Or.inl ⟨by rfl, ?_⟩) (by assumption) ?_; rotate_left; (focus (intro w hSw; (try dsimp only at hSw); go_simp; try with_reducible rfl))
              try simp only [Act.put, List.getElem_toArray, List.getElem_cons_zero, List.getElem_cons_succ, List.setIfInBounds_toArray, List.set_cons_zero, List.set_cons_succ]
              refine wpAnyH_take (i := 9) (v := ?_) rfl (by kernel_rfl) (by kernel_rfl) (by kernel_rfl) (fun _ _ _ h => h) (Or.inl ⟨by rfl, ?_⟩) (by assumption) ?_; rotate_left; (focus (intro w hSw; (try dsimp only at hSw); go_simp; try with_reducible rfl))
              try simp only [Act.put, List.getElem_toArray, List.getElem_cons_zero, List.getElem_cons_succ, List.setIfInBounds_toArray, List.set_cons_zero, List.set_cons_succ]
              refine wpAnyH_take (i := 10) (v := ?_) rfl (by kernel_rfl) (by kernel_rfl) (by kernel_rfl) (fun _ _ _ h => h) (Or.inl ⟨by rfl, ?_⟩) (by assumption) ?_; rotate_left; (focus (intro w hSw; (try dsimp only at hSw); go_simp; try with_reducible rfl))
              try simp only [Act.put, List.getElem_toArray, List.getElem_cons_zero, List.getElem_cons_succ, List.setIfInBounds_toArray, List.set_cons_zero, List.set_cons_succ]
              refine wpAnyH_take (i := 11) (v := ?_) rfl (by kernel_rfl) (by kernel_rfl) (by kernel_rfl) (fun _ _ _ h => h) (Or.inl ⟨by rfl, ?_⟩) (by assumption) ?_; rotate_left; (focus (intro w hSw; (try dsimp only at hSw); go_simp; try with_reducible rfl))
              try simp only [Act.put, List.getElem_toArray, List.getElem_cons_zero, List.getElem_cons_succ, List.setIfInBounds_toArray, List.set_cons_zero, List.set_cons_succ]
              refine wpAnyH_ready (rs := [12]) (by kernel_rfl) (by simp) ?_
              refine AllReadyH.cons rfl (fun K hK => ?_) AllReadyH.nil
              try simp only [List.getElem_toArray, List.getElem_cons_zero, List.getElem_cons_succ]
              go_simp
              (refine KF.mono ?_; rintro e w7 ⟨rfl, nn, rfl⟩)
              try go_wp2_with fail
              refine hK.out _ _ ?_ (fun hHeld => ?_)
              · exact ⟨q1, q3⟩
              clear hK K
              try simp only [Act.put, List.getElem_toArray, List.getElem_cons_zero, List.getElem_cons_succ, List.setIfInBounds_toArray, List.set_cons_zero, List.set_cons_succ]
              refine wpAnyH_ready (rs := [13]) (by kernel_rfl) (by simp) ?_
              refine AllReadyH.cons rfl (fun K hK => ?_) AllReadyH.nil
              try simp only [List.getElem_toArray, List.getElem_cons_zero, List.getElem_cons_succ]
              go_simp
              (refine (KK _).mono ?_; rintro e w8 ⟨rfl, rfl⟩)
              try go_wp2_with fail
              refine hK.out _ _ ?_ (fun hHeld => ?_)
              · exact ⟨q1, q3⟩
              clear hK K
              try simp only [Act.put, List.getElem_toArray, List.getElem_cons_zero, List.getElem_cons_succ, List.setIfInBounds_toArray, List.set_cons_zero, List.set_cons_succ]
              refine wpAnyH_take (i := 14) (v := ?_) rfl (by kernel_rfl) (by kernel_rfl) (by kernel_rfl) (fun _ _ _ h => h) (Or.inl ⟨by rfl, ?_⟩) (by assumption) ?_; rotate_left; (focus (intro w hSw; (try dsimp only at hSw); go_simp; try with_reducible rfl))
              try simp only [Act.put, List.getElem_toArray, List.getElem_cons_zero, List.getElem_cons_succ, List.setIfInBounds_toArray, List.set_cons_zero, List.set_cons_succ]
              refine wpAnyH_done (by kernel_rfl) ?_ _
              go_wp2_with fail
              go_roundw
              case rel => exact ⟨i + 1, true, _, by omega, rfl, rfl, by go_num, HQ.out, same_heap o1 rfl rfl rfl rfl⟩
              case measure => simp [intOf]; omega
        · obtain rfl : i = kl.length := by omega
          have HR := Lib.hid (HII.out.done (.inl rfl))
          go_wp2_with fail
          go_meet
          case rel => exact ⟨_, _, rfl, rfl, HR.out, o1⟩
    case rest =>
      obtain ⟨b, v, rfl, rfl, hR, o1⟩ := hcut
      have HR1 := Lib.hid hR
      clear hR
      go_upto_block 2 with (fail)
      go_cut [14, 15] (fun s14 s15 wx => ∃ (b : Bool) (v : Int), s14 = .bool b ∧ s15 = .int .i64 v ∧ R2 lv kl sl (restF nz) (spanA zs) = (b, v) ∧ Only0 w1 wx)
      case first =>
        go_wp2_with fail
        go_loopw [14, 15, 17] (fun s14 s15 s16 wr => ∃ (i : Nat) (b : Bool) (v : Int), i ≤ sl.length ∧ s14 = .bool b ∧ s15 = .int .i64 v ∧ s16 = .int .i64 i ∧ I2 lv kl sl (restF nz) (spanA zs) i b v ∧ Only0 w1 wr) (fun _ _ s16 _ => sl.length - (intOf s16).toNat)
        case atStart => exact ⟨0, _, _, by omega, rfl, rfl, rfl, I2.start HR1.out, o1⟩
        case round =>
          clear o1
          obtain ⟨i, b, v, hi, rfl, rfl, rfl, hI, o1⟩ := hrel
          have HII := Lib.hid hI
          clear hI
          by_cases hlt : i < sl.length
          · cases b
            · have HR := Lib.hid (HII.out.done (.inr rfl))
              go_wp2_with fail
              go_meet
              case rel => exact ⟨_, _, rfl, rfl, HR.out, o1⟩
            · have AWr := HAW.out.only0 o1
              obtain ⟨g, rfl, hg1, hg2, q1, q2, _, q4⟩ := AWr.m.srow.at i hlt
              have hmem : sl.getD i default ∈ sl := by rw [List.getD_eq_getElem?_getD, List.getElem?_eq_getElem hlt]; exact List.getElem_mem _
              obtain ⟨IL, il5, _, _, _⟩ := AWr.m.ints _ (.inr hmem)
              have IL := IL.below AWr.m.set.bel
              have hb1 := fun h => HII.out.good (i := i) h
              have hb2 := fun h => HII.out.bad hlt h
              have hbk : badRng lv (spanA zs) (sl.getD i default) = !jspan lv (sl.getD i default).ls (spanA zs (sl.getD i default).lo (sl.getD i default).hi) := rfl
              obtain ⟨r, hr⟩ : ∃ r, r = sl.getD i default := ⟨_, rfl⟩
              rw [← hr] at q1 q2 q4 hb1 hb2 hbk IL il5
              obtain ⟨rsp, rlo, rhi, rlink, rla, rls, rlc⟩ := r
              simp only at q1 q2 q4 hbk IL il5
              have SF := all_span_any (w.heap.size + 1) a2 c2 zs rlo rhi wr.drew hz hcn hcc HNO.out AWr.box7.drew (AWr.iz.below ((Only0.refl wr).drew).below)
              have RS := fun wx (hx : Ints .u64 wx rla rls) ia ic (hia : Ints .u64 wx ia (spanA zs rlo rhi)) (his : (spanA zs rlo rhi).length ≤ 1000000) => rspan_any lv rla ia rlc ic rls (spanA zs rlo rhi) wx hx hia (by omega) (by omega)
              have i0 : (0 : Int) ≤ (i : Int) := by omega
              have i1 : (i : Int) < (sl.length : Int) := by omega
              have HB1 := Lib.hid hb1
              have HB2 := Lib.hid hb2
              have HIL := Lib.hid IL
              clear hmem hr hb1 hb2 HII AWr IL
              cases hj : jspan lv rls (spanA zs rlo rhi)
              · have HQ := Lib.hid (HB2.out (by rw [hbk, hj]; rfl))
                rw [hj] at RS
                clear hbk hj HB1 HB2
                go_wp2_with fail
                refine wp_region_held_drew (S := (fun w' => w'.cell? ⟨g, i * 5 + 1, none⟩ = some (.int .i64 rlo) ∧ w'.cell? ⟨g, i * 5 + 2, none⟩ = some (.int .i64 rhi) ∧ w'.cell? ⟨g, i * 5 + 4, none⟩ = some (.slice rla rls.length rlc))) (by kernel_rfl) ?_ (fun hHeld => ?_)
                · exact ⟨q1, q2, q4⟩
                refine wpAnyH_take (i := 0) (v := ?_) rfl (by kernel_rfl) (by kernel_rfl) (by kernel_rfl) (fun _ _ _ h => h) (Or.inl ⟨by rfl, ?_⟩) (by assumption) ?_; rotate_left; (focus (intro w hSw; (try dsimp only at hSw); go_simp; try with_reducible rfl))
                try simp only [Act.put, List.getElem_toArray, List.getElem_cons_zero, List.getElem_cons_succ, List.setIfInBounds_toArray, List.set_cons_zero, List.set_cons_succ]
                refine wpAnyH_take (i := 1) (v := ?_) rfl (by kernel_rfl) (by kernel_rfl) (by kernel_rfl) (fun _ _ _ h => h) (Or.inl ⟨by rfl, ?_⟩) (by assumption) ?_; rotate_left; (focus (intro w hSw; (try dsimp only at hSw); go_simp; try with_reducible rfl))
                try simp only [Act.put, List.getElem_toArray, List.getElem_cons_zero, List.getElem_cons_succ, List.setIfInBounds_toArray, List.set_cons_zero, List.set_cons_succ]
                refine wpAnyH_take (i := 2) (v := ?_) rfl (by kernel_rfl) (by kernel_rfl) (by kernel_rfl) (fun _ _ _ h => h) (Or.inl ⟨by rfl, ?_⟩) (by assumption) ?_; rotate_left; (focus (intro w hSw; (try dsimp only at hSw); go_simp; try with_reducible rfl))
                try simp only [Act.put, List.getElem_toArray, List.getElem_cons_zero, List.getElem_cons_succ, List.setIfInBounds_toArray, List.set_cons_zero, List.set_cons_succ]
                refine wpAnyH_take (i := 3) (v := ?_) rfl (by kernel_rfl) (by kernel_rfl) (by kernel_rfl) (fun _ _ _ h => h) (Or.inl ⟨by rfl, ?_⟩) (by assumption) ?_; rotate_left; (focus (intro w hSw; (try dsimp only at hSw); go_simp; try with_reducible rfl))
                try simp only [Act.put, List.getElem_toArray, List.getElem_cons_zero, List.getElem_cons_succ, List.setIfInBounds_toArray, List.set_cons_zero, List.set_cons_succ]
                refine wpAnyH_take (i := 4) (v := ?_) rfl (by kernel_rfl) (by kernel_rfl) (by kernel_rfl) (fun _ _ _ h => h) (Or.inl ⟨by rfl, ?_⟩) (by assumption) ?_; rotate_left; (focus (intro w hSw; (try dsimp only at hSw); go_simp; try with_reducible rfl))
                try simp only [Act.put, List.getElem_toArray, List.getElem_cons_zero, List.getElem_cons_succ, List.setIfInBounds_toArray, List.set_cons_zero, List.set_cons_succ]
                refine wpAnyH_take (i := 5) (v := ?_) rfl (by kernel_rfl) (by kernel_rfl) (by kernel_rfl) (fun _ _ _ h => h) (Or.inl ⟨by rfl, ?_⟩) (by assumption) ?_; rotate_left; (focus (intro w hSw; (try dsimp only at hSw); go_simp; try with_reducible rfl))
                try simp only [Act.put, List.getElem_toArray, List.getElem_cons_zero, List.getElem_cons_succ, List.setIfInBounds_toArray, List.set_cons_zero, List.set_cons_succ]
                refine wpAnyH_take (i := 6) (v := ?_) rfl (by kernel_rfl) (by kernel_rfl) (by kernel_rfl) (fun _ _ _ h => h) (Or.inl ⟨by rfl, ?_⟩) (by assumption) ?_; rotate_left; (focus (intro w hSw; (try dsimp only at hSw); go_simp; try with_reducible rfl))
                try simp only [Act.put, List.getElem_toArray, List.getElem_cons_zero, List.getElem_cons_succ, List.setIfInBounds_toArray, List.set_cons_zero, List.set_cons_succ]
                refine wpAnyH_take (i := 7) (v := ?_) rfl (by kernel_rfl) (by kernel_rfl) (by kernel_rfl) (fun _ _ _ h => h) (Or.inl ⟨by rfl, ?_⟩) (by assumption) ?_; rotate_left; (focus (intro w hSw; (try dsimp only at hSw); go_simp; try with_reducible rfl))
                try simp only [Act.put, List.getElem_toArray, List.getElem_cons_zero, List.getElem_cons_succ, List.setIfInBounds_toArray, List.set_cons_zero, List.set_cons_succ]
                refine wpAnyH_take (i := 8) (v := ?_) rfl (by kernel_rfl) (by kernel_rfl) (by kernel_rfl) (fun _ _ _ h => h) (Or.inl ⟨by rfl, ?_⟩) (by assumption) ?_; rotate_left; (focus (intro w hSw; (try dsimp only at hSw); go_simp; try with_reducible rfl))
                try simp only [Act.put, List.getElem_toArray, List.getElem_cons_zero, List.getElem_cons_succ, List.setIfInBounds_toArray, List.set_cons_zero, List.set_cons_succ]
                refine wpAnyH_take (i := 9) (v := ?_) rfl (by kernel_rfl) (by kernel_rfl) (by kernel_rfl) (fun _ _ _ h => h) (Or.inl ⟨by rfl, ?_⟩) (by assumption) ?_; rotate_left; (focus (intro w hSw; (try dsimp only at hSw); go_simp; try with_reducible rfl))
                try simp only [Act.put, List.getElem_toArray, List.getElem_cons_zero, List.getElem_cons_succ, List.setIfInBounds_toArray, List.set_cons_zero, List.set_cons_succ]
                refine wpAnyH_take (i := 10) (v := ?_) rfl (by kernel_rfl) (by kernel_rfl) (by kernel_rfl) (fun _ _ _ h => h) (Or.inl ⟨by rfl, ?_⟩) (by assumption) ?_; rotate_left; (focus (intro w hSw; (try dsimp only at hSw); go_simp; try with_reducible rfl))
                try simp only [Act.put, List.getElem_toArray, List.getElem_cons_zero, List.getElem_cons_succ, List.setIfInBounds_toArray, List.set_cons_zero, List.set_cons_succ]
                refine wpAnyH_take (i := 11) (v := ?_) rfl (by kernel_rfl) (by kernel_rfl) (by kernel_rfl) (fun _ _ _ h => h) (Or.inl ⟨by rfl, ?_⟩) (by assumption) ?_; rotate_left; (focus (intro w hSw; (try dsimp only at hSw); go_simp; try with_reducible rfl))
                try simp only [Act.put, List.getElem_toArray, List.getElem_cons_zero, List.getElem_cons_succ, List.setIfInBounds_toArray, List.set_cons_zero, List.set_cons_succ]
                refine wpAnyH_take (i := 12) (v := ?_) rfl (by kernel_rfl) (by kernel_rfl) (by kernel_rfl) (fun _ _ _ h => h) (Or.inl ⟨by rfl, ?_⟩) (by assumption) ?_; rotate_left; (focus (intro w hSw; (try dsimp only at hSw); go_simp; try with_reducible rfl))
                try simp only [Act.put, List.getElem_toArray, List.getElem_cons_zero, List.getElem_cons_succ, List.setIfInBounds_toArray, List.set_cons_zero, List.set_cons_succ]
                refine wpAnyH_take (i := 13) (v := ?_) rfl (by kernel_rfl) (by kernel_rfl) (by kernel_rfl) (fun _ _ _ h => h) (Or.inl ⟨by rfl, ?_⟩) (by assumption) ?_; rotate_left; (focus (intro w hSw; (try dsimp only at hSw); go_simp; try with_reducible rfl))
                try simp only [Act.put, List.getElem_toArray, List.getElem_cons_zero, List.getElem_cons_succ, List.setIfInBounds_toArray, List.set_cons_zero, List.set_cons_succ]
                refine wpAnyH_take (i := 14) (v := ?_) rfl (by kernel_rfl) (by kernel_rfl) (by kernel_rfl) (fun _ _ _ h => h) (Or.inl ⟨by rfl, ?_⟩) (by assumption) ?_; rotate_left; (focus (intro w hSw; (try dsimp only at hSw); go_simp; try with_reducible rfl))
                try simp only [Act.put, List.getElem_toArray, List.getElem_cons_zero, List.getElem_cons_succ, List.setIfInBounds_toArray, List.set_cons_zero, List.set_cons_succ]
                refine wpAnyH_take (i := 15) (v := ?_) rfl (by kernel_rfl) (by kernel_rfl) (by kernel_rfl) (fun _ _ _ h => h) (Or.inl ⟨by rfl, ?_⟩) (by assumption) ?_; rotate_left; (focus (intro w hSw; (try dsimp only at hSw); go_simp; try with_reducible rfl))
                try simp only [Act.put, List.getElem_toArray, List.getElem_cons_zero, List.getElem_cons_succ, List.setIfInBounds_toArray, List.set_cons_zero, List.set_cons_succ]
                refine wpAnyH_take (i := 16) (v := ?_) rfl (by kernel_rfl) (by kernel_rfl) (by kernel_rfl) (fun _ _ _ h => h) (Or.inl ⟨by rfl, ?_⟩) (by assumption) ?_; rotate_left; (focus (intro w hSw; (try dsimp only at hSw); go_simp; try with_reducible rfl))
                try simp only [Act.put, List.getElem_toArray, List.getElem_cons_zero, List.getElem_cons_succ, List.setIfInBounds_toArray, List.set_cons_zero, List.set_cons_succ]
                refine wpAnyH_ready (rs := [17]) (by kernel_rfl) (by simp) ?_
                refine AllReadyH.cons rfl (fun K hK => ?_) AllReadyH.nil
                try simp only [List.getElem_toArray, List.getElem_cons_zero, List.getElem_cons_succ]
                go_simp
                (refine SF.mono ?_; rintro e w7 ⟨⟨ia, ic, rfl, hia, his⟩, nn, rfl⟩)
                try go_wp2_with fail
                refine hK.out _ _ ?_ (fun hHeld => ?_)
                · exact ⟨q1, q2, q4⟩
                clear hK K
                try simp only [Act.put, List.getElem_toArray, List.getElem_cons_zero, List.getElem_cons_succ, List.setIfInBounds_toArray, List.set_cons_zero, List.set_cons_succ]
                refine wpAnyH_ready (rs := [18]) (by kernel_rfl) (by simp) ?_
                refine AllReadyH.cons rfl (fun K hK => ?_) AllReadyH.nil
                try simp only [List.getElem_toArray, List.getElem_cons_zero, List.getElem_cons_succ]
                go_simp
                (refine (RS (wr.drewN (1 + nn)) HIL.out ia ic hia his).mono ?_; rintro e w8 ⟨rfl, mm, rfl⟩)
                try go_wp2_with fail
                refine hK.out _ _ ?_ (fun hHeld => ?_)
                · exact ⟨q1, q2, q4⟩
                clear hK K
                try simp only [Act.put, List.getElem_toArray, List.getElem_cons_zero, List.getElem_cons_succ, List.setIfInBounds_toArray, List.set_cons_zero, List.set_cons_succ]
                refine wpAnyH_take (i := 19) (v := ?_) rfl (by kernel_rfl) (by kernel_rfl) (by kernel_rfl) (fun _ _ _ h => h) (Or.inl ⟨by rfl, ?_⟩) (by assumption) ?_; rotate_left; (focus (intro w hSw; (try dsimp only at hSw); go_simp; try with_reducible rfl))
                try simp only [Act.put, List.getElem_toArray, List.getElem_cons_zero, List.getElem_cons_succ, List.setIfInBounds_toArray, List.set_cons_zero, List.set_cons_succ]
                refine wpAnyH_done (by kernel_rfl) ?_ _
                go_wp2_with fail
                go_quiet (fail)
                go_wp2_with fail
                go_roundw
                case rel => exact ⟨i + 1, false, _, by omega, rfl, rfl, by go_num, HQ.out, same_heap o1 rfl rfl rfl rfl⟩
                case measure => simp [intOf]; omega
              · have HQ := Lib.hid (HB1.out (by rw [hbk, hj]; rfl))
                rw [hj] at RS
                clear hbk hj HB1 HB2
                go_wp2_with fail
                refine wp_region_held_drew (S := (fun w' => w'.cell? ⟨g, i * 5 + 1, none⟩ = some (.int .i64 rlo) ∧ w'.cell? ⟨g, i * 5 + 2, none⟩ = some (.int .i64 rhi) ∧ w'.cell? ⟨g, i * 5 + 4, none⟩ = some (.slice rla rls.length rlc))) (by kernel_rfl) ?_ (fun hHeld => ?_)
                · exact ⟨q1, q2, q4⟩
                refine wpAnyH_take (i := 0) (v := ?_) rfl (by kernel_rfl) (by kernel_rfl) (by kernel_rfl) (fun _ _ _ h => h) (Or.inl ⟨by rfl, ?_⟩) (by assumption) ?_; rotate_left; (focus (intro w hSw; (try dsimp only at hSw); go_simp; try with_reducible rfl))
                try simp only [Act.put, List.getElem_toArray, List.getElem_cons_zero, List.getElem_cons_succ, List.setIfInBounds_toArray, List.set_cons_zero, List.set_cons_succ]
                refine wpAnyH_take (i := 1) (v := ?_) rfl (by kernel_rfl) (by kernel_rfl) (by kernel_rfl) (fun _ _ _ h => h) (Or.inl ⟨by rfl, ?_⟩) (by assumption) ?_; rotate_left; (focus (intro w hSw; (try dsimp only at hSw); go_simp; try with_reducible rfl))
                try simp only [Act.put, List.getElem_toArray, List.getElem_cons_zero, List.getElem_cons_succ, List.setIfInBounds_toArray, List.set_cons_zero, List.set_cons_succ]
                refine wpAnyH_take (i := 2) (v := ?_) rfl (by kernel_rfl) (by kernel_rfl) (by kernel_rfl) (fun _ _ _ h => h) (Or.inl ⟨by rfl, ?_⟩) (by assumption) ?_; rotate_left; (focus (intro w hSw; (try dsimp only at hSw); go_simp; try with_reducible rfl))
                try simp only [Act.put, List.getElem_toArray, List.getElem_cons_zero, List.getElem_cons_succ, List.setIfInBounds_toArray, List.set_cons_zero, List.set_cons_succ]
                refine wpAnyH_take (i := 3) (v := ?_) rfl (by kernel_rfl) (by kernel_rfl) (by kernel_rfl) (fun _ _ _ h => h) (Or.inl ⟨by rfl, ?_⟩) (by assumption) ?_; rotate_left; (focus (intro w hSw; (try dsimp only at hSw); go_simp; try with_reducible rfl))
                try simp only [Act.put, List.getElem_toArray, List.getElem_cons_zero, List.getElem_cons_succ, List.setIfInBounds_toArray, List.set_cons_zero, List.set_cons_succ]
                refine wpAnyH_take (i := 4) (v := ?_) rfl (by kernel_rfl) (by kernel_rfl) (by kernel_rfl) (fun _ _ _ h => h) (Or.inl ⟨by rfl, ?_⟩) (by assumption) ?_; rotate_left; (focus (intro w hSw; (try dsimp only at hSw); go_simp; try with_reducible rfl))
                try simp only [Act.put, List.getElem_toArray, List.getElem_cons_zero, List.getElem_cons_succ, List.setIfInBounds_toArray, List.set_cons_zero, List.set_cons_succ]
                refine wpAnyH_take (i := 5) (v := ?_) rfl (by kernel_rfl) (by kernel_rfl) (by kernel_rfl) (fun _ _ _ h => h) (Or.inl ⟨by rfl, ?_⟩) (by assumption) ?_; rotate_left; (focus (intro w hSw; (try dsimp only at hSw); go_simp; try with_reducible rfl))
                try simp only [Act.put, List.getElem_toArray, List.getElem_cons_zero, List.getElem_cons_succ, List.setIfInBounds_toArray, List.set_cons_zero, List.set_cons_succ]
                refine wpAnyH_take (i := 6) (v := ?_) rfl (by kernel_rfl) (by kernel_rfl) (by kernel_rfl) (fun _ _ _ h => h) (Or.inl ⟨by rfl, ?_⟩) (by assumption) ?_; rotate_left; (focus (intro w hSw; (try dsimp only at hSw); go_simp; try with_reducible rfl))
                try simp only [Act.put, List.getElem_toArray, List.getElem_cons_zero, List.getElem_cons_succ, List.setIfInBounds_toArray, List.set_cons_zero, List.set_cons_succ]
                refine wpAnyH_take (i := 7) (v := ?_) rfl (by kernel_rfl) (by kernel_rfl) (by kernel_rfl) (fun _ _ _ h => h) (Or.inl ⟨by rfl, ?_⟩) (by assumption) ?_; rotate_left; (focus (intro w hSw; (try dsimp only at hSw); go_simp; try with_reducible rfl))
                try simp only [Act.put, List.getElem_toArray, List.getElem_cons_zero, List.getElem_cons_succ, List.setIfInBounds_toArray, List.set_cons_zero, List.set_cons_succ]
                refine wpAnyH_take (i := 8) (v := ?_) rfl (by kernel_rfl) (by kernel_rfl) (by kernel_rfl) (fun _ _ _ h => h) (Or.inl ⟨by rfl, ?_⟩) (by assumption) ?_; rotate_left; (focus (intro w hSw; (try dsimp only at hSw); go_simp; try with_reducible rfl))
                try simp only [Act.put, List.getElem_toArray, List.getElem_cons_zero, List.getElem_cons_succ, List.setIfInBounds_toArray, List.set_cons_zero, List.set_cons_succ]
                refine wpAnyH_take (i := 9) (v := ?_) rfl (by kernel_rfl) (by kernel_rfl) (by kernel_rfl) (fun _ _ _ h => h) (Or.inl ⟨by rfl, ?_⟩) (by assumption) ?_; rotate_left; (focus (intro w hSw; (try dsimp only at hSw); go_simp; try with_reducible rfl))
                try simp only [Act.put, List.getElem_toArray, List.getElem_cons_zero, List.getElem_cons_succ, List.setIfInBounds_toArray, List.set_cons_zero, List.set_cons_succ]
                refine wpAnyH_take (i := 10) (v := ?_) rfl (by kernel_rfl) (by kernel_rfl) (by kernel_rfl) (fun _ _ _ h => h) (Or.inl ⟨by rfl, ?_⟩) (by assumption) ?_; rotate_left; (focus (intro w hSw; (try dsimp only at hSw); go_simp; try with_reducible rfl))
                try simp only [Act.put, List.getElem_toArray, List.getElem_cons_zero, List.getElem_cons_succ, List.setIfInBounds_toArray, List.set_cons_zero, List.set_cons_succ]
                refine wpAnyH_take (i := 11) (v := ?_) rfl (by kernel_rfl) (by kernel_rfl) (by kernel_rfl) (fun _ _ _ h => h) (Or.inl ⟨by rfl, ?_⟩) (by assumption) ?_; rotate_left; (focus (intro w hSw; (try dsimp only at hSw); go_simp; try with_reducible rfl))
                try simp only [Act.put, List.getElem_toArray, List.getElem_cons_zero, List.getElem_cons_succ, List.setIfInBounds_toArray, List.set_cons_zero, List.set_cons_succ]
                refine wpAnyH_take (i := 12) (v := ?_) rfl (by kernel_rfl) (by kernel_rfl) (by kernel_rfl) (fun _ _ _ h => h) (Or.inl ⟨by rfl, ?_⟩) (by assumption) ?_; rotate_left; (focus (intro w hSw; (try dsimp only at hSw); go_simp; try with_reducible rfl))
                try simp only [Act.put, List.getElem_toArray, List.getElem_cons_zero, List.getElem_cons_succ, List.setIfInBounds_toArray, List.set_cons_zero, List.set_cons_succ]
                refine wpAnyH_take (i := 13) (v := ?_) rfl (by kernel_rfl) (by kernel_rfl) (by kernel_rfl) (fun _ _ _ h => h) (Or.inl ⟨by rfl, ?_⟩) (by assumption) ?_; rotate_left; (focus (intro w hSw; (try dsimp only at hSw); go_simp; try with_reducible rfl))
                try simp only [Act.put, List.getElem_toArray, List.getElem_cons_zero, List.getElem_cons_succ, List.setIfInBounds_toArray, List.set_cons_zero, List.set_cons_succ]
                refine wpAnyH_take (i := 14) (v := ?_) rfl (by kernel_rfl) (by kernel_rfl) (by kernel_rfl) (fun _ _ _ h => h) (Or.inl ⟨by rfl, ?_⟩) (by assumption) ?_; rotate_left; (focus (intro w hSw; (try dsimp only at hSw); go_simp; try with_reducible rfl))
                try simp only [Act.put, List.getElem_toArray, List.getElem_cons_zero, List.getElem_cons_succ, List.setIfInBounds_toArray, List.set_cons_zero, List.set_cons_succ]
                refine wpAnyH_take (i := 15) (v := ?_) rfl (by kernel_rfl) (by kernel_rfl) (by kernel_rfl) (fun _ _ _ h => h) (Or.inl ⟨by rfl, ?_⟩) (by assumption) ?_; rotate_left; (focus (intro w hSw; (try dsimp only at hSw); go_simp; try with_reducible rfl))
                try simp only [Act.put, List.getElem_toArray, List.getElem_cons_zero, List.getElem_cons_succ, List.setIfInBounds_toArray, List.set_cons_zero, List.set_cons_succ]
                refine wpAnyH_take (i := 16) (v := ?_) rfl (by kernel_rfl) (by kernel_rfl) (by kernel_rfl) (fun _ _ _ h => h) (Or.inl ⟨by rfl, ?_⟩) (by assumption) ?_; rotate_left; (focus (intro w hSw; (try dsimp only at hSw); go_simp; try with_reducible rfl))
                try simp only [Act.put, List.getElem_toArray, List.getElem_cons_zero, List.getElem_cons_succ, List.setIfInBounds_toArray, List.set_cons_zero, List.set_cons_succ]
                refine wpAnyH_ready (rs := [17]) (by kernel_rfl) (by simp) ?_
                refine AllReadyH.cons rfl (fun K hK => ?_) AllReadyH.nil
                try simp only [List.getElem_toArray, List.getElem_cons_zero, List.getElem_cons_succ]
                go_simp
                (refine SF.mono ?_; rintro e w7 ⟨⟨ia, ic, rfl, hia, his⟩, nn, rfl⟩)
                try go_wp2_with fail
                refine hK.out _ _ ?_ (fun hHeld => ?_)
                · exact ⟨q1, q2, q4⟩
                clear hK K
                try simp only [Act.put, List.getElem_toArray, List.getElem_cons_zero, List.getElem_cons_succ, List.setIfInBounds_toArray, List.set_cons_zero, List.set_cons_succ]
                refine wpAnyH_ready (rs := [18]) (by kernel_rfl) (by simp) ?_
                refine AllReadyH.cons rfl (fun K hK => ?_) AllReadyH.nil
                try simp only [List.getElem_toArray, List.getElem_cons_zero, List.getElem_cons_succ]
                go_simp
                (refine (RS (wr.drewN (1 + nn)) HIL.out ia ic hia his).mono ?_; rintro e w8 ⟨rfl, mm, rfl⟩)
                try go_wp2_with fail
                refine hK.out _ _ ?_ (fun hHeld => ?_)
                · exact ⟨q1, q2, q4⟩
                clear hK K
                try simp only [Act.put, List.getElem_toArray, List.getElem_cons_zero, List.getElem_cons_succ, List.setIfInBounds_toArray, List.set_cons_zero, List.set_cons_succ]
                refine wpAnyH_take (i := 19) (v := ?_) rfl (by kernel_rfl) (by kernel_rfl) (by kernel_rfl) (fun _ _ _ h => h) (Or.inl ⟨by rfl, ?_⟩) (by assumption) ?_; rotate_left; (focus (intro w hSw; (try dsimp only at hSw); go_simp; try with_reducible rfl))
                try simp only [Act.put, List.getElem_toArray, List.getElem_cons_zero, List.getElem_cons_succ, List.setIfInBounds_toArray, List.set_cons_zero, List.set_cons_succ]
                refine wpAnyH_done (by kernel_rfl) ?_ _
                go_wp2_with fail
                go_roundw
                case rel => exact ⟨i + 1, true, _, by omega, rfl, rfl, by go_num, HQ.out, same_heap o1 rfl rfl rfl rfl⟩
                case measure => simp [intOf]; omega
          · obtain rfl : i = sl.length := by omega
            have HR := Lib.hid (HII.out.done (.inl rfl))
            go_wp2_with fail
            go_meet
            case rel => exact ⟨_, _, rfl, rfl, HR.out, o1⟩
      case rest =>
        clear o1 HR1
        obtain ⟨b, v, rfl, rfl, hR, o1⟩ := hcut
        have AWr := HAW.out.only0 o1
        have A := all_any AWr.m.set.set lv (all_now w.heap.size a1 c1 nz _ hn AWr.box6 AWr.in_) (all_span (w.heap.size + 1) a2 c2 zs _ hz hcn hcc HNO.out AWr.box7 AWr.iz)
        rw [HLAW.out, hR] at A
        clear hR AWr
        go_wp2_with fail
        refine A.mono ?_
        rintro e w5 ⟨rfl, o5⟩
        have o15 := o1.trans o5
        have NE := needs_any (HAW.out.only0 o15).m.set.set lv
        unfold Needed at NE
        rw [HNEED.out] at NE
        clear A o5 o1
        go_wp2_with fail
        refine NE.mono ?_
        rintro e w6 ⟨⟨ax, bx, ss, rfl, hix, -, hso⟩, b6⟩
        have o16 := o15.trans (Below.only0 b6)
        have HIX := Lib.hid hix
        have hnl : (needA lv kl).length ≤ 64 := by
          unfold needA; rw [List.length_map]; exact Nat.le_trans (List.length_filter_le _ _) hfew
        clear NE o15 b6 hix
        obtain ⟨i0, hi0, hz0, hz1, hz2⟩ := info_parts info_int
        by_cases h3 : lv = 3
        · have hb3 : (lv == 3) = true := by simpa using h3
          have hnr : needR lv (sl.map toRg) = sl.map toRg := by simp [needR, h3]
          rw [hnr] at hso ⊢
          rw [List.length_map]
          have HSO := Lib.hid hso
          clear h3 hnr hso
          go_wp2_with fail
          go_loopw [22, 23] (fun u s23 wr => ∃ (j : Nat) (v0 : Value), v0 = u ∧ j ≤ kl.length ∧ s23 = .int .i64 j ∧ wr.ownsRow w6.heap.size 3 1 v0 (needA lv (kl.take j)).length ((needA lv (kl.take j)).map (Value.int .i64)) ∧ Below w6.heap.size w6 wr) (fun _ s23 _ => kl.length - (intOf s23).toNat)
          case atStart => exact ⟨0, _, rfl, by omega, rfl, World.ownsRow_nil _ _ _ _, Below.refl _ _⟩
          case round =>
            obtain ⟨j, v0, rfl, hj, rfl, hown, hbel⟩ := hrel
            by_cases hlt : j < kl.length
            · obtain ⟨g, hga, hg1, hg2, q1, _, q3, _⟩ := (HAW.out.only0 (o16.trans (Below.only0 hbel))).m.krow.at j hlt
              subst hga
              have hsu := needA_succ (l := lv) hlt
              have hal : (needA lv (kl.take j)).length ≤ 64 := by
                unfold needA; rw [List.length_map]; exact Nat.le_trans (List.length_filter_le _ _) (by rw [List.length_take]; omega)
              have hnb : needB lv (kl.getD j default) = ((lv == 3) || ((lv == 2) && ((kl.getD j default).link != 0))) := rfl
              obtain ⟨r, hr⟩ : ∃ r, r = kl.getD j default := ⟨_, rfl⟩
              rw [← hr] at q1 q3 hsu hnb
              obtain ⟨rsp, y, rhi, x, rla, rls, rlc⟩ := r
              simp only at q1 q3 hsu hnb
              have HSU := Lib.hid hsu
              clear hr hsu
              have HNB := Lib.hid (show needB lv ⟨rsp, y, rhi, x, rla, rls, rlc⟩ = true by rw [hnb, hb3]; rfl)
              clear hnb

              obtain ⟨acc, hacc⟩ : ∃ acc, acc = needA lv (kl.take j) := ⟨_, rfl⟩
              have HR := Lib.hid (show needA lv (kl.take (j + 1)) = acc ++ [y] by rw [HSU.out, hacc, if_pos HNB.out])
              rw [← hacc] at hown hal
              have zz := hbel.size
              clear hacc HSU
              go_wp2_with (at_builtin; refine wpList_append_own _ rfl _ _ 28 rfl w6.heap.size 3 i0 (.int .i64 0) 1 8 Try.underlying28 hi0 hz0 hz1 hz2 rfl (by decide) _ _ _ rfl (hown.alloc _) ⟨wr.heap.size, 0, none⟩ 1 1 [.int .i64 y] rfl rfl ?c1 ?c2 ?c3 ?c4 ?c5 ?_)
              case c1 =>
                intro j u hj
                match j, hj with
                | 0, hj => simp at hj; subst hj; simp [Addr.add]
              case c2 => intro u hu; simp at hu; subst hu; rfl
              case c3 => unfold maxLen; omega
              case c4 => omega
              case c5 => simp; omega
              intro v' w7 hown3 hgrow _
              have hb4 : Below w6.heap.size w6 w7 := (hbel.alloc (by omega) _).grown hgrow (by simp; omega) (fun k hk => (hown.lt k hk).1)
              have HO4 := Lib.hid (show w7.ownsRow w6.heap.size 3 1 v' (needA lv (kl.take (j + 1))).length ((needA lv (kl.take (j + 1))).map (Value.int .i64)) by rw [HR.out]; simpa using hown3)
              clear hown3 hgrow hown HR
              go_wp2_with fail
              go_roundw
              case rel => exact ⟨j + 1, _, rfl, by omega, by go_num, HO4.out, hb4⟩
              case measure => simp [intOf]; omega
            · obtain rfl : j = kl.length := by omega
              rw [List.take_length] at hown
              obtain ⟨va, vc, hv⟩ : ∃ va vc, v0 = .slice va (needA lv kl).length vc := by
                rcases hown.2 with ⟨h0, hz⟩ | ⟨g, cap, cur, hv, _⟩
                · exact ⟨none, 0, by rw [h0, hz]⟩
                · exact ⟨_, _, hv⟩
              subst hv
              have SI := sameInts_any ax va (needA lv kl).length vc (needA lv kl) (needA lv kl) wr (HIX.out.below hbel) (ints_of_own hown) (by omega) (by omega)
              rw [show decide (needA lv kl = needA lv kl) = true from decide_eq_true rfl] at SI
              have O7 := Lib.hid (o16.trans (Below.only0 hbel))
              have OB := Lib.hid (Below.only0 hbel)
              clear hown hbel hlt hj
              go_wp2_with fail
              refine SI.mono ?_
              rintro e w8 ⟨rfl, mm, rfl⟩
              have O8 := Lib.hid (O7.out.drewN mm)
              have OB8 := Lib.hid (OB.out.drewN mm)
              clear SI O7 OB
              generalize wr.drewN mm = w8 at *
              go_wp2_with fail
              go_loopw [25] (fun s25 wr => ∃ j : Nat, j ≤ sl.length ∧ s25 = .int .i64 j ∧ Only0 w8 wr) (fun s25 _ => sl.length - (intOf s25).toNat)
              case atStart => exact ⟨0, by omega, rfl, Only0.refl _⟩
              case round =>
                obtain ⟨j, hj, rfl, o9⟩ := hrel
                by_cases hlt : j < sl.length
                · have AW9 := HAW.out.only0 (O8.out.trans o9)
                  obtain ⟨g, hga, hg1, hg2, p1, p2, _, p4⟩ := AW9.m.srow.at j hlt
                  subst hga
                  have hmem : sl.getD j default ∈ sl := by rw [List.getD_eq_getElem?_getD, List.getElem?_eq_getElem hlt]; exact List.getElem_mem _
                  obtain ⟨IL, il5, _, _, _⟩ := AW9.m.ints _ (.inr hmem)
                  have IL := IL.below AW9.m.set.bel
                  have hjs : j < ss.length := by have := HSO.out.len; rw [List.length_map] at this; omega
                  rcases HSO.out.spans.only (OB8.out.trans o9) with h0 | ⟨bb, off, hba, hc⟩
                  · rw [h0] at hjs; simp at hjs
                  subst hba
                  obtain ⟨q0, q1, q2⟩ := hc j hjs
                  have R := HSO.out.at_ j hjs
                  obtain ⟨cpl, hol⟩ := R.own
                  have IY : Ints .u64 wr (ss.getD j default).la ((sl.map toRg).getD j default).ls := (ints_of_own hol).below (OB8.out.trans o9).below
                  rw [R.lo] at q0
                  rw [R.hi] at q1
                  rw [R.n] at q2
                  have eg : (sl.map toRg).getD j default = toRg (sl.getD j default) := by simp [List.getD_eq_getElem?_getD, hlt]
                  rw [eg] at q0 q1 q2 IY
                  obtain ⟨r, hr⟩ : ∃ r, r = sl.getD j default := ⟨_, rfl⟩
                  rw [← hr] at p1 p2 p4 q0 q1 q2 IY IL il5
                  obtain ⟨rsp, rlo, rhi, rlink, rla, rls, rlc⟩ := r
                  simp only [toRg] at p1 p2 p4 q0 q1 q2 IY IL il5
                  obtain ⟨la, hla⟩ : ∃ x, x = (ss.getD j default).la := ⟨_, rfl⟩
                  obtain ⟨lc, hlc⟩ : ∃ x, x = (ss.getD j default).lc := ⟨_, rfl⟩
                  rw [← hla] at q2 IY
                  rw [← hlc] at q2
                  have SM := same_any la rla lc rlc rls rls wr.drew IY IL (by omega) (by omega)
                  rw [show decide (rls = rls) = true from decide_eq_true rfl] at SM
                  have i0 : (0 : Int) ≤ (j : Int) := by omega
                  have i1 : (j : Int) < (sl.length : Int) := by omega
                  clear hc R hol hr hla hlc eg hmem IL IY AW9
                  go_wp2_with fail
                  refine wp_region_held_drew (S := (fun w' => w'.cell? ⟨bb, off + j * 3, none⟩ = some (.int .i64 rlo) ∧ w'.cell? ⟨bb, off + j * 3 + 1, none⟩ = some (.int .i64 rhi) ∧ w'.cell? ⟨bb, off + j * 3 + 2, none⟩ = some (.slice la rls.length lc) ∧ w'.cell? ⟨g, j * 5 + 1, none⟩ = some (.int .i64 rlo) ∧ w'.cell? ⟨g, j * 5 + 2, none⟩ = some (.int .i64 rhi) ∧ w'.cell? ⟨g, j * 5 + 4, none⟩ = some (.slice rla rls.length rlc))) (by kernel_rfl) ?_ (fun hHeld => ?_)
                  · exact ⟨q0, q1, q2, p1, p2, p4⟩
                  refine wpAnyH_take (i := 0) (v := ?_) rfl (by kernel_rfl) (by kernel_rfl) (by kernel_rfl) (fun _ _ _ h => h) (Or.inl ⟨by rfl, ?_⟩) (by assumption) ?_; rotate_left; (focus (intro w hSw; (try dsimp only at hSw); go_simp; try with_reducible rfl))
                  try simp only [Act.put, List.getElem_toArray, List.getElem_cons_zero, List.getElem_cons_succ, List.setIfInBounds_toArray, List.set_cons_zero, List.set_cons_succ]
                  refine wpAnyH_take (i := 1) (v := ?_) rfl (by kernel_rfl) (by kernel_rfl) (by kernel_rfl) (fun _ _ _ h => h) (Or.inl ⟨by rfl, ?_⟩) (by assumption) ?_; rotate_left; (focus (intro w hSw; (try dsimp only at hSw); go_simp; try with_reducible rfl))
                  try simp only [Act.put, List.getElem_toArray, List.getElem_cons_zero, List.getElem_cons_succ, List.setIfInBounds_toArray, List.set_cons_zero, List.set_cons_succ]
                  refine wpAnyH_take (i := 2) (v := ?_) rfl (by kernel_rfl) (by kernel_rfl) (by kernel_rfl) (fun _ _ _ h => h) (Or.inl ⟨by rfl, ?_⟩) (by assumption) ?_; rotate_left; (focus (intro w hSw; (try dsimp only at hSw); go_simp; try with_reducible rfl))
                  try simp only [Act.put, List.getElem_toArray, List.getElem_cons_zero, List.getElem_cons_succ, List.setIfInBounds_toArray, List.set_cons_zero, List.set_cons_succ]
                  refine wpAnyH_take (i := 3) (v := ?_) rfl (by kernel_rfl) (by kernel_rfl) (by kernel_rfl) (fun _ _ _ h => h) (Or.inl ⟨by rfl, ?_⟩) (by assumption) ?_; rotate_left; (focus (intro w hSw; (try dsimp only at hSw); go_simp; try with_reducible rfl))
                  try simp only [Act.put, List.getElem_toArray, List.getElem_cons_zero, List.getElem_cons_succ, List.setIfInBounds_toArray, List.set_cons_zero, List.set_cons_succ]
                  refine wpAnyH_take (i := 4) (v := ?_) rfl (by kernel_rfl) (by kernel_rfl) (by kernel_rfl) (fun _ _ _ h => h) (Or.inl ⟨by rfl, ?_⟩) (by assumption) ?_; rotate_left; (focus (intro w hSw; (try dsimp only at hSw); go_simp; try with_reducible rfl))
                  try simp only [Act.put, List.getElem_toArray, List.getElem_cons_zero, List.getElem_cons_succ, List.setIfInBounds_toArray, List.set_cons_zero, List.set_cons_succ]
                  refine wpAnyH_take (i := 5) (v := ?_) rfl (by kernel_rfl) (by kernel_rfl) (by kernel_rfl) (fun _ _ _ h => h) (Or.inl ⟨by rfl, ?_⟩) (by assumption) ?_; rotate_left; (focus (intro w hSw; (try dsimp only at hSw); go_simp; try with_reducible rfl))
                  try simp only [Act.put, List.getElem_toArray, List.getElem_cons_zero, List.getElem_cons_succ, List.setIfInBounds_toArray, List.set_cons_zero, List.set_cons_succ]
                  refine wpAnyH_take (i := 6) (v := ?_) rfl (by kernel_rfl) (by kernel_rfl) (by kernel_rfl) (fun _ _ _ h => h) (Or.inl ⟨by rfl, ?_⟩) (by assumption) ?_; rotate_left; (focus (intro w hSw; (try dsimp only at hSw); go_simp; try with_reducible rfl))
                  try simp only [Act.put, List.getElem_toArray, List.getElem_cons_zero, List.getElem_cons_succ, List.setIfInBounds_toArray, List.set_cons_zero, List.set_cons_succ]
                  refine wpAnyH_take (i := 7) (v := ?_) rfl (by kernel_rfl) (by kernel_rfl) (by kernel_rfl) (fun _ _ _ h => h) (Or.inl ⟨by rfl, ?_⟩) (by assumption) ?_; rotate_left; (focus (intro w hSw; (try dsimp only at hSw); go_simp; try with_reducible rfl))
                  try simp only [Act.put, List.getElem_toArray, List.getElem_cons_zero, List.getElem_cons_succ, List.setIfInBounds_toArray, List.set_cons_zero, List.set_cons_succ]
                  refine wpAnyH_take (i := 8) (v := ?_) rfl (by kernel_rfl) (by kernel_rfl) (by kernel_rfl) (fun _ _ _ h => h) (Or.inl ⟨by rfl, ?_⟩) (by assumption) ?_; rotate_left; (focus (intro w hSw; (try dsimp only at hSw); go_simp; try with_reducible rfl))
                  try simp only [Act.put, List.getElem_toArray, List.getElem_cons_zero, List.getElem_cons_succ, List.setIfInBounds_toArray, List.set_cons_zero, List.set_cons_succ]
                  refine wpAnyH_take (i := 9) (v := ?_) rfl (by kernel_rfl) (by kernel_rfl) (by kernel_rfl) (fun _ _ _ h => h) (Or.inl ⟨by rfl, ?_⟩) (by assumption) ?_; rotate_left; (focus (intro w hSw; (try dsimp only at hSw); go_simp; try with_reducible rfl))
                  try simp only [Act.put, List.getElem_toArray, List.getElem_cons_zero, List.getElem_cons_succ, List.setIfInBounds_toArray, List.set_cons_zero, List.set_cons_succ]
                  refine wpAnyH_take (i := 10) (v := ?_) rfl (by kernel_rfl) (by kernel_rfl) (by kernel_rfl) (fun _ _ _ h => h) (Or.inl ⟨by rfl, ?_⟩) (by assumption) ?_; rotate_left; (focus (intro w hSw; (try dsimp only at hSw); go_simp; try with_reducible rfl))
                  try simp only [Act.put, List.getElem_toArray, List.getElem_cons_zero, List.getElem_cons_succ, List.setIfInBounds_toArray, List.set_cons_zero, List.set_cons_succ]
                  refine wpAnyH_take (i := 11) (v := ?_) rfl (by kernel_rfl) (by kernel_rfl) (by kernel_rfl) (fun _ _ _ h => h) (Or.inl ⟨by rfl, ?_⟩) (by assumption) ?_; rotate_left; (focus (intro w hSw; (try dsimp only at hSw); go_simp; try with_reducible rfl))
                  try simp only [Act.put, List.getElem_toArray, List.getElem_cons_zero, List.getElem_cons_succ, List.setIfInBounds_toArray, List.set_cons_zero, List.set_cons_succ]
                  first | (refine wpAnyH_take (i := 12) rfl (by kernel_rfl) (by kernel_rfl) (by kernel_rfl) (fun _ _ _ h => h) (Or.inr ⟨by rfl, rfl⟩) (by assumption) ?_) | (refine wpAnyH_take (i := 12) (v := ?_) rfl (by kernel_rfl) (by kernel_rfl) (by kernel_rfl) (fun _ _ _ h => h) (Or.inl ⟨by rfl, ?_⟩) (by assumption) ?_; rotate_left; (focus (intro w hSw; (try dsimp only at hSw); go_simp; try with_reducible rfl)))
                  try simp only [Act.put, List.getElem_toArray, List.getElem_cons_zero, List.getElem_cons_succ, List.setIfInBounds_toArray, List.set_cons_zero, List.set_cons_succ]
                  first | (refine wpAnyH_take (i := 13) rfl (by kernel_rfl) (by kernel_rfl) (by kernel_rfl) (fun _ _ _ h => h) (Or.inr ⟨by rfl, rfl⟩) (by assumption) ?_) | (refine wpAnyH_take (i := 13) (v := ?_) rfl (by kernel_rfl) (by kernel_rfl) (by kernel_rfl) (fun _ _ _ h => h) (Or.inl ⟨by rfl, ?_⟩) (by assumption) ?_; rotate_left; (focus (intro w hSw; (try dsimp only at hSw); go_simp; try with_reducible rfl)))
                  try simp only [Act.put, List.getElem_toArray, List.getElem_cons_zero, List.getElem_cons_succ, List.setIfInBounds_toArray, List.set_cons_zero, List.set_cons_succ]
                  first | (refine wpAnyH_take (i := 14) rfl (by kernel_rfl) (by kernel_rfl) (by kernel_rfl) (fun _ _ _ h => h) (Or.inr ⟨by rfl, rfl⟩) (by assumption) ?_) | (refine wpAnyH_take (i := 14) (v := ?_) rfl (by kernel_rfl) (by kernel_rfl) (by kernel_rfl) (fun _ _ _ h => h) (Or.inl ⟨by rfl, ?_⟩) (by assumption) ?_; rotate_left; (focus (intro w hSw; (try dsimp only at hSw); go_simp; try with_reducible rfl)))
                  try simp only [Act.put, List.getElem_toArray, List.getElem_cons_zero, List.getElem_cons_succ, List.setIfInBounds_toArray, List.set_cons_zero, List.set_cons_succ]
                  first | (refine wpAnyH_take (i := 15) rfl (by kernel_rfl) (by kernel_rfl) (by kernel_rfl) (fun _ _ _ h => h) (Or.inr ⟨by rfl, rfl⟩) (by assumption) ?_) | (refine wpAnyH_take (i := 15) (v := ?_) rfl (by kernel_rfl) (by kernel_rfl) (by kernel_rfl) (fun _ _ _ h => h) (Or.inl ⟨by rfl, ?_⟩) (by assumption) ?_; rotate_left; (focus (intro w hSw; (try dsimp only at hSw); go_simp; try with_reducible rfl)))
                  try simp only [Act.put, List.getElem_toArray, List.getElem_cons_zero, List.getElem_cons_succ, List.setIfInBounds_toArray, List.set_cons_zero, List.set_cons_succ]
                  first | (refine wpAnyH_take (i := 16) rfl (by kernel_rfl) (by kernel_rfl) (by kernel_rfl) (fun _ _ _ h => h) (Or.inr ⟨by rfl, rfl⟩) (by assumption) ?_) | (refine wpAnyH_take (i := 16) (v := ?_) rfl (by kernel_rfl) (by kernel_rfl) (by kernel_rfl) (fun _ _ _ h => h) (Or.inl ⟨by rfl, ?_⟩) (by assumption) ?_; rotate_left; (focus (intro w hSw; (try dsimp only at hSw); go_simp; try with_reducible rfl)))
                  try simp only [Act.put, List.getElem_toArray, List.getElem_cons_zero, List.getElem_cons_succ, List.setIfInBounds_toArray, List.set_cons_zero, List.set_cons_succ]
                  first | (refine wpAnyH_take (i := 17) rfl (by kernel_rfl) (by kernel_rfl) (by kernel_rfl) (fun _ _ _ h => h) (Or.inr ⟨by rfl, rfl⟩) (by assumption) ?_) | (refine wpAnyH_take (i := 17) (v := ?_) rfl (by kernel_rfl) (by kernel_rfl) (by kernel_rfl) (fun _ _ _ h => h) (Or.inl ⟨by rfl, ?_⟩) (by assumption) ?_; rotate_left; (focus (intro w hSw; (try dsimp only at hSw); go_simp; try with_reducible rfl)))
                  try simp only [Act.put, List.getElem_toArray, List.getElem_cons_zero, List.getElem_cons_succ, List.setIfInBounds_toArray, List.set_cons_zero, List.set_cons_succ]
                  first | (refine wpAnyH_take (i := 18) rfl (by kernel_rfl) (by kernel_rfl) (by kernel_rfl) (fun _ _ _ h => h) (Or.inr ⟨by rfl, rfl⟩) (by assumption) ?_) | (refine wpAnyH_take (i := 18) (v := ?_) rfl (by kernel_rfl) (by kernel_rfl) (by kernel_rfl) (fun _ _ _ h => h) (Or.inl ⟨by rfl, ?_⟩) (by assumption) ?_; rotate_left; (focus (intro w hSw; (try dsimp only at hSw); go_simp; try with_reducible rfl)))
                  try simp only [Act.put, List.getElem_toArray, List.getElem_cons_zero, List.getElem_cons_succ, List.setIfInBounds_toArray, List.set_cons_zero, List.set_cons_succ]
                  first | (refine wpAnyH_take (i := 19) rfl (by kernel_rfl) (by kernel_rfl) (by kernel_rfl) (fun _ _ _ h => h) (Or.inr ⟨by rfl, rfl⟩) (by assumption) ?_) | (refine wpAnyH_take (i := 19) (v := ?_) rfl (by kernel_rfl) (by kernel_rfl) (by kernel_rfl) (fun _ _ _ h => h) (Or.inl ⟨by rfl, ?_⟩) (by assumption) ?_; rotate_left; (focus (intro w hSw; (try dsimp only at hSw); go_simp; try with_reducible rfl)))
                  try simp only [Act.put, List.getElem_toArray, List.getElem_cons_zero, List.getElem_cons_succ, List.setIfInBounds_toArray, List.set_cons_zero, List.set_cons_succ]
                  first | (refine wpAnyH_take (i := 20) rfl (by kernel_rfl) (by kernel_rfl) (by kernel_rfl) (fun _ _ _ h => h) (Or.inr ⟨by rfl, rfl⟩) (by assumption) ?_) | (refine wpAnyH_take (i := 20) (v := ?_) rfl (by kernel_rfl) (by kernel_rfl) (by kernel_rfl) (fun _ _ _ h => h) (Or.inl ⟨by rfl, ?_⟩) (by assumption) ?_; rotate_left; (focus (intro w hSw; (try dsimp only at hSw); go_simp; try with_reducible rfl)))
                  try simp only [Act.put, List.getElem_toArray, List.getElem_cons_zero, List.getElem_cons_succ, List.setIfInBounds_toArray, List.set_cons_zero, List.set_cons_succ]
                  first | (refine wpAnyH_take (i := 21) rfl (by kernel_rfl) (by kernel_rfl) (by kernel_rfl) (fun _ _ _ h => h) (Or.inr ⟨by rfl, rfl⟩) (by assumption) ?_) | (refine wpAnyH_take (i := 21) (v := ?_) rfl (by kernel_rfl) (by kernel_rfl) (by kernel_rfl) (fun _ _ _ h => h) (Or.inl ⟨by rfl, ?_⟩) (by assumption) ?_; rotate_left; (focus (intro w hSw; (try dsimp only at hSw); go_simp; try with_reducible rfl)))
                  try simp only [Act.put, List.getElem_toArray, List.getElem_cons_zero, List.getElem_cons_succ, List.setIfInBounds_toArray, List.set_cons_zero, List.set_cons_succ]
                  first | (refine wpAnyH_take (i := 22) rfl (by kernel_rfl) (by kernel_rfl) (by kernel_rfl) (fun _ _ _ h => h) (Or.inr ⟨by rfl, rfl⟩) (by assumption) ?_) | (refine wpAnyH_take (i := 22) (v := ?_) rfl (by kernel_rfl) (by kernel_rfl) (by kernel_rfl) (fun _ _ _ h => h) (Or.inl ⟨by rfl, ?_⟩) (by assumption) ?_; rotate_left; (focus (intro w hSw; (try dsimp only at hSw); go_simp; try with_reducible rfl)))
                  try simp only [Act.put, List.getElem_toArray, List.getElem_cons_zero, List.getElem_cons_succ, List.setIfInBounds_toArray, List.set_cons_zero, List.set_cons_succ]
                  refine wpAnyH_take (i := 23) (v := ?_) rfl (by kernel_rfl) (by kernel_rfl) (by kernel_rfl) (fun _ _ _ h => h) (Or.inl ⟨by rfl, ?_⟩) (by assumption) ?_; rotate_left; (focus (intro w hSw; (try dsimp only at hSw); go_simp; try with_reducible rfl))
                  try simp only [Act.put, List.getElem_toArray, List.getElem_cons_zero, List.getElem_cons_succ, List.setIfInBounds_toArray, List.set_cons_zero, List.set_cons_succ]
                  refine wpAnyH_take (i := 24) (v := ?_) rfl (by kernel_rfl) (by kernel_rfl) (by kernel_rfl) (fun _ _ _ h => h) (Or.inl ⟨by rfl, ?_⟩) (by assumption) ?_; rotate_left; (focus (intro w hSw; (try dsimp only at hSw); go_simp; try with_reducible rfl))
                  try simp only [Act.put, List.getElem_toArray, List.getElem_cons_zero, List.getElem_cons_succ, List.setIfInBounds_toArray, List.set_cons_zero, List.set_cons_succ]
                  first | (refine wpAnyH_take (i := 25) rfl (by kernel_rfl) (by kernel_rfl) (by kernel_rfl) (fun _ _ _ h => h) (Or.inr ⟨by rfl, rfl⟩) (by assumption) ?_) | (refine wpAnyH_take (i := 25) (v := ?_) rfl (by kernel_rfl) (by kernel_rfl) (by kernel_rfl) (fun _ _ _ h => h) (Or.inl ⟨by rfl, ?_⟩) (by assumption) ?_; rotate_left; (focus (intro w hSw; (try dsimp only at hSw); go_simp; try with_reducible rfl)))
                  try simp only [Act.put, List.getElem_toArray, List.getElem_cons_zero, List.getElem_cons_succ, List.setIfInBounds_toArray, List.set_cons_zero, List.set_cons_succ]
                  first | (refine wpAnyH_take (i := 26) rfl (by kernel_rfl) (by kernel_rfl) (by kernel_rfl) (fun _ _ _ h => h) (Or.inr ⟨by rfl, rfl⟩) (by assumption) ?_) | (refine wpAnyH_take (i := 26) (v := ?_) rfl (by kernel_rfl) (by kernel_rfl) (by kernel_rfl) (fun _ _ _ h => h) (Or.inl ⟨by rfl, ?_⟩) (by assumption) ?_; rotate_left; (focus (intro w hSw; (try dsimp only at hSw); go_simp; try with_reducible rfl)))
                  try simp only [Act.put, List.getElem_toArray, List.getElem_cons_zero, List.getElem_cons_succ, List.setIfInBounds_toArray, List.set_cons_zero, List.set_cons_succ]
                  first | (refine wpAnyH_take (i := 27) rfl (by kernel_rfl) (by kernel_rfl) (by kernel_rfl) (fun _ _ _ h => h) (Or.inr ⟨by rfl, rfl⟩) (by assumption) ?_) | (refine wpAnyH_take (i := 27) (v := ?_) rfl (by kernel_rfl) (by kernel_rfl) (by kernel_rfl) (fun _ _ _ h => h) (Or.inl ⟨by rfl, ?_⟩) (by assumption) ?_; rotate_left; (focus (intro w hSw; (try dsimp only at hSw); go_simp; try with_reducible rfl)))
                  try simp only [Act.put, List.getElem_toArray, List.getElem_cons_zero, List.getElem_cons_succ, List.setIfInBounds_toArray, List.set_cons_zero, List.set_cons_succ]
                  first | (refine wpAnyH_take (i := 28) rfl (by kernel_rfl) (by kernel_rfl) (by kernel_rfl) (fun _ _ _ h => h) (Or.inr ⟨by rfl, rfl⟩) (by assumption) ?_) | (refine wpAnyH_take (i := 28) (v := ?_) rfl (by kernel_rfl) (by kernel_rfl) (by kernel_rfl) (fun _ _ _ h => h) (Or.inl ⟨by rfl, ?_⟩) (by assumption) ?_; rotate_left; (focus (intro w hSw; (try dsimp only at hSw); go_simp; try with_reducible rfl)))
                  try simp only [Act.put, List.getElem_toArray, List.getElem_cons_zero, List.getElem_cons_succ, List.setIfInBounds_toArray, List.set_cons_zero, List.set_cons_succ]
                  first | (refine wpAnyH_take (i := 29) rfl (by kernel_rfl) (by kernel_rfl) (by kernel_rfl) (fun _ _ _ h => h) (Or.inr ⟨by rfl, rfl⟩) (by assumption) ?_) | (refine wpAnyH_take (i := 29) (v := ?_) rfl (by kernel_rfl) (by kernel_rfl) (by kernel_rfl) (fun _ _ _ h => h) (Or.inl ⟨by rfl, ?_⟩) (by assumption) ?_; rotate_left; (focus (intro w hSw; (try dsimp only at hSw); go_simp; try with_reducible rfl)))
                  try simp only [Act.put, List.getElem_toArray, List.getElem_cons_zero, List.getElem_cons_succ, List.setIfInBounds_toArray, List.set_cons_zero, List.set_cons_succ]
                  first | (refine wpAnyH_take (i := 30) rfl (by kernel_rfl) (by kernel_rfl) (by kernel_rfl) (fun _ _ _ h => h) (Or.inr ⟨by rfl, rfl⟩) (by assumption) ?_) | (refine wpAnyH_take (i := 30) (v := ?_) rfl (by kernel_rfl) (by kernel_rfl) (by kernel_rfl) (fun _ _ _ h => h) (Or.inl ⟨by rfl, ?_⟩) (by assumption) ?_; rotate_left; (focus (intro w hSw; (try dsimp only at hSw); go_simp; try with_reducible rfl)))
                  try simp only [Act.put, List.getElem_toArray, List.getElem_cons_zero, List.getElem_cons_succ, List.setIfInBounds_toArray, List.set_cons_zero, List.set_cons_succ]
                  first | (refine wpAnyH_take (i := 31) rfl (by kernel_rfl) (by kernel_rfl) (by kernel_rfl) (fun _ _ _ h => h) (Or.inr ⟨by rfl, rfl⟩) (by assumption) ?_) | (refine wpAnyH_take (i := 31) (v := ?_) rfl (by kernel_rfl) (by kernel_rfl) (by kernel_rfl) (fun _ _ _ h => h) (Or.inl ⟨by rfl, ?_⟩) (by assumption) ?_; rotate_left; (focus (intro w hSw; (try dsimp only at hSw); go_simp; try with_reducible rfl)))
                  try simp only [Act.put, List.getElem_toArray, List.getElem_cons_zero, List.getElem_cons_succ, List.setIfInBounds_toArray, List.set_cons_zero, List.set_cons_succ]
                  first | (refine wpAnyH_take (i := 32) rfl (by kernel_rfl) (by kernel_rfl) (by kernel_rfl) (fun _ _ _ h => h) (Or.inr ⟨by rfl, rfl⟩) (by assumption) ?_) | (refine wpAnyH_take (i := 32) (v := ?_) rfl (by kernel_rfl) (by kernel_rfl) (by kernel_rfl) (fun _ _ _ h => h) (Or.inl ⟨by rfl, ?_⟩) (by assumption) ?_; rotate_left; (focus (intro w hSw; (try dsimp only at hSw); go_simp; try with_reducible rfl)))
                  try simp only [Act.put, List.getElem_toArray, List.getElem_cons_zero, List.getElem_cons_succ, List.setIfInBounds_toArray, List.set_cons_zero, List.set_cons_succ]
                  first | (refine wpAnyH_take (i := 33) rfl (by kernel_rfl) (by kernel_rfl) (by kernel_rfl) (fun _ _ _ h => h) (Or.inr ⟨by rfl, rfl⟩) (by assumption) ?_) | (refine wpAnyH_take (i := 33) (v := ?_) rfl (by kernel_rfl) (by kernel_rfl) (by kernel_rfl) (fun _ _ _ h => h) (Or.inl ⟨by rfl, ?_⟩) (by assumption) ?_; rotate_left; (focus (intro w hSw; (try dsimp only at hSw); go_simp; try with_reducible rfl)))
                  try simp only [Act.put, List.getElem_toArray, List.getElem_cons_zero, List.getElem_cons_succ, List.setIfInBounds_toArray, List.set_cons_zero, List.set_cons_succ]
                  first | (refine wpAnyH_take (i := 34) rfl (by kernel_rfl) (by kernel_rfl) (by kernel_rfl) (fun _ _ _ h => h) (Or.inr ⟨by rfl, rfl⟩) (by assumption) ?_) | (refine wpAnyH_take (i := 34) (v := ?_) rfl (by kernel_rfl) (by kernel_rfl) (by kernel_rfl) (fun _ _ _ h => h) (Or.inl ⟨by rfl, ?_⟩) (by assumption) ?_; rotate_left; (focus (intro w hSw; (try dsimp only at hSw); go_simp; try with_reducible rfl)))
                  try simp only [Act.put, List.getElem_toArray, List.getElem_cons_zero, List.getElem_cons_succ, List.setIfInBounds_toArray, List.set_cons_zero, List.set_cons_succ]
                  refine wpAnyH_ready (rs := [35]) (by kernel_rfl) (by simp) ?_
                  refine AllReadyH.cons rfl (fun K hK => ?_) AllReadyH.nil
                  try simp only [List.getElem_toArray, List.getElem_cons_zero, List.getElem_cons_succ]
                  go_simp
                  (refine SM.mono ?_; rintro e w9 ⟨rfl, mm, rfl⟩)
                  try go_wp2_with fail
                  refine hK.out _ _ ?_ (fun hHeld => ?_)
                  · exact ⟨q0, q1, q2, p1, p2, p4⟩
                  clear hK K
                  try simp only [Act.put, List.getElem_toArray, List.getElem_cons_zero, List.getElem_cons_succ, List.setIfInBounds_toArray, List.set_cons_zero, List.set_cons_succ]
                  first | (refine wpAnyH_take (i := 36) rfl (by kernel_rfl) (by kernel_rfl) (by kernel_rfl) (fun _ _ _ h => h) (Or.inr ⟨by rfl, rfl⟩) (by assumption) ?_) | (refine wpAnyH_take (i := 36) (v := ?_) rfl (by kernel_rfl) (by kernel_rfl) (by kernel_rfl) (fun _ _ _ h => h) (Or.inl ⟨by rfl, ?_⟩) (by assumption) ?_; rotate_left; (focus (intro w hSw; (try dsimp only at hSw); go_simp; try with_reducible rfl)))
                  try simp only [Act.put, List.getElem_toArray, List.getElem_cons_zero, List.getElem_cons_succ, List.setIfInBounds_toArray, List.set_cons_zero, List.set_cons_succ]
                  refine wpAnyH_take (i := 37) (v := ?_) rfl (by kernel_rfl) (by kernel_rfl) (by kernel_rfl) (fun _ _ _ h => h) (Or.inl ⟨by rfl, ?_⟩) (by assumption) ?_; rotate_left; (focus (intro w hSw; (try dsimp only at hSw); go_simp; try with_reducible rfl))
                  try simp only [Act.put, List.getElem_toArray, List.getElem_cons_zero, List.getElem_cons_succ, List.setIfInBounds_toArray, List.set_cons_zero, List.set_cons_succ]
                  refine wpAnyH_done (by kernel_rfl) ?_ _
                  go_wp2_with fail
                  go_roundw
                  case rel => exact ⟨j + 1, by omega, by go_num, same_heap o9 rfl rfl rfl rfl⟩
                  case measure => simp [intOf]; omega
                · obtain rfl : j = sl.length := by omega
                  have HEND := ((HBEL.out.trans O8.out).trans o9).below
                  go_wp2_with fail
                  refine (awake15_any _).mono ?_
                  rintro e w11 ⟨rfl, rfl⟩
                  go_wp2_with fail
                  go_ret
                  exact ⟨rfl, HEND⟩
        · have hb3 : (lv == 3) = false := by simpa using h3
          have hnr : needR lv (sl.map toRg) = [] := by simp [needR, h3]
          rw [hnr] at hso ⊢
          clear h3 hnr hso
          go_wp2_with fail
          go_loopw [22, 23] (fun u s23 wr => ∃ (j : Nat) (v0 : Value), v0 = u ∧ j ≤ kl.length ∧ s23 = .int .i64 j ∧ wr.ownsRow w6.heap.size 3 1 v0 (needA lv (kl.take j)).length ((needA lv (kl.take j)).map (Value.int .i64)) ∧ Below w6.heap.size w6 wr) (fun _ s23 _ => kl.length - (intOf s23).toNat)
          case atStart => exact ⟨0, _, rfl, by omega, rfl, World.ownsRow_nil _ _ _ _, Below.refl _ _⟩
          case round =>
            obtain ⟨j, v0, rfl, hj, rfl, hown, hbel⟩ := hrel
            by_cases hlt : j < kl.length
            · obtain ⟨g, hga, hg1, hg2, q1, _, q3, _⟩ := (HAW.out.only0 (o16.trans (Below.only0 hbel))).m.krow.at j hlt
              subst hga
              have hsu := needA_succ (l := lv) hlt
              have hal : (needA lv (kl.take j)).length ≤ 64 := by
                unfold needA; rw [List.length_map]; exact Nat.le_trans (List.length_filter_le _ _) (by rw [List.length_take]; omega)
              have hnb : needB lv (kl.getD j default) = ((lv == 3) || ((lv == 2) && ((kl.getD j default).link != 0))) := rfl
              obtain ⟨r, hr⟩ : ∃ r, r = kl.getD j default := ⟨_, rfl⟩
              rw [← hr] at q1 q3 hsu hnb
              obtain ⟨rsp, y, rhi, x, rla, rls, rlc⟩ := r
              simp only at q1 q3 hsu hnb
              have HSU := Lib.hid hsu
              clear hr hsu
              by_cases h2 : lv = 2
              · have hb2 : (lv == 2) = true := by simpa using h2
                by_cases hx : x = 0
                · have hbx : (x != 0) = false := by simp [hx]
                  have HNB := Lib.hid (show needB lv ⟨rsp, y, rhi, x, rla, rls, rlc⟩ = false by rw [hnb, hb3, hb2, hbx]; rfl)
                  clear hnb hx h2
                  have HO4 := Lib.hid (show wr.ownsRow w6.heap.size 3 1 v0 (needA lv (kl.take (j + 1))).length ((needA lv (kl.take (j + 1))).map (Value.int .i64)) by rw [HSU.out, if_neg (by rw [HNB.out]; decide), List.append_nil]; exact hown)
                  clear hown HSU
                  go_wp2_with fail
                  go_roundw
                  case rel => exact ⟨j + 1, _, rfl, by omega, by go_num, HO4.out, hbel⟩
                  case measure => simp [intOf]; omega
                · have hbx : (x != 0) = true := by simpa using hx
                  have HNB := Lib.hid (show needB lv ⟨rsp, y, rhi, x, rla, rls, rlc⟩ = true by rw [hnb, hb3, hb2, hbx]; rfl)
                  clear hnb hx h2
                  obtain ⟨acc, hacc⟩ : ∃ acc, acc = needA lv (kl.take j) := ⟨_, rfl⟩
                  have HR := Lib.hid (show needA lv (kl.take (j + 1)) = acc ++ [y] by rw [HSU.out, hacc, if_pos HNB.out])
                  rw [← hacc] at hown hal
                  have zz := hbel.size
                  clear hacc HSU
                  go_wp2_with (at_builtin; refine wpList_append_own _ rfl _ _ 28 rfl w6.heap.size 3 i0 (.int .i64 0) 1 8 Try.underlying28 hi0 hz0 hz1 hz2 rfl (by decide) _ _ _ rfl (hown.alloc _) ⟨wr.heap.size, 0, none⟩ 1 1 [.int .i64 y] rfl rfl ?c1 ?c2 ?c3 ?c4 ?c5 ?_)
                  case c1 =>
                    intro j u hj
                    match j, hj with
                    | 0, hj => simp at hj; subst hj; simp [Addr.add]
                  case c2 => intro u hu; simp at hu; subst hu; rfl
                  case c3 => unfold maxLen; omega
                  case c4 => omega
                  case c5 => simp; omega
                  intro v' w7 hown3 hgrow _
                  have hb4 : Below w6.heap.size w6 w7 := (hbel.alloc (by omega) _).grown hgrow (by simp; omega) (fun k hk => (hown.lt k hk).1)
                  have HO4 := Lib.hid (show w7.ownsRow w6.heap.size 3 1 v' (needA lv (kl.take (j + 1))).length ((needA lv (kl.take (j + 1))).map (Value.int .i64)) by rw [HR.out]; simpa using hown3)
                  clear hown3 hgrow hown HR
                  go_wp2_with fail
                  go_roundw
                  case rel => exact ⟨j + 1, _, rfl, by omega, by go_num, HO4.out, hb4⟩
                  case measure => simp [intOf]; omega
              · have hb2 : (lv == 2) = false := by simpa using h2
                have HNB := Lib.hid (show needB lv ⟨rsp, y, rhi, x, rla, rls, rlc⟩ = false by rw [hnb, hb3, hb2]; rfl)
                clear hnb h2
                have HO4 := Lib.hid (show wr.ownsRow w6.heap.size 3 1 v0 (needA lv (kl.take (j + 1))).length ((needA lv (kl.take (j + 1))).map (Value.int .i64)) by rw [HSU.out, if_neg (by rw [HNB.out]; decide), List.append_nil]; exact hown)
                clear hown HSU
                go_wp2_with fail
                go_roundw
                case rel => exact ⟨j + 1, _, rfl, by omega, by go_num, HO4.out, hbel⟩
                case measure => simp [intOf]; omega
            · obtain rfl : j = kl.length := by omega
              rw [List.take_length] at hown
              obtain ⟨va, vc, hv⟩ : ∃ va vc, v0 = .slice va (needA lv kl).length vc := by
                rcases hown.2 with ⟨h0, hz⟩ | ⟨g, cap, cur, hv, _⟩
                · exact ⟨none, 0, by rw [h0, hz]⟩
                · exact ⟨_, _, hv⟩
              subst hv
              have SI := sameInts_any ax va (needA lv kl).length vc (needA lv kl) (needA lv kl) wr (HIX.out.below hbel) (ints_of_own hown) (by omega) (by omega)
              rw [show decide (needA lv kl = needA lv kl) = true from decide_eq_true rfl] at SI
              have O7 := Lib.hid (o16.trans (Below.only0 hbel))
              have OB := Lib.hid (Below.only0 hbel)
              clear hown hbel hlt hj
              go_wp2_with fail
              refine SI.mono ?_
              rintro e w8 ⟨rfl, mm, rfl⟩
              have O8 := Lib.hid (O7.out.drewN mm)
              have OB8 := Lib.hid (OB.out.drewN mm)
              clear SI O7 OB
              generalize wr.drewN mm = w8 at *
              go_wp2_with fail
              go_loopw [25] (fun s25 wr => s25 = .int .i64 0 ∧ w8 = wr) (fun _ _ => 0)
              case atStart => exact ⟨rfl, rfl⟩
              case round =>
                obtain ⟨rfl, rfl⟩ := hrel
                have HEND := (HBEL.out.trans O8.out).below
                go_wp2_with fail
                refine (awake15_any _).mono ?_
                rintro e w11 ⟨rfl, rfl⟩
                go_wp2_with fail
                go_ret
                exact ⟨rfl, HEND⟩

theorem judgeAll_walk (lv : Int) (a : Option Addr) (c : Nat) (rows : List (List Value)) (a1 : Option Addr) (c1 : Nat) (nz : List Int) (a2 : Option Addr) (c2 : Nat) (zs : List Int) (w : World) (w0 : (Lit.int .i64 lv).wf = true)
    (i0 : RowsAt readQs.length w a rows ∧ ∀ r ∈ rows, r.length = readQs.length ∧ RowQ w readQs r) (s0 : rows.length * 56 ≤ 140737488351232) (l0 : rows.length ≤ c) (m0 : c ≤ 9223372036854775807)
    (i1 : Ints .u64 w a1 nz) (f1 : ∀ n ∈ nz, (Lit.int .u64 n).wf = true) (s1 : nz.length * 8 ≤ 140737488351232) (l1 : nz.length ≤ c1) (m1 : c1 ≤ 9223372036854775807) (o1 : a1 = none → c1 = 0)
    (i2 : Ints .u64 w a2 zs) (f2 : ∀ n ∈ zs, (Lit.int .u64 n).wf = true) (s2 : zs.length * 8 ≤ 140737488351232) (l2 : zs.length ≤ c2) (m2 : c2 ≤ 9223372036854775807) (o2 : a2 = none → c2 = 0) :
    Calls Try.prog 11 #[.int .i64 lv, .slice a rows.length c, .slice a1 nz.length c1, .slice a2 zs.length c2] w fun e w' => e = .returned (.bool true) ∧ Below w.heap.size w w' := by
  obtain ⟨l, hl, hin⟩ := rds_of_rows i0.1 i0.2
  rw [← hl] at s0 ⊢
  by_cases hz : 100 < zs.length
  · exact all_long lv a c l a1 c1 nz a2 c2 zs w hin s0 hz
  · exact all_walk lv a c l a1 c1 nz a2 c2 zs w hin s0 (by omega) i1 (by omega) i2 l2 m2 o2
end Go.Proofs.Ytjkdofhlcdimcaa

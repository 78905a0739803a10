/-
  ModelReplays: what its proof rests on, part 5.
-/
import Derived.Deep.RegionHeld3
import Derived.Deep.DrawnRows
import Derived.Test.YtdjehgnkpbkdbaaZModelReplays4
namespace Go.Proofs.Ytdjehgnkpbkdbaa
open Go.RowKit
set_option linter.unusedVariables false
set_option linter.unusedSimpArgs false
attribute [local go_sem ↓] Go.wp_at_zero Go.wp_at_succ
structure Ac where
  kind : Int
  s : Int
  level : Int
  okind : Int
  okey : Int
  ohi : Int
  oval : Int
instance : Inhabited Ac := ⟨⟨0, 0, 0, 0, 0, 0, 0⟩⟩
def acCells (c : Ac) : List Value := [.int .i64 c.kind, .int .i64 c.s, .int .i64 c.level, .int .i64 c.okind, .int .i64 c.okey, .int .i64 c.ohi, .int .i64 c.oval]
/-- The acts lie at an address. -/
def ActsAt (w : World) (a : Option Addr) (l : List Ac) : Prop := ∀ i, i < l.length → ∃ b off, a = some ⟨b, off, none⟩ ∧ ∀ f v, (acCells (l.getD i default))[f]? = some v → w.cell? ⟨b, off + i * 7 + f, none⟩ = some v
theorem begin_no {s s' : St} {j l id er : Int} (h : s.begin j l = (id, er, s')) (he : er ≠ 0) : s' = s := by
  unfold St.begin at h
  split at h
  · split at h
    · simp only [Prod.mk.injEq] at h; exact h.2.2.symm
    · split at h
      · simp only [Prod.mk.injEq] at h; exact h.2.2.symm
      · split at h
        · simp only [Prod.mk.injEq] at h; exact h.2.2.symm
        · simp only [Prod.mk.injEq] at h; exact absurd h.2.1.symm he
  · simp only [Prod.mk.injEq] at h; exact h.2.2.symm
theorem do_no {s s' : St} {j er : Int} {o : MOp} {r : Res} (h : s.do_ j o = (r, er, s')) (he : er ≠ 0) : s' = s := by
  unfold St.do_ at h
  split at h
  · split at h
    · simp only [Prod.mk.injEq] at h; exact h.2.2.symm
    · split at h
      · split at h
        · simp only [Prod.mk.injEq] at h; exact h.2.2.symm
        · simp only [Prod.mk.injEq] at h; exact absurd h.2.1.symm he
      · simp only [Prod.mk.injEq] at h; exact h.2.2.symm
  · simp only [Prod.mk.injEq] at h; exact h.2.2.symm
theorem info_deal : (Try.prog.info? 59).map (fun i => (i.zero, i.size, i.bytes)) = some (some (.agg #[.int .i64 0, .int .i64 0, .int .i64 0, .int .u64 0, .int .u64 0, .slice none 0 0]), 6, 64) := by kernel_rfl
theorem info_call : (Try.prog.info? 70).map (fun i => (i.zero, i.size, i.bytes)) = some (some (.agg #[.int .i64 0, .int .i64 0, .int .i64 0, .int .i64 0, .int .i64 0, .int .i64 0, .slice none 0 0, .int .i64 0, .int .i64 0]), 9, 88) := by kernel_rfl
/-- The plain side of the story: so many steps are done. -/
structure PL (LV : Int → Prop) (s : St) (ds : List Dl) (cs : List Nat) (q : Nat) : Prop where
  di : DI s ds cs
  len : ds.length ≤ q
  ops : ∀ i, i < ds.length → (dAt ds i).ops.length ≤ q
  lv : ∀ i, i < ds.length → LV (dAt ds i).level
theorem PL.set {LV : Int → Prop} {s s' : St} {ds : List Dl} {cs cs' : List Nat} {q n : Nat} (h : PL LV s ds cs q) {d : Dl} (hn : n < ds.length) (D : DI s' (ds.set n d) cs') (hl : d.level = (dAt ds n).level) (ho : d.ops.length ≤ q + 1) : PL LV s' (ds.set n d) cs' (q + 1) := by
  refine ⟨D, by simp; have := h.len; omega, fun i hi => ?_, fun i hi => ?_⟩
  · rw [dAt_set hn]
    split
    · exact ho
    · have := h.ops i (by simpa using hi); omega
  · rw [dAt_set hn]
    split
    · rw [hl]; exact h.lv n hn
    · exact h.lv i (by simpa using hi)
theorem PL.more {LV : Int → Prop} {s s' : St} {ds : List Dl} {cs : List Nat} {q : Nat} (h : PL LV s ds cs q) (D : DI s' ds cs) : PL LV s' ds cs (q + 1) :=
  ⟨D, by have := h.len; omega, fun i hi => by have := h.ops i hi; omega, h.lv⟩
def DealRes (B : Nat) (w : World) (P0 : Nat → Prop) (m : Nat) (LV : Int → Prop) (e : Ending) (w' : World) : Prop :=
  ∃ (P R S : Nat → Prop) (s : St) (va : Option Addr) (vc : Nat) (ds : List Dl) (A : DAd) (cs : List Nat), e = .returned (.tuple #[.slice va ds.length vc, .bool true]) ∧ DL B w w' P0 P R S m s va vc ds A ∧ PL LV s ds cs 100
set_option maxRecDepth 100000 in
set_option maxHeartbeats 64000000 in
theorem law_deals {B m : Nat} {w : World} {P0 : Nat → Prop} {slots limit : Int} (h : MAt B w P0 m (newSt slots limit)) (hs : 0 < slots) (a : Option Addr) (c : Nat) (acts : List Ac) (ha : ActsAt w a acts) (hP : ∀ x, a = some x → 0 < acts.length → ¬ P0 x.block) (hlc : acts.length ≤ c) (hc63 : c ≤ 9223372036854775807) (most : Nat) (hm : most ≤ 100) (LV : Int → Prop) (hLV : ∀ i, i < acts.length → (acts.getD i default).kind = 0 → LV (acts.getD i default).level) :
    Calls Try.prog 6 #[.pointer (some ⟨m, 0, none⟩), .slice a acts.length c, .int .i64 most] w (DealRes B w P0 m LV) := by
  have HA : Hid (ActsAt w a acts ∧ ∀ x, a = some x → 0 < acts.length → ¬ P0 x.block) := Lib.hid ⟨ha, hP⟩
  have HLV := Lib.hid hLV
  have HL0 := Lib.hid (DL.start h)
  have HI0 : Hid (PL LV (newSt slots limit) [] [] 0) := Lib.hid ⟨DI.new hs, Nat.le_refl _, fun i hi => by simp at hi, fun i hi => by simp at hi⟩
  obtain ⟨i0, hi0, hz0, hz1, hz2⟩ := info_parts info_deal
  obtain ⟨j0, hj0, hy0, hy1, hy2⟩ := info_parts info_call
  clear ha hP hLV h hs
  go_enter Try.func6, Try.ntmps6
  go_wp2_with fail
  go_loopw [8, 9, 10, 11, 12, 13, 14, 15, 16] (fun s8 s9 s10 s11 s12 s13 s14 s15 s16 wr => ∃ (q dn : Nat) (v10 v11 v12 v13 v14 v15 v16 : Value) (P R S : Nat → Prop) (s : St) (va : Option Addr) (vc : Nat) (ds : List Dl) (A : DAd) (cs : List Nat), s10 = v10 ∧ s11 = v11 ∧ s12 = v12 ∧ s13 = v13 ∧ s14 = v14 ∧ s15 = v15 ∧ s16 = v16 ∧ s8 = .slice va dn vc ∧ s9 = .int .i64 q ∧ q ≤ most ∧ q ≤ acts.length ∧ Hid (dn = ds.length ∧ DL B w wr P0 P R S m s va vc ds A) ∧ Hid (PL LV s ds cs q)) (fun _ s9 _ _ _ _ _ _ _ _ => 100 - (intOf s9).toNat)
  case atStart => exact ⟨0, 0, _, _, _, _, _, _, _, _, _, _, _, none, 0, [], _, [], rfl, rfl, rfl, rfl, rfl, rfl, rfl, rfl, rfl, by omega, by omega, Lib.hid ⟨rfl, HL0.out⟩, HI0⟩
  case round =>
    obtain ⟨q, dn, v10, v11, v12, v13, v14, v15, v16, P, R, S, s, va, vc, ds, A, cs, rfl, rfl, rfl, rfl, rfl, rfl, rfl, rfl, rfl, hq, hqa, HL, HI⟩ := hrel
    clear HL0 HI0
    have hdn : dn ≤ q := by rw [HL.out.1]; exact HI.out.len
    by_cases hlr : q < acts.length
    · by_cases hlt : q < most
      · obtain ⟨b, off, rfl, hcell⟩ := HA.out.1 q hlr
        have hnP := HA.out.2 _ rfl (by omega)
        have HLVq := Lib.hid (HLV.out q hlr)
        generalize acts.getD q default = ac at *
        obtain ⟨K0, S0, L0, kd, k, hh, v⟩ := ac
        have x0 := cell_only HL.out.2.o (hcell 0 _ rfl) hnP
        have x1 := cell_only HL.out.2.o (hcell 1 _ rfl) hnP
        have x2 := cell_only HL.out.2.o (hcell 2 _ rfl) hnP
        have x3 := cell_only HL.out.2.o (hcell 3 _ rfl) hnP
        have x4 := cell_only HL.out.2.o (hcell 4 _ rfl) hnP
        have x5 := cell_only HL.out.2.o (hcell 5 _ rfl) hnP
        have x6 := cell_only HL.out.2.o (hcell 6 _ rfl) hnP
        rw [Nat.add_zero] at x0
        dsimp only at x0 x1 x2 x3 x4 x5 x6 HLVq
        clear hcell hnP
        obtain ⟨W, hW⟩ : ∃ W, W = wr.alloc (.cells #[.int .i64 K0, .int .i64 S0, .int .i64 L0, .int .i64 kd, .int .i64 k, .int .i64 hh, .int .i64 v] 33) := ⟨_, rfl⟩
        obtain ⟨ob, hob⟩ : ∃ ob, ob = wr.heap.size := ⟨_, rfl⟩
        have HL1 : Hid (dn = ds.length ∧ DL B w W P0 P R S m s va vc ds A) := Lib.hid ⟨HL.out.1, by rw [hW]; exact HL.out.2.only0 ((Only0.refl wr).alloc _)⟩
        have BO : Hid (Blk W ob 33 #[.int .i64 K0, .int .i64 S0, .int .i64 L0, .int .i64 kd, .int .i64 k, .int .i64 hh, .int .i64 v] ∧ ¬ P ob ∧ ¬ R ob ∧ ¬ S ob) := Lib.hid ⟨by rw [hW, hob]; exact Blk.new _ _ _, fun hp => by have := MAt.under HL.out.2.mat ob hp; omega, fun hp => by have := HL.out.2.dd.uR ob hp; omega, fun hp => by have := HL.out.2.dd.uS ob hp; omega⟩
        go_upto_region 6 with (fail)
        rw [← hW, ← hob]
        clear hW hob HL x0 x1 x2 x3 x4 x5 x6
        by_cases h00 : K0 = 0
        · subst h00
          obtain ⟨id, er, s', hb⟩ : ∃ id er s', s.begin S0 L0 = (id, er, s') := ⟨_, _, _, rfl⟩
          have y0 : W.cell? ⟨ob, 0, none⟩ = some (.int .i64 0) := BO.out.1.cell 0
          have y1 : W.cell? ⟨ob, 1, none⟩ = some (.int .i64 S0) := BO.out.1.cell 1
          have y2 : W.cell? ⟨ob, 2, none⟩ = some (.int .i64 L0) := BO.out.1.cell 2
          have y3 : W.cell? ⟨ob, 3, none⟩ = some (.int .i64 kd) := BO.out.1.cell 3
          have y4 : W.cell? ⟨ob, 4, none⟩ = some (.int .i64 k) := BO.out.1.cell 4
          have y5 : W.cell? ⟨ob, 5, none⟩ = some (.int .i64 hh) := BO.out.1.cell 5
          have y6 : W.cell? ⟨ob, 6, none⟩ = some (.int .i64 v) := BO.out.1.cell 6
          have C := md_begin HL1.out.2.mat S0 L0
          rw [hb] at C
          by_cases her : er = 0
          · subst her
            obtain ⟨hid, hnow, D⟩ := HI.out.di.begin hb
            have HB := Lib.hid D
            have HID : Hid (id = (dn : Int) + 1) := Lib.hid (by rw [hid, HL1.out.1])
            have eid : (id != (dn : Int) + 1) = false := by rw [HID.out]; simp
            clear hid hnow D hb
            go_wp2_with fail
            refine C.mono ?_
            rintro e w2 ⟨P2, rfl, M2, o2, g2⟩
            have HL2 : Hid (dn = ds.length ∧ DL B w w2 P0 P2 R S m s' va vc ds A) := Lib.hid ⟨HL1.out.1, HL1.out.2.model M2 o2 g2⟩
            have BO2 := Lib.hid (And.intro (o2.blk BO.out.1 BO.out.2.1) BO.out.2.2.1)
            clear C M2 o2 g2 HL1 BO y0 y1 y2 y3 y4 y5 y6
            have z2 : w2.cell? ⟨ob, 2, none⟩ = some (.int .i64 L0) := BO2.out.1.cell 2
            go_upto_region 24 with (fail)
            obtain ⟨nw, hnw⟩ : ∃ nw, nw = s'.now := ⟨_, rfl⟩
            obtain ⟨W6, hW6⟩ : ∃ W6, W6 = (w2.alloc (.cells #[.int .i64 id, .int .i64 L0, .int .i64 1, .int .u64 nw, .int .u64 0, .slice none 0 0] 59)).drew := ⟨_, rfl⟩
            have oo6 : Only0 w2 W6 := by rw [hW6]; exact ((Only0.refl _).alloc _).drew
            have L6 := HL2.out.2.only0 oo6
            have CN := md_now (HL2.out.2.only0 ((Only0.refl w2).drew)).mat
            rw [← hnw] at CN
            have BO6 := Lib.hid (And.intro (oo6.blk BO2.out.1 (fun hf => hf)) BO2.out.2)
            have R6 : W6.ownsRow w.heap.size 59 6 (.slice va dn vc) dn (dlRow ds A.oa A.oc) := by have := L6.dd.row; rw [← HL2.out.1] at this; exact this
            have z6 : W6.heap.size = w2.heap.size + 1 := by rw [hW6]; simp
            have hw06 : w.heap.size ≤ W6.heap.size := L6.o.size
            have hob6 : ob < W6.heap.size := BO6.out.1.lt
            have nob : ¬ (Value.slice va dn vc).ownBlock = some ob := fun e => BO6.out.2 (L6.dd.rR ob (by rw [← HL2.out.1]; exact e))
            have z26 : W6.cell? ⟨ob, 2, none⟩ = some (.int .i64 L0) := BO6.out.1.cell 2
            have HPL : Hid (PL LV s' (ds ++ [⟨id, L0, 1, nw, 0, []⟩]) cs (q + 1)) := Lib.hid (by
              rw [hnw]
              refine ⟨HB.out, by simp; exact HI.out.len, fun i hi => ?_, fun i hi => ?_⟩
              · rw [dAt_app]; split
                · simp
                · have := HI.out.ops i (by simp at hi; omega); omega
              · rw [dAt_app]; split
                · exact HLVq.out (by trivial)
                · exact HI.out.lv i (by simp at hi; omega))
            have APP : Hid (∀ (gg cap : Nat) (w1 : World), w1.ownsRow w.heap.size 59 6 (.slice (some ⟨gg, 0, none⟩) (dn + 1) cap) (dn + 1) (dlRow ds A.oa A.oc ++ [.int .i64 id, .int .i64 L0, .int .i64 1, .int .u64 nw, .int .u64 0, .slice none 0 0]) → W6.grownBy w1 (Value.slice va dn vc).ownBlock → ((Value.slice va dn vc).ownBlock = some gg ∨ gg = w2.heap.size + 1) → gg < w1.heap.size →
                ∃ R' A', dn + 1 = (ds ++ [⟨id, L0, 1, nw, 0, []⟩] : List Dl).length ∧ DL B w w1 P0 P2 R' S m s' (some ⟨gg, 0, none⟩) cap (ds ++ [⟨id, L0, 1, nw, 0, []⟩]) A') := Lib.hid (by
              intro gg cap w1 h1 h2 h3 h4
              have e := HL2.out.1
              subst e
              have hat : (Value.slice va ds.length vc).ownBlock = some gg ∨ W6.heap.size ≤ gg := h3.imp (fun h => h) (fun h => by omega)
              obtain ⟨A', D', O'⟩ := L6.dd.push (d := ⟨id, L0, 1, nw, 0, []⟩) rfl h1 h2 hat h4
              refine ⟨_, A', by simp, L6.deal D' O' (fun b hb => ?_) (fun b hb => .inl hb)⟩
              rcases hb with hb | rfl
              · exact .inl hb
              · rcases hat with x | x
                · exact .inl (L6.dd.rR b x)
                · exact .inr x)
            rw [hW6] at R6 z6 hw06 hob6 z26 APP
            clear HB HID eid HI HLVq L6 BO6 hnw hW6 oo6 HL2 BO2
            refine wp_region_held_drew (S := (fun w' => w'.cell? ⟨ob, 2, none⟩ = some (.int .i64 L0))) (by kernel_rfl) ?_ (fun hHeld => ?_)
            · first | exact z2 | exact z26 | exact z2z
            refine wpAnyH_take (i := 0) (v := ?_) rfl (by kernel_rfl) (by kernel_rfl) (by kernel_rfl) (fun _ _ _ h => h) (Or.inl ⟨by rfl, ?_⟩) (by assumption) ?_; rotate_left; (focus (intro w hSw; (try dsimp only at hSw); go_simp; try with_reducible rfl))
            try simp only [Act.put, List.getElem_toArray, List.getElem_cons_zero, List.getElem_cons_succ, List.setIfInBounds_toArray, List.set_cons_zero, List.set_cons_succ]
            refine wpAnyH_take (i := 1) (v := ?_) rfl (by kernel_rfl) (by kernel_rfl) (by kernel_rfl) (fun _ _ _ h => h) (Or.inl ⟨by rfl, ?_⟩) (by assumption) ?_; rotate_left; (focus (intro w hSw; (try dsimp only at hSw); go_simp; try with_reducible rfl))
            try simp only [Act.put, List.getElem_toArray, List.getElem_cons_zero, List.getElem_cons_succ, List.setIfInBounds_toArray, List.set_cons_zero, List.set_cons_succ]
            refine wpAnyH_take (i := 2) (v := ?_) rfl (by kernel_rfl) (by kernel_rfl) (by kernel_rfl) (fun _ _ _ h => h) (Or.inl ⟨by rfl, ?_⟩) (by assumption) ?_; rotate_left; (focus (intro w hSw; (try dsimp only at hSw); go_simp; try with_reducible rfl))
            try simp only [Act.put, List.getElem_toArray, List.getElem_cons_zero, List.getElem_cons_succ, List.setIfInBounds_toArray, List.set_cons_zero, List.set_cons_succ]
            refine wpAnyH_take (i := 3) (v := ?_) rfl (by kernel_rfl) (by kernel_rfl) (by kernel_rfl) (fun _ _ _ h => h) (Or.inl ⟨by rfl, ?_⟩) (by assumption) ?_; rotate_left; (focus (intro w hSw; (try dsimp only at hSw); go_simp; try with_reducible rfl))
            try simp only [Act.put, List.getElem_toArray, List.getElem_cons_zero, List.getElem_cons_succ, List.setIfInBounds_toArray, List.set_cons_zero, List.set_cons_succ]
            refine wpAnyH_take (i := 4) (v := ?_) rfl (by kernel_rfl) (by kernel_rfl) (by kernel_rfl) (fun _ _ _ h => h) (Or.inl ⟨by rfl, ?_⟩) (by assumption) ?_; rotate_left; (focus (intro w hSw; (try dsimp only at hSw); go_simp; try with_reducible rfl))
            try simp only [Act.put, List.getElem_toArray, List.getElem_cons_zero, List.getElem_cons_succ, List.setIfInBounds_toArray, List.set_cons_zero, List.set_cons_succ]
            refine wpAnyH_ready (rs := [5]) (by kernel_rfl) (by simp) ?_
            refine AllReadyH.cons rfl (fun K hK => ?_) AllReadyH.nil
            try simp only [List.getElem_toArray, List.getElem_cons_zero, List.getElem_cons_succ]
            go_simp
            (refine CN.mono ?_; rintro e w7 ⟨rfl, rfl⟩)
            try go_wp2_with fail
            refine hK.out _ _ ?_ (fun hHeld => ?_)
            · first | exact z2 | exact z26 | exact z2z
            clear hK K
            try simp only [Act.put, List.getElem_toArray, List.getElem_cons_zero, List.getElem_cons_succ, List.setIfInBounds_toArray, List.set_cons_zero, List.set_cons_succ]
            refine wpAnyH_take (i := 6) (v := ?_) rfl (by kernel_rfl) (by kernel_rfl) (by kernel_rfl) (fun _ _ _ h => h) (Or.inl ⟨by rfl, ?_⟩) (by assumption) ?_; rotate_left; (focus (intro w hSw; (try dsimp only at hSw); go_simp; try with_reducible rfl))
            try simp only [Act.put, List.getElem_toArray, List.getElem_cons_zero, List.getElem_cons_succ, List.setIfInBounds_toArray, List.set_cons_zero, List.set_cons_succ]
            refine wpAnyH_ready (rs := [7]) (by kernel_rfl) (by simp) ?_
            refine AllReadyH.cons rfl (fun K hK => ?_) AllReadyH.nil
            try simp only [List.getElem_toArray, List.getElem_cons_zero, List.getElem_cons_succ]
            go_simp
            skip
            try go_wp2_with fail
            refine hK.out _ _ ?_ (fun hHeld => ?_)
            · first | exact z2 | exact z26 | exact z2z
            clear hK K
            try simp only [Act.put, List.getElem_toArray, List.getElem_cons_zero, List.getElem_cons_succ, List.setIfInBounds_toArray, List.set_cons_zero, List.set_cons_succ]
            refine wpAnyH_ready (rs := [8]) (by kernel_rfl) (by simp) ?_
            refine AllReadyH.cons rfl (fun K hK => ?_) AllReadyH.nil
            try simp only [List.getElem_toArray, List.getElem_cons_zero, List.getElem_cons_succ]
            (rw [if_pos (by simp [Region.wanted])]; refine wp_append_lies _ _ _ _ (by rfl) w.heap.size 59 i0 _ 6 64 Try.underlying34 hi0 hz0 hz1 hz2 rfl (by omega) (.slice va dn vc) dn (dlRow ds A.oa A.oc) (by rfl) R6 ⟨w2.heap.size, 0, none⟩ 1 1 [.int .i64 id, .int .i64 L0, .int .i64 1, .int .u64 nw, .int .u64 0, .slice none 0 0] (by rfl) (by rfl) (World.news_of_block (cs := #[.int .i64 id, .int .i64 L0, .int .i64 1, .int .u64 nw, .int .u64 0, .slice none 0 0]) (t := 59) (fr := (0, 0)) (heap_alloc_new w2 _)) (by simp [Value.oneCell']) (by omega) (by unfold maxLen; omega) (by omega) (by simp; omega) (w2.heap.size + 1) (by simp) ?_; intro gg cap w1 hown2 hgrow hat hlt2; have z2z : w1.cell? ⟨ob, 2, none⟩ = some (.int .i64 L0) := (hgrow.cell_far ⟨ob, 2, none⟩ hob6 (fun e => nob e.symm)).trans z26)
            refine hK.out _ _ ?_ (fun hHeld => ?_)
            · first | exact z2 | exact z26 | exact z2z
            clear hK K
            try simp only [Act.put, List.getElem_toArray, List.getElem_cons_zero, List.getElem_cons_succ, List.setIfInBounds_toArray, List.set_cons_zero, List.set_cons_succ]
            refine wpAnyH_take (i := 9) (v := ?_) rfl (by kernel_rfl) (by kernel_rfl) (by kernel_rfl) (fun _ _ _ h => h) (Or.inl ⟨by rfl, ?_⟩) (by assumption) ?_; rotate_left; (focus (intro w hSw; (try dsimp only at hSw); go_simp; try with_reducible rfl))
            try simp only [Act.put, List.getElem_toArray, List.getElem_cons_zero, List.getElem_cons_succ, List.setIfInBounds_toArray, List.set_cons_zero, List.set_cons_succ]
            refine wpAnyH_done (by kernel_rfl) ?_ _
            obtain ⟨R9, A9, e9, H9⟩ := APP.out gg cap w1 hown2 hgrow hat hlt2
            have HL9 := Lib.hid (And.intro e9 H9)
            clear APP hown2 hgrow hat hlt2 e9 H9 z2z z26 z2 R6 z6 hw06 hob6 nob CN
            go_wp2_with fail
            go_roundw
            case rel => exact ⟨q + 1, (dn + 1), _, _, _, _, _, _, _, _, _, _, _, _, _, _, _, cs, rfl, rfl, rfl, rfl, rfl, rfl, rfl, rfl, by go_num, by omega, by omega, HL9, HPL⟩
            case measure => simp [intOf]; omega
          · have hss := begin_no hb her
            have HI2 : Hid (PL LV s' ds cs (q + 1)) := Lib.hid (by rw [hss]; exact HI.out.more HI.out.di)
            have eer : (er == 0) = false := by simpa using her
            clear hb her hss
            go_wp2_with fail
            refine C.mono ?_
            rintro e w2 ⟨P2, rfl, M2, o2, g2⟩
            have HL2 : Hid (dn = ds.length ∧ DL B w w2 P0 P2 R S m s' va vc ds A) := Lib.hid ⟨HL1.out.1, HL1.out.2.model M2 o2 g2⟩
            clear C M2 o2 g2 HL1 BO y0 y1 y2 y3 y4 y5 y6 HI HLVq
            go_wp2_with fail
            go_roundw
            case rel => exact ⟨q + 1, dn, _, _, _, _, _, _, _, _, _, _, _, va, vc, ds, _, cs, rfl, rfl, rfl, rfl, rfl, rfl, rfl, rfl, by go_num, by omega, by omega, HL2, HI2⟩
            case measure => simp [intOf]; omega
        · have b0 : (K0 == 0) = false := by simpa using h00
          by_cases h02 : K0 = 2
          · subst h02
            clear h00
            have HI2 : Hid (PL LV s.collect ds cs (q + 1)) := Lib.hid (HI.out.more HI.out.di.collect)
            have y0 : W.cell? ⟨ob, 0, none⟩ = some (.int .i64 2) := BO.out.1.cell 0
            have y1 : W.cell? ⟨ob, 1, none⟩ = some (.int .i64 S0) := BO.out.1.cell 1
            have y2 : W.cell? ⟨ob, 2, none⟩ = some (.int .i64 L0) := BO.out.1.cell 2
            have y3 : W.cell? ⟨ob, 3, none⟩ = some (.int .i64 kd) := BO.out.1.cell 3
            have y4 : W.cell? ⟨ob, 4, none⟩ = some (.int .i64 k) := BO.out.1.cell 4
            have y5 : W.cell? ⟨ob, 5, none⟩ = some (.int .i64 hh) := BO.out.1.cell 5
            have y6 : W.cell? ⟨ob, 6, none⟩ = some (.int .i64 v) := BO.out.1.cell 6
            go_wp2_with fail
            refine (md_collect HL1.out.2.mat).mono ?_
            rintro e w2 ⟨rfl, M2, o2⟩
            have HL2 : Hid (dn = ds.length ∧ DL B w w2 P0 P R S m s.collect va vc ds A) := Lib.hid ⟨HL1.out.1, HL1.out.2.model M2 o2 (Grew.refl _ _)⟩
            clear M2 o2 HL1 BO HI HLVq y0 y1 y2 y3 y4 y5 y6
            go_wp2_with fail
            go_roundw
            case rel => exact ⟨q + 1, dn, _, _, _, _, _, _, _, _, _, _, _, va, vc, ds, _, cs, rfl, rfl, rfl, rfl, rfl, rfl, rfl, rfl, by go_num, by omega, by omega, HL2, HI2⟩
            case measure => simp [intOf]; omega
          · have b2 : (K0 == 2) = false := by simpa using h02
            clear h00 h02 HLVq
            obtain ⟨fl, lv_, st_, bg_, op_, hst⟩ := statAll_shape s S0
            have CS := md_statusA HL1.out.2.mat S0
            rw [hst] at CS
            obtain ⟨idv, hidv⟩ : ∃ i, i = idV s S0 := ⟨_, rfl⟩
            rw [← hidv] at CS
            have HIDV := Lib.hid hidv
            have hfl : ∀ wx, (Instr.field 62 (.agg #[.bool fl, .bool false, .bool false, .int .i64 idv, .int .i64 lv_, .int .i64 st_, .int .u64 bg_, .int .u64 0, .int .i64 op_]) 3).run Try.prog wx = .ok (.int .i64 idv) wx := fun wx => by kernel_rfl
            clear hst hidv
            have y0 : W.cell? ⟨ob, 0, none⟩ = some (.int .i64 K0) := BO.out.1.cell 0
            have y1 : W.cell? ⟨ob, 1, none⟩ = some (.int .i64 S0) := BO.out.1.cell 1
            have y2 : W.cell? ⟨ob, 2, none⟩ = some (.int .i64 L0) := BO.out.1.cell 2
            have y3 : W.cell? ⟨ob, 3, none⟩ = some (.int .i64 kd) := BO.out.1.cell 3
            have y4 : W.cell? ⟨ob, 4, none⟩ = some (.int .i64 k) := BO.out.1.cell 4
            have y5 : W.cell? ⟨ob, 5, none⟩ = some (.int .i64 hh) := BO.out.1.cell 5
            have y6 : W.cell? ⟨ob, 6, none⟩ = some (.int .i64 v) := BO.out.1.cell 6
            go_wp2_with fail
            refine CS.mono ?_
            rintro e w2 ⟨rfl, o2⟩
            have HL2 : Hid (dn = ds.length ∧ DL B w w2 P0 P R S m s va vc ds A) := Lib.hid ⟨HL1.out.1, HL1.out.2.only0 o2⟩
            have BO2 : Hid (Blk w2 ob 33 #[.int .i64 K0, .int .i64 S0, .int .i64 L0, .int .i64 kd, .int .i64 k, .int .i64 hh, .int .i64 v] ∧ ¬ P ob ∧ ¬ R ob ∧ ¬ S ob) := Lib.hid ⟨o2.blk BO.out.1 (fun hf => hf), BO.out.2⟩
            clear CS o2 HL1 BO y0 y1 y2 y3 y4 y5 y6
            have y0 : w2.cell? ⟨ob, 0, none⟩ = some (.int .i64 K0) := BO2.out.1.cell 0
            have y1 : w2.cell? ⟨ob, 1, none⟩ = some (.int .i64 S0) := BO2.out.1.cell 1
            have y2 : w2.cell? ⟨ob, 2, none⟩ = some (.int .i64 L0) := BO2.out.1.cell 2
            have y3 : w2.cell? ⟨ob, 3, none⟩ = some (.int .i64 kd) := BO2.out.1.cell 3
            have y4 : w2.cell? ⟨ob, 4, none⟩ = some (.int .i64 k) := BO2.out.1.cell 4
            have y5 : w2.cell? ⟨ob, 5, none⟩ = some (.int .i64 hh) := BO2.out.1.cell 5
            have y6 : w2.cell? ⟨ob, 6, none⟩ = some (.int .i64 v) := BO2.out.1.cell 6
            obtain ⟨r, er, s', hd⟩ : ∃ r er s', s.do_ S0 ⟨kd, k, hh, v⟩ = (r, er, s') := ⟨_, _, _, rfl⟩
            obtain ⟨re, rv, rp, ro, rn⟩ := r
            have C := md_dopq HL2.out.2.mat S0 kd k hh v hd
            have HDD := Lib.hid hd
            clear hd
            go_wp2_with fail
            refine C.mono ?_
            rintro e w3 ⟨P3, ra, rc, rfl, M3, o3, g3, hp3, hq3⟩
            have HL3 : Hid (dn = ds.length ∧ DL B w w3 P0 P3 R S m s' va vc ds A) := Lib.hid ⟨HL2.out.1, HL2.out.2.model M3 o3 g3⟩
            have BO3 : Hid (Blk w3 ob 33 #[.int .i64 K0, .int .i64 S0, .int .i64 L0, .int .i64 kd, .int .i64 k, .int .i64 hh, .int .i64 v] ∧ ¬ P3 ob ∧ ¬ R ob ∧ ¬ S ob) := Lib.hid ⟨o3.blk BO2.out.1 BO2.out.2.1, fun hp => by
              rcases g3 ob hp with x | x
              · exact BO2.out.2.1 x
              · have := BO2.out.1.lt; omega, BO2.out.2.2⟩
            have HPN : Hid (PairsIn w3 ra rp ∧ ∀ y, ra = some y → ¬ P3 y.block ∧ ¬ R y.block ∧ w.heap.size ≤ y.block) := Lib.hid ⟨hp3, fun y hy => ⟨(hq3 y hy).2, fun hR => by have := HL2.out.2.dd.uR _ hR; have := (hq3 y hy).1; omega, Nat.le_trans HL2.out.2.o.size (hq3 y hy).1⟩⟩
            clear C M3 o3 g3 hp3 hq3 HL2 BO2 y0 y1 y2 y3 y4 y5 y6
            by_cases her : er = 0
            · subst her
              obtain ⟨t, n, ht, hsess, hn, htid, cs', HCASE⟩ := HI.out.di.did HDD.out
              have hidn : idv = (n : Int) + 1 := by rw [HIDV.out]; unfold idV; rw [if_pos hsess, ht]; exact htid
              have hndn : n < dn := by rw [HL3.out.1]; exact hn
              have HN := Lib.hid hn
              have HC := Lib.hid HCASE
              clear ht hsess hn htid HCASE HDD HIDV hfl
              subst hidn
              obtain ⟨w4, hw4⟩ : ∃ w4, w4 = w3.alloc (.cells #[.int .i64 re, .int .i64 rv, .slice ra rp.length rc, .int .i64 ro, .int .i64 rn] 65) := ⟨_, rfl⟩
              obtain ⟨rb, hrb⟩ : ∃ rb, rb = w3.heap.size := ⟨_, rfl⟩
              have HL4 : Hid (dn = ds.length ∧ DL B w w4 P0 P3 R S m s' va vc ds A) := Lib.hid ⟨HL3.out.1, by rw [hw4]; exact HL3.out.2.only0 ((Only0.refl w3).alloc _)⟩
              have RB : Hid (Blk w4 rb 65 #[.int .i64 re, .int .i64 rv, .slice ra rp.length rc, .int .i64 ro, .int .i64 rn] ∧ ¬ P3 rb ∧ ¬ R rb ∧ ¬ S rb) := Lib.hid ⟨by rw [hw4, hrb]; exact Blk.new _ _ _, fun hp => by have := MAt.under HL3.out.2.mat rb hp; omega, fun hp => by have := HL3.out.2.dd.uR rb hp; omega, fun hp => by have := HL3.out.2.dd.uS rb hp; omega⟩
              have BO4 : Hid (Blk w4 ob 33 #[.int .i64 K0, .int .i64 S0, .int .i64 L0, .int .i64 kd, .int .i64 k, .int .i64 hh, .int .i64 v] ∧ ¬ P3 ob ∧ ¬ R ob ∧ ¬ S ob) := Lib.hid ⟨by rw [hw4]; exact BO3.out.1.alloc _, BO3.out.2⟩
              have HP4 : Hid (PairsIn w4 ra rp ∧ ∀ y, ra = some y → ¬ P3 y.block ∧ ¬ R y.block ∧ w.heap.size ≤ y.block) := Lib.hid ⟨by rw [hw4]; exact HPN.out.1.only (S := fun _ => False) ((Only0.refl w3).alloc _) (fun _ _ hf => hf), HPN.out.2⟩
              go_upto_region 9 with (fail)
              rw [← hw4, ← hrb]
              clear hw4 hrb HL3 BO3 HPN
              obtain ⟨g, hva, hgR, hglt, hgf, hgc⟩ := HL4.out.2.dd.at_ (by have := HN.out; omega)
              subst hva
              have HG := Lib.hid (And.intro hgR (And.intro hglt (And.intro hgf hgc)))
              clear hgR hglt hgf hgc
              have c2 : w4.cell? ⟨g, n * 6 + 2, none⟩ = some (.int .i64 (dAt ds n).state) := HG.out.2.2.2 n HN.out 2 _ rfl
              have c4 : w4.cell? ⟨g, n * 6 + 4, none⟩ = some (.int .u64 (dAt ds n).fin) := HG.out.2.2.2 n HN.out 4 _ rfl
              have gf := HG.out.2.2.1
              have hgrb : rb ≠ g := fun e => RB.out.2.2.1 (by rw [e]; exact HG.out.1)
              have r3 : w4.cell? ⟨rb, 3, none⟩ = some (.int .i64 ro) := RB.out.1.cell 3
              have HKP : Hid (∀ (wx : World) (o : Nat) (u x : Value), wx.cell? ⟨rb, 3, none⟩ = some x → (wx.setCell ⟨g, o, none⟩ u).cell? ⟨rb, 3, none⟩ = some x) := Lib.hid (fun wx o u x hx => cell_only (S := fun b => b = g) (Only.setCell (S := fun b => b = g) (Only.refl _ wx) (fun _ => rfl) u) hx hgrb)
              have hqo := HI.out.ops n HN.out
              go_upto_region 13 with (fail)
              rcases HC.out with ⟨hro, DI3⟩ | ⟨hro, DI3⟩ | ⟨hro, DI3⟩
              · subst hro
                have HP9 : Hid (PL LV s' (ds.set n { dAt ds n with state := 3, fin := s'.now }) cs' (q + 1)) := Lib.hid (HI.out.set HN.out DI3 rfl (by show (dAt ds n).ops.length ≤ q + 1; omega))
                clear DI3 HC HI hqo
                have CN := md_now (HL4.out.2.only0 ((Only0.refl w4).drew)).mat
                obtain ⟨nw, hnw⟩ : ∃ nw, nw = s'.now := ⟨_, rfl⟩
                rw [← hnw] at CN HP9
                clear hnw
                go_upto_region 16 with (fail)
                refine wp_region_held_drew (S := (fun w' => w'.cell? ⟨rb, 3, none⟩ = some (.int .i64 3))) (by kernel_rfl) ?_ (fun hHeld => ?_)
                · first | exact r3 | exact HKP.out w4 _ _ _ r3 | exact HKP.out _ _ _ _ (HKP.out w4 _ _ _ r3)
                refine wpAnyH_take (i := 0) (v := ?_) rfl (by kernel_rfl) (by kernel_rfl) (by kernel_rfl) (fun _ _ _ h => h) (Or.inl ⟨by rfl, ?_⟩) (by assumption) ?_; rotate_left; (focus (intro w hSw; (try dsimp only at hSw); go_simp; try with_reducible rfl))
                try simp only [Act.put, List.getElem_toArray, List.getElem_cons_zero, List.getElem_cons_succ, List.setIfInBounds_toArray, List.set_cons_zero, List.set_cons_succ]
                refine wpAnyH_take (i := 1) (v := ?_) rfl (by kernel_rfl) (by kernel_rfl) (by kernel_rfl) (fun _ _ _ h => h) (Or.inl ⟨by rfl, ?_⟩) (by assumption) ?_; rotate_left; (focus (intro w hSw; (try dsimp only at hSw); go_simp; try with_reducible rfl))
                try simp only [Act.put, List.getElem_toArray, List.getElem_cons_zero, List.getElem_cons_succ, List.setIfInBounds_toArray, List.set_cons_zero, List.set_cons_succ]
                refine wpAnyH_take (i := 2) (v := ?_) rfl (by kernel_rfl) (by kernel_rfl) (by kernel_rfl) (fun _ _ _ h => h) (Or.inl ⟨by rfl, ?_⟩) (by assumption) ?_; rotate_left; (focus (intro w hSw; (try dsimp only at hSw); go_simp; try with_reducible rfl))
                try simp only [Act.put, List.getElem_toArray, List.getElem_cons_zero, List.getElem_cons_succ, List.setIfInBounds_toArray, List.set_cons_zero, List.set_cons_succ]
                refine wpAnyH_take (i := 3) (v := ?_) rfl (by kernel_rfl) (by kernel_rfl) (by kernel_rfl) (fun _ _ _ h => h) (Or.inl ⟨by rfl, ?_⟩) (by assumption) ?_; rotate_left; (focus (intro w hSw; (try dsimp only at hSw); go_simp; try with_reducible rfl))
                try simp only [Act.put, List.getElem_toArray, List.getElem_cons_zero, List.getElem_cons_succ, List.setIfInBounds_toArray, List.set_cons_zero, List.set_cons_succ]
                refine wpAnyH_take (i := 4) (v := ?_) rfl (by kernel_rfl) (by kernel_rfl) (by kernel_rfl) (fun _ _ _ h => h) (Or.inl ⟨by rfl, ?_⟩) (by assumption) ?_; rotate_left; (focus (intro w hSw; (try dsimp only at hSw); go_simp; try with_reducible rfl))
                try simp only [Act.put, List.getElem_toArray, List.getElem_cons_zero, List.getElem_cons_succ, List.setIfInBounds_toArray, List.set_cons_zero, List.set_cons_succ]
                refine wpAnyH_ready (rs := [5]) (by kernel_rfl) (by simp) ?_
                refine AllReadyH.cons rfl (fun K hK => ?_) AllReadyH.nil
                try simp only [List.getElem_toArray, List.getElem_cons_zero, List.getElem_cons_succ]
                go_simp
                (refine CN.mono ?_; rintro e w7 ⟨rfl, rfl⟩)
                try go_wp2_with fail
                refine hK.out _ _ ?_ (fun hHeld => ?_)
                · first | exact r3 | exact HKP.out w4 _ _ _ r3 | exact HKP.out _ _ _ _ (HKP.out w4 _ _ _ r3)
                clear hK K
                try simp only [Act.put, List.getElem_toArray, List.getElem_cons_zero, List.getElem_cons_succ, List.setIfInBounds_toArray, List.set_cons_zero, List.set_cons_succ]
                refine wpAnyH_take (i := 6) (v := ?_) rfl (by kernel_rfl) (by kernel_rfl) (by kernel_rfl) (fun _ _ _ h => h) (Or.inl ⟨by rfl, ?_⟩) (by assumption) ?_; rotate_left; (focus (intro w hSw; (try dsimp only at hSw); go_simp; try with_reducible rfl))
                try simp only [Act.put, List.getElem_toArray, List.getElem_cons_zero, List.getElem_cons_succ, List.setIfInBounds_toArray, List.set_cons_zero, List.set_cons_succ]
                refine wpAnyH_take (i := 7) (v := ?_) rfl (by kernel_rfl) (by kernel_rfl) (by kernel_rfl) (fun _ _ _ h => h) (Or.inl ⟨by rfl, ?_⟩) (by assumption) ?_; rotate_left; (focus (intro w hSw; (try dsimp only at hSw); go_simp; try with_reducible rfl))
                try simp only [Act.put, List.getElem_toArray, List.getElem_cons_zero, List.getElem_cons_succ, List.setIfInBounds_toArray, List.set_cons_zero, List.set_cons_succ]
                refine wpAnyH_ready (rs := [8]) (by kernel_rfl) (by simp) ?_
                refine AllReadyH.cons rfl (fun K hK => ?_) AllReadyH.nil
                try simp only [List.getElem_toArray, List.getElem_cons_zero, List.getElem_cons_succ]
                go_simp
                skip
                try go_wp2_with fail
                refine hK.out _ _ ?_ (fun hHeld => ?_)
                · first | exact r3 | exact HKP.out w4 _ _ _ r3 | exact HKP.out _ _ _ _ (HKP.out w4 _ _ _ r3)
                clear hK K
                try simp only [Act.put, List.getElem_toArray, List.getElem_cons_zero, List.getElem_cons_succ, List.setIfInBounds_toArray, List.set_cons_zero, List.set_cons_succ]
                refine wpAnyH_take (i := 9) (v := ?_) rfl (by kernel_rfl) (by kernel_rfl) (by kernel_rfl) (fun _ _ _ h => h) (Or.inl ⟨by rfl, ?_⟩) (by assumption) ?_; rotate_left; (focus (intro w hSw; (try dsimp only at hSw); go_simp; try with_reducible rfl))
                try simp only [Act.put, List.getElem_toArray, List.getElem_cons_zero, List.getElem_cons_succ, List.setIfInBounds_toArray, List.set_cons_zero, List.set_cons_succ]
                refine wpAnyH_take (i := 10) (v := ?_) rfl (by kernel_rfl) (by kernel_rfl) (by kernel_rfl) (fun _ _ _ h => h) (Or.inl ⟨by rfl, ?_⟩) (by assumption) ?_; rotate_left; (focus (intro w hSw; (try dsimp only at hSw); go_simp; try with_reducible rfl))
                try simp only [Act.put, List.getElem_toArray, List.getElem_cons_zero, List.getElem_cons_succ, List.setIfInBounds_toArray, List.set_cons_zero, List.set_cons_succ]
                refine wpAnyH_ready (rs := [11]) (by kernel_rfl) (by simp) ?_
                refine AllReadyH.cons rfl (fun K hK => ?_) AllReadyH.nil
                try simp only [List.getElem_toArray, List.getElem_cons_zero, List.getElem_cons_succ]
                go_simp
                skip
                try go_wp2_with fail
                refine hK.out _ _ ?_ (fun hHeld => ?_)
                · first | exact r3 | exact HKP.out w4 _ _ _ r3 | exact HKP.out _ _ _ _ (HKP.out w4 _ _ _ r3)
                clear hK K
                try simp only [Act.put, List.getElem_toArray, List.getElem_cons_zero, List.getElem_cons_succ, List.setIfInBounds_toArray, List.set_cons_zero, List.set_cons_succ]
                refine wpAnyH_done (by kernel_rfl) ?_ _
                have HT1 := HL4.out.2.dd.turn (f := 2) (v := .int .i64 3) HN.out (by decide) (d' := { dAt ds n with state := 3 }) rfl (fun a c => rfl)
                have hd1 : dAt (ds.set n { dAt ds n with state := 3 }) n = { dAt ds n with state := 3 } := by rw [dAt_set HN.out, if_pos rfl]
                have HT2 := HT1.1.turn (i := n) (f := 4) (v := .int .u64 nw) (by rw [List.length_set]; exact HN.out) (by decide) (d' := { dAt ds n with state := 3, fin := nw }) (by rw [hd1]) (fun a c => by rw [hd1]; rfl)
                rw [List.set_set] at HT2
                have HL9 : Hid (dn = (ds.set n { dAt ds n with state := 3, fin := nw }).length ∧ DL B w (((w4.setCell ⟨g, n * 6 + 2, none⟩ (.int .i64 3)).setCell ⟨g, n * 6 + 4, none⟩ (.int .u64 nw)).drew) P0 P3 R S m s' (some ⟨g, 0, none⟩) vc (ds.set n { dAt ds n with state := 3, fin := nw }) A) := Lib.hid ⟨by rw [List.length_set]; exact HL4.out.1, (HL4.out.2.deal HT2.1 (HT1.2.trans HT2.2) (fun b hb => .inl hb) (fun b hb => .inl hb)).only0 (Only0.refl _).drew⟩
                clear HT1 HT2 hd1 HL4 HKP c2 c4 gf r3 RB BO4 HP4 HG CN hHeld
                go_wp2_with fail
                go_roundw
                case rel => exact ⟨q + 1, dn, _, _, _, _, _, _, _, _, _, _, _, _, _, _, _, cs', rfl, rfl, rfl, rfl, rfl, rfl, rfl, rfl, by go_num, by omega, by omega, HL9, HP9⟩
                case measure => simp [intOf]; omega
              · subst hro
                have HP9 : Hid (PL LV s' (ds.set n { dAt ds n with state := 4 }) cs' (q + 1)) := Lib.hid (HI.out.set HN.out DI3 rfl (by show (dAt ds n).ops.length ≤ q + 1; omega))
                clear DI3 HC HI hqo
                go_wp2_with fail
                have HT := HL4.out.2.dd.turn (f := 2) (v := .int .i64 4) HN.out (by decide) (d' := { dAt ds n with state := 4 }) rfl (fun a c => rfl)
                have HL9 : Hid (dn = (ds.set n { dAt ds n with state := 4 }).length ∧ DL B w (w4.setCell ⟨g, n * 6 + 2, none⟩ (.int .i64 4)) P0 P3 R S m s' (some ⟨g, 0, none⟩) vc (ds.set n { dAt ds n with state := 4 }) A) := Lib.hid ⟨by rw [List.length_set]; exact HL4.out.1, HL4.out.2.deal HT.1 HT.2 (fun b hb => .inl hb) (fun b hb => .inl hb)⟩
                clear HT HL4 HKP c2 c4 gf r3 RB BO4 HP4 HG
                go_wp2_with fail
                go_roundw
                case rel => exact ⟨q + 1, dn, _, _, _, _, _, _, _, _, _, _, _, _, _, _, _, cs', rfl, rfl, rfl, rfl, rfl, rfl, rfl, rfl, by go_num, by omega, by omega, HL9, HP9⟩
                case measure => simp [intOf]; omega
              · subst hro
                have HP9 : Hid (PL LV s' (ds.set n { dAt ds n with ops := (dAt ds n).ops ++ [⟨⟨kd, k, hh, v⟩, ⟨re, rv, rp, 0, rn⟩⟩] }) cs' (q + 1)) := Lib.hid (HI.out.set HN.out DI3 rfl (by show ((dAt ds n).ops ++ [_]).length ≤ q + 1; rw [List.length_append, List.length_singleton]; omega))
                clear DI3 HC HI hqo
                obtain ⟨on, hon⟩ : ∃ on, on = (dAt ds n).ops.length := ⟨_, rfl⟩
                obtain ⟨oa, hoa⟩ : ∃ oa, oa = A.oa n := ⟨_, rfl⟩
                obtain ⟨oc, hoc⟩ : ∃ oc, oc = A.oc n := ⟨_, rfl⟩
                have hov : A.opV ds n = .slice oa on oc := by unfold DAd.opV; rw [hon, hoa, hoc]
                have hon1 : on ≤ 100 := by rw [hon]; have := HP9.out.ops n (by rw [List.length_set]; exact HN.out); rw [dAt_set HN.out, if_pos rfl] at this; simp only [List.length_append, List.length_singleton] at this; omega
                have c5 : w4.cell? ⟨g, n * 6 + 5, none⟩ = some (.slice oa on oc) := by rw [hon, hoa, hoc]; exact HG.out.2.2.2 n HN.out 5 _ rfl
                obtain ⟨W6, hW6⟩ : ∃ W6, W6 = (w4.alloc (.cells #[.int .i64 kd, .int .i64 k, .int .i64 hh, .int .i64 v, .int .i64 re, .int .i64 rv, .slice ra rp.length rc, .int .i64 0, .int .i64 rn] 70)).drew := ⟨_, rfl⟩
                have oo6 : Only0 w4 W6 := by rw [hW6]; exact ((Only0.refl _).alloc _).drew
                have L6 := HL4.out.2.only0 oo6
                have B6 := oo6.blk BO4.out.1 (fun hf => hf)
                have RB6 := oo6.blk RB.out.1 (fun hf => hf)
                have R6 : W6.ownsRow w.heap.size 70 9 (.slice oa on oc) on (clRow (dAt ds n).ops (A.pa n) (A.pc n)) := by have := L6.dd.ops n HN.out; rw [hov, ← hon] at this; exact this
                have z6 : W6.heap.size = w4.heap.size + 1 := by rw [hW6]; simp
                have hw06 : w.heap.size ≤ W6.heap.size := L6.o.size
                have hg6 : g < W6.heap.size := L6.dd.uR g HG.out.1
                have hob6 : ob < W6.heap.size := B6.lt
                have hrb6 : rb < W6.heap.size := RB6.lt
                have nrow : ¬ (Value.slice oa on oc).ownBlock = some g := fun e => (rows_apart L6.dd.row (L6.dd.ops n HN.out) (by decide)) g (rowOf_some.2 rfl) (by rw [hov]; exact e)
                have nob : ¬ (Value.slice oa on oc).ownBlock = some ob := fun e => BO4.out.2.2.1 (L6.dd.oR n HN.out ob (by rw [hov]; exact e))
                have nrb : ¬ (Value.slice oa on oc).ownBlock = some rb := fun e => RB.out.2.2.1 (L6.dd.oR n HN.out rb (by rw [hov]; exact e))
                have fz5 : W6.frozen? ⟨g, n * 6 + 5, none⟩ = false := by
                  obtain ⟨g', e1, _, _, e2, _⟩ := L6.dd.at_ (by have := HN.out; omega)
                  injection e1 with e1
                  injection e1 with e1 _ _
                  subst e1
                  exact e2 _
                have sg : w4.cell? ⟨g, n * 6 + 5, none⟩ = some (.slice oa on oc) := c5
                have so3 : w4.cell? ⟨ob, 3, none⟩ = some (.int .i64 kd) := BO4.out.1.cell 3
                have so4 : w4.cell? ⟨ob, 4, none⟩ = some (.int .i64 k) := BO4.out.1.cell 4
                have so5 : w4.cell? ⟨ob, 5, none⟩ = some (.int .i64 hh) := BO4.out.1.cell 5
                have so6 : w4.cell? ⟨ob, 6, none⟩ = some (.int .i64 v) := BO4.out.1.cell 6
                have sr0 : w4.cell? ⟨rb, 0, none⟩ = some (.int .i64 re) := RB.out.1.cell 0
                have sr1 : w4.cell? ⟨rb, 1, none⟩ = some (.int .i64 rv) := RB.out.1.cell 1
                have sr2 : w4.cell? ⟨rb, 2, none⟩ = some (.slice ra rp.length rc) := RB.out.1.cell 2
                have sr3 : w4.cell? ⟨rb, 3, none⟩ = some (.int .i64 0) := RB.out.1.cell 3
                have sr4 : w4.cell? ⟨rb, 4, none⟩ = some (.int .i64 rn) := RB.out.1.cell 4
                have ug : W6.cell? ⟨g, n * 6 + 5, none⟩ = some (.slice oa on oc) := cell_only0 oo6 c5
                have uo3 : W6.cell? ⟨ob, 3, none⟩ = some (.int .i64 kd) := B6.cell 3
                have uo4 : W6.cell? ⟨ob, 4, none⟩ = some (.int .i64 k) := B6.cell 4
                have uo5 : W6.cell? ⟨ob, 5, none⟩ = some (.int .i64 hh) := B6.cell 5
                have uo6 : W6.cell? ⟨ob, 6, none⟩ = some (.int .i64 v) := B6.cell 6
                have ur0 : W6.cell? ⟨rb, 0, none⟩ = some (.int .i64 re) := RB6.cell 0
                have ur1 : W6.cell? ⟨rb, 1, none⟩ = some (.int .i64 rv) := RB6.cell 1
                have ur2 : W6.cell? ⟨rb, 2, none⟩ = some (.slice ra rp.length rc) := RB6.cell 2
                have ur3 : W6.cell? ⟨rb, 3, none⟩ = some (.int .i64 0) := RB6.cell 3
                have ur4 : W6.cell? ⟨rb, 4, none⟩ = some (.int .i64 rn) := RB6.cell 4
                have APP : Hid (∀ (gg cap : Nat) (w1 : World), w1.ownsRow w.heap.size 70 9 (.slice (some ⟨gg, 0, none⟩) (on + 1) cap) (on + 1) (clRow (dAt ds n).ops (A.pa n) (A.pc n) ++ [.int .i64 kd, .int .i64 k, .int .i64 hh, .int .i64 v, .int .i64 re, .int .i64 rv, .slice ra rp.length rc, .int .i64 0, .int .i64 rn]) → W6.grownBy w1 (Value.slice oa on oc).ownBlock → ((Value.slice oa on oc).ownBlock = some gg ∨ gg = w4.heap.size + 1) → gg < w1.heap.size →
                    ∃ R' S' A', dn = (ds.set n { dAt ds n with ops := (dAt ds n).ops ++ [⟨⟨kd, k, hh, v⟩, ⟨re, rv, rp, 0, rn⟩⟩] }).length ∧ DL B w (w1.setCell ⟨g, n * 6 + 5, none⟩ (.slice (some ⟨gg, 0, none⟩) (on + 1) cap)) P0 P3 R' S' m s' (some ⟨g, 0, none⟩) vc (ds.set n { dAt ds n with ops := (dAt ds n).ops ++ [⟨⟨kd, k, hh, v⟩, ⟨re, rv, rp, 0, rn⟩⟩] }) A') := Lib.hid (by
                  intro gg cap w1 h1 h2 h3 h4
                  subst hon
                  have hat : (A.opV ds n).ownBlock = some gg ∨ W6.heap.size ≤ gg := by rw [hov]; exact h3.imp (fun h => h) (fun h => by omega)
                  have hp6 : PairsIn W6 ra rp := HP4.out.1.only (S := fun _ => False) oo6 (fun _ _ hf => hf)
                  obtain ⟨A', D', O'⟩ := L6.dd.call (c := ⟨⟨kd, k, hh, v⟩, ⟨re, rv, rp, 0, rn⟩⟩) (pa := ra) (pc := rc) HN.out hp6 (fun hne x hx => by
                    have := HP4.out.2 x hx
                    refine ⟨this.2.1, ?_, this.2.2⟩
                    rcases hp6 with e | ⟨b', off', e, hc'⟩
                    · exact absurd e hne
                    · rw [hx] at e; injection e with e; subst e
                      exact block_lt_of_cell (hc' 0 (by cases rp with | nil => exact absurd rfl hne | cons a l => simp)).1) h1 (by rw [hov]; exact h2) hat h4
                  refine ⟨_, _, A', by rw [List.length_set]; exact HL4.out.1, L6.deal D' O' (fun b hb => ?_) (fun b hb => ?_)⟩
                  · rcases hb with hb | rfl
                    · exact .inl hb
                    · rcases hat with x | x
                      · exact .inl (L6.dd.oR n HN.out b x)
                      · exact .inr x
                  · rcases hb with hb | ⟨hne, x, hx, rfl⟩
                    · exact .inl hb
                    · exact .inr (HP4.out.2 x hx).1)
                rw [hW6] at R6 z6 hw06 hg6 hob6 hrb6 fz5 APP ug uo3 uo4 uo5 uo6 ur0 ur1 ur2 ur3 ur4
                clear L6 B6 RB6 hW6 oo6 HL4 hov hon hoa hoc HG HP4 BO4 RB HKP c2 c4 c5 r3 gf
                go_upto_region 14 with (fail)
                refine wp_region_heldL (S := (fun w' => w'.cell? ⟨g, n * 6 + 5, none⟩ = some (.slice oa on oc) ∧ w'.cell? ⟨ob, 3, none⟩ = some (.int .i64 kd) ∧ w'.cell? ⟨ob, 4, none⟩ = some (.int .i64 k) ∧ w'.cell? ⟨ob, 5, none⟩ = some (.int .i64 hh) ∧ w'.cell? ⟨ob, 6, none⟩ = some (.int .i64 v) ∧ w'.cell? ⟨rb, 0, none⟩ = some (.int .i64 re) ∧ w'.cell? ⟨rb, 1, none⟩ = some (.int .i64 rv) ∧ w'.cell? ⟨rb, 2, none⟩ = some (.slice ra rp.length rc) ∧ w'.cell? ⟨rb, 3, none⟩ = some (.int .i64 0) ∧ w'.cell? ⟨rb, 4, none⟩ = some (.int .i64 rn))) 13 (by kernel_rfl) ?_ (fun hHeld => ?_)
                · first | exact ⟨sg, so3, so4, so5, so6, sr0, sr1, sr2, sr3, sr4⟩ | exact ⟨ug, uo3, uo4, uo5, uo6, ur0, ur1, ur2, ur3, ur4⟩ | exact ⟨zg, zo3, zo4, zo5, zo6, zr0, zr1, zr2, zr3, zr4⟩
                refine heldL_take (i := 0) (v := ?_) rfl (by kernel_rfl) (by kernel_rfl) (by kernel_rfl) [13] (by kernel_rfl) (by kernel_rfl) (fun _ _ _ h => h) (Or.inl ⟨by rfl, ?_⟩) (by assumption) ?_; rotate_left; (focus (intro w hSw; (try dsimp only at hSw); go_simp; try with_reducible rfl))
                try simp only [Act.put, List.getElem_toArray, List.getElem_cons_zero, List.getElem_cons_succ, List.setIfInBounds_toArray, List.set_cons_zero, List.set_cons_succ]
                refine heldL_take (i := 1) (v := ?_) rfl (by kernel_rfl) (by kernel_rfl) (by kernel_rfl) [13] (by kernel_rfl) (by kernel_rfl) (fun _ _ _ h => h) (Or.inl ⟨by rfl, ?_⟩) (by assumption) ?_; rotate_left; (focus (intro w hSw; (try dsimp only at hSw); go_simp; try with_reducible rfl))
                try simp only [Act.put, List.getElem_toArray, List.getElem_cons_zero, List.getElem_cons_succ, List.setIfInBounds_toArray, List.set_cons_zero, List.set_cons_succ]
                refine heldL_take (i := 2) (v := ?_) rfl (by kernel_rfl) (by kernel_rfl) (by kernel_rfl) [13] (by kernel_rfl) (by kernel_rfl) (fun _ _ _ h => h) (Or.inl ⟨by rfl, ?_⟩) (by assumption) ?_; rotate_left; (focus (intro w hSw; (try dsimp only at hSw); go_simp; try with_reducible rfl))
                try simp only [Act.put, List.getElem_toArray, List.getElem_cons_zero, List.getElem_cons_succ, List.setIfInBounds_toArray, List.set_cons_zero, List.set_cons_succ]
                refine heldL_take (i := 3) (v := ?_) rfl (by kernel_rfl) (by kernel_rfl) (by kernel_rfl) [13] (by kernel_rfl) (by kernel_rfl) (fun _ _ _ h => h) (Or.inl ⟨by rfl, ?_⟩) (by assumption) ?_; rotate_left; (focus (intro w hSw; (try dsimp only at hSw); go_simp; try with_reducible rfl))
                try simp only [Act.put, List.getElem_toArray, List.getElem_cons_zero, List.getElem_cons_succ, List.setIfInBounds_toArray, List.set_cons_zero, List.set_cons_succ]
                refine heldL_take (i := 4) (v := ?_) rfl (by kernel_rfl) (by kernel_rfl) (by kernel_rfl) [13] (by kernel_rfl) (by kernel_rfl) (fun _ _ _ h => h) (Or.inl ⟨by rfl, ?_⟩) (by assumption) ?_; rotate_left; (focus (intro w hSw; (try dsimp only at hSw); go_simp; try with_reducible rfl))
                try simp only [Act.put, List.getElem_toArray, List.getElem_cons_zero, List.getElem_cons_succ, List.setIfInBounds_toArray, List.set_cons_zero, List.set_cons_succ]
                refine heldL_take (i := 5) (v := ?_) rfl (by kernel_rfl) (by kernel_rfl) (by kernel_rfl) [13] (by kernel_rfl) (by kernel_rfl) (fun _ _ _ h => h) (Or.inl ⟨by rfl, ?_⟩) (by assumption) ?_; rotate_left; (focus (intro w hSw; (try dsimp only at hSw); go_simp; try with_reducible rfl))
                try simp only [Act.put, List.getElem_toArray, List.getElem_cons_zero, List.getElem_cons_succ, List.setIfInBounds_toArray, List.set_cons_zero, List.set_cons_succ]
                refine heldL_take (i := 6) (v := ?_) rfl (by kernel_rfl) (by kernel_rfl) (by kernel_rfl) [13] (by kernel_rfl) (by kernel_rfl) (fun _ _ _ h => h) (Or.inl ⟨by rfl, ?_⟩) (by assumption) ?_; rotate_left; (focus (intro w hSw; (try dsimp only at hSw); go_simp; try with_reducible rfl))
                try simp only [Act.put, List.getElem_toArray, List.getElem_cons_zero, List.getElem_cons_succ, List.setIfInBounds_toArray, List.set_cons_zero, List.set_cons_succ]
                refine heldL_take (i := 7) (v := ?_) rfl (by kernel_rfl) (by kernel_rfl) (by kernel_rfl) [13] (by kernel_rfl) (by kernel_rfl) (fun _ _ _ h => h) (Or.inl ⟨by rfl, ?_⟩) (by assumption) ?_; rotate_left; (focus (intro w hSw; (try dsimp only at hSw); go_simp; try with_reducible rfl))
                try simp only [Act.put, List.getElem_toArray, List.getElem_cons_zero, List.getElem_cons_succ, List.setIfInBounds_toArray, List.set_cons_zero, List.set_cons_succ]
                refine heldL_take (i := 8) (v := ?_) rfl (by kernel_rfl) (by kernel_rfl) (by kernel_rfl) [13] (by kernel_rfl) (by kernel_rfl) (fun _ _ _ h => h) (Or.inl ⟨by rfl, ?_⟩) (by assumption) ?_; rotate_left; (focus (intro w hSw; (try dsimp only at hSw); go_simp; try with_reducible rfl))
                try simp only [Act.put, List.getElem_toArray, List.getElem_cons_zero, List.getElem_cons_succ, List.setIfInBounds_toArray, List.set_cons_zero, List.set_cons_succ]
                refine heldL_step (i := 9) (by kernel_rfl) rfl (fun K hK => ?_)
                try simp only [List.getElem_toArray, List.getElem_cons_zero, List.getElem_cons_succ]
                go_simp
                skip
                try go_wp2_with fail
                refine hK.out _ _ ?_ (fun hHeld => ?_)
                · first | exact ⟨sg, so3, so4, so5, so6, sr0, sr1, sr2, sr3, sr4⟩ | exact ⟨ug, uo3, uo4, uo5, uo6, ur0, ur1, ur2, ur3, ur4⟩ | exact ⟨zg, zo3, zo4, zo5, zo6, zr0, zr1, zr2, zr3, zr4⟩
                clear hK K
                try simp only [Act.put, List.getElem_toArray, List.getElem_cons_zero, List.getElem_cons_succ, List.setIfInBounds_toArray, List.set_cons_zero, List.set_cons_succ]
                refine heldL_step (i := 10) (by kernel_rfl) rfl (fun K hK => ?_)
                try simp only [List.getElem_toArray, List.getElem_cons_zero, List.getElem_cons_succ]
                (rw [if_pos (by simp [Region.wanted])]; refine wp_append_lies _ _ _ _ (by rfl) w.heap.size 70 j0 _ 9 88 Try.underlying57 hj0 hy0 hy1 hy2 rfl (by omega) (.slice oa on oc) on (clRow (dAt ds n).ops (A.pa n) (A.pc n)) (by rfl) R6 ⟨w4.heap.size, 0, none⟩ 1 1 [.int .i64 kd, .int .i64 k, .int .i64 hh, .int .i64 v, .int .i64 re, .int .i64 rv, .slice ra rp.length rc, .int .i64 0, .int .i64 rn] (by rfl) (by rfl) (World.news_of_block (cs := #[.int .i64 kd, .int .i64 k, .int .i64 hh, .int .i64 v, .int .i64 re, .int .i64 rv, .slice ra rp.length rc, .int .i64 0, .int .i64 rn]) (t := 70) (fr := (0, 0)) (heap_alloc_new w4 _)) (by simp [Value.oneCell']) (by omega) (by unfold maxLen; omega) (by omega) (by simp; omega) (w4.heap.size + 1) (by simp) ?_; intro gg cap w1 hown2 hgrow hat hlt2; have zg := (hgrow.cell_far ⟨g, n * 6 + 5, none⟩ hg6 (fun e => nrow e.symm)).trans ug; have zo3 := (hgrow.cell_far ⟨ob, 3, none⟩ hob6 (fun e => nob e.symm)).trans uo3; have zo4 := (hgrow.cell_far ⟨ob, 4, none⟩ hob6 (fun e => nob e.symm)).trans uo4; have zo5 := (hgrow.cell_far ⟨ob, 5, none⟩ hob6 (fun e => nob e.symm)).trans uo5; have zo6 := (hgrow.cell_far ⟨ob, 6, none⟩ hob6 (fun e => nob e.symm)).trans uo6; have zr0 := (hgrow.cell_far ⟨rb, 0, none⟩ hrb6 (fun e => nrb e.symm)).trans ur0; have zr1 := (hgrow.cell_far ⟨rb, 1, none⟩ hrb6 (fun e => nrb e.symm)).trans ur1; have zr2 := (hgrow.cell_far ⟨rb, 2, none⟩ hrb6 (fun e => nrb e.symm)).trans ur2; have zr3 := (hgrow.cell_far ⟨rb, 3, none⟩ hrb6 (fun e => nrb e.symm)).trans ur3; have zr4 := (hgrow.cell_far ⟨rb, 4, none⟩ hrb6 (fun e => nrb e.symm)).trans ur4; have fz1 := (hgrow.frozen_far ⟨g, n * 6 + 5, none⟩ hg6 (fun e => nrow e.symm)).trans fz5)
                refine hK.out _ _ ?_ (fun hHeld => ?_)
                · first | exact ⟨sg, so3, so4, so5, so6, sr0, sr1, sr2, sr3, sr4⟩ | exact ⟨ug, uo3, uo4, uo5, uo6, ur0, ur1, ur2, ur3, ur4⟩ | exact ⟨zg, zo3, zo4, zo5, zo6, zr0, zr1, zr2, zr3, zr4⟩
                clear hK K
                try simp only [Act.put, List.getElem_toArray, List.getElem_cons_zero, List.getElem_cons_succ, List.setIfInBounds_toArray, List.set_cons_zero, List.set_cons_succ]
                refine heldL_take (i := 11) (v := ?_) rfl (by kernel_rfl) (by kernel_rfl) (by kernel_rfl) [12, 13] (by kernel_rfl) (by kernel_rfl) (fun _ _ _ h => h) (Or.inl ⟨by rfl, ?_⟩) (by assumption) ?_; rotate_left; (focus (intro w hSw; (try dsimp only at hSw); go_simp; try with_reducible rfl))
                try simp only [Act.put, List.getElem_toArray, List.getElem_cons_zero, List.getElem_cons_succ, List.setIfInBounds_toArray, List.set_cons_zero, List.set_cons_succ]
                refine heldL_take (i := 12) (v := ?_) rfl (by kernel_rfl) (by kernel_rfl) (by kernel_rfl) [13] (by kernel_rfl) (by kernel_rfl) (fun _ _ _ h => h) (Or.inl ⟨by rfl, ?_⟩) (by assumption) ?_; rotate_left; (focus (intro w hSw; (try dsimp only at hSw); go_simp; try with_reducible rfl))
                try simp only [Act.put, List.getElem_toArray, List.getElem_cons_zero, List.getElem_cons_succ, List.setIfInBounds_toArray, List.set_cons_zero, List.set_cons_succ]
                refine heldL_last (by kernel_rfl) rfl (by kernel_rfl) (fun K hK => ?_)
                try simp only [List.getElem_toArray, List.getElem_cons_zero, List.getElem_cons_succ]
                go_simp
                skip
                try go_wp2_with fail
                refine hK.out _ _ ?_
                clear hK K
                try simp only [Act.put, List.getElem_toArray, List.getElem_cons_zero, List.getElem_cons_succ, List.setIfInBounds_toArray, List.set_cons_zero, List.set_cons_succ]
                obtain ⟨R9, S9, A9, e9, H9⟩ := APP.out gg cap w1 hown2 hgrow hat hlt2
                have HL9 := Lib.hid (And.intro e9 H9)
                clear e9 H9 APP hown2 hgrow hat hlt2 R6 z6 hw06 hg6 hob6 hrb6 fz5 fz1 nrow nob nrb sg so3 so4 so5 so6 sr0 sr1 sr2 sr3 sr4 ug uo3 uo4 uo5 uo6 ur0 ur1 ur2 ur3 ur4 zg zo3 zo4 zo5 zo6 zr0 zr1 zr2 zr3 zr4
                go_wp2_with fail
                go_roundw
                case rel => exact ⟨q + 1, dn, _, _, _, _, _, _, _, _, _, _, _, _, _, _, _, cs', rfl, rfl, rfl, rfl, rfl, rfl, rfl, rfl, by go_num, by omega, by omega, HL9, HP9⟩
                case measure => simp [intOf]; omega
            · have hss := do_no HDD.out her
              have HI2 : Hid (PL LV s' ds cs (q + 1)) := Lib.hid (by rw [hss]; exact HI.out.more HI.out.di)
              have HL4 : Hid (∀ o : Obj, dn = ds.length ∧ DL B w (w3.alloc o) P0 P3 R S m s' va vc ds A) := Lib.hid (fun o => ⟨HL3.out.1, HL3.out.2.only0 ((Only0.refl w3).alloc _)⟩)
              have eer : (er != 0) = true := by simpa using her
              clear her hss HDD HI BO3 HPN HIDV hfl HL3
              go_wp2_with fail
              go_roundw
              case rel => exact ⟨q + 1, dn, _, _, _, _, _, _, _, _, _, _, _, va, vc, ds, _, cs, rfl, rfl, rfl, rfl, rfl, rfl, rfl, rfl, by go_num, by omega, by omega, Lib.hid (HL4.out _), HI2⟩
              case measure => simp [intOf]; omega
      · obtain rfl : q = most := by omega
        have HR : Hid (DealRes B w P0 m LV (.returned (.tuple #[.slice va dn vc, .bool true])) wr) := Lib.hid ⟨P, R, S, s, va, vc, ds, A, cs, by rw [HL.out.1], HL.out.2, ⟨HI.out.di, by have := HI.out.len; omega, fun i hi => by have := HI.out.ops i hi; omega, HI.out.lv⟩⟩
        clear hlt
        go_wp2_with fail
        go_ret2
        exact HR.out
    · obtain rfl : q = acts.length := by omega
      have HR : Hid (DealRes B w P0 m LV (.returned (.tuple #[.slice va dn vc, .bool true])) wr) := Lib.hid ⟨P, R, S, s, va, vc, ds, A, cs, by rw [HL.out.1], HL.out.2, ⟨HI.out.di, by have := HI.out.len; omega, fun i hi => by have := HI.out.ops i hi; omega, HI.out.lv⟩⟩
      clear hlr
      go_wp2_with fail
      go_ret2
      exact HR.out
end Go.Proofs.Ytdjehgnkpbkdbaa

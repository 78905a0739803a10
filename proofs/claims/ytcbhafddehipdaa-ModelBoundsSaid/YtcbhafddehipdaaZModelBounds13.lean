/-
  ModelBounds: what its proof rests on, part 13.
-/
import Derived.Test.YtcbhafddehipdaaZModelBounds12
namespace Go.Proofs.Ytcbhafddehipdaa
open Go.RowKit Go.ChangeShapes Go.WideShapes Go.Deep
attribute [local go_sem ↓] Go.wp_at_zero Go.wp_at_succ
set_option linter.unusedVariables false
set_option linter.unusedSimpArgs false
def confKinds : List IntKind := [.i64, .u64]
theorem plain_conf {H : Type} {enc : TypeId × Value → H} {W : World} : Plain enc Try.prog W 0 (fun _ => true) true 41 confKinds := by
  have i1 : Plain enc Try.prog W 0 (fun _ => true) true 3 [.i64] := Plain.int Try.underlying3 (by kernel_rfl)
  have i2 : Plain enc Try.prog W 0 (fun _ => true) true 39 [.u64] := Plain.int Try.underlying39 (by kernel_rfl)
  refine Plain.struct Try.underlying41 (by kernel_rfl) ?_
  change FP enc Try.prog W 0 _ true 0 [_, _] ([.i64] ++ ([.u64] ++ []))
  exact FP.cons i1 rfl (FP.cons i2 rfl (FP.nil _))
theorem take_val {H : Type} {enc : TypeId × Value → H} {P : Program} {W : World} {r : Reach} {b0 : Nat} {t : TypeId} {fs : Array Field} {ks : List IntKind} {v : Value} {d : DataW H} {p : List MemPlace} (ht : P.underlying t = some (.struct fs)) (hp : Plain enc P W 0 (fun _ => true) true t ks)
    (hw : Value.okWide P W r b0 t v) (h : DataW.Trod enc P W 0 (fun _ => true) true t v d p) : ∃ z : List Int, v = .agg (zipInts ks z).toArray ∧ z.length = ks.length ∧ wfs ks z := by
  obtain ⟨cs, rfl, hs⟩ := okWide_struct ht hw
  obtain ⟨m, hm⟩ := h
  obtain ⟨z, h1, h2, h3⟩ := hp.2 _ _ _ hm
  refine ⟨z, ?_, h1, h3⟩
  rw [← h2]
  simp [Value.cells]
set_option maxRecDepth 100000 in
theorem take_Conf_val {H : Type} {enc : TypeId × Value → H} {W : World} {r : Reach} {b0 : Nat} {v : Value} {d : DataW H} {p : List MemPlace} (hw : Value.okWide Try.prog W r b0 41 v) (h : DataW.Trod enc Try.prog W 0 (fun _ => true) true 41 v d p) :
    ∃ z : List Int, v = .agg (zipInts confKinds z).toArray ∧ z.length = confKinds.length ∧ wfs confKinds z := take_val Try.underlying41 plain_conf hw h
set_option maxRecDepth 100000 in
theorem take_Op_val {H : Type} {enc : TypeId × Value → H} {W : World} {r : Reach} {b0 : Nat} {v : Value} {d : DataW H} {p : List MemPlace} (hw : Value.okWide Try.prog W r b0 31 v) (h : DataW.Trod enc Try.prog W 0 (fun _ => true) true 31 v d p) :
    ∃ z : List Int, v = .agg (zipInts opKinds z).toArray ∧ z.length = opKinds.length ∧ wfs opKinds z := take_val Try.underlying31 plain_op hw h
set_option maxRecDepth 100000 in
set_option maxHeartbeats 16000000 in
theorem modelBounds_go (ca cb j level K k hh v : Int) (w : World) :
    Calls Try.prog 7 #[.agg #[.int .i64 ca, .int .u64 cb], .int .i64 j, .int .i64 level, .agg #[.int .i64 K, .int .i64 k, .int .i64 hh, .int .i64 v]] w fun e w' => e = .returned (.bool true) ∧ Below w.heap.size w w' := by
  obtain ⟨W, hW⟩ : ∃ W, W = (w.alloc (.cells #[.int .i64 ca, .int .u64 cb] 41)).alloc (.cells #[.int .i64 K, .int .i64 k, .int .i64 hh, .int .i64 v] 31) := ⟨_, rfl⟩
  obtain ⟨cfb, hcfb⟩ : ∃ b, b = w.heap.size := ⟨_, rfl⟩
  obtain ⟨ob, hob⟩ : ∃ b, b = cfb + 1 := ⟨_, rfl⟩
  have HO : Hid (Only0 w W) := by rw [hW]; exact ((Only0.refl w).alloc _).alloc _
  have HBC : Hid (Blk W cfb 41 #[.int .i64 ca, .int .u64 cb]) := by rw [hW, hcfb]; exact (Blk.new _ _ _).alloc _
  have HBO : Hid (Blk W ob 31 #[.int .i64 K, .int .i64 k, .int .i64 hh, .int .i64 v]) := by rw [hW, hob, hcfb]; exact Blk.new' _ _ _ _ (by simp)
  have HCB := Lib.hid hcfb
  have HOB := Lib.hid hob
  clear hcfb hob
  have cf0 : W.cell? ⟨cfb, 0, none⟩ = some (.int .i64 ca) := HBC.out.cell 0
  have cf1 : W.cell? ⟨cfb, 1, none⟩ = some (.int .u64 cb) := HBC.out.cell 1
  cases hcf : confB ca cb with
  | false =>
    have HCF := Lib.hid hcf
    clear hcf
    go_enter Try.func7, Try.ntmps7
    go_upto_region 1 with (fail)
    rw [← hW, ← HCB.out, ← HOB.out]
    clear hW
    go_wp2_with fail
    refine (md_new_no ca cb _ HCF.out).mono ?_
    rintro e w3 ⟨rfl, o3⟩
    have HBC3 := Lib.hid (o3.blk HBC.out (fun h => h))
    have O3 := Lib.hid (HO.out.trans o3)
    clear cf0 cf1 o3 HBC
    have cf0 : w3.cell? ⟨cfb, 0, none⟩ = some (.int .i64 ca) := HBC3.out.cell 0
    have cf1 : w3.cell? ⟨cfb, 1, none⟩ = some (.int .u64 cb) := HBC3.out.cell 1
    go_wp2_with fail
    refine (ref_new_no ca cb _ HCF.out).mono ?_
    rintro e w4 ⟨rfl, o4⟩
    have O4 := Lib.hid (O3.out.trans o4)
    clear o4 cf0 cf1
    go_wp2_with fail
    refine (awake19_any _).mono ?_
    rintro e w5 ⟨rfl, o5⟩
    have O5 := Lib.hid (O4.out.trans o5)
    clear o5
    go_wp2_with fail
    go_ret
    exact ⟨rfl, O5.out.below⟩
  | true =>
    have HCF := Lib.hid hcf
    clear hcf
    go_enter Try.func7, Try.ntmps7
    go_upto_region 1 with (fail)
    rw [← hW, ← HCB.out, ← HOB.out]
    clear hW
    go_wp2_with fail
    refine (md_new ca cb _ HCF.out).mono ?_
    rintro e w3 ⟨m, rfl, h3, o3, -⟩
    have HBC3 := Lib.hid (o3.blk HBC.out (fun h => h))
    have HBO3 := Lib.hid (o3.blk HBO.out (fun h => h))
    have H3 := Lib.hid h3
    have O3 := Lib.hid o3
    have MLT := Lib.hid h3.under
    clear cf0 cf1 h3 o3
    have cf0 : w3.cell? ⟨cfb, 0, none⟩ = some (.int .i64 ca) := HBC3.out.cell 0
    have cf1 : w3.cell? ⟨cfb, 1, none⟩ = some (.int .u64 cb) := HBC3.out.cell 1
    go_wp2_with fail
    refine (ref_new ca cb _ HCF.out).mono ?_
    rintro e w4 ⟨n, rfl, h4, o4, hn⟩
    have HI0 := Lib.hid (LR2.made HCF.out HO.out H3.out O3.out h4 o4 hn)
    have BO := Lib.hid (o4.blk HBO3.out (fun h => h))
    have HNO : Hid (¬ (ob = m) ∧ ¬ (ob = n)) := Lib.hid ⟨fun e => by
      obtain ⟨A, h3⟩ := H3.out
      have h1 := h3.above m rfl
      have h2 := HBO.out.lt
      omega, fun e => by have h2 := HBO3.out.lt; omega⟩
    clear cf0 cf1 h4 o4 hn HBC3 H3 O3 HO HCF HBC HBO HBO3 MLT
    -- Begin
    obtain ⟨s0, hs0⟩ : ∃ s0, s0 = newSt ca cb := ⟨_, rfl⟩
    obtain ⟨r0, hr0⟩ : ∃ r0, r0 = newRSt ca cb := ⟨_, rfl⟩
    rw [← hs0, ← hr0] at HI0
    clear hs0 hr0
    obtain ⟨id, er, s1, hb⟩ : ∃ id er s1, s0.begin j level = (id, er, s1) := ⟨_, _, _, rfl⟩
    obtain ⟨r1, hr⟩ : ∃ r1, r1 = (r0.begin j level).2.2 := ⟨_, rfl⟩
    obtain ⟨e1, e2, e3⟩ := HI0.out.2.begin j level
    rw [hb] at e1 e2 e3
    have hrb : r0.begin j level = (id, er, r1) := by rw [hr]; exact Prod.ext e1 (Prod.ext e2 rfl)
    rw [← hr] at e3
    have HS1 := Lib.hid e3
    have CA := md_begin HI0.out.1.a.mat j level
    rw [hb] at CA
    have HRB := Lib.hid hrb
    clear hb hr e1 e2 e3 hrb
    go_wp2_with fail
    refine CA.mono ?_
    rintro e w5 ⟨P5, rfl, M5, o5, g5⟩
    have HC := Lib.hid (HI0.out.1.stepA M5 o5 g5)
    have BO5 := Lib.hid (o5.blk BO.out HNO.out.1)
    have HN5 : Hid (¬ P5 ob ∧ ¬ (ob = n)) := Lib.hid (And.intro (fun hp => by
      rcases g5 ob hp with h1 | h1
      · exact HNO.out.1 h1
      · have := BO.out.lt; omega) HNO.out.2)
    have CB := ref_begin HC.out.b j level
    rw [HRB.out] at CB
    clear CA M5 o5 g5 BO HI0 HNO HRB
    go_wp2_with fail
    refine CB.mono ?_
    rintro e w6 ⟨rfl, R6, o6⟩
    have HA := Lib.hid (HC.out.stepB R6 o6 (Grew.refl _ _))
    have BO6 := Lib.hid (o6.blk BO5.out HN5.out.2)
    clear CB R6 o6 BO5 HC
    -- Do
    obtain ⟨re, rv, ps, ro, rr, e2r, s', hd⟩ : ∃ re rv ps ro rr er s', s1.do_ j ⟨K, k, hh, v⟩ = (⟨re, rv, ps, ro, rr⟩, er, s') := ⟨_, _, _, _, _, _, _, rfl⟩
    obtain ⟨r', hr⟩ : ∃ r', r' = (r1.do_ j ⟨K, k, hh, v⟩).2.2 := ⟨_, rfl⟩
    obtain ⟨e1, e2, e3⟩ := HS1.out.do_ HA.out.spans j ⟨K, k, hh, v⟩
    rw [hd] at e1 e2 e3
    have hrd : r1.do_ j ⟨K, k, hh, v⟩ = (⟨re, rv, ps, ro, rr⟩, e2r, r') := by rw [hr]; exact Prod.ext e1 (Prod.ext e2 rfl)
    rw [← hr] at e3
    have HS' := Lib.hid e3
    have hps := do_few s1 j ⟨K, k, hh, v⟩
    rw [hd] at hps
    have HPS := Lib.hid (show ps.length ≤ 64 from hps)
    have CA := lr_doA HA.out.a.mat j K k hh v hd
    have HRD := Lib.hid hrd
    clear hd hr e1 e2 e3 hrd hps
    have y0 : w6.cell? ⟨ob, 0, none⟩ = some (.int .i64 K) := BO6.out.cell 0
    have y1 : w6.cell? ⟨ob, 1, none⟩ = some (.int .i64 k) := BO6.out.cell 1
    have y2 : w6.cell? ⟨ob, 2, none⟩ = some (.int .i64 hh) := BO6.out.cell 2
    have y3 : w6.cell? ⟨ob, 3, none⟩ = some (.int .i64 v) := BO6.out.cell 3
    go_wp2_with fail
    refine CA.mono ?_
    rintro e w7 ⟨P7, a3, c3, rfl, M7, o7, g7, p3, q3⟩
    have HC0 := Lib.hid (HA.out.stepA M7 o7 g7)
    have HC := Lib.hid (HC0.out.alloc (.cells #[.int .i64 re, .int .i64 rv, .slice a3 ps.length c3, .int .i64 ro, .int .i64 rr] 27))
    obtain ⟨w7b, hw7b⟩ : ∃ x, x = w7.alloc (.cells #[.int .i64 re, .int .i64 rv, .slice a3 ps.length c3, .int .i64 ro, .int .i64 rr] 27) := ⟨_, rfl⟩
    obtain ⟨nr, hnr⟩ : ∃ b, b = w7.heap.size := ⟨_, rfl⟩
    have ob3 : Only0 w7 w7b := by rw [hw7b]; exact (Only0.refl w7).alloc _
    have BO7 := Lib.hid (ob3.blk (o7.blk BO6.out HN5.out.1) (fun h => h))
    have BR : Hid (Blk w7b nr 27 #[.int .i64 re, .int .i64 rv, .slice a3 ps.length c3, .int .i64 ro, .int .i64 rr]) := by rw [hw7b, hnr]; exact Blk.new _ _ _
    have NR : Hid (¬ (nr = n)) := Lib.hid (fun hp => by have h1 := HC0.out.b.under n rfl; omega)
    have PP := Lib.hid (p3.only ob3 (fun _ _ h => h))
    have QQ : Hid (∀ y, a3 = some y → ¬ (y.block = n)) := Lib.hid (fun y hy hp => by have h1 := q3 y hy; have h2 := HA.out.b.under n rfl; omega)
    rw [← hw7b] at HC
    have CB := lr_doB HC.out.b j K k hh v HRD.out
    clear CA M7 o7 g7 p3 q3 ob3 BO6 HA HC0 HRD y0 y1 y2 y3
    go_upto_region 10 with (fail)
    rw [← hw7b, ← hnr]
    clear hw7b hnr
    have y0 : w7b.cell? ⟨ob, 0, none⟩ = some (.int .i64 K) := BO7.out.cell 0
    have y1 : w7b.cell? ⟨ob, 1, none⟩ = some (.int .i64 k) := BO7.out.cell 1
    have y2 : w7b.cell? ⟨ob, 2, none⟩ = some (.int .i64 hh) := BO7.out.cell 2
    have y3 : w7b.cell? ⟨ob, 3, none⟩ = some (.int .i64 v) := BO7.out.cell 3
    go_wp2_with fail
    refine CB.mono ?_
    rintro e w8 ⟨Q8, a4, c4, rfl, R8, o8, g8, p4, q4⟩
    have HE0 := Lib.hid (HC.out.stepB R8 o8 g8)
    obtain ⟨w8b, hw8b⟩ : ∃ x, x = w8.alloc (.cells #[.int .i64 re, .int .i64 rv, .slice a4 ps.length c4, .int .i64 ro, .int .i64 rr] 27) := ⟨_, rfl⟩
    obtain ⟨nt, hnt⟩ : ∃ b, b = w8.heap.size := ⟨_, rfl⟩
    have ob4 : Only0 w8 w8b := by rw [hw8b]; exact (Only0.refl w8).alloc _
    have HE := Lib.hid (HE0.out.only0 ob4)
    have BR4 : Hid (Blk w8b nr 27 #[.int .i64 re, .int .i64 rv, .slice a3 ps.length c3, .int .i64 ro, .int .i64 rr]) := ob4.blk (o8.blk BR.out NR.out) (fun h => h)
    have BT4 : Hid (Blk w8b nt 27 #[.int .i64 re, .int .i64 rv, .slice a4 ps.length c4, .int .i64 ro, .int .i64 rr]) := by rw [hw8b, hnt]; exact Blk.new _ _ _
    have PP4 := Lib.hid (((PP.out.only o8 QQ.out).only ob4 (fun _ _ h => h)).only (Only0.refl w8b).drew (fun _ _ h => h))
    have PQ4 := Lib.hid ((p4.only ob4 (fun _ _ h => h)).only (Only0.refl w8b).drew (fun _ _ h => h))
    clear CB R8 o8 g8 p4 q4 ob4 BO7 HC HN5 BR NR PP QQ HE0 y0 y1 y2 y3
    go_upto_region 11 with (fail)
    rw [← hw8b, ← hnt]
    clear hw8b hnt
    have x0 : w8b.cell? ⟨nr, 0, none⟩ = some (.int .i64 re) := BR4.out.cell 0
    have x1 : w8b.cell? ⟨nr, 1, none⟩ = some (.int .i64 rv) := BR4.out.cell 1
    have x2 : w8b.cell? ⟨nr, 2, none⟩ = some (.slice a3 ps.length c3) := BR4.out.cell 2
    have x3 : w8b.cell? ⟨nr, 3, none⟩ = some (.int .i64 ro) := BR4.out.cell 3
    have x4 : w8b.cell? ⟨nr, 4, none⟩ = some (.int .i64 rr) := BR4.out.cell 4
    have z0 : w8b.cell? ⟨nt, 0, none⟩ = some (.int .i64 re) := BT4.out.cell 0
    have z1 : w8b.cell? ⟨nt, 1, none⟩ = some (.int .i64 rv) := BT4.out.cell 1
    have z2 : w8b.cell? ⟨nt, 2, none⟩ = some (.slice a4 ps.length c4) := BT4.out.cell 2
    have z3 : w8b.cell? ⟨nt, 3, none⟩ = some (.int .i64 ro) := BT4.out.cell 3
    have z4 : w8b.cell? ⟨nt, 4, none⟩ = some (.int .i64 rr) := BT4.out.cell 4
    obtain ⟨va, vc, -, m51⟩ := HE.out.cells HS'.out
    have KEEP : Hid (∀ w', Only0 w8b w' → w'.cell? ⟨nr, 0, none⟩ = some (.int .i64 re) ∧ w'.cell? ⟨nr, 1, none⟩ = some (.int .i64 rv) ∧ w'.cell? ⟨nr, 2, none⟩ = some (.slice a3 ps.length c3) ∧ w'.cell? ⟨nr, 3, none⟩ = some (.int .i64 ro) ∧ w'.cell? ⟨nr, 4, none⟩ = some (.int .i64 rr) ∧ w'.cell? ⟨nt, 0, none⟩ = some (.int .i64 re) ∧ w'.cell? ⟨nt, 1, none⟩ = some (.int .i64 rv) ∧ w'.cell? ⟨nt, 2, none⟩ = some (.slice a4 ps.length c4) ∧ w'.cell? ⟨nt, 3, none⟩ = some (.int .i64 ro) ∧ w'.cell? ⟨nt, 4, none⟩ = some (.int .i64 rr) ∧ w'.cell? ⟨n, 51, none⟩ = some (.int .u64 s'.now)) := Lib.hid (fun w' o => by
      have c2 : ∀ b i v, w8b.cell? ⟨b, i, none⟩ = some v → w'.cell? ⟨b, i, none⟩ = some v := fun b i v hc => (World.cell?_of_block (o.block b (block_lt_of_cell hc) (fun h => h))).trans hc
      exact ⟨c2 _ _ _ x0, c2 _ _ _ x1, c2 _ _ _ x2, c2 _ _ _ x3, c2 _ _ _ x4, c2 _ _ _ z0, c2 _ _ _ z1, c2 _ _ _ z2, c2 _ _ _ z3, c2 _ _ _ z4, c2 _ _ _ m51⟩)
    have HF := Lib.hid (And.intro HE.out HS'.out)
    obtain ⟨bl, bi, blv, bst, bbg, bop, hst⟩ := statV_shape r' j
    have HST := Lib.hid hst
    have q0 : Only0 w8b w8b.drew := (Only0.refl w8b).drew
    have SNQ := fun w => stat_eql bl bi blv bst bbg bop w
    have SGT := guardt_stat
    clear HE HS' BR4 BT4 hst
    refine wp_region_held_drew (S := (fun w' => w'.cell? ⟨nr, 0, none⟩ = some (.int .i64 re) ∧ w'.cell? ⟨nr, 1, none⟩ = some (.int .i64 rv) ∧ w'.cell? ⟨nr, 2, none⟩ = some (.slice a3 ps.length c3) ∧ w'.cell? ⟨nr, 3, none⟩ = some (.int .i64 ro) ∧ w'.cell? ⟨nr, 4, none⟩ = some (.int .i64 rr) ∧ w'.cell? ⟨nt, 0, none⟩ = some (.int .i64 re) ∧ w'.cell? ⟨nt, 1, none⟩ = some (.int .i64 rv) ∧ w'.cell? ⟨nt, 2, none⟩ = some (.slice a4 ps.length c4) ∧ w'.cell? ⟨nt, 3, none⟩ = some (.int .i64 ro) ∧ w'.cell? ⟨nt, 4, none⟩ = some (.int .i64 rr) ∧ w'.cell? ⟨n, 51, none⟩ = some (.int .u64 s'.now))) (by kernel_rfl) ?_ (fun hHeld => ?_)
    · first | exact ⟨x0, x1, x2, x3, x4, z0, z1, z2, z3, z4, m51⟩ | exact KEEP.out _ (by assumption)
    refine wpAnyH_take (i := 0) (v := ?_) rfl (by kernel_rfl) (by kernel_rfl) (by kernel_rfl) (fun _ _ _ h => h) (Or.inl ⟨by rfl, ?_⟩) (by assumption) ?_; rotate_left; (focus (intro w hSw; (try dsimp only at hSw); go_simp; try with_reducible rfl))
    try simp only [Act.put, List.getElem_toArray, List.getElem_cons_zero, List.getElem_cons_succ, List.setIfInBounds_toArray, List.set_cons_zero, List.set_cons_succ]
    refine wpAnyH_take (i := 1) (v := ?_) rfl (by kernel_rfl) (by kernel_rfl) (by kernel_rfl) (fun _ _ _ h => h) (Or.inl ⟨by rfl, ?_⟩) (by assumption) ?_; rotate_left; (focus (intro w hSw; (try dsimp only at hSw); go_simp; try with_reducible rfl))
    try simp only [Act.put, List.getElem_toArray, List.getElem_cons_zero, List.getElem_cons_succ, List.setIfInBounds_toArray, List.set_cons_zero, List.set_cons_succ]
    refine wpAnyH_take (i := 2) (v := ?_) rfl (by kernel_rfl) (by kernel_rfl) (by kernel_rfl) (fun _ _ _ h => h) (Or.inl ⟨by rfl, ?_⟩) (by assumption) ?_; rotate_left; (focus (intro w hSw; (try dsimp only at hSw); go_simp; try with_reducible rfl))
    try simp only [Act.put, List.getElem_toArray, List.getElem_cons_zero, List.getElem_cons_succ, List.setIfInBounds_toArray, List.set_cons_zero, List.set_cons_succ]
    refine wpAnyH_take (i := 3) (v := ?_) rfl (by kernel_rfl) (by kernel_rfl) (by kernel_rfl) (fun _ _ _ h => h) (Or.inl ⟨by rfl, ?_⟩) (by assumption) ?_; rotate_left; (focus (intro w hSw; (try dsimp only at hSw); go_simp; try with_reducible rfl))
    try simp only [Act.put, List.getElem_toArray, List.getElem_cons_zero, List.getElem_cons_succ, List.setIfInBounds_toArray, List.set_cons_zero, List.set_cons_succ]
    first | (refine wpAnyH_take (i := 4) rfl (by kernel_rfl) (by kernel_rfl) (by kernel_rfl) (fun _ _ _ h => h) (Or.inr ⟨by rfl, rfl⟩) (by assumption) ?_) | (refine wpAnyH_take (i := 4) (v := ?_) rfl (by kernel_rfl) (by kernel_rfl) (by kernel_rfl) (fun _ _ _ h => h) (Or.inl ⟨by rfl, ?_⟩) (by assumption) ?_; rotate_left; (focus (intro w hSw; (try dsimp only at hSw); go_simp; try with_reducible rfl)))
    try simp only [Act.put, List.getElem_toArray, List.getElem_cons_zero, List.getElem_cons_succ, List.setIfInBounds_toArray, List.set_cons_zero, List.set_cons_succ]
    first | (refine wpAnyH_take (i := 5) rfl (by kernel_rfl) (by kernel_rfl) (by kernel_rfl) (fun _ _ _ h => h) (Or.inr ⟨by rfl, rfl⟩) (by assumption) ?_) | (refine wpAnyH_take (i := 5) (v := ?_) rfl (by kernel_rfl) (by kernel_rfl) (by kernel_rfl) (fun _ _ _ h => h) (Or.inl ⟨by rfl, ?_⟩) (by assumption) ?_; rotate_left; (focus (intro w hSw; (try dsimp only at hSw); go_simp; try with_reducible rfl)))
    try simp only [Act.put, List.getElem_toArray, List.getElem_cons_zero, List.getElem_cons_succ, List.setIfInBounds_toArray, List.set_cons_zero, List.set_cons_succ]
    first | (refine wpAnyH_take (i := 6) rfl (by kernel_rfl) (by kernel_rfl) (by kernel_rfl) (fun _ _ _ h => h) (Or.inr ⟨by rfl, rfl⟩) (by assumption) ?_) | (refine wpAnyH_take (i := 6) (v := ?_) rfl (by kernel_rfl) (by kernel_rfl) (by kernel_rfl) (fun _ _ _ h => h) (Or.inl ⟨by rfl, ?_⟩) (by assumption) ?_; rotate_left; (focus (intro w hSw; (try dsimp only at hSw); go_simp; try with_reducible rfl)))
    try simp only [Act.put, List.getElem_toArray, List.getElem_cons_zero, List.getElem_cons_succ, List.setIfInBounds_toArray, List.set_cons_zero, List.set_cons_succ]
    refine wpAnyH_take (i := 7) (v := ?_) rfl (by kernel_rfl) (by kernel_rfl) (by kernel_rfl) (fun _ _ _ h => h) (Or.inl ⟨by rfl, ?_⟩) (by assumption) ?_; rotate_left; (focus (intro w hSw; (try dsimp only at hSw); go_simp; try with_reducible rfl))
    try simp only [Act.put, List.getElem_toArray, List.getElem_cons_zero, List.getElem_cons_succ, List.setIfInBounds_toArray, List.set_cons_zero, List.set_cons_succ]
    refine wpAnyH_take (i := 8) (v := ?_) rfl (by kernel_rfl) (by kernel_rfl) (by kernel_rfl) (fun _ _ _ h => h) (Or.inl ⟨by rfl, ?_⟩) (by assumption) ?_; rotate_left; (focus (intro w hSw; (try dsimp only at hSw); go_simp; try with_reducible rfl))
    try simp only [Act.put, List.getElem_toArray, List.getElem_cons_zero, List.getElem_cons_succ, List.setIfInBounds_toArray, List.set_cons_zero, List.set_cons_succ]
    first | (refine wpAnyH_take (i := 9) rfl (by kernel_rfl) (by kernel_rfl) (by kernel_rfl) (fun _ _ _ h => h) (Or.inr ⟨by rfl, rfl⟩) (by assumption) ?_) | (refine wpAnyH_take (i := 9) (v := ?_) rfl (by kernel_rfl) (by kernel_rfl) (by kernel_rfl) (fun _ _ _ h => h) (Or.inl ⟨by rfl, ?_⟩) (by assumption) ?_; rotate_left; (focus (intro w hSw; (try dsimp only at hSw); go_simp; try with_reducible rfl)))
    try simp only [Act.put, List.getElem_toArray, List.getElem_cons_zero, List.getElem_cons_succ, List.setIfInBounds_toArray, List.set_cons_zero, List.set_cons_succ]
    first | (refine wpAnyH_take (i := 10) rfl (by kernel_rfl) (by kernel_rfl) (by kernel_rfl) (fun _ _ _ h => h) (Or.inr ⟨by rfl, rfl⟩) (by assumption) ?_) | (refine wpAnyH_take (i := 10) (v := ?_) rfl (by kernel_rfl) (by kernel_rfl) (by kernel_rfl) (fun _ _ _ h => h) (Or.inl ⟨by rfl, ?_⟩) (by assumption) ?_; rotate_left; (focus (intro w hSw; (try dsimp only at hSw); go_simp; try with_reducible rfl)))
    try simp only [Act.put, List.getElem_toArray, List.getElem_cons_zero, List.getElem_cons_succ, List.setIfInBounds_toArray, List.set_cons_zero, List.set_cons_succ]
    refine wpAnyH_ready (rs := [11]) (by kernel_rfl) (by simp) ?_
    refine AllReadyH.cons rfl (fun K hK => ?_) AllReadyH.nil
    try simp only [List.getElem_toArray, List.getElem_cons_zero, List.getElem_cons_succ]
    go_simp
    (refine (sameRes_same re rv ro rr a3 a4 c3 c4 ps _ PP4.out PQ4.out (by have := HPS.out; omega)).mono ?_; rintro e u1 ⟨rfl, uo1⟩; have q1 := q0.trans uo1)
    try go_wp2_with fail
    refine hK.out _ _ ?_ (fun hHeld => ?_)
    · first | exact ⟨x0, x1, x2, x3, x4, z0, z1, z2, z3, z4, m51⟩ | exact KEEP.out _ (by assumption)
    clear hK K
    try simp only [Act.put, List.getElem_toArray, List.getElem_cons_zero, List.getElem_cons_succ, List.setIfInBounds_toArray, List.set_cons_zero, List.set_cons_succ]
    refine wpAnyH_take (i := 12) (v := ?_) rfl (by kernel_rfl) (by kernel_rfl) (by kernel_rfl) (fun _ _ _ h => h) (Or.inl ⟨by rfl, ?_⟩) (by assumption) ?_; rotate_left; (focus (intro w hSw; (try dsimp only at hSw); go_simp; try with_reducible rfl))
    try simp only [Act.put, List.getElem_toArray, List.getElem_cons_zero, List.getElem_cons_succ, List.setIfInBounds_toArray, List.set_cons_zero, List.set_cons_succ]
    refine wpAnyH_take (i := 13) (v := ?_) rfl (by kernel_rfl) (by kernel_rfl) (by kernel_rfl) (fun _ _ _ h => h) (Or.inl ⟨by rfl, ?_⟩) (by assumption) ?_; rotate_left; (focus (intro w hSw; (try dsimp only at hSw); go_simp; try with_reducible rfl))
    try simp only [Act.put, List.getElem_toArray, List.getElem_cons_zero, List.getElem_cons_succ, List.setIfInBounds_toArray, List.set_cons_zero, List.set_cons_succ]
    first | (refine wpAnyH_take (i := 14) rfl (by kernel_rfl) (by kernel_rfl) (by kernel_rfl) (fun _ _ _ h => h) (Or.inr ⟨by rfl, rfl⟩) (by assumption) ?_) | (refine wpAnyH_take (i := 14) (v := ?_) rfl (by kernel_rfl) (by kernel_rfl) (by kernel_rfl) (fun _ _ _ h => h) (Or.inl ⟨by rfl, ?_⟩) (by assumption) ?_; rotate_left; (focus (intro w hSw; (try dsimp only at hSw); go_simp; try with_reducible rfl)))
    try simp only [Act.put, List.getElem_toArray, List.getElem_cons_zero, List.getElem_cons_succ, List.setIfInBounds_toArray, List.set_cons_zero, List.set_cons_succ]
    first | (refine wpAnyH_take (i := 15) rfl (by kernel_rfl) (by kernel_rfl) (by kernel_rfl) (fun _ _ _ h => h) (Or.inr ⟨by rfl, rfl⟩) (by assumption) ?_) | (refine wpAnyH_take (i := 15) (v := ?_) rfl (by kernel_rfl) (by kernel_rfl) (by kernel_rfl) (fun _ _ _ h => h) (Or.inl ⟨by rfl, ?_⟩) (by assumption) ?_; rotate_left; (focus (intro w hSw; (try dsimp only at hSw); go_simp; try with_reducible rfl)))
    try simp only [Act.put, List.getElem_toArray, List.getElem_cons_zero, List.getElem_cons_succ, List.setIfInBounds_toArray, List.set_cons_zero, List.set_cons_succ]
    first | (refine wpAnyH_take (i := 16) rfl (by kernel_rfl) (by kernel_rfl) (by kernel_rfl) (fun _ _ _ h => h) (Or.inr ⟨by rfl, rfl⟩) (by assumption) ?_) | (refine wpAnyH_take (i := 16) (v := ?_) rfl (by kernel_rfl) (by kernel_rfl) (by kernel_rfl) (fun _ _ _ h => h) (Or.inl ⟨by rfl, ?_⟩) (by assumption) ?_; rotate_left; (focus (intro w hSw; (try dsimp only at hSw); go_simp; try with_reducible rfl)))
    try simp only [Act.put, List.getElem_toArray, List.getElem_cons_zero, List.getElem_cons_succ, List.setIfInBounds_toArray, List.set_cons_zero, List.set_cons_succ]
    refine wpAnyH_take (i := 17) (v := ?_) rfl (by kernel_rfl) (by kernel_rfl) (by kernel_rfl) (fun _ _ _ h => h) (Or.inl ⟨by rfl, ?_⟩) (by assumption) ?_; rotate_left; (focus (intro w hSw; (try dsimp only at hSw); go_simp; try with_reducible rfl))
    try simp only [Act.put, List.getElem_toArray, List.getElem_cons_zero, List.getElem_cons_succ, List.setIfInBounds_toArray, List.set_cons_zero, List.set_cons_succ]
    refine wpAnyH_take (i := 18) (v := ?_) rfl (by kernel_rfl) (by kernel_rfl) (by kernel_rfl) (fun _ _ _ h => h) (Or.inl ⟨by rfl, ?_⟩) (by assumption) ?_; rotate_left; (focus (intro w hSw; (try dsimp only at hSw); go_simp; try with_reducible rfl))
    try simp only [Act.put, List.getElem_toArray, List.getElem_cons_zero, List.getElem_cons_succ, List.setIfInBounds_toArray, List.set_cons_zero, List.set_cons_succ]
    first | (refine wpAnyH_take (i := 19) rfl (by kernel_rfl) (by kernel_rfl) (by kernel_rfl) (fun _ _ _ h => h) (Or.inr ⟨by rfl, rfl⟩) (by assumption) ?_) | (refine wpAnyH_take (i := 19) (v := ?_) rfl (by kernel_rfl) (by kernel_rfl) (by kernel_rfl) (fun _ _ _ h => h) (Or.inl ⟨by rfl, ?_⟩) (by assumption) ?_; rotate_left; (focus (intro w hSw; (try dsimp only at hSw); go_simp; try with_reducible rfl)))
    try simp only [Act.put, List.getElem_toArray, List.getElem_cons_zero, List.getElem_cons_succ, List.setIfInBounds_toArray, List.set_cons_zero, List.set_cons_succ]
    first | (refine wpAnyH_take (i := 21) rfl (by kernel_rfl) (by kernel_rfl) (by kernel_rfl) (fun _ _ _ h => h) (Or.inr ⟨by rfl, rfl⟩) (by assumption) ?_) | (refine wpAnyH_take (i := 21) (v := ?_) rfl (by kernel_rfl) (by kernel_rfl) (by kernel_rfl) (fun _ _ _ h => h) (Or.inl ⟨by rfl, ?_⟩) (by assumption) ?_; rotate_left; (focus (intro w hSw; (try dsimp only at hSw); go_simp; try with_reducible rfl)))
    try simp only [Act.put, List.getElem_toArray, List.getElem_cons_zero, List.getElem_cons_succ, List.setIfInBounds_toArray, List.set_cons_zero, List.set_cons_succ]
    first | (refine wpAnyH_take (i := 22) rfl (by kernel_rfl) (by kernel_rfl) (by kernel_rfl) (fun _ _ _ h => h) (Or.inr ⟨by rfl, rfl⟩) (by assumption) ?_) | (refine wpAnyH_take (i := 22) (v := ?_) rfl (by kernel_rfl) (by kernel_rfl) (by kernel_rfl) (fun _ _ _ h => h) (Or.inl ⟨by rfl, ?_⟩) (by assumption) ?_; rotate_left; (focus (intro w hSw; (try dsimp only at hSw); go_simp; try with_reducible rfl)))
    try simp only [Act.put, List.getElem_toArray, List.getElem_cons_zero, List.getElem_cons_succ, List.setIfInBounds_toArray, List.set_cons_zero, List.set_cons_succ]
    first | (refine wpAnyH_take (i := 23) rfl (by kernel_rfl) (by kernel_rfl) (by kernel_rfl) (fun _ _ _ h => h) (Or.inr ⟨by rfl, rfl⟩) (by assumption) ?_) | (refine wpAnyH_take (i := 23) (v := ?_) rfl (by kernel_rfl) (by kernel_rfl) (by kernel_rfl) (fun _ _ _ h => h) (Or.inl ⟨by rfl, ?_⟩) (by assumption) ?_; rotate_left; (focus (intro w hSw; (try dsimp only at hSw); go_simp; try with_reducible rfl)))
    try simp only [Act.put, List.getElem_toArray, List.getElem_cons_zero, List.getElem_cons_succ, List.setIfInBounds_toArray, List.set_cons_zero, List.set_cons_succ]
    first | (refine wpAnyH_take (i := 24) rfl (by kernel_rfl) (by kernel_rfl) (by kernel_rfl) (fun _ _ _ h => h) (Or.inr ⟨by rfl, rfl⟩) (by assumption) ?_) | (refine wpAnyH_take (i := 24) (v := ?_) rfl (by kernel_rfl) (by kernel_rfl) (by kernel_rfl) (fun _ _ _ h => h) (Or.inl ⟨by rfl, ?_⟩) (by assumption) ?_; rotate_left; (focus (intro w hSw; (try dsimp only at hSw); go_simp; try with_reducible rfl)))
    try simp only [Act.put, List.getElem_toArray, List.getElem_cons_zero, List.getElem_cons_succ, List.setIfInBounds_toArray, List.set_cons_zero, List.set_cons_succ]
    refine wpAnyH_ready (rs := [20]) (by kernel_rfl) (by simp) ?_
    refine AllReadyH.cons rfl (fun K hK => ?_) AllReadyH.nil
    try simp only [List.getElem_toArray, List.getElem_cons_zero, List.getElem_cons_succ]
    go_simp
    (refine (md_now (HF.out.1.a.mat.only0 (by assumption))).mono ?_; rintro e u2 ⟨rfl, rfl⟩)
    try go_wp2_with fail
    refine hK.out _ _ ?_ (fun hHeld => ?_)
    · first | exact ⟨x0, x1, x2, x3, x4, z0, z1, z2, z3, z4, m51⟩ | exact KEEP.out _ (by assumption)
    clear hK K
    try simp only [Act.put, List.getElem_toArray, List.getElem_cons_zero, List.getElem_cons_succ, List.setIfInBounds_toArray, List.set_cons_zero, List.set_cons_succ]
    first | (refine wpAnyH_take (i := 25) rfl (by kernel_rfl) (by kernel_rfl) (by kernel_rfl) (fun _ _ _ h => h) (Or.inr ⟨by rfl, rfl⟩) (by assumption) ?_) | (refine wpAnyH_take (i := 25) (v := ?_) rfl (by kernel_rfl) (by kernel_rfl) (by kernel_rfl) (fun _ _ _ h => h) (Or.inl ⟨by rfl, ?_⟩) (by assumption) ?_; rotate_left; (focus (intro w hSw; (try dsimp only at hSw); go_simp; try with_reducible rfl)))
    try simp only [Act.put, List.getElem_toArray, List.getElem_cons_zero, List.getElem_cons_succ, List.setIfInBounds_toArray, List.set_cons_zero, List.set_cons_succ]
    refine wpAnyH_take (i := 26) (v := ?_) rfl (by kernel_rfl) (by kernel_rfl) (by kernel_rfl) (fun _ _ _ h => h) (Or.inl ⟨by rfl, ?_⟩) (by assumption) ?_; rotate_left; (focus (intro w hSw; (try dsimp only at hSw); go_simp; try with_reducible rfl))
    try simp only [Act.put, List.getElem_toArray, List.getElem_cons_zero, List.getElem_cons_succ, List.setIfInBounds_toArray, List.set_cons_zero, List.set_cons_succ]
    refine wpAnyH_take (i := 27) (v := ?_) rfl (by kernel_rfl) (by kernel_rfl) (by kernel_rfl) (fun _ _ _ h => h) (Or.inl ⟨by rfl, ?_⟩) (by assumption) ?_; rotate_left; (focus (intro w hSw; (try dsimp only at hSw); go_simp; try with_reducible rfl))
    try simp only [Act.put, List.getElem_toArray, List.getElem_cons_zero, List.getElem_cons_succ, List.setIfInBounds_toArray, List.set_cons_zero, List.set_cons_succ]
    first | (refine wpAnyH_take (i := 28) rfl (by kernel_rfl) (by kernel_rfl) (by kernel_rfl) (fun _ _ _ h => h) (Or.inr ⟨by rfl, rfl⟩) (by assumption) ?_) | (refine wpAnyH_take (i := 28) (v := ?_) rfl (by kernel_rfl) (by kernel_rfl) (by kernel_rfl) (fun _ _ _ h => h) (Or.inl ⟨by rfl, ?_⟩) (by assumption) ?_; rotate_left; (focus (intro w hSw; (try dsimp only at hSw); go_simp; try with_reducible rfl)))
    try simp only [Act.put, List.getElem_toArray, List.getElem_cons_zero, List.getElem_cons_succ, List.setIfInBounds_toArray, List.set_cons_zero, List.set_cons_succ]
    first | (refine wpAnyH_take (i := 29) rfl (by kernel_rfl) (by kernel_rfl) (by kernel_rfl) (fun _ _ _ h => h) (Or.inr ⟨by rfl, rfl⟩) (by assumption) ?_) | (refine wpAnyH_take (i := 29) (v := ?_) rfl (by kernel_rfl) (by kernel_rfl) (by kernel_rfl) (fun _ _ _ h => h) (Or.inl ⟨by rfl, ?_⟩) (by assumption) ?_; rotate_left; (focus (intro w hSw; (try dsimp only at hSw); go_simp; try with_reducible rfl)))
    try simp only [Act.put, List.getElem_toArray, List.getElem_cons_zero, List.getElem_cons_succ, List.setIfInBounds_toArray, List.set_cons_zero, List.set_cons_succ]
    first | (refine wpAnyH_take (i := 31) rfl (by kernel_rfl) (by kernel_rfl) (by kernel_rfl) (fun _ _ _ h => h) (Or.inr ⟨by rfl, rfl⟩) (by assumption) ?_) | (refine wpAnyH_take (i := 31) (v := ?_) rfl (by kernel_rfl) (by kernel_rfl) (by kernel_rfl) (fun _ _ _ h => h) (Or.inl ⟨by rfl, ?_⟩) (by assumption) ?_; rotate_left; (focus (intro w hSw; (try dsimp only at hSw); go_simp; try with_reducible rfl)))
    try simp only [Act.put, List.getElem_toArray, List.getElem_cons_zero, List.getElem_cons_succ, List.setIfInBounds_toArray, List.set_cons_zero, List.set_cons_succ]
    first | (refine wpAnyH_take (i := 32) rfl (by kernel_rfl) (by kernel_rfl) (by kernel_rfl) (fun _ _ _ h => h) (Or.inr ⟨by rfl, rfl⟩) (by assumption) ?_) | (refine wpAnyH_take (i := 32) (v := ?_) rfl (by kernel_rfl) (by kernel_rfl) (by kernel_rfl) (fun _ _ _ h => h) (Or.inl ⟨by rfl, ?_⟩) (by assumption) ?_; rotate_left; (focus (intro w hSw; (try dsimp only at hSw); go_simp; try with_reducible rfl)))
    try simp only [Act.put, List.getElem_toArray, List.getElem_cons_zero, List.getElem_cons_succ, List.setIfInBounds_toArray, List.set_cons_zero, List.set_cons_succ]
    refine wpAnyH_ready (rs := [30]) (by kernel_rfl) (by simp) ?_
    refine AllReadyH.cons rfl (fun K hK => ?_) AllReadyH.nil
    try simp only [List.getElem_toArray, List.getElem_cons_zero, List.getElem_cons_succ]
    go_simp
    (refine (md_statusR (HF.out.1.a.mat.only0 (by assumption)) HF.out.2 j).mono ?_; rw [HST.out]; rintro e u6 ⟨rfl, uo6⟩; have q6 := q1.trans uo6)
    try go_wp2_with fail
    refine hK.out _ _ ?_ (fun hHeld => ?_)
    · first | exact ⟨x0, x1, x2, x3, x4, z0, z1, z2, z3, z4, m51⟩ | exact KEEP.out _ (by assumption)
    clear hK K
    try simp only [Act.put, List.getElem_toArray, List.getElem_cons_zero, List.getElem_cons_succ, List.setIfInBounds_toArray, List.set_cons_zero, List.set_cons_succ]
    refine wpAnyH_ready (rs := [33]) (by kernel_rfl) (by simp) ?_
    refine AllReadyH.cons rfl (fun K hK => ?_) AllReadyH.nil
    try simp only [List.getElem_toArray, List.getElem_cons_zero, List.getElem_cons_succ]
    go_simp
    (refine (ref_status (HF.out.1.b.only0' (by assumption)) j).mono ?_; rw [HST.out]; rintro e u7 ⟨rfl, uo7⟩; have q7 := q6.trans uo7)
    try go_wp2_with fail
    refine hK.out _ _ ?_ (fun hHeld => ?_)
    · first | exact ⟨x0, x1, x2, x3, x4, z0, z1, z2, z3, z4, m51⟩ | exact KEEP.out _ (by assumption)
    clear hK K
    try simp only [Act.put, List.getElem_toArray, List.getElem_cons_zero, List.getElem_cons_succ, List.setIfInBounds_toArray, List.set_cons_zero, List.set_cons_succ]
    first | (refine wpAnyH_take (i := 34) rfl (by kernel_rfl) (by kernel_rfl) (by kernel_rfl) (fun _ _ _ h => h) (Or.inr ⟨by rfl, rfl⟩) (by assumption) ?_) | (refine wpAnyH_take (i := 34) (v := ?_) rfl (by kernel_rfl) (by kernel_rfl) (by kernel_rfl) (fun _ _ _ h => h) (Or.inl ⟨by rfl, ?_⟩) (by assumption) ?_; rotate_left; (focus (intro w hSw; (try dsimp only at hSw); go_simp; try with_reducible rfl)))
    try simp only [Act.put, List.getElem_toArray, List.getElem_cons_zero, List.getElem_cons_succ, List.setIfInBounds_toArray, List.set_cons_zero, List.set_cons_succ]
    refine wpAnyH_take (i := 35) (v := ?_) rfl (by kernel_rfl) (by kernel_rfl) (by kernel_rfl) (fun _ _ _ h => h) (Or.inl ⟨by rfl, ?_⟩) (by assumption) ?_; rotate_left; (focus (intro w hSw; (try dsimp only at hSw); go_simp; try with_reducible rfl))
    try simp only [Act.put, List.getElem_toArray, List.getElem_cons_zero, List.getElem_cons_succ, List.setIfInBounds_toArray, List.set_cons_zero, List.set_cons_succ]
    refine wpAnyH_take (i := 36) (v := ?_) rfl (by kernel_rfl) (by kernel_rfl) (by kernel_rfl) (fun _ _ _ h => h) (Or.inl ⟨by rfl, ?_⟩) (by assumption) ?_; rotate_left; (focus (intro w hSw; (try dsimp only at hSw); go_simp; try with_reducible rfl))
    try simp only [Act.put, List.getElem_toArray, List.getElem_cons_zero, List.getElem_cons_succ, List.setIfInBounds_toArray, List.set_cons_zero, List.set_cons_succ]
    refine wpAnyH_ready (rs := [37]) (by kernel_rfl) (by simp) ?_
    refine AllReadyH.cons rfl (fun K hK => ?_) AllReadyH.nil
    try simp only [List.getElem_toArray, List.getElem_cons_zero, List.getElem_cons_succ]
    go_simp
    (refine (awake19_any _).mono ?_; rintro e u8 ⟨rfl, uo8⟩; have q8 := q7.trans uo8)
    try go_wp2_with fail
    refine hK.out _ _ ?_ (fun hHeld => ?_)
    · first | exact ⟨x0, x1, x2, x3, x4, z0, z1, z2, z3, z4, m51⟩ | exact KEEP.out _ (by assumption)
    clear hK K
    try simp only [Act.put, List.getElem_toArray, List.getElem_cons_zero, List.getElem_cons_succ, List.setIfInBounds_toArray, List.set_cons_zero, List.set_cons_succ]
    refine wpAnyH_take (i := 38) (v := ?_) rfl (by kernel_rfl) (by kernel_rfl) (by kernel_rfl) (fun _ _ _ h => h) (Or.inl ⟨by rfl, ?_⟩) (by assumption) ?_; rotate_left; (focus (intro w hSw; (try dsimp only at hSw); go_simp; try with_reducible rfl))
    try simp only [Act.put, List.getElem_toArray, List.getElem_cons_zero, List.getElem_cons_succ, List.setIfInBounds_toArray, List.set_cons_zero, List.set_cons_succ]
    refine wpAnyH_take (i := 39) (v := ?_) rfl (by kernel_rfl) (by kernel_rfl) (by kernel_rfl) (fun _ _ _ h => h) (Or.inl ⟨by rfl, ?_⟩) (by assumption) ?_; rotate_left; (focus (intro w hSw; (try dsimp only at hSw); go_simp; try with_reducible rfl))
    try simp only [Act.put, List.getElem_toArray, List.getElem_cons_zero, List.getElem_cons_succ, List.setIfInBounds_toArray, List.set_cons_zero, List.set_cons_succ]
    refine wpAnyH_done (by kernel_rfl) ?_ _
    have HO8 := Lib.hid (HF.out.1.a.o.trans q8)
    clear HF KEEP
    go_wp2_with fail
    go_ret
    exact ⟨rfl, HO8.out.below⟩
theorem modelBounds_walk (z0 : List Int) (a1 a2 : Int) (z3 : List Int) (w : World) (i0 : z0.length = confKinds.length ∧ wfs confKinds z0) (_w1 : (Lit.int .i64 a1).wf = true) (_w2 : (Lit.int .i64 a2).wf = true) (i3 : z3.length = opKinds.length ∧ wfs opKinds z3) :
    Calls Try.prog 7 #[.agg (zipInts confKinds z0).toArray, .int .i64 a1, .int .i64 a2, .agg (zipInts opKinds z3).toArray] w fun e w' => e = .returned (.bool true) ∧ Below w.heap.size w w' := by
  obtain ⟨h0, _⟩ := i0
  obtain ⟨h3, _⟩ := i3
  match z0, h0, z3, h3 with
  | [ca, cb], _, [K, k, hh, v], _ => exact modelBounds_go ca cb a1 a2 K k hh v w
end Go.Proofs.Ytcbhafddehipdaa

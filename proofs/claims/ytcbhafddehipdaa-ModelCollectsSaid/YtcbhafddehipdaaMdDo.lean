/-
  model.Model: Do.
-/
import Derived.Test.YtcbhafddehipdaaMdOps
namespace Go.Proofs.Ytcbhafddehipdaa
open Go.RowKit
set_option linter.unusedVariables false
set_option linter.unusedSimpArgs false

theorem results_cell_tmp {P : Program} {fn : Func} {p q : Tmp} {ty : TypeId} (h : fn.results = #[.cell p ty, .tmp q]) (tmps : Array Value) (w : World) (g : Nat) (t : TypeId) (cs : Array Value) (fr : Nat × Nat) (d : TypeDesc) (v : Value)
    (hp : tmps.getD p undef = .pointer (some ⟨g, 0, none⟩)) (hq : tmps.getD q undef = v) (hg : w.heap[g]? = some (.cells cs t fr))
    (hu : P.underlying ty = some d) (hd : (match d with | .struct _ | .array _ _ => true | _ => false) = true) (hi : (P.info? ty).map (·.size) = some cs.size) :
    (results fn tmps).run P w = .ok (.tuple #[.agg cs, v]) w := by
  have hp' : tmps[p]?.getD undef = .pointer (some ⟨g, 0, none⟩) := by simpa using hp
  have hq' : tmps[q]?.getD undef = v := by simpa using hq
  simp [results, h, hp', hq', asAddr, run_loadVar_row w g t ty cs fr d hg hu hd hi]
/-- The Model lies at m, in the blocks of P, all of them from B on. -/
def MAt (B : Nat) (w : World) (P : Nat → Prop) (m : Nat) (s : St) : Prop := ∃ A, MIn B w P m s A
def resAgg (r : Res) (a : Option Addr) (c : Nat) : Value := .agg #[.int .i64 r.e, .int .i64 r.value, .slice a r.pairs.length c, .int .i64 r.over, .int .i64 r.reason]
/-- What Do leaves. -/
def DoRes (B m : Nat) (w : World) (P : Nat → Prop) (x : Res × Int × St) (e : Ending) (w' : World) : Prop :=
  ∃ (P' : Nat → Prop) (a : Option Addr) (c : Nat), e = .returned (.tuple #[resAgg x.1 a c, .int .i64 x.2.1]) ∧ MAt B w' P' m x.2.2 ∧ Only P w w' ∧ Grew w.heap.size P P' ∧ PairsIn w' a x.1.pairs ∧ ∀ y, a = some y → w.heap.size ≤ y.block ∧ ¬ P' y.block
theorem DoRes.same {B m : Nat} {w w9 : World} {P : Nat → Prop} {s : St} {A : Ad} {n1 : Nat} {W : World} {er : Int} (M : MIn B W P m s A) (hn : w.heap.size ≤ n1) (hP : ¬ P n1) (o : Only P w W) (o9 : Only (fun c => c = n1) W w9) : DoRes B m w P (.zero, er, s) (.returned (.tuple #[.agg #[.int .i64 0, .int .i64 0, .slice none 0 0, .int .i64 0, .int .i64 0], .int .i64 er])) w9 :=
  ⟨P, none, 0, rfl, ⟨A, M.only o9 (fun b hb e => by subst e; exact hP hb)⟩, o.grewTrans (P2 := fun b => P b ∨ b = n1) (fun b hb => hb.imp id (fun e => by omega)) (o9.toward (fun b hb => .inr hb)), Grew.refl _ _, .inl rfl, fun y hy => by cases hy⟩
theorem DoRes.re {B m : Nat} {w W w2 w9 : World} {P : Nat → Prop} {A : Ad} {r : Res} {s' : St} {n1 : Nat} {e : Ending} (h : ReRes B m W P A r s' e w2) (oW : Only P w W) (hn : w.heap.size ≤ n1) (hnW : n1 < W.heap.size) (hP : ¬ P n1) (o9 : Only (fun c => c = n1) w2 w9) {a : Option Addr} {c : Nat} (he : e = .returned (resAgg r a c)) :
    DoRes B m w P (r, 0, s') (.returned (.tuple #[resAgg r a c, .int .i64 0])) w9 := by
  obtain ⟨A', P', a', c', he', M, _, _, o2, g2, hp, ha⟩ := h
  rw [he] at he'
  have hac : a = a' ∧ c = c' := by
    unfold resAgg at he'
    injection he' with h1; injection h1 with h1
    simp at h1; exact h1
  obtain ⟨rfl, rfl⟩ := hac
  have hP' : ¬ P' n1 := fun hp1 => by
    rcases g2 n1 hp1 with h1 | h1
    · exact hP h1
    · omega
  refine ⟨P', a, c, rfl, ⟨A', M.only o9 (fun b hb e => by subst e; exact hP' hb)⟩, (oW.trans o2).grewTrans (P2 := fun b => P b ∨ b = n1) (fun b hb => hb.imp id (fun e => by omega)) (o9.toward (fun b hb => .inr hb)), g2.base oW.size, hp.only o9 (fun y hy e => ?_), fun y hy => ⟨Nat.le_trans oW.size (ha y hy).1, (ha y hy).2⟩⟩
  have := (ha y hy).1; omega
theorem opOk_key {o : MOp} (h : opOkB o = true) : 0 ≤ o.key ∧ o.key ≤ 63 := by
  unfold opOkB at h
  split at h
  · simp [keyOkB] at h; omega
  · split at h
    · simp [keyOkB] at h; omega
    · split at h
      · simp [keyOkB] at h; omega
      · split at h
        · simp at h; omega
        · cases h
theorem opOk_scan {o : MOp} (h : opOkB o = true) (hk : o.kind = 5) : o.key ≤ o.hi ∧ o.hi ≤ 63 := by
  unfold opOkB at h
  simp [hk, keyOkB] at h; omega
theorem opOk_kind {o : MOp} (h : opOkB o = true) : 1 ≤ o.kind ∧ o.kind ≤ 7 := by
  unfold opOkB at h
  split at h
  · omega
  · split at h
    · omega
    · split at h
      · omega
      · split at h
        · omega
        · cases h
theorem MIn.op {B m : Nat} {w : World} {P : Nat → Prop} {s : St} {A : Ad} (h : MIn B w P m s A) {j : Nat} {t : Tx} (ht : s.tx j = some t) (h12 : t.ops < 12) : MIn B (w.setCell ⟨A.tb j, 3, none⟩ (.int .i64 (t.ops + 1))) P m (s.setTx j (some t.op)) A ∧ Only P w (w.setCell ⟨A.tb j, 3, none⟩ (.int .i64 (t.ops + 1))) := by
  have X := (h.txs.one j t ht).2
  have hop := h.ok.ops j t ht
  have o := Only.set1 w (A.tb j) 3 (.int .i64 (t.ops + 1))
  have mapNe : ∀ i u, s.tx i = some u → ∀ q, q < 3 → A.mb i q ≠ A.tb j := fun i u hu q hq => by
    have Y := (h.txs.one i u hu).2
    match q, hq with
    | 0, _ => exact Y.cm.ne X.blk
    | 1, _ => exact Y.gm.ne X.blk
    | 2, _ => exact Y.km.ne X.blk
  refine ⟨h.turnTx ht (fun k => rfl) o (h.mod.ne X.blk (by decide)) (fun b hb e => by subst e; exact rows_ne h.row X.blk (by decide) hb) (h.vers.blkNe X.blk (by decide))
    (fun i u hi hu => ⟨fun e => hi (h.txs.tinj i j u t hu ht e), mapNe i u hu, fun k c hk => ((h.txs.one i u hu).2.cel k c hk).2.1.ne X.blk (by decide)⟩) ?_ (h.ok.setTx (by simp [Tx.op]; omega) (fun k c hc => h.ok.refs j t k c ht hc)), o.toward (fun b hb => by subst hb; exact X.pt)⟩
  refine ⟨?_, X.cm.only o (mapNe j t ht 0 (by omega)), X.gm.only o (mapNe j t ht 1 (by omega)), X.km.only o (mapNe j t ht 2 (by omega)), fun k c hk => ⟨(X.cel k c hk).1, o.blk (X.cel k c hk).2.1 ((X.cel k c hk).2.1.ne X.blk (by decide)), (X.cel k c hk).2.2⟩, X.pt, X.pm⟩
  have := X.blk.set 3 (.int .i64 (t.ops + 1))
  have e : (txCells A j t).setIfInBounds 3 (.int .i64 (t.ops + 1)) = txCells A j t.op := by simp [txCells, Tx.op]
  rw [← e]; exact this
/-! ### the walk -/
theorem commit_pairs (s : St) (j : Nat) (t : Tx) : (s.commit j t).1.pairs = [] := by
  unfold St.commit
  split
  · rfl
  · split <;> rfl
theorem get_pairs (s : St) (j : Nat) (t : Tx) (k : Nat) : (s.get j t k).1.pairs = [] := by
  unfold St.get
  split <;> rfl
theorem change_pairs (s : St) (j : Nat) (t : Tx) (kind : Int) (k : Nat) (value : Int) : (s.change j t kind k value).1.pairs = [] := by
  unfold St.change
  split
  · rfl
  · split
    split <;> rfl
theorem call_get (s : St) (j : Nat) (t : Tx) (k : Nat) (hi value : Int) : s.call j t ⟨1, (k : Int), hi, value⟩ = (s.setTx j (some t.op)).get j t.op k := by
  have : s.call j t ⟨1, (k : Int), hi, value⟩ = s.get j t.op k := by simp [St.call]
  rw [this]
  unfold St.get
  have e : (s.setTx j (some t.op)).sees t.op k = s.sees t.op k := rfl
  rw [e]
  cases s.sees t.op k <;> simp only [setTx_setTx] <;> rfl
theorem call_scan (s : St) (j : Nat) (t : Tx) (k hn : Nat) (value : Int) : s.call j t ⟨5, (k : Int), (hn : Int), value⟩ = (s.setTx j (some t.op)).scan j t.op k (hn + 1 - k) := by
  have e1 : ((hn : Int) + 1 - (k : Int)).toNat = hn + 1 - k := by omega
  have : s.call j t ⟨5, (k : Int), (hn : Int), value⟩ = s.scan j t.op k (hn + 1 - k) := by simp [St.call, e1]
  rw [this]
  unfold St.scan
  rw [setTx_setTx]; rfl
theorem call_change (s : St) (j : Nat) (t : Tx) (k : Nat) (kind hi value : Int) (h : kind ≠ 6 ∧ kind ≠ 7 ∧ kind ≠ 1 ∧ kind ≠ 5) : s.call j t ⟨kind, (k : Int), hi, value⟩ = (s.setTx j (some t.op)).change j t.op kind k value := by
  simp [St.call, h.1, h.2.1, h.2.2.1, h.2.2.2]
set_option maxRecDepth 100000 in
set_option maxHeartbeats 16000000 in
theorem md_do {B m : Nat} {w : World} {P : Nat → Prop} {s : St} (h : MAt B w P m s) (j kind key hi value : Int) :
    Calls Try.prog 19 #[.pointer (some ⟨m, 0, none⟩), .int .i64 j, .agg #[.int .i64 kind, .int .i64 key, .int .i64 hi, .int .i64 value]] w (DoRes B m w P (s.do_ j ⟨kind, key, hi, value⟩)) := by
  obtain ⟨A, h⟩ := h
  obtain ⟨W, hW⟩ : ∃ W, W = (w.alloc (.cells #[.int .i64 kind, .int .i64 key, .int .i64 hi, .int .i64 value] 31)).alloc (.cells #[.int .i64 0, .int .i64 0, .slice none 0 0, .int .i64 0, .int .i64 0] 27) := ⟨_, rfl⟩
  have oW : Only0 w W := by rw [hW]; exact ((Only0.refl w).alloc _).alloc _
  have M0 := h.only0 oW
  have BO : Blk W w.heap.size 31 #[.int .i64 kind, .int .i64 key, .int .i64 hi, .int .i64 value] := by rw [hW]; exact (Blk.new _ _ _).alloc _
  have BX : Blk W (w.heap.size + 1) 27 #[.int .i64 0, .int .i64 0, .slice none 0 0, .int .i64 0, .int .i64 0] := by rw [hW]; exact Blk.new' _ _ _ _ (by simp)
  have hu := h.under
  obtain ⟨n0, hn0⟩ : ∃ n0, n0 = w.heap.size := ⟨_, rfl⟩
  obtain ⟨n1, hn1⟩ : ∃ n1, n1 = n0 + 1 := ⟨_, rfl⟩
  have HN := Lib.hid hn0
  have HN1 := Lib.hid hn1
  have HS := Lib.hid (show ¬ P n0 ∧ ¬ P n1 ∧ w.heap.size ≤ n1 ∧ n1 < W.heap.size from ⟨fun hp => by have := hu _ hp; omega, fun hp => by have := hu _ hp; omega, by omega, by have := BX.lt; omega⟩)
  have HM0 := Lib.hid M0
  have HO := Lib.hid oW
  have HBO := Lib.hid (show Blk W n0 31 #[.int .i64 kind, .int .i64 key, .int .i64 hi, .int .i64 value] by rw [hn0]; exact BO)
  have HB := Lib.hid (show Blk W n1 27 #[.int .i64 0, .int .i64 0, .slice none 0 0, .int .i64 0, .int .i64 0] by rw [hn1, hn0]; exact BX)
  clear h M0 BO BX hu hn0 hn1 oW
  have CS := md_sess j W
  cases hs : sessB j with
  | false =>
    rw [show s.do_ j ⟨kind, key, hi, value⟩ = (.zero, 1, s) by simp [St.do_, hs]]
    rw [hs] at CS
    clear hs
    go_enter Try.func19, Try.ntmps19
    go_upto_region 1 with (fail)
    rw [← hW, ← HN.out, ← HN1.out]
    clear hW
    go_wp2_with fail
    refine CS.mono ?_
    rintro e w1 ⟨rfl, rfl⟩
    have B1 := (HB.out)
    have b0 : W.cell? ⟨n1, 0, none⟩ = some (.int .i64 0) := B1.cell 0
    have b1 : W.cell? ⟨n1, 1, none⟩ = some (.int .i64 0) := B1.cell 1
    have b2 : W.cell? ⟨n1, 2, none⟩ = some (.slice none 0 0) := B1.cell 2
    have b3 : W.cell? ⟨n1, 3, none⟩ = some (.int .i64 0) := B1.cell 3
    have b4 : W.cell? ⟨n1, 4, none⟩ = some (.int .i64 0) := B1.cell 4
    have bf := fun i => B1.free i
    have HB1 := Lib.hid B1
    clear B1
    go_wp2_with fail
    obtain ⟨B9, o9⟩ := set5 HB1.out (.int .i64 0) (.int .i64 0) (.slice none 0 0) (.int .i64 0) (.int .i64 0)
    exact bodyPost_ret (results_cell_tmp Try.results19 _ _ n1 _ _ _ _ (.int .i64 1) rfl rfl B9 Try.underlying27 rfl info_res) rfl (DoRes.same HM0.out HS.out.2.2.1 HS.out.2.1 (HO.out.any P) o9)
  | true =>
    obtain ⟨jn, rfl, hjn⟩ : ∃ jn : Nat, j = (jn : Int) ∧ jn < 8 := by
      simp [sessB] at hs; exact ⟨j.toNat, by omega, by omega⟩
    rw [hs] at CS
    have j8 : (jn : Int) < 8 := by omega
    have j0 : (0 : Int) ≤ (jn : Int) := by omega
    have cj0 := HM0.out.sess jn hjn
    cases htx : s.tx jn with
    | none =>
      rw [show s.do_ (jn : Int) ⟨kind, key, hi, value⟩ = (.zero, 9, s) by simp [St.do_, hs, htx]]
      rw [show txPtr A s.tx jn = .pointer none by simp [txPtr, htx]] at cj0
      clear hs htx
      go_enter Try.func19, Try.ntmps19
      go_upto_region 1 with (fail)
      rw [← hW, ← HN.out, ← HN1.out]
      clear hW
      go_wp2_with fail
      refine CS.mono ?_
      rintro e w1 ⟨rfl, rfl⟩
      have B1 := (HB.out)
      have b0 : W.cell? ⟨n1, 0, none⟩ = some (.int .i64 0) := B1.cell 0
      have b1 : W.cell? ⟨n1, 1, none⟩ = some (.int .i64 0) := B1.cell 1
      have b2 : W.cell? ⟨n1, 2, none⟩ = some (.slice none 0 0) := B1.cell 2
      have b3 : W.cell? ⟨n1, 3, none⟩ = some (.int .i64 0) := B1.cell 3
      have b4 : W.cell? ⟨n1, 4, none⟩ = some (.int .i64 0) := B1.cell 4
      have bf := fun i => B1.free i
      have HB1 := Lib.hid B1
      clear B1
      go_wp2_with fail
      obtain ⟨B9, o9⟩ := set5 HB1.out (.int .i64 0) (.int .i64 0) (.slice none 0 0) (.int .i64 0) (.int .i64 0)
      exact bodyPost_ret (results_cell_tmp Try.results19 _ _ n1 _ _ _ _ (.int .i64 9) rfl rfl B9 Try.underlying27 rfl info_res) rfl (DoRes.same HM0.out HS.out.2.2.1 HS.out.2.1 (HO.out.any P) o9)
    | some t =>
      rw [show txPtr A s.tx jn = .pointer (some ⟨A.tb jn, 0, none⟩) by simp [txPtr, htx]] at cj0
      have HT := Lib.hid htx
      have o00 : W.cell? ⟨n0, 0, none⟩ = some (.int .i64 kind) := HBO.out.cell 0
      have o01 : W.cell? ⟨n0, 1, none⟩ = some (.int .i64 key) := HBO.out.cell 1
      have o02 : W.cell? ⟨n0, 2, none⟩ = some (.int .i64 hi) := HBO.out.cell 2
      have o03 : W.cell? ⟨n0, 3, none⟩ = some (.int .i64 value) := HBO.out.cell 3
      have FACT : ∀ w', Only0 W w' → w'.cell? ⟨m, 5 + jn, none⟩ = some (.pointer (some ⟨A.tb jn, 0, none⟩)) ∧ w'.cell? ⟨A.tb jn, 3, none⟩ = some (.int .i64 t.ops) ∧ w'.frozen? ⟨A.tb jn, 3, none⟩ = false ∧ w'.cell? ⟨n0, 0, none⟩ = some (.int .i64 kind) ∧ w'.cell? ⟨n0, 1, none⟩ = some (.int .i64 key) ∧ w'.cell? ⟨n0, 2, none⟩ = some (.int .i64 hi) ∧ w'.cell? ⟨n0, 3, none⟩ = some (.int .i64 value) := fun w' o => by
        have M := HM0.out.only0 o
        have X := (M.txs.one jn t HT.out).2
        have b := o.blk HBO.out (fun h => h)
        exact ⟨by rw [M.sess jn hjn]; simp [txPtr, HT.out], X.blk.cell 3, X.blk.free 3, b.cell 0, b.cell 1, b.cell 2, b.cell 3⟩
      have HF := Lib.hid FACT
      have hops := HM0.out.ok.ops jn t HT.out
      obtain ⟨hop0, hop1⟩ := hops
      have CO := md_opOk kind key hi value W
      clear FACT
      cases hok : opOkB ⟨kind, key, hi, value⟩ with
      | false =>
        rw [show s.do_ (jn : Int) ⟨kind, key, hi, value⟩ = (.zero, 9, s) by simp [St.do_, hs, htx, hok]]
        rw [hok] at CO
        clear hs htx hok
        go_enter Try.func19, Try.ntmps19
        go_upto_region 1 with (fail)
        rw [← hW, ← HN.out, ← HN1.out]
        clear hW
        go_wp2_with fail
        refine CS.mono ?_
        rintro e w1 ⟨rfl, rfl⟩
        go_wp2_with fail
        refine CO.mono ?_
        rintro e w3 ⟨rfl, o3⟩
        have HO3 := Lib.hid o3
        clear CO CS cj0 o00 o01 o02 o03 o3
        have B1 := (HO3.out.blk HB.out (fun h => h))
        have b0 : w3.cell? ⟨n1, 0, none⟩ = some (.int .i64 0) := B1.cell 0
        have b1 : w3.cell? ⟨n1, 1, none⟩ = some (.int .i64 0) := B1.cell 1
        have b2 : w3.cell? ⟨n1, 2, none⟩ = some (.slice none 0 0) := B1.cell 2
        have b3 : w3.cell? ⟨n1, 3, none⟩ = some (.int .i64 0) := B1.cell 3
        have b4 : w3.cell? ⟨n1, 4, none⟩ = some (.int .i64 0) := B1.cell 4
        have bf := fun i => B1.free i
        have HB1 := Lib.hid B1
        clear B1
        go_wp2_with fail
        obtain ⟨B9, o9⟩ := set5 HB1.out (.int .i64 0) (.int .i64 0) (.slice none 0 0) (.int .i64 0) (.int .i64 0)
        exact bodyPost_ret (results_cell_tmp Try.results19 _ _ n1 _ _ _ _ (.int .i64 9) rfl rfl B9 Try.underlying27 rfl info_res) rfl (DoRes.same (HM0.out.only0 HO3.out) HS.out.2.2.1 HS.out.2.1 ((HO.out.any P).trans (HO3.out.any P)) o9)
      | true =>
        rw [hok] at CO
        have hkey := opOk_key hok
        have hkk := opOk_kind hok
        obtain ⟨k, rfl, hk⟩ : ∃ k : Nat, key = (k : Int) ∧ k < 64 := ⟨key.toNat, by simp at hkey; omega, by simp at hkey; omega⟩
        have HOK := Lib.hid hok
        simp only at hkk
        by_cases h12 : t.ops < 12
        · have hov : (decide (12 ≤ t.ops) && !endsB ⟨kind, (k : Int), hi, value⟩) = false := by simp; omega
          rw [show s.do_ (jn : Int) ⟨kind, (k : Int), hi, value⟩ = ((s.call jn t ⟨kind, (k : Int), hi, value⟩).1, 0, (s.call jn t ⟨kind, (k : Int), hi, value⟩).2) by simp only [St.do_, hs, if_true, Int.toNat_natCast, htx, hok, hov]; rfl]
          clear hs htx hok hov hkey
          by_cases h6 : kind = 6
          · subst h6
            rw [show s.call jn t ⟨6, (k : Int), hi, value⟩ = s.commit jn t from rfl]
            go_enter Try.func19, Try.ntmps19
            go_upto_region 1 with (fail)
            rw [← hW, ← HN.out, ← HN1.out]
            clear hW
            go_wp2_with fail
            refine CS.mono ?_
            rintro e w1 ⟨rfl, rfl⟩
            go_wp2_with fail
            refine CO.mono ?_
            rintro e w3 ⟨rfl, o3⟩
            obtain ⟨f1, f2, f2f, f3, f4, f5, f6⟩ := HF.out w3 o3
            have HO3 := Lib.hid o3
            clear CO CS cj0 o00 o01 o02 o03 o3
            go_wp2_with fail
            have M3 := HM0.out.only0 HO3.out
            have C := (md_commit M3 HT.out).mono (fun e w4 h4 => StRes.re (r := (s.commit jn t).1) (commit_pairs s jn t) h4)
            have HOW := Lib.hid ((HO.out.any P).trans (HO3.out.any P))
            have HB3 := Lib.hid (HO3.out.blk HB.out (fun h => h))
            clear M3
            refine C.mono ?_
            intro e w4 h4
            obtain ⟨a, c, he⟩ : ∃ a c, e = .returned (resAgg (s.commit jn t).1 a c) := by obtain ⟨_, _, a, c, he, _⟩ := h4; exact ⟨a, c, he⟩
            subst he
            have B4 : Blk w4 n1 27 #[.int .i64 0, .int .i64 0, .slice none 0 0, .int .i64 0, .int .i64 0] := by
              obtain ⟨_, _, _, _, _, _, _, _, o4, _⟩ := h4
              exact o4.blk HB3.out HS.out.2.1
            have b0 : w4.cell? ⟨n1, 0, none⟩ = some (.int .i64 0) := B4.cell 0
            have b1 : w4.cell? ⟨n1, 1, none⟩ = some (.int .i64 0) := B4.cell 1
            have b2 : w4.cell? ⟨n1, 2, none⟩ = some (.slice none 0 0) := B4.cell 2
            have b3 : w4.cell? ⟨n1, 3, none⟩ = some (.int .i64 0) := B4.cell 3
            have b4 : w4.cell? ⟨n1, 4, none⟩ = some (.int .i64 0) := B4.cell 4
            have bf := fun i => B4.free i
            have HB4 := Lib.hid B4
            have R := fun w9 (o9 : Only (fun c => c = n1) w4 w9) => DoRes.re h4 HOW.out HS.out.2.2.1 HB3.out.lt HS.out.2.1 o9 rfl
            have HR := Lib.hid R
            clear R h4 B4 C
            unfold resAgg
            go_wp2_with fail
            obtain ⟨B9, o9⟩ := set5 HB4.out _ _ _ _ _
            exact bodyPost_ret (results_cell_tmp Try.results19 _ _ n1 _ _ _ _ (.int .i64 0) rfl rfl B9 Try.underlying27 rfl info_res) rfl (HR.out _ o9)
          by_cases h7 : kind = 7
          · subst h7
            rw [show s.call jn t ⟨7, (k : Int), hi, value⟩ = (abortRes 0 1, s.kill jn t) from rfl]
            go_enter Try.func19, Try.ntmps19
            go_upto_region 1 with (fail)
            rw [← hW, ← HN.out, ← HN1.out]
            clear hW
            go_wp2_with fail
            refine CS.mono ?_
            rintro e w1 ⟨rfl, rfl⟩
            go_wp2_with fail
            refine CO.mono ?_
            rintro e w3 ⟨rfl, o3⟩
            obtain ⟨f1, f2, f2f, f3, f4, f5, f6⟩ := HF.out w3 o3
            have HO3 := Lib.hid o3
            clear CO CS cj0 o00 o01 o02 o03 o3
            go_wp2_with fail
            have M3 := HM0.out.only0 HO3.out
            have C := (md_abort M3 HT.out 0 1).mono (fun e w4 h4 => StRes.re (r := abortRes 0 1) rfl h4)
            have HOW := Lib.hid ((HO.out.any P).trans (HO3.out.any P))
            have HB3 := Lib.hid (HO3.out.blk HB.out (fun h => h))
            clear M3
            refine C.mono ?_
            intro e w4 h4
            obtain ⟨a, c, he⟩ : ∃ a c, e = .returned (resAgg (abortRes 0 1) a c) := by obtain ⟨_, _, a, c, he, _⟩ := h4; exact ⟨a, c, he⟩
            subst he
            have B4 : Blk w4 n1 27 #[.int .i64 0, .int .i64 0, .slice none 0 0, .int .i64 0, .int .i64 0] := by
              obtain ⟨_, _, _, _, _, _, _, _, o4, _⟩ := h4
              exact o4.blk HB3.out HS.out.2.1
            have b0 : w4.cell? ⟨n1, 0, none⟩ = some (.int .i64 0) := B4.cell 0
            have b1 : w4.cell? ⟨n1, 1, none⟩ = some (.int .i64 0) := B4.cell 1
            have b2 : w4.cell? ⟨n1, 2, none⟩ = some (.slice none 0 0) := B4.cell 2
            have b3 : w4.cell? ⟨n1, 3, none⟩ = some (.int .i64 0) := B4.cell 3
            have b4 : w4.cell? ⟨n1, 4, none⟩ = some (.int .i64 0) := B4.cell 4
            have bf := fun i => B4.free i
            have HB4 := Lib.hid B4
            have R := fun w9 (o9 : Only (fun c => c = n1) w4 w9) => DoRes.re h4 HOW.out HS.out.2.2.1 HB3.out.lt HS.out.2.1 o9 rfl
            have HR := Lib.hid R
            clear R h4 B4 C
            unfold resAgg
            go_wp2_with fail
            obtain ⟨B9, o9⟩ := set5 HB4.out _ _ _ _ _
            exact bodyPost_ret (results_cell_tmp Try.results19 _ _ n1 _ _ _ _ (.int .i64 0) rfl rfl B9 Try.underlying27 rfl info_res) rfl (HR.out _ o9)
          by_cases h1 : kind = 1
          · subst h1
            rw [show s.call jn t ⟨1, (k : Int), hi, value⟩ = (s.setTx jn (some t.op)).get jn t.op k from call_get s jn t k hi value]
            go_enter Try.func19, Try.ntmps19
            go_upto_region 1 with (fail)
            rw [← hW, ← HN.out, ← HN1.out]
            clear hW
            go_wp2_with fail
            refine CS.mono ?_
            rintro e w1 ⟨rfl, rfl⟩
            go_wp2_with fail
            refine CO.mono ?_
            rintro e w3 ⟨rfl, o3⟩
            obtain ⟨f1, f2, f2f, f3, f4, f5, f6⟩ := HF.out w3 o3
            have HO3 := Lib.hid o3
            clear CO CS cj0 o00 o01 o02 o03 o3
            have M4 := HM0.out.only0 HO3.out
            obtain ⟨M5, o5⟩ := M4.op HT.out h12
            obtain ⟨W5, hW5⟩ : ∃ W5, W5 = w3.setCell ⟨A.tb jn, 3, none⟩ (.int .i64 (t.ops + 1)) := ⟨_, rfl⟩
            rw [← hW5] at M5 o5
            have T5 : (s.setTx jn (some t.op)).tx jn = some t.op := by simp [St.setTx, upd_same]
            have C0 := md_get M5 T5 k hk
            have C := C0.mono (fun e w4 h4 => StRes.re (r := ((s.setTx jn (some t.op)).get jn t.op k).1) (get_pairs _ _ _ _) h4)
            have o35 := (HO3.out.any P).trans o5
            have HOW := Lib.hid ((HO.out.any P).trans o35)
            have HB3 := Lib.hid (o35.blk HB.out HS.out.2.1)
            have bo := o35.blk HBO.out HS.out.1
            have g0 : W5.cell? ⟨n0, 0, none⟩ = some (.int .i64 1) := bo.cell 0
            have g1 : W5.cell? ⟨n0, 1, none⟩ = some (.int .i64 k) := bo.cell 1
            have g2 : W5.cell? ⟨n0, 2, none⟩ = some (.int .i64 hi) := bo.cell 2
            have g3 : W5.cell? ⟨n0, 3, none⟩ = some (.int .i64 value) := bo.cell 3
            clear M4 M5 o5 T5 C0 o35 bo
            go_upto_region 14 with (fail)
            rw [← hW5]
            clear hW5 f1 f2 f2f f3 f4 f5 f6
            go_wp2_with fail
            refine C.mono ?_
            intro e w4 h4
            obtain ⟨a, c, he⟩ : ∃ a c, e = .returned (resAgg ((s.setTx jn (some t.op)).get jn t.op k).1 a c) := by obtain ⟨_, _, a, c, he, _⟩ := h4; exact ⟨a, c, he⟩
            subst he
            have B4 : Blk w4 n1 27 #[.int .i64 0, .int .i64 0, .slice none 0 0, .int .i64 0, .int .i64 0] := by
              obtain ⟨_, _, _, _, _, _, _, _, o4, _⟩ := h4
              exact o4.blk HB3.out HS.out.2.1
            have b0 : w4.cell? ⟨n1, 0, none⟩ = some (.int .i64 0) := B4.cell 0
            have b1 : w4.cell? ⟨n1, 1, none⟩ = some (.int .i64 0) := B4.cell 1
            have b2 : w4.cell? ⟨n1, 2, none⟩ = some (.slice none 0 0) := B4.cell 2
            have b3 : w4.cell? ⟨n1, 3, none⟩ = some (.int .i64 0) := B4.cell 3
            have b4 : w4.cell? ⟨n1, 4, none⟩ = some (.int .i64 0) := B4.cell 4
            have bf := fun i => B4.free i
            have HB4 := Lib.hid B4
            have R := fun w9 (o9 : Only (fun c => c = n1) w4 w9) => DoRes.re h4 HOW.out HS.out.2.2.1 HB3.out.lt HS.out.2.1 o9 rfl
            have HR := Lib.hid R
            clear R h4 B4 C
            unfold resAgg
            go_wp2_with fail
            obtain ⟨B9, o9⟩ := set5 HB4.out _ _ _ _ _
            exact bodyPost_ret (results_cell_tmp Try.results19 _ _ n1 _ _ _ _ (.int .i64 0) rfl rfl B9 Try.underlying27 rfl info_res) rfl (HR.out _ o9)
          by_cases h5 : kind = 5
          · subst h5
            have hsc := opOk_scan HOK.out rfl
            obtain ⟨hn, rfl, hlo, hhi⟩ : ∃ hn : Nat, hi = (hn : Int) ∧ k ≤ hn ∧ hn < 64 := ⟨hi.toNat, by simp at hsc; omega, by simp at hsc; omega, by simp at hsc; omega⟩
            clear hsc
            rw [show s.call jn t ⟨5, (k : Int), (hn : Int), value⟩ = (s.setTx jn (some t.op)).scan jn t.op k (hn + 1 - k) from call_scan s jn t k hn value]
            go_enter Try.func19, Try.ntmps19
            go_upto_region 1 with (fail)
            rw [← hW, ← HN.out, ← HN1.out]
            clear hW
            go_wp2_with fail
            refine CS.mono ?_
            rintro e w1 ⟨rfl, rfl⟩
            go_wp2_with fail
            refine CO.mono ?_
            rintro e w3 ⟨rfl, o3⟩
            obtain ⟨f1, f2, f2f, f3, f4, f5, f6⟩ := HF.out w3 o3
            have HO3 := Lib.hid o3
            clear CO CS cj0 o00 o01 o02 o03 o3
            have M4 := HM0.out.only0 HO3.out
            obtain ⟨M5, o5⟩ := M4.op HT.out h12
            obtain ⟨W5, hW5⟩ : ∃ W5, W5 = w3.setCell ⟨A.tb jn, 3, none⟩ (.int .i64 (t.ops + 1)) := ⟨_, rfl⟩
            rw [← hW5] at M5 o5
            have T5 : (s.setTx jn (some t.op)).tx jn = some t.op := by simp [St.setTx, upd_same]
            have C0 := md_scan M5 T5 k hn hlo hhi
            have C := C0
            have o35 := (HO3.out.any P).trans o5
            have HOW := Lib.hid ((HO.out.any P).trans o35)
            have HB3 := Lib.hid (o35.blk HB.out HS.out.2.1)
            have bo := o35.blk HBO.out HS.out.1
            have g0 : W5.cell? ⟨n0, 0, none⟩ = some (.int .i64 5) := bo.cell 0
            have g1 : W5.cell? ⟨n0, 1, none⟩ = some (.int .i64 k) := bo.cell 1
            have g2 : W5.cell? ⟨n0, 2, none⟩ = some (.int .i64 hn) := bo.cell 2
            have g3 : W5.cell? ⟨n0, 3, none⟩ = some (.int .i64 value) := bo.cell 3
            clear M4 M5 o5 T5 C0 o35 bo
            go_upto_region 14 with (fail)
            rw [← hW5]
            clear hW5 f1 f2 f2f f3 f4 f5 f6
            go_wp2_with fail
            refine C.mono ?_
            intro e w4 h4
            obtain ⟨a, c, he⟩ : ∃ a c, e = .returned (resAgg ((s.setTx jn (some t.op)).scan jn t.op k (hn + 1 - k)).1 a c) := by obtain ⟨_, _, a, c, he, _⟩ := h4; exact ⟨a, c, he⟩
            subst he
            have B4 : Blk w4 n1 27 #[.int .i64 0, .int .i64 0, .slice none 0 0, .int .i64 0, .int .i64 0] := by
              obtain ⟨_, _, _, _, _, _, _, _, o4, _⟩ := h4
              exact o4.blk HB3.out HS.out.2.1
            have b0 : w4.cell? ⟨n1, 0, none⟩ = some (.int .i64 0) := B4.cell 0
            have b1 : w4.cell? ⟨n1, 1, none⟩ = some (.int .i64 0) := B4.cell 1
            have b2 : w4.cell? ⟨n1, 2, none⟩ = some (.slice none 0 0) := B4.cell 2
            have b3 : w4.cell? ⟨n1, 3, none⟩ = some (.int .i64 0) := B4.cell 3
            have b4 : w4.cell? ⟨n1, 4, none⟩ = some (.int .i64 0) := B4.cell 4
            have bf := fun i => B4.free i
            have HB4 := Lib.hid B4
            have R := fun w9 (o9 : Only (fun c => c = n1) w4 w9) => DoRes.re h4 HOW.out HS.out.2.2.1 HB3.out.lt HS.out.2.1 o9 rfl
            have HR := Lib.hid R
            clear R h4 B4 C
            unfold resAgg
            go_wp2_with fail
            obtain ⟨B9, o9⟩ := set5 HB4.out _ _ _ _ _
            exact bodyPost_ret (results_cell_tmp Try.results19 _ _ n1 _ _ _ _ (.int .i64 0) rfl rfl B9 Try.underlying27 rfl info_res) rfl (HR.out _ o9)
          rw [show s.call jn t ⟨kind, (k : Int), hi, value⟩ = (s.setTx jn (some t.op)).change jn t.op kind k value from call_change s jn t k kind hi value (by omega)]
          have q6 : (kind == 6) = false := by simpa using h6
          have q7 : (kind == 7) = false := by simpa using h7
          have q1 : (kind == 1) = false := by simpa using h1
          have q5 : (kind == 5) = false := by simpa using h5
          clear h1 h5 h6 h7
          go_enter Try.func19, Try.ntmps19
          go_upto_region 1 with (fail)
          rw [← hW, ← HN.out, ← HN1.out]
          clear hW
          go_wp2_with fail
          refine CS.mono ?_
          rintro e w1 ⟨rfl, rfl⟩
          go_wp2_with fail
          refine CO.mono ?_
          rintro e w3 ⟨rfl, o3⟩
          obtain ⟨f1, f2, f2f, f3, f4, f5, f6⟩ := HF.out w3 o3
          have HO3 := Lib.hid o3
          clear CO CS cj0 o00 o01 o02 o03 o3
          have M4 := HM0.out.only0 HO3.out
          obtain ⟨M5, o5⟩ := M4.op HT.out h12
          obtain ⟨W5, hW5⟩ : ∃ W5, W5 = w3.setCell ⟨A.tb jn, 3, none⟩ (.int .i64 (t.ops + 1)) := ⟨_, rfl⟩
          rw [← hW5] at M5 o5
          have T5 : (s.setTx jn (some t.op)).tx jn = some t.op := by simp [St.setTx, upd_same]
          have C0 := md_change M5 T5 k hk kind hi value
          have C := C0.mono (fun e w4 h4 => StRes.re (r := ((s.setTx jn (some t.op)).change jn t.op kind k value).1) (change_pairs _ _ _ _ _ _) h4)
          have o35 := (HO3.out.any P).trans o5
          have HOW := Lib.hid ((HO.out.any P).trans o35)
          have HB3 := Lib.hid (o35.blk HB.out HS.out.2.1)
          have bo := o35.blk HBO.out HS.out.1
          have g0 : W5.cell? ⟨n0, 0, none⟩ = some (.int .i64 kind) := bo.cell 0
          have g1 : W5.cell? ⟨n0, 1, none⟩ = some (.int .i64 k) := bo.cell 1
          have g2 : W5.cell? ⟨n0, 2, none⟩ = some (.int .i64 hi) := bo.cell 2
          have g3 : W5.cell? ⟨n0, 3, none⟩ = some (.int .i64 value) := bo.cell 3
          clear M4 M5 o5 T5 C0 o35 bo
          go_upto_region 14 with (fail)
          rw [← hW5]
          clear hW5 f1 f2 f2f f3 f4 f5 f6
          go_wp2_with fail
          refine C.mono ?_
          intro e w4 h4
          obtain ⟨a, c, he⟩ : ∃ a c, e = .returned (resAgg ((s.setTx jn (some t.op)).change jn t.op kind k value).1 a c) := by obtain ⟨_, _, a, c, he, _⟩ := h4; exact ⟨a, c, he⟩
          subst he
          have B4 : Blk w4 n1 27 #[.int .i64 0, .int .i64 0, .slice none 0 0, .int .i64 0, .int .i64 0] := by
            obtain ⟨_, _, _, _, _, _, _, _, o4, _⟩ := h4
            exact o4.blk HB3.out HS.out.2.1
          have b0 : w4.cell? ⟨n1, 0, none⟩ = some (.int .i64 0) := B4.cell 0
          have b1 : w4.cell? ⟨n1, 1, none⟩ = some (.int .i64 0) := B4.cell 1
          have b2 : w4.cell? ⟨n1, 2, none⟩ = some (.slice none 0 0) := B4.cell 2
          have b3 : w4.cell? ⟨n1, 3, none⟩ = some (.int .i64 0) := B4.cell 3
          have b4 : w4.cell? ⟨n1, 4, none⟩ = some (.int .i64 0) := B4.cell 4
          have bf := fun i => B4.free i
          have HB4 := Lib.hid B4
          have R := fun w9 (o9 : Only (fun c => c = n1) w4 w9) => DoRes.re h4 HOW.out HS.out.2.2.1 HB3.out.lt HS.out.2.1 o9 rfl
          have HR := Lib.hid R
          clear R h4 B4 C
          unfold resAgg
          go_wp2_with fail
          obtain ⟨B9, o9⟩ := set5 HB4.out _ _ _ _ _
          exact bodyPost_ret (results_cell_tmp Try.results19 _ _ n1 _ _ _ _ (.int .i64 0) rfl rfl B9 Try.underlying27 rfl info_res) rfl (HR.out _ o9)
        · have h12' : t.ops = 12 := by omega
          have HEN := md_ends kind (k : Int) hi value
          cases hen : endsB ⟨kind, (k : Int), hi, value⟩ with
          | false =>
            rw [show s.do_ (jn : Int) ⟨kind, (k : Int), hi, value⟩ = (.zero, 65, s) by simp [St.do_, hs, htx, hok, hen, h12']]
            rw [hen] at HEN
            have HEN' := Lib.hid HEN
            clear hs htx hok hkey hen HEN h12
            rw [h12'] at HF
            clear h12' hop0 hop1
            go_enter Try.func19, Try.ntmps19
            go_upto_region 1 with (fail)
            rw [← hW, ← HN.out, ← HN1.out]
            clear hW
            go_wp2_with fail
            refine CS.mono ?_
            rintro e w1 ⟨rfl, rfl⟩
            go_wp2_with fail
            refine CO.mono ?_
            rintro e w3 ⟨rfl, o3⟩
            obtain ⟨f1, f2, f2f, f3, f4, f5, f6⟩ := HF.out w3 o3
            have HO3 := Lib.hid o3
            clear CO CS cj0 o00 o01 o02 o03 o3
            go_wp2_with fail
            refine (HEN'.out w3).mono ?_
            rintro e w4 ⟨rfl, o4⟩
            have HO4 := Lib.hid (HO3.out.trans o4)
            clear f1 f2 f2f f3 f4 f5 f6 o4 HO3
            have B1 := (HO4.out.blk HB.out (fun h => h))
            have b0 : w4.cell? ⟨n1, 0, none⟩ = some (.int .i64 0) := B1.cell 0
            have b1 : w4.cell? ⟨n1, 1, none⟩ = some (.int .i64 0) := B1.cell 1
            have b2 : w4.cell? ⟨n1, 2, none⟩ = some (.slice none 0 0) := B1.cell 2
            have b3 : w4.cell? ⟨n1, 3, none⟩ = some (.int .i64 0) := B1.cell 3
            have b4 : w4.cell? ⟨n1, 4, none⟩ = some (.int .i64 0) := B1.cell 4
            have bf := fun i => B1.free i
            have HB1 := Lib.hid B1
            clear B1
            go_wp2_with fail
            obtain ⟨B9, o9⟩ := set5 HB1.out (.int .i64 0) (.int .i64 0) (.slice none 0 0) (.int .i64 0) (.int .i64 0)
            exact bodyPost_ret (results_cell_tmp Try.results19 _ _ n1 _ _ _ _ (.int .i64 65) rfl rfl B9 Try.underlying27 rfl info_res) rfl (DoRes.same (HM0.out.only0 HO4.out) HS.out.2.2.1 HS.out.2.1 ((HO.out.any P).trans (HO4.out.any P)) o9)
          | true =>
            have hk67 : kind = 6 ∨ kind = 7 := by simpa [endsB] using hen
            rw [show s.do_ (jn : Int) ⟨kind, (k : Int), hi, value⟩ = ((s.call jn t ⟨kind, (k : Int), hi, value⟩).1, 0, (s.call jn t ⟨kind, (k : Int), hi, value⟩).2) by simp only [St.do_, hs, if_true, Int.toNat_natCast, htx, hok, hen, Bool.not_true, Bool.and_false]; rfl]
            rw [hen] at HEN
            have HEN' := Lib.hid HEN
            clear hs htx hok hkey hen HEN h12 hkk
            rw [h12'] at HF
            clear h12' hop0 hop1
            rcases hk67 with h6 | h7
            · subst h6
              rw [show s.call jn t ⟨6, (k : Int), hi, value⟩ = s.commit jn t from rfl]
              go_enter Try.func19, Try.ntmps19
              go_upto_region 1 with (fail)
              rw [← hW, ← HN.out, ← HN1.out]
              clear hW
              go_wp2_with fail
              refine CS.mono ?_
              rintro e w1 ⟨rfl, rfl⟩
              go_wp2_with fail
              refine CO.mono ?_
              rintro e w3 ⟨rfl, o3⟩
              obtain ⟨f1, f2, f2f, f3, f4, f5, f6⟩ := HF.out w3 o3
              have HO3 := Lib.hid o3
              clear CO CS cj0 o00 o01 o02 o03 o3
              go_wp2_with fail
              refine (HEN'.out w3).mono ?_
              rintro e w5 ⟨rfl, o5⟩
              have HO5 := Lib.hid (HO3.out.trans o5)
              obtain ⟨f1, f2, f2f, f3, f4, f5, f6⟩ := HF.out w5 HO5.out
              clear o5 HO3
              go_wp2_with fail
              have M3 := HM0.out.only0 HO5.out
              have C := (md_commit M3 HT.out).mono (fun e w4 h4 => StRes.re (r := (s.commit jn t).1) (commit_pairs s jn t) h4)
              have HOW := Lib.hid ((HO.out.any P).trans (HO5.out.any P))
              have HB3 := Lib.hid (HO5.out.blk HB.out (fun h => h))
              clear M3
              refine C.mono ?_
              intro e w4 h4
              obtain ⟨a, c, he⟩ : ∃ a c, e = .returned (resAgg (s.commit jn t).1 a c) := by obtain ⟨_, _, a, c, he, _⟩ := h4; exact ⟨a, c, he⟩
              subst he
              have B4 : Blk w4 n1 27 #[.int .i64 0, .int .i64 0, .slice none 0 0, .int .i64 0, .int .i64 0] := by
                obtain ⟨_, _, _, _, _, _, _, _, o4, _⟩ := h4
                exact o4.blk HB3.out HS.out.2.1
              have b0 : w4.cell? ⟨n1, 0, none⟩ = some (.int .i64 0) := B4.cell 0
              have b1 : w4.cell? ⟨n1, 1, none⟩ = some (.int .i64 0) := B4.cell 1
              have b2 : w4.cell? ⟨n1, 2, none⟩ = some (.slice none 0 0) := B4.cell 2
              have b3 : w4.cell? ⟨n1, 3, none⟩ = some (.int .i64 0) := B4.cell 3
              have b4 : w4.cell? ⟨n1, 4, none⟩ = some (.int .i64 0) := B4.cell 4
              have bf := fun i => B4.free i
              have HB4 := Lib.hid B4
              have R := fun w9 (o9 : Only (fun c => c = n1) w4 w9) => DoRes.re h4 HOW.out HS.out.2.2.1 HB3.out.lt HS.out.2.1 o9 rfl
              have HR := Lib.hid R
              clear R h4 B4 C
              unfold resAgg
              go_wp2_with fail
              obtain ⟨B9, o9⟩ := set5 HB4.out _ _ _ _ _
              exact bodyPost_ret (results_cell_tmp Try.results19 _ _ n1 _ _ _ _ (.int .i64 0) rfl rfl B9 Try.underlying27 rfl info_res) rfl (HR.out _ o9)
            · subst h7
              rw [show s.call jn t ⟨7, (k : Int), hi, value⟩ = (abortRes 0 1, s.kill jn t) from rfl]
              go_enter Try.func19, Try.ntmps19
              go_upto_region 1 with (fail)
              rw [← hW, ← HN.out, ← HN1.out]
              clear hW
              go_wp2_with fail
              refine CS.mono ?_
              rintro e w1 ⟨rfl, rfl⟩
              go_wp2_with fail
              refine CO.mono ?_
              rintro e w3 ⟨rfl, o3⟩
              obtain ⟨f1, f2, f2f, f3, f4, f5, f6⟩ := HF.out w3 o3
              have HO3 := Lib.hid o3
              clear CO CS cj0 o00 o01 o02 o03 o3
              go_wp2_with fail
              refine (HEN'.out w3).mono ?_
              rintro e w5 ⟨rfl, o5⟩
              have HO5 := Lib.hid (HO3.out.trans o5)
              obtain ⟨f1, f2, f2f, f3, f4, f5, f6⟩ := HF.out w5 HO5.out
              clear o5 HO3
              go_wp2_with fail
              have M3 := HM0.out.only0 HO5.out
              have C := (md_abort M3 HT.out 0 1).mono (fun e w4 h4 => StRes.re (r := abortRes 0 1) rfl h4)
              have HOW := Lib.hid ((HO.out.any P).trans (HO5.out.any P))
              have HB3 := Lib.hid (HO5.out.blk HB.out (fun h => h))
              clear M3
              refine C.mono ?_
              intro e w4 h4
              obtain ⟨a, c, he⟩ : ∃ a c, e = .returned (resAgg (abortRes 0 1) a c) := by obtain ⟨_, _, a, c, he, _⟩ := h4; exact ⟨a, c, he⟩
              subst he
              have B4 : Blk w4 n1 27 #[.int .i64 0, .int .i64 0, .slice none 0 0, .int .i64 0, .int .i64 0] := by
                obtain ⟨_, _, _, _, _, _, _, _, o4, _⟩ := h4
                exact o4.blk HB3.out HS.out.2.1
              have b0 : w4.cell? ⟨n1, 0, none⟩ = some (.int .i64 0) := B4.cell 0
              have b1 : w4.cell? ⟨n1, 1, none⟩ = some (.int .i64 0) := B4.cell 1
              have b2 : w4.cell? ⟨n1, 2, none⟩ = some (.slice none 0 0) := B4.cell 2
              have b3 : w4.cell? ⟨n1, 3, none⟩ = some (.int .i64 0) := B4.cell 3
              have b4 : w4.cell? ⟨n1, 4, none⟩ = some (.int .i64 0) := B4.cell 4
              have bf := fun i => B4.free i
              have HB4 := Lib.hid B4
              have R := fun w9 (o9 : Only (fun c => c = n1) w4 w9) => DoRes.re h4 HOW.out HS.out.2.2.1 HB3.out.lt HS.out.2.1 o9 rfl
              have HR := Lib.hid R
              clear R h4 B4 C
              unfold resAgg
              go_wp2_with fail
              obtain ⟨B9, o9⟩ := set5 HB4.out _ _ _ _ _
              exact bodyPost_ret (results_cell_tmp Try.results19 _ _ n1 _ _ _ _ (.int .i64 0) rfl rfl B9 Try.underlying27 rfl info_res) rfl (HR.out _ o9)
end Go.Proofs.Ytcbhafddehipdaa

/-
  ModelBounds: what its proof rests on, part 5.
-/
import Derived.Deep.Cut
import Derived.Deep.QuietTactic
import Derived.BigQuiet
import Derived.Test.YtcbhafddehipdaaProg
import Derived.Deep.RegionHeld
import Derived.IntWalk
import Derived.Test.YtcbhafddehipdaaZModelBounds1
import Derived.Test.YtcbhafddehipdaaZModelBounds2
import Derived.Test.YtcbhafddehipdaaZModelBounds4
namespace Go.Proofs.Ytcbhafddehipdaa
open Go.RowKit
set_option linter.unusedVariables false
set_option linter.unusedSimpArgs false
theorem results_cell_tmp {P : Program} {fn : Func} {p q : Tmp} {ty : TypeId} (h : fn.results = #[.cell p ty, .tmp q]) (tmps : Array Value) (w : World) (g : Nat) (t : TypeId) (cs : Array Value) (fr : Nat × Nat) (d : TypeDesc) (v : Value)
    (hp : tmps.getD p undef = .pointer (some ⟨g, 0, none⟩)) (hq : tmps.getD q undef = v) (hg : w.heap[g]? = some (.cells cs t fr))
    (hu : P.underlying ty = some d) (hd : (match d with | .struct _ | .array _ _ => true | _ => false) = true) (hi : (P.info? ty).map (·.size) = some cs.size) :
    (results fn tmps).run P w = .ok (.tuple #[.agg cs, v]) w := by
  have hp' : tmps[p]?.getD undef = .pointer (some ⟨g, 0, none⟩) := by simpa using hp
  have hq' : tmps[q]?.getD undef = v := by simpa using hq
  simp [results, h, hp', hq', asAddr, run_loadVar_row w g t ty cs fr d hg hu hd hi]
/-- The Model lies at m, in the blocks of P, all of them from B on. -/
def MAt (B : Nat) (w : World) (P : Nat → Prop) (m : Nat) (s : St) : Prop := ∃ A, MIn B w P m s A
def resAgg (r : Res) (a : Option Addr) (c : Nat) : Value := .agg #[.int .i64 r.e, .int .i64 r.value, .slice a r.pairs.length c, .int .i64 r.over, .int .i64 r.reason]
/-- What Do leaves. -/
def DoRes (B m : Nat) (w : World) (P : Nat → Prop) (x : Res × Int × St) (e : Ending) (w' : World) : Prop :=
  ∃ (P' : Nat → Prop) (a : Option Addr) (c : Nat), e = .returned (.tuple #[resAgg x.1 a c, .int .i64 x.2.1]) ∧ MAt B w' P' m x.2.2 ∧ Only P w w' ∧ Grew w.heap.size P P' ∧ PairsIn w' a x.1.pairs ∧ ∀ y, a = some y → w.heap.size ≤ y.block ∧ ¬ P' y.block
theorem DoRes.same {B m : Nat} {w w9 : World} {P : Nat → Prop} {s : St} {A : Ad} {n1 : Nat} {W : World} {er : Int} (M : MIn B W P m s A) (hn : w.heap.size ≤ n1) (hP : ¬ P n1) (o : Only P w W) (o9 : Only (fun c => c = n1) W w9) : DoRes B m w P (.zero, er, s) (.returned (.tuple #[.agg #[.int .i64 0, .int .i64 0, .slice none 0 0, .int .i64 0, .int .i64 0], .int .i64 er])) w9 :=
  ⟨P, none, 0, rfl, ⟨A, M.only o9 (fun b hb e => by subst e; exact hP hb)⟩, o.grewTrans (P2 := fun b => P b ∨ b = n1) (fun b hb => hb.imp id (fun e => by omega)) (o9.toward (fun b hb => .inr hb)), Grew.refl _ _, .inl rfl, fun y hy => by cases hy⟩
theorem DoRes.re {B m : Nat} {w W w2 w9 : World} {P : Nat → Prop} {A : Ad} {r : Res} {s' : St} {n1 : Nat} {e : Ending} (h : ReRes B m W P A r s' e w2) (oW : Only P w W) (hn : w.heap.size ≤ n1) (hnW : n1 < W.heap.size) (hP : ¬ P n1) (o9 : Only (fun c => c = n1) w2 w9) {a : Option Addr} {c : Nat} (he : e = .returned (resAgg r a c)) :
    DoRes B m w P (r, 0, s') (.returned (.tuple #[resAgg r a c, .int .i64 0])) w9 := by
  obtain ⟨A', P', a', c', he', M, _, _, o2, g2, hp, ha⟩ := h
  rw [he] at he'
  have hac : a = a' ∧ c = c' := by
    unfold resAgg at he'
    injection he' with h1; injection h1 with h1
    simp at h1; exact h1
  obtain ⟨rfl, rfl⟩ := hac
  have hP' : ¬ P' n1 := fun hp1 => by
    rcases g2 n1 hp1 with h1 | h1
    · exact hP h1
    · omega
  refine ⟨P', a, c, rfl, ⟨A', M.only o9 (fun b hb e => by subst e; exact hP' hb)⟩, (oW.trans o2).grewTrans (P2 := fun b => P b ∨ b = n1) (fun b hb => hb.imp id (fun e => by omega)) (o9.toward (fun b hb => .inr hb)), g2.base oW.size, hp.only o9 (fun y hy e => ?_), fun y hy => ⟨Nat.le_trans oW.size (ha y hy).1, (ha y hy).2⟩⟩
  have := (ha y hy).1; omega
theorem opOk_key {o : MOp} (h : opOkB o = true) : 0 ≤ o.key ∧ o.key ≤ 63 := by
  unfold opOkB at h
  split at h
  · simp [keyOkB] at h; omega
  · split at h
    · simp [keyOkB] at h; omega
    · split at h
      · simp [keyOkB] at h; omega
      · split at h
        · simp at h; omega
        · cases h
theorem opOk_scan {o : MOp} (h : opOkB o = true) (hk : o.kind = 5) : o.key ≤ o.hi ∧ o.hi ≤ 63 := by
  unfold opOkB at h
  simp [hk, keyOkB] at h; omega
theorem opOk_kind {o : MOp} (h : opOkB o = true) : 1 ≤ o.kind ∧ o.kind ≤ 7 := by
  unfold opOkB at h
  split at h
  · omega
  · split at h
    · omega
    · split at h
      · omega
      · split at h
        · omega
        · cases h
theorem MIn.op {B m : Nat} {w : World} {P : Nat → Prop} {s : St} {A : Ad} (h : MIn B w P m s A) {j : Nat} {t : Tx} (ht : s.tx j = some t) (h12 : t.ops < 12) : MIn B (w.setCell ⟨A.tb j, 3, none⟩ (.int .i64 (t.ops + 1))) P m (s.setTx j (some t.op)) A ∧ Only P w (w.setCell ⟨A.tb j, 3, none⟩ (.int .i64 (t.ops + 1))) := by
  have X := (h.txs.one j t ht).2
  have hop := h.ok.ops j t ht
  have o := Only.set1 w (A.tb j) 3 (.int .i64 (t.ops + 1))
  have mapNe : ∀ i u, s.tx i = some u → ∀ q, q < 3 → A.mb i q ≠ A.tb j := fun i u hu q hq => by
    have Y := (h.txs.one i u hu).2
    match q, hq with
    | 0, _ => exact Y.cm.ne X.blk
    | 1, _ => exact Y.gm.ne X.blk
    | 2, _ => exact Y.km.ne X.blk
  refine ⟨h.turnTx ht (fun k => rfl) o (h.mod.ne X.blk (by decide)) (fun b hb e => by subst e; exact rows_ne h.row X.blk (by decide) hb) (h.vers.blkNe X.blk (by decide))
    (fun i u hi hu => ⟨fun e => hi (h.txs.tinj i j u t hu ht e), mapNe i u hu, fun k c hk => ((h.txs.one i u hu).2.cel k c hk).2.1.ne X.blk (by decide)⟩) ?_ (h.ok.setTx (by simp [Tx.op]; omega) (fun k c hc => h.ok.refs j t k c ht hc)), o.toward (fun b hb => by subst hb; exact X.pt)⟩
  refine ⟨?_, X.cm.only o (mapNe j t ht 0 (by omega)), X.gm.only o (mapNe j t ht 1 (by omega)), X.km.only o (mapNe j t ht 2 (by omega)), fun k c hk => ⟨(X.cel k c hk).1, o.blk (X.cel k c hk).2.1 ((X.cel k c hk).2.1.ne X.blk (by decide)), (X.cel k c hk).2.2⟩, X.pt, X.pm⟩
  have := X.blk.set 3 (.int .i64 (t.ops + 1))
  have e : (txCells A j t).setIfInBounds 3 (.int .i64 (t.ops + 1)) = txCells A j t.op := by simp [txCells, Tx.op]
  rw [← e]; exact this
theorem commit_pairs (s : St) (j : Nat) (t : Tx) : (s.commit j t).1.pairs = [] := by
  unfold St.commit
  split
  · rfl
  · split <;> rfl
theorem get_pairs (s : St) (j : Nat) (t : Tx) (k : Nat) : (s.get j t k).1.pairs = [] := by
  unfold St.get
  split <;> rfl
theorem change_pairs (s : St) (j : Nat) (t : Tx) (kind : Int) (k : Nat) (value : Int) : (s.change j t kind k value).1.pairs = [] := by
  unfold St.change
  split
  · rfl
  · split
    split <;> rfl
theorem call_get (s : St) (j : Nat) (t : Tx) (k : Nat) (hi value : Int) : s.call j t ⟨1, (k : Int), hi, value⟩ = (s.setTx j (some t.op)).get j t.op k := by
  have : s.call j t ⟨1, (k : Int), hi, value⟩ = s.get j t.op k := by simp [St.call]
  rw [this]
  unfold St.get
  have e : (s.setTx j (some t.op)).sees t.op k = s.sees t.op k := rfl
  rw [e]
  cases s.sees t.op k <;> simp only [setTx_setTx] <;> rfl
theorem call_scan (s : St) (j : Nat) (t : Tx) (k hn : Nat) (value : Int) : s.call j t ⟨5, (k : Int), (hn : Int), value⟩ = (s.setTx j (some t.op)).scan j t.op k (hn + 1 - k) := by
  have e1 : ((hn : Int) + 1 - (k : Int)).toNat = hn + 1 - k := by omega
  have : s.call j t ⟨5, (k : Int), (hn : Int), value⟩ = s.scan j t.op k (hn + 1 - k) := by simp [St.call, e1]
  rw [this]
  unfold St.scan
  rw [setTx_setTx]; rfl
theorem call_change (s : St) (j : Nat) (t : Tx) (k : Nat) (kind hi value : Int) (h : kind ≠ 6 ∧ kind ≠ 7 ∧ kind ≠ 1 ∧ kind ≠ 5) : s.call j t ⟨kind, (k : Int), hi, value⟩ = (s.setTx j (some t.op)).change j t.op kind k value := by
  simp [St.call, h.1, h.2.1, h.2.2.1, h.2.2.2]
set_option maxRecDepth 100000 in
set_option maxHeartbeats 16000000 in
theorem md_do {B m : Nat} {w : World} {P : Nat → Prop} {s : St} (h : MAt B w P m s) (j kind key hi value : Int) :
    Calls Try.prog 19 #[.pointer (some ⟨m, 0, none⟩), .int .i64 j, .agg #[.int .i64 kind, .int .i64 key, .int .i64 hi, .int .i64 value]] w (DoRes B m w P (s.do_ j ⟨kind, key, hi, value⟩)) := by
  obtain ⟨A, h⟩ := h
  obtain ⟨W, hW⟩ : ∃ W, W = (w.alloc (.cells #[.int .i64 kind, .int .i64 key, .int .i64 hi, .int .i64 value] 31)).alloc (.cells #[.int .i64 0, .int .i64 0, .slice none 0 0, .int .i64 0, .int .i64 0] 27) := ⟨_, rfl⟩
  have oW : Only0 w W := by rw [hW]; exact ((Only0.refl w).alloc _).alloc _
  have M0 := h.only0 oW
  have BO : Blk W w.heap.size 31 #[.int .i64 kind, .int .i64 key, .int .i64 hi, .int .i64 value] := by rw [hW]; exact (Blk.new _ _ _).alloc _
  have BX : Blk W (w.heap.size + 1) 27 #[.int .i64 0, .int .i64 0, .slice none 0 0, .int .i64 0, .int .i64 0] := by rw [hW]; exact Blk.new' _ _ _ _ (by simp)
  have hu := h.under
  obtain ⟨n0, hn0⟩ : ∃ n0, n0 = w.heap.size := ⟨_, rfl⟩
  obtain ⟨n1, hn1⟩ : ∃ n1, n1 = n0 + 1 := ⟨_, rfl⟩
  have HN := Lib.hid hn0
  have HN1 := Lib.hid hn1
  have HS := Lib.hid (show ¬ P n0 ∧ ¬ P n1 ∧ w.heap.size ≤ n1 ∧ n1 < W.heap.size from ⟨fun hp => by have := hu _ hp; omega, fun hp => by have := hu _ hp; omega, by omega, by have := BX.lt; omega⟩)
  have HM0 := Lib.hid M0
  have HO := Lib.hid oW
  have HBO := Lib.hid (show Blk W n0 31 #[.int .i64 kind, .int .i64 key, .int .i64 hi, .int .i64 value] by rw [hn0]; exact BO)
  have HB := Lib.hid (show Blk W n1 27 #[.int .i64 0, .int .i64 0, .slice none 0 0, .int .i64 0, .int .i64 0] by rw [hn1, hn0]; exact BX)
  clear h M0 BO BX hu hn0 hn1 oW
  have CS := md_sess j W
  cases hs : sessB j with
  | false =>
    rw [show s.do_ j ⟨kind, key, hi, value⟩ = (.zero, 1, s) by simp [St.do_, hs]]
    rw [hs] at CS
    clear hs
    go_enter Try.func19, Try.ntmps19
    go_upto_region 1 with (fail)
    rw [← hW, ← HN.out, ← HN1.out]
    clear hW
    go_wp2_with fail
    refine CS.mono ?_
    rintro e w1 ⟨rfl, rfl⟩
    have B1 := (HB.out)
    have b0 : W.cell? ⟨n1, 0, none⟩ = some (.int .i64 0) := B1.cell 0
    have b1 : W.cell? ⟨n1, 1, none⟩ = some (.int .i64 0) := B1.cell 1
    have b2 : W.cell? ⟨n1, 2, none⟩ = some (.slice none 0 0) := B1.cell 2
    have b3 : W.cell? ⟨n1, 3, none⟩ = some (.int .i64 0) := B1.cell 3
    have b4 : W.cell? ⟨n1, 4, none⟩ = some (.int .i64 0) := B1.cell 4
    have bf := fun i => B1.free i
    have HB1 := Lib.hid B1
    clear B1
    go_wp2_with fail
    obtain ⟨B9, o9⟩ := set5 HB1.out (.int .i64 0) (.int .i64 0) (.slice none 0 0) (.int .i64 0) (.int .i64 0)
    exact bodyPost_ret (results_cell_tmp Try.results19 _ _ n1 _ _ _ _ (.int .i64 1) rfl rfl B9 Try.underlying27 rfl info_res) rfl (DoRes.same HM0.out HS.out.2.2.1 HS.out.2.1 (HO.out.any P) o9)
  | true =>
    obtain ⟨jn, rfl, hjn⟩ : ∃ jn : Nat, j = (jn : Int) ∧ jn < 8 := by
      simp [sessB] at hs; exact ⟨j.toNat, by omega, by omega⟩
    rw [hs] at CS
    have j8 : (jn : Int) < 8 := by omega
    have j0 : (0 : Int) ≤ (jn : Int) := by omega
    have cj0 := HM0.out.sess jn hjn
    cases htx : s.tx jn with
    | none =>
      rw [show s.do_ (jn : Int) ⟨kind, key, hi, value⟩ = (.zero, 9, s) by simp [St.do_, hs, htx]]
      rw [show txPtr A s.tx jn = .pointer none by simp [txPtr, htx]] at cj0
      clear hs htx
      go_enter Try.func19, Try.ntmps19
      go_upto_region 1 with (fail)
      rw [← hW, ← HN.out, ← HN1.out]
      clear hW
      go_wp2_with fail
      refine CS.mono ?_
      rintro e w1 ⟨rfl, rfl⟩
      have B1 := (HB.out)
      have b0 : W.cell? ⟨n1, 0, none⟩ = some (.int .i64 0) := B1.cell 0
      have b1 : W.cell? ⟨n1, 1, none⟩ = some (.int .i64 0) := B1.cell 1
      have b2 : W.cell? ⟨n1, 2, none⟩ = some (.slice none 0 0) := B1.cell 2
      have b3 : W.cell? ⟨n1, 3, none⟩ = some (.int .i64 0) := B1.cell 3
      have b4 : W.cell? ⟨n1, 4, none⟩ = some (.int .i64 0) := B1.cell 4
      have bf := fun i => B1.free i
      have HB1 := Lib.hid B1
      clear B1
      go_wp2_with fail
      obtain ⟨B9, o9⟩ := set5 HB1.out (.int .i64 0) (.int .i64 0) (.slice none 0 0) (.int .i64 0) (.int .i64 0)
      exact bodyPost_ret (results_cell_tmp Try.results19 _ _ n1 _ _ _ _ (.int .i64 9) rfl rfl B9 Try.underlying27 rfl info_res) rfl (DoRes.same HM0.out HS.out.2.2.1 HS.out.2.1 (HO.out.any P) o9)
    | some t =>
      rw [show txPtr A s.tx jn = .pointer (some ⟨A.tb jn, 0, none⟩) by simp [txPtr, htx]] at cj0
      have HT := Lib.hid htx
      have o00 : W.cell? ⟨n0, 0, none⟩ = some (.int .i64 kind) := HBO.out.cell 0
      have o01 : W.cell? ⟨n0, 1, none⟩ = some (.int .i64 key) := HBO.out.cell 1
      have o02 : W.cell? ⟨n0, 2, none⟩ = some (.int .i64 hi) := HBO.out.cell 2
      have o03 : W.cell? ⟨n0, 3, none⟩ = some (.int .i64 value) := HBO.out.cell 3
      have FACT : ∀ w', Only0 W w' → w'.cell? ⟨m, 5 + jn, none⟩ = some (.pointer (some ⟨A.tb jn, 0, none⟩)) ∧ w'.cell? ⟨A.tb jn, 3, none⟩ = some (.int .i64 t.ops) ∧ w'.frozen? ⟨A.tb jn, 3, none⟩ = false ∧ w'.cell? ⟨n0, 0, none⟩ = some (.int .i64 kind) ∧ w'.cell? ⟨n0, 1, none⟩ = some (.int .i64 key) ∧ w'.cell? ⟨n0, 2, none⟩ = some (.int .i64 hi) ∧ w'.cell? ⟨n0, 3, none⟩ = some (.int .i64 value) := fun w' o => by
        have M := HM0.out.only0 o
        have X := (M.txs.one jn t HT.out).2
        have b := o.blk HBO.out (fun h => h)
        exact ⟨by rw [M.sess jn hjn]; simp [txPtr, HT.out], X.blk.cell 3, X.blk.free 3, b.cell 0, b.cell 1, b.cell 2, b.cell 3⟩
      have HF := Lib.hid FACT
      have hops := HM0.out.ok.ops jn t HT.out
      obtain ⟨hop0, hop1⟩ := hops
      have CO := md_opOk kind key hi value W
      clear FACT
      cases hok : opOkB ⟨kind, key, hi, value⟩ with
      | false =>
        rw [show s.do_ (jn : Int) ⟨kind, key, hi, value⟩ = (.zero, 9, s) by simp [St.do_, hs, htx, hok]]
        rw [hok] at CO
        clear hs htx hok
        go_enter Try.func19, Try.ntmps19
        go_upto_region 1 with (fail)
        rw [← hW, ← HN.out, ← HN1.out]
        clear hW
        go_wp2_with fail
        refine CS.mono ?_
        rintro e w1 ⟨rfl, rfl⟩
        go_wp2_with fail
        refine CO.mono ?_
        rintro e w3 ⟨rfl, o3⟩
        have HO3 := Lib.hid o3
        clear CO CS cj0 o00 o01 o02 o03 o3
        have B1 := (HO3.out.blk HB.out (fun h => h))
        have b0 : w3.cell? ⟨n1, 0, none⟩ = some (.int .i64 0) := B1.cell 0
        have b1 : w3.cell? ⟨n1, 1, none⟩ = some (.int .i64 0) := B1.cell 1
        have b2 : w3.cell? ⟨n1, 2, none⟩ = some (.slice none 0 0) := B1.cell 2
        have b3 : w3.cell? ⟨n1, 3, none⟩ = some (.int .i64 0) := B1.cell 3
        have b4 : w3.cell? ⟨n1, 4, none⟩ = some (.int .i64 0) := B1.cell 4
        have bf := fun i => B1.free i
        have HB1 := Lib.hid B1
        clear B1
        go_wp2_with fail
        obtain ⟨B9, o9⟩ := set5 HB1.out (.int .i64 0) (.int .i64 0) (.slice none 0 0) (.int .i64 0) (.int .i64 0)
        exact bodyPost_ret (results_cell_tmp Try.results19 _ _ n1 _ _ _ _ (.int .i64 9) rfl rfl B9 Try.underlying27 rfl info_res) rfl (DoRes.same (HM0.out.only0 HO3.out) HS.out.2.2.1 HS.out.2.1 ((HO.out.any P).trans (HO3.out.any P)) o9)
      | true =>
        rw [hok] at CO
        have hkey := opOk_key hok
        have hkk := opOk_kind hok
        obtain ⟨k, rfl, hk⟩ : ∃ k : Nat, key = (k : Int) ∧ k < 64 := ⟨key.toNat, by simp at hkey; omega, by simp at hkey; omega⟩
        have HOK := Lib.hid hok
        simp only at hkk
        by_cases h12 : t.ops < 12
        · have hov : (decide (12 ≤ t.ops) && !endsB ⟨kind, (k : Int), hi, value⟩) = false := by simp; omega
          rw [show s.do_ (jn : Int) ⟨kind, (k : Int), hi, value⟩ = ((s.call jn t ⟨kind, (k : Int), hi, value⟩).1, 0, (s.call jn t ⟨kind, (k : Int), hi, value⟩).2) by simp only [St.do_, hs, if_true, Int.toNat_natCast, htx, hok, hov]; rfl]
          clear hs htx hok hov hkey
          by_cases h6 : kind = 6
          · subst h6
            rw [show s.call jn t ⟨6, (k : Int), hi, value⟩ = s.commit jn t from rfl]
            go_enter Try.func19, Try.ntmps19
            go_upto_region 1 with (fail)
            rw [← hW, ← HN.out, ← HN1.out]
            clear hW
            go_wp2_with fail
            refine CS.mono ?_
            rintro e w1 ⟨rfl, rfl⟩
            go_wp2_with fail
            refine CO.mono ?_
            rintro e w3 ⟨rfl, o3⟩
            obtain ⟨f1, f2, f2f, f3, f4, f5, f6⟩ := HF.out w3 o3
            have HO3 := Lib.hid o3
            clear CO CS cj0 o00 o01 o02 o03 o3
            go_wp2_with fail
            have M3 := HM0.out.only0 HO3.out
            have C := (md_commit M3 HT.out).mono (fun e w4 h4 => StRes.re (r := (s.commit jn t).1) (commit_pairs s jn t) h4)
            have HOW := Lib.hid ((HO.out.any P).trans (HO3.out.any P))
            have HB3 := Lib.hid (HO3.out.blk HB.out (fun h => h))
            clear M3
            refine C.mono ?_
            intro e w4 h4
            obtain ⟨a, c, he⟩ : ∃ a c, e = .returned (resAgg (s.commit jn t).1 a c) := by obtain ⟨_, _, a, c, he, _⟩ := h4; exact ⟨a, c, he⟩
            subst he
            have B4 : Blk w4 n1 27 #[.int .i64 0, .int .i64 0, .slice none 0 0, .int .i64 0, .int .i64 0] := by
              obtain ⟨_, _, _, _, _, _, _, _, o4, _⟩ := h4
              exact o4.blk HB3.out HS.out.2.1
            have b0 : w4.cell? ⟨n1, 0, none⟩ = some (.int .i64 0) := B4.cell 0
            have b1 : w4.cell? ⟨n1, 1, none⟩ = some (.int .i64 0) := B4.cell 1
            have b2 : w4.cell? ⟨n1, 2, none⟩ = some (.slice none 0 0) := B4.cell 2
            have b3 : w4.cell? ⟨n1, 3, none⟩ = some (.int .i64 0) := B4.cell 3
            have b4 : w4.cell? ⟨n1, 4, none⟩ = some (.int .i64 0) := B4.cell 4
            have bf := fun i => B4.free i
            have HB4 := Lib.hid B4
            have R := fun w9 (o9 : Only (fun c => c = n1) w4 w9) => DoRes.re h4 HOW.out HS.out.2.2.1 HB3.out.lt HS.out.2.1 o9 rfl
            have HR := Lib.hid R
            clear R h4 B4 C
            unfold resAgg
            go_wp2_with fail
            obtain ⟨B9, o9⟩ := set5 HB4.out _ _ _ _ _
            exact bodyPost_ret (results_cell_tmp Try.results19 _ _ n1 _ _ _ _ (.int .i64 0) rfl rfl B9 Try.underlying27 rfl info_res) rfl (HR.out _ o9)
          by_cases h7 : kind = 7
          · subst h7
            rw [show s.call jn t ⟨7, (k : Int), hi, value⟩ = (abortRes 0 1, s.kill jn t) from rfl]
            go_enter Try.func19, Try.ntmps19
            go_upto_region 1 with (fail)
            rw [← hW, ← HN.out, ← HN1.out]
            clear hW
            go_wp2_with fail
            refine CS.mono ?_
            rintro e w1 ⟨rfl, rfl⟩
            go_wp2_with fail
            refine CO.mono ?_
            rintro e w3 ⟨rfl, o3⟩
            obtain ⟨f1, f2, f2f, f3, f4, f5, f6⟩ := HF.out w3 o3
            have HO3 := Lib.hid o3
            clear CO CS cj0 o00 o01 o02 o03 o3
            go_wp2_with fail
            have M3 := HM0.out.only0 HO3.out
            have C := (md_abort M3 HT.out 0 1).mono (fun e w4 h4 => StRes.re (r := abortRes 0 1) rfl h4)
            have HOW := Lib.hid ((HO.out.any P).trans (HO3.out.any P))
            have HB3 := Lib.hid (HO3.out.blk HB.out (fun h => h))
            clear M3
            refine C.mono ?_
            intro e w4 h4
            obtain ⟨a, c, he⟩ : ∃ a c, e = .returned (resAgg (abortRes 0 1) a c) := by obtain ⟨_, _, a, c, he, _⟩ := h4; exact ⟨a, c, he⟩
            subst he
            have B4 : Blk w4 n1 27 #[.int .i64 0, .int .i64 0, .slice none 0 0, .int .i64 0, .int .i64 0] := by
              obtain ⟨_, _, _, _, _, _, _, _, o4, _⟩ := h4
              exact o4.blk HB3.out HS.out.2.1
            have b0 : w4.cell? ⟨n1, 0, none⟩ = some (.int .i64 0) := B4.cell 0
            have b1 : w4.cell? ⟨n1, 1, none⟩ = some (.int .i64 0) := B4.cell 1
            have b2 : w4.cell? ⟨n1, 2, none⟩ = some (.slice none 0 0) := B4.cell 2
            have b3 : w4.cell? ⟨n1, 3, none⟩ = some (.int .i64 0) := B4.cell 3
            have b4 : w4.cell? ⟨n1, 4, none⟩ = some (.int .i64 0) := B4.cell 4
            have bf := fun i => B4.free i
            have HB4 := Lib.hid B4
            have R := fun w9 (o9 : Only (fun c => c = n1) w4 w9) => DoRes.re h4 HOW.out HS.out.2.2.1 HB3.out.lt HS.out.2.1 o9 rfl
            have HR := Lib.hid R
            clear R h4 B4 C
            unfold resAgg
            go_wp2_with fail
            obtain ⟨B9, o9⟩ := set5 HB4.out _ _ _ _ _
            exact bodyPost_ret (results_cell_tmp Try.results19 _ _ n1 _ _ _ _ (.int .i64 0) rfl rfl B9 Try.underlying27 rfl info_res) rfl (HR.out _ o9)
          by_cases h1 : kind = 1
          · subst h1
            rw [show s.call jn t ⟨1, (k : Int), hi, value⟩ = (s.setTx jn (some t.op)).get jn t.op k from call_get s jn t k hi value]
            go_enter Try.func19, Try.ntmps19
            go_upto_region 1 with (fail)
            rw [← hW, ← HN.out, ← HN1.out]
            clear hW
            go_wp2_with fail
            refine CS.mono ?_
            rintro e w1 ⟨rfl, rfl⟩
            go_wp2_with fail
            refine CO.mono ?_
            rintro e w3 ⟨rfl, o3⟩
            obtain ⟨f1, f2, f2f, f3, f4, f5, f6⟩ := HF.out w3 o3
            have HO3 := Lib.hid o3
            clear CO CS cj0 o00 o01 o02 o03 o3
            have M4 := HM0.out.only0 HO3.out
            obtain ⟨M5, o5⟩ := M4.op HT.out h12
            obtain ⟨W5, hW5⟩ : ∃ W5, W5 = w3.setCell ⟨A.tb jn, 3, none⟩ (.int .i64 (t.ops + 1)) := ⟨_, rfl⟩
            rw [← hW5] at M5 o5
            have T5 : (s.setTx jn (some t.op)).tx jn = some t.op := by simp [St.setTx, upd_same]
            have C0 := md_get M5 T5 k hk
            have C := C0.mono (fun e w4 h4 => StRes.re (r := ((s.setTx jn (some t.op)).get jn t.op k).1) (get_pairs _ _ _ _) h4)
            have o35 := (HO3.out.any P).trans o5
            have HOW := Lib.hid ((HO.out.any P).trans o35)
            have HB3 := Lib.hid (o35.blk HB.out HS.out.2.1)
            have bo := o35.blk HBO.out HS.out.1
            have g0 : W5.cell? ⟨n0, 0, none⟩ = some (.int .i64 1) := bo.cell 0
            have g1 : W5.cell? ⟨n0, 1, none⟩ = some (.int .i64 k) := bo.cell 1
            have g2 : W5.cell? ⟨n0, 2, none⟩ = some (.int .i64 hi) := bo.cell 2
            have g3 : W5.cell? ⟨n0, 3, none⟩ = some (.int .i64 value) := bo.cell 3
            clear M4 M5 o5 T5 C0 o35 bo
            go_upto_region 14 with (fail)
            rw [← hW5]
            clear hW5 f1 f2 f2f f3 f4 f5 f6
            go_wp2_with fail
            refine C.mono ?_
            intro e w4 h4
            obtain ⟨a, c, he⟩ : ∃ a c, e = .returned (resAgg ((s.setTx jn (some t.op)).get jn t.op k).1 a c) := by obtain ⟨_, _, a, c, he, _⟩ := h4; exact ⟨a, c, he⟩
            subst he
            have B4 : Blk w4 n1 27 #[.int .i64 0, .int .i64 0, .slice none 0 0, .int .i64 0, .int .i64 0] := by
              obtain ⟨_, _, _, _, _, _, _, _, o4, _⟩ := h4
              exact o4.blk HB3.out HS.out.2.1
            have b0 : w4.cell? ⟨n1, 0, none⟩ = some (.int .i64 0) := B4.cell 0
            have b1 : w4.cell? ⟨n1, 1, none⟩ = some (.int .i64 0) := B4.cell 1
            have b2 : w4.cell? ⟨n1, 2, none⟩ = some (.slice none 0 0) := B4.cell 2
            have b3 : w4.cell? ⟨n1, 3, none⟩ = some (.int .i64 0) := B4.cell 3
            have b4 : w4.cell? ⟨n1, 4, none⟩ = some (.int .i64 0) := B4.cell 4
            have bf := fun i => B4.free i
            have HB4 := Lib.hid B4
            have R := fun w9 (o9 : Only (fun c => c = n1) w4 w9) => DoRes.re h4 HOW.out HS.out.2.2.1 HB3.out.lt HS.out.2.1 o9 rfl
            have HR := Lib.hid R
            clear R h4 B4 C
            unfold resAgg
            go_wp2_with fail
            obtain ⟨B9, o9⟩ := set5 HB4.out _ _ _ _ _
            exact bodyPost_ret (results_cell_tmp Try.results19 _ _ n1 _ _ _ _ (.int .i64 0) rfl rfl B9 Try.underlying27 rfl info_res) rfl (HR.out _ o9)
          by_cases h5 : kind = 5
          · subst h5
            have hsc := opOk_scan HOK.out rfl
            obtain ⟨hn, rfl, hlo, hhi⟩ : ∃ hn : Nat, hi = (hn : Int) ∧ k ≤ hn ∧ hn < 64 := ⟨hi.toNat, by simp at hsc; omega, by simp at hsc; omega, by simp at hsc; omega⟩
            clear hsc
            rw [show s.call jn t ⟨5, (k : Int), (hn : Int), value⟩ = (s.setTx jn (some t.op)).scan jn t.op k (hn + 1 - k) from call_scan s jn t k hn value]
            go_enter Try.func19, Try.ntmps19
            go_upto_region 1 with (fail)
            rw [← hW, ← HN.out, ← HN1.out]
            clear hW
            go_wp2_with fail
            refine CS.mono ?_
            rintro e w1 ⟨rfl, rfl⟩
            go_wp2_with fail
            refine CO.mono ?_
            rintro e w3 ⟨rfl, o3⟩
            obtain ⟨f1, f2, f2f, f3, f4, f5, f6⟩ := HF.out w3 o3
            have HO3 := Lib.hid o3
            clear CO CS cj0 o00 o01 o02 o03 o3
            have M4 := HM0.out.only0 HO3.out
            obtain ⟨M5, o5⟩ := M4.op HT.out h12
            obtain ⟨W5, hW5⟩ : ∃ W5, W5 = w3.setCell ⟨A.tb jn, 3, none⟩ (.int .i64 (t.ops + 1)) := ⟨_, rfl⟩
            rw [← hW5] at M5 o5
            have T5 : (s.setTx jn (some t.op)).tx jn = some t.op := by simp [St.setTx, upd_same]
            have C0 := md_scan M5 T5 k hn hlo hhi
            have C := C0
            have o35 := (HO3.out.any P).trans o5
            have HOW := Lib.hid ((HO.out.any P).trans o35)
            have HB3 := Lib.hid (o35.blk HB.out HS.out.2.1)
            have bo := o35.blk HBO.out HS.out.1
            have g0 : W5.cell? ⟨n0, 0, none⟩ = some (.int .i64 5) := bo.cell 0
            have g1 : W5.cell? ⟨n0, 1, none⟩ = some (.int .i64 k) := bo.cell 1
            have g2 : W5.cell? ⟨n0, 2, none⟩ = some (.int .i64 hn) := bo.cell 2
            have g3 : W5.cell? ⟨n0, 3, none⟩ = some (.int .i64 value) := bo.cell 3
            clear M4 M5 o5 T5 C0 o35 bo
            go_upto_region 14 with (fail)
            rw [← hW5]
            clear hW5 f1 f2 f2f f3 f4 f5 f6
            go_wp2_with fail
            refine C.mono ?_
            intro e w4 h4
            obtain ⟨a, c, he⟩ : ∃ a c, e = .returned (resAgg ((s.setTx jn (some t.op)).scan jn t.op k (hn + 1 - k)).1 a c) := by obtain ⟨_, _, a, c, he, _⟩ := h4; exact ⟨a, c, he⟩
            subst he
            have B4 : Blk w4 n1 27 #[.int .i64 0, .int .i64 0, .slice none 0 0, .int .i64 0, .int .i64 0] := by
              obtain ⟨_, _, _, _, _, _, _, _, o4, _⟩ := h4
              exact o4.blk HB3.out HS.out.2.1
            have b0 : w4.cell? ⟨n1, 0, none⟩ = some (.int .i64 0) := B4.cell 0
            have b1 : w4.cell? ⟨n1, 1, none⟩ = some (.int .i64 0) := B4.cell 1
            have b2 : w4.cell? ⟨n1, 2, none⟩ = some (.slice none 0 0) := B4.cell 2
            have b3 : w4.cell? ⟨n1, 3, none⟩ = some (.int .i64 0) := B4.cell 3
            have b4 : w4.cell? ⟨n1, 4, none⟩ = some (.int .i64 0) := B4.cell 4
            have bf := fun i => B4.free i
            have HB4 := Lib.hid B4
            have R := fun w9 (o9 : Only (fun c => c = n1) w4 w9) => DoRes.re h4 HOW.out HS.out.2.2.1 HB3.out.lt HS.out.2.1 o9 rfl
            have HR := Lib.hid R
            clear R h4 B4 C
            unfold resAgg
            go_wp2_with fail
            obtain ⟨B9, o9⟩ := set5 HB4.out _ _ _ _ _
            exact bodyPost_ret (results_cell_tmp Try.results19 _ _ n1 _ _ _ _ (.int .i64 0) rfl rfl B9 Try.underlying27 rfl info_res) rfl (HR.out _ o9)
          rw [show s.call jn t ⟨kind, (k : Int), hi, value⟩ = (s.setTx jn (some t.op)).change jn t.op kind k value from call_change s jn t k kind hi value (by omega)]
          have q6 : (kind == 6) = false := by simpa using h6
          have q7 : (kind == 7) = false := by simpa using h7
          have q1 : (kind == 1) = false := by simpa using h1
          have q5 : (kind == 5) = false := by simpa using h5
          clear h1 h5 h6 h7
          go_enter Try.func19, Try.ntmps19
          go_upto_region 1 with (fail)
          rw [← hW, ← HN.out, ← HN1.out]
          clear hW
          go_wp2_with fail
          refine CS.mono ?_
          rintro e w1 ⟨rfl, rfl⟩
          go_wp2_with fail
          refine CO.mono ?_
          rintro e w3 ⟨rfl, o3⟩
          obtain ⟨f1, f2, f2f, f3, f4, f5, f6⟩ := HF.out w3 o3
          have HO3 := Lib.hid o3
          clear CO CS cj0 o00 o01 o02 o03 o3
          have M4 := HM0.out.only0 HO3.out
          obtain ⟨M5, o5⟩ := M4.op HT.out h12
          obtain ⟨W5, hW5⟩ : ∃ W5, W5 = w3.setCell ⟨A.tb jn, 3, none⟩ (.int .i64 (t.ops + 1)) := ⟨_, rfl⟩
          rw [← hW5] at M5 o5
          have T5 : (s.setTx jn (some t.op)).tx jn = some t.op := by simp [St.setTx, upd_same]
          have C0 := md_change M5 T5 k hk kind hi value
          have C := C0.mono (fun e w4 h4 => StRes.re (r := ((s.setTx jn (some t.op)).change jn t.op kind k value).1) (change_pairs _ _ _ _ _ _) h4)
          have o35 := (HO3.out.any P).trans o5
          have HOW := Lib.hid ((HO.out.any P).trans o35)
          have HB3 := Lib.hid (o35.blk HB.out HS.out.2.1)
          have bo := o35.blk HBO.out HS.out.1
          have g0 : W5.cell? ⟨n0, 0, none⟩ = some (.int .i64 kind) := bo.cell 0
          have g1 : W5.cell? ⟨n0, 1, none⟩ = some (.int .i64 k) := bo.cell 1
          have g2 : W5.cell? ⟨n0, 2, none⟩ = some (.int .i64 hi) := bo.cell 2
          have g3 : W5.cell? ⟨n0, 3, none⟩ = some (.int .i64 value) := bo.cell 3
          clear M4 M5 o5 T5 C0 o35 bo
          go_upto_region 14 with (fail)
          rw [← hW5]
          clear hW5 f1 f2 f2f f3 f4 f5 f6
          go_wp2_with fail
          refine C.mono ?_
          intro e w4 h4
          obtain ⟨a, c, he⟩ : ∃ a c, e = .returned (resAgg ((s.setTx jn (some t.op)).change jn t.op kind k value).1 a c) := by obtain ⟨_, _, a, c, he, _⟩ := h4; exact ⟨a, c, he⟩
          subst he
          have B4 : Blk w4 n1 27 #[.int .i64 0, .int .i64 0, .slice none 0 0, .int .i64 0, .int .i64 0] := by
            obtain ⟨_, _, _, _, _, _, _, _, o4, _⟩ := h4
            exact o4.blk HB3.out HS.out.2.1
          have b0 : w4.cell? ⟨n1, 0, none⟩ = some (.int .i64 0) := B4.cell 0
          have b1 : w4.cell? ⟨n1, 1, none⟩ = some (.int .i64 0) := B4.cell 1
          have b2 : w4.cell? ⟨n1, 2, none⟩ = some (.slice none 0 0) := B4.cell 2
          have b3 : w4.cell? ⟨n1, 3, none⟩ = some (.int .i64 0) := B4.cell 3
          have b4 : w4.cell? ⟨n1, 4, none⟩ = some (.int .i64 0) := B4.cell 4
          have bf := fun i => B4.free i
          have HB4 := Lib.hid B4
          have R := fun w9 (o9 : Only (fun c => c = n1) w4 w9) => DoRes.re h4 HOW.out HS.out.2.2.1 HB3.out.lt HS.out.2.1 o9 rfl
          have HR := Lib.hid R
          clear R h4 B4 C
          unfold resAgg
          go_wp2_with fail
          obtain ⟨B9, o9⟩ := set5 HB4.out _ _ _ _ _
          exact bodyPost_ret (results_cell_tmp Try.results19 _ _ n1 _ _ _ _ (.int .i64 0) rfl rfl B9 Try.underlying27 rfl info_res) rfl (HR.out _ o9)
        · have h12' : t.ops = 12 := by omega
          have HEN := md_ends kind (k : Int) hi value
          cases hen : endsB ⟨kind, (k : Int), hi, value⟩ with
          | false =>
            rw [show s.do_ (jn : Int) ⟨kind, (k : Int), hi, value⟩ = (.zero, 65, s) by simp [St.do_, hs, htx, hok, hen, h12']]
            rw [hen] at HEN
            have HEN' := Lib.hid HEN
            clear hs htx hok hkey hen HEN h12
            rw [h12'] at HF
            clear h12' hop0 hop1
            go_enter Try.func19, Try.ntmps19
            go_upto_region 1 with (fail)
            rw [← hW, ← HN.out, ← HN1.out]
            clear hW
            go_wp2_with fail
            refine CS.mono ?_
            rintro e w1 ⟨rfl, rfl⟩
            go_wp2_with fail
            refine CO.mono ?_
            rintro e w3 ⟨rfl, o3⟩
            obtain ⟨f1, f2, f2f, f3, f4, f5, f6⟩ := HF.out w3 o3
            have HO3 := Lib.hid o3
            clear CO CS cj0 o00 o01 o02 o03 o3
            go_wp2_with fail
            refine (HEN'.out w3).mono ?_
            rintro e w4 ⟨rfl, o4⟩
            have HO4 := Lib.hid (HO3.out.trans o4)
            clear f1 f2 f2f f3 f4 f5 f6 o4 HO3
            have B1 := (HO4.out.blk HB.out (fun h => h))
            have b0 : w4.cell? ⟨n1, 0, none⟩ = some (.int .i64 0) := B1.cell 0
            have b1 : w4.cell? ⟨n1, 1, none⟩ = some (.int .i64 0) := B1.cell 1
            have b2 : w4.cell? ⟨n1, 2, none⟩ = some (.slice none 0 0) := B1.cell 2
            have b3 : w4.cell? ⟨n1, 3, none⟩ = some (.int .i64 0) := B1.cell 3
            have b4 : w4.cell? ⟨n1, 4, none⟩ = some (.int .i64 0) := B1.cell 4
            have bf := fun i => B1.free i
            have HB1 := Lib.hid B1
            clear B1
            go_wp2_with fail
            obtain ⟨B9, o9⟩ := set5 HB1.out (.int .i64 0) (.int .i64 0) (.slice none 0 0) (.int .i64 0) (.int .i64 0)
            exact bodyPost_ret (results_cell_tmp Try.results19 _ _ n1 _ _ _ _ (.int .i64 65) rfl rfl B9 Try.underlying27 rfl info_res) rfl (DoRes.same (HM0.out.only0 HO4.out) HS.out.2.2.1 HS.out.2.1 ((HO.out.any P).trans (HO4.out.any P)) o9)
          | true =>
            have hk67 : kind = 6 ∨ kind = 7 := by simpa [endsB] using hen
            rw [show s.do_ (jn : Int) ⟨kind, (k : Int), hi, value⟩ = ((s.call jn t ⟨kind, (k : Int), hi, value⟩).1, 0, (s.call jn t ⟨kind, (k : Int), hi, value⟩).2) by simp only [St.do_, hs, if_true, Int.toNat_natCast, htx, hok, hen, Bool.not_true, Bool.and_false]; rfl]
            rw [hen] at HEN
            have HEN' := Lib.hid HEN
            clear hs htx hok hkey hen HEN h12 hkk
            rw [h12'] at HF
            clear h12' hop0 hop1
            rcases hk67 with h6 | h7
            · subst h6
              rw [show s.call jn t ⟨6, (k : Int), hi, value⟩ = s.commit jn t from rfl]
              go_enter Try.func19, Try.ntmps19
              go_upto_region 1 with (fail)
              rw [← hW, ← HN.out, ← HN1.out]
              clear hW
              go_wp2_with fail
              refine CS.mono ?_
              rintro e w1 ⟨rfl, rfl⟩
              go_wp2_with fail
              refine CO.mono ?_
              rintro e w3 ⟨rfl, o3⟩
              obtain ⟨f1, f2, f2f, f3, f4, f5, f6⟩ := HF.out w3 o3
              have HO3 := Lib.hid o3
              clear CO CS cj0 o00 o01 o02 o03 o3
              go_wp2_with fail
              refine (HEN'.out w3).mono ?_
              rintro e w5 ⟨rfl, o5⟩
              have HO5 := Lib.hid (HO3.out.trans o5)
              obtain ⟨f1, f2, f2f, f3, f4, f5, f6⟩ := HF.out w5 HO5.out
              clear o5 HO3
              go_wp2_with fail
              have M3 := HM0.out.only0 HO5.out
              have C := (md_commit M3 HT.out).mono (fun e w4 h4 => StRes.re (r := (s.commit jn t).1) (commit_pairs s jn t) h4)
              have HOW := Lib.hid ((HO.out.any P).trans (HO5.out.any P))
              have HB3 := Lib.hid (HO5.out.blk HB.out (fun h => h))
              clear M3
              refine C.mono ?_
              intro e w4 h4
              obtain ⟨a, c, he⟩ : ∃ a c, e = .returned (resAgg (s.commit jn t).1 a c) := by obtain ⟨_, _, a, c, he, _⟩ := h4; exact ⟨a, c, he⟩
              subst he
              have B4 : Blk w4 n1 27 #[.int .i64 0, .int .i64 0, .slice none 0 0, .int .i64 0, .int .i64 0] := by
                obtain ⟨_, _, _, _, _, _, _, _, o4, _⟩ := h4
                exact o4.blk HB3.out HS.out.2.1
              have b0 : w4.cell? ⟨n1, 0, none⟩ = some (.int .i64 0) := B4.cell 0
              have b1 : w4.cell? ⟨n1, 1, none⟩ = some (.int .i64 0) := B4.cell 1
              have b2 : w4.cell? ⟨n1, 2, none⟩ = some (.slice none 0 0) := B4.cell 2
              have b3 : w4.cell? ⟨n1, 3, none⟩ = some (.int .i64 0) := B4.cell 3
              have b4 : w4.cell? ⟨n1, 4, none⟩ = some (.int .i64 0) := B4.cell 4
              have bf := fun i => B4.free i
              have HB4 := Lib.hid B4
              have R := fun w9 (o9 : Only (fun c => c = n1) w4 w9) => DoRes.re h4 HOW.out HS.out.2.2.1 HB3.out.lt HS.out.2.1 o9 rfl
              have HR := Lib.hid R
              clear R h4 B4 C
              unfold resAgg
              go_wp2_with fail
              obtain ⟨B9, o9⟩ := set5 HB4.out _ _ _ _ _
              exact bodyPost_ret (results_cell_tmp Try.results19 _ _ n1 _ _ _ _ (.int .i64 0) rfl rfl B9 Try.underlying27 rfl info_res) rfl (HR.out _ o9)
            · subst h7
              rw [show s.call jn t ⟨7, (k : Int), hi, value⟩ = (abortRes 0 1, s.kill jn t) from rfl]
              go_enter Try.func19, Try.ntmps19
              go_upto_region 1 with (fail)
              rw [← hW, ← HN.out, ← HN1.out]
              clear hW
              go_wp2_with fail
              refine CS.mono ?_
              rintro e w1 ⟨rfl, rfl⟩
              go_wp2_with fail
              refine CO.mono ?_
              rintro e w3 ⟨rfl, o3⟩
              obtain ⟨f1, f2, f2f, f3, f4, f5, f6⟩ := HF.out w3 o3
              have HO3 := Lib.hid o3
              clear CO CS cj0 o00 o01 o02 o03 o3
              go_wp2_with fail
              refine (HEN'.out w3).mono ?_
              rintro e w5 ⟨rfl, o5⟩
              have HO5 := Lib.hid (HO3.out.trans o5)
              obtain ⟨f1, f2, f2f, f3, f4, f5, f6⟩ := HF.out w5 HO5.out
              clear o5 HO3
              go_wp2_with fail
              have M3 := HM0.out.only0 HO5.out
              have C := (md_abort M3 HT.out 0 1).mono (fun e w4 h4 => StRes.re (r := abortRes 0 1) rfl h4)
              have HOW := Lib.hid ((HO.out.any P).trans (HO5.out.any P))
              have HB3 := Lib.hid (HO5.out.blk HB.out (fun h => h))
              clear M3
              refine C.mono ?_
              intro e w4 h4
              obtain ⟨a, c, he⟩ : ∃ a c, e = .returned (resAgg (abortRes 0 1) a c) := by obtain ⟨_, _, a, c, he, _⟩ := h4; exact ⟨a, c, he⟩
              subst he
              have B4 : Blk w4 n1 27 #[.int .i64 0, .int .i64 0, .slice none 0 0, .int .i64 0, .int .i64 0] := by
                obtain ⟨_, _, _, _, _, _, _, _, o4, _⟩ := h4
                exact o4.blk HB3.out HS.out.2.1
              have b0 : w4.cell? ⟨n1, 0, none⟩ = some (.int .i64 0) := B4.cell 0
              have b1 : w4.cell? ⟨n1, 1, none⟩ = some (.int .i64 0) := B4.cell 1
              have b2 : w4.cell? ⟨n1, 2, none⟩ = some (.slice none 0 0) := B4.cell 2
              have b3 : w4.cell? ⟨n1, 3, none⟩ = some (.int .i64 0) := B4.cell 3
              have b4 : w4.cell? ⟨n1, 4, none⟩ = some (.int .i64 0) := B4.cell 4
              have bf := fun i => B4.free i
              have HB4 := Lib.hid B4
              have R := fun w9 (o9 : Only (fun c => c = n1) w4 w9) => DoRes.re h4 HOW.out HS.out.2.2.1 HB3.out.lt HS.out.2.1 o9 rfl
              have HR := Lib.hid R
              clear R h4 B4 C
              unfold resAgg
              go_wp2_with fail
              obtain ⟨B9, o9⟩ := set5 HB4.out _ _ _ _ _
              exact bodyPost_ret (results_cell_tmp Try.results19 _ _ n1 _ _ _ _ (.int .i64 0) rfl rfl B9 Try.underlying27 rfl info_res) rfl (HR.out _ o9)
end Go.Proofs.Ytcbhafddehipdaa
namespace Go.Proofs.Ytcbhafddehipdaa
open Go.RowKit
set_option linter.unusedVariables false
set_option linter.unusedSimpArgs false
theorem MAt.only {B m : Nat} {w w' : World} {P S : Nat → Prop} {s : St} (h : MAt B w P m s) (o : Only S w w') (ap : Apart P S) : MAt B w' P m s := by obtain ⟨A, h⟩ := h; exact ⟨A, h.only o ap⟩
theorem MAt.only0 {B m : Nat} {w w' : World} {P : Nat → Prop} {s : St} (h : MAt B w P m s) (o : Only0 w w') : MAt B w' P m s := by obtain ⟨A, h⟩ := h; exact ⟨A, h.only0 o⟩
theorem MAt.under {B m : Nat} {w : World} {P : Nat → Prop} {s : St} (h : MAt B w P m s) : Under P w.heap.size := by obtain ⟨A, h⟩ := h; exact h.under
theorem MAt.above {B m : Nat} {w : World} {P : Nat → Prop} {s : St} (h : MAt B w P m s) : Above P B := by obtain ⟨A, h⟩ := h; exact h.above
theorem IMap.empty {P : Program} {K : TypeId} {R : MR} {w : World} {b : Nat} (h : w.heap[b]? = some (.map #[] 0)) : IMap P K R w b (fun _ => none) (.map []) :=
  ⟨⟨#[], 0, h, ⟨by simp, MapKept.stamped_empty 0, by simp⟩, by simp, rfl⟩, fun l hl => by simp [Maps.has] at hl, fun k _ z => rfl⟩
theorem CMap.empty {w : World} {b : Nat} (h : w.heap[b]? = some (.map #[] 0)) (ca : Nat → Nat) : CMap w b ca (fun _ => none) := ⟨.map [], IMap.empty h⟩
theorem BMap.empty {w : World} {b : Nat} (h : w.heap[b]? = some (.map #[] 0)) : BMap w b (fun _ => false) := ⟨.map [], IMap.empty h⟩
theorem newSt_ok {slots limit : Int} (h : confB slots limit = true) : Ok (newSt slots limit) := by
  simp [confB] at h
  exact ⟨by simp [newSt]; omega, by simp [newSt]; omega, by simp [newSt]; omega, by simp [newSt], by simp [newSt]; omega, by simp [newSt], fun j t ht => by simp [newSt] at ht, fun j t k c ht => by simp [newSt] at ht⟩
set_option maxRecDepth 100000 in
set_option maxHeartbeats 4000000 in
theorem md_new (slots limit : Int) (w : World) (h : confB slots limit = true) :
    Calls Try.prog 22 #[.agg #[.int .i64 slots, .int .u64 limit]] w fun e w' => ∃ m, e = .returned (.tuple #[.pointer (some ⟨m, 0, none⟩), .int .i64 0]) ∧ MAt w.heap.size w' (fun b => b = m) m (newSt slots limit) ∧ Only0 w w' ∧ w.heap.size ≤ m := by
  obtain ⟨W, hW⟩ : ∃ W, W = w.alloc (.cells #[.int .i64 slots, .int .u64 limit] 41) := ⟨_, rfl⟩
  have oW : Only0 w W := by rw [hW]; exact (Only0.refl w).alloc _
  have BX : Blk W w.heap.size 41 #[.int .i64 slots, .int .u64 limit] := by rw [hW]; exact Blk.new _ _ _
  have C := md_conf slots limit W
  rw [h] at C
  have HO := Lib.hid oW
  have HB := Lib.hid BX
  have c0 : W.cell? ⟨w.heap.size, 0, none⟩ = some (.int .i64 slots) := BX.cell 0
  have c1 : W.cell? ⟨w.heap.size, 1, none⟩ = some (.int .u64 limit) := BX.cell 1
  have HH := Lib.hid h
  clear oW BX h
  go_enter Try.func22, Try.ntmps22
  go_upto_region 1 with (fail)
  rw [← hW]
  clear hW
  go_wp2_with fail
  refine C.mono ?_
  rintro e w1 ⟨rfl, o1⟩
  have B1 := o1.blk HB.out (fun h => h)
  have d0 : w1.cell? ⟨w.heap.size, 0, none⟩ = some (.int .i64 slots) := B1.cell 0
  have d1 : w1.cell? ⟨w.heap.size, 1, none⟩ = some (.int .u64 limit) := B1.cell 1
  have HO1 := Lib.hid (HO.out.trans o1)
  clear C c0 c1 o1 B1
  go_wp2_with fail
  go_ret2
  have o2 : Only0 w (w1.alloc (.cells (modCells ⟨none, 0, fun _ => 0, fun _ => 0, fun _ _ => 0, fun _ _ => 0⟩ (newSt slots limit)) 96)) := HO1.out.alloc _
  have hs := HO1.out.size
  refine ⟨w1.heap.size, rfl, ⟨⟨none, 0, fun _ => 0, fun _ => 0, fun _ _ => 0, fun _ _ => 0⟩, Blk.new w1 _ _, World.ownsRow_nil _ _ _ _, ⟨fun i hi => by simp [newSt] at hi, fun i j hi => by simp [newSt] at hi⟩, ⟨fun j t ht => by simp [newSt] at ht, fun i j t u ht => by simp [newSt] at ht, fun i j t u p q ht => by simp [newSt] at ht, fun i j t u k l c d ht => by simp [newSt] at ht⟩, newSt_ok HH.out, rfl, fun b hb => (rowOf_none _ _ _ hb).elim, fun b hb => by subst hb; simp, fun b hb => by subst hb; exact hs⟩, o2, hs⟩
set_option maxRecDepth 100000 in
set_option maxHeartbeats 4000000 in
theorem md_new_no (slots limit : Int) (w : World) (h : confB slots limit = false) :
    Calls Try.prog 22 #[.agg #[.int .i64 slots, .int .u64 limit]] w fun e w' => e = .returned (.tuple #[.pointer none, .int .i64 1]) ∧ Only0 w w' := by
  obtain ⟨W, hW⟩ : ∃ W, W = w.alloc (.cells #[.int .i64 slots, .int .u64 limit] 41) := ⟨_, rfl⟩
  have oW : Only0 w W := by rw [hW]; exact (Only0.refl w).alloc _
  have BX : Blk W w.heap.size 41 #[.int .i64 slots, .int .u64 limit] := by rw [hW]; exact Blk.new _ _ _
  have C := md_conf slots limit W
  rw [h] at C
  have HO := Lib.hid oW
  have c0 : W.cell? ⟨w.heap.size, 0, none⟩ = some (.int .i64 slots) := BX.cell 0
  have c1 : W.cell? ⟨w.heap.size, 1, none⟩ = some (.int .u64 limit) := BX.cell 1
  clear oW BX h
  go_enter Try.func22, Try.ntmps22
  go_upto_region 1 with (fail)
  rw [← hW]
  clear hW
  go_wp2_with fail
  refine C.mono ?_
  rintro e w1 ⟨rfl, o1⟩
  have HO1 := Lib.hid (HO.out.trans o1)
  clear C c0 c1 o1
  go_wp2_with fail
  go_ret2
  exact ⟨rfl, HO1.out⟩
theorem modCells_new (A : Ad) (s : St) (j n : Nat) (mj : Nat → Nat) (t : Tx) (hj : j < 8) : modCells { A with tb := upd A.tb j n, mb := upd A.mb j mj } (s.setTx j (some t)) = (modCells A s).setIfInBounds (5 + j) (.pointer (some ⟨n, 0, none⟩)) := by
  have e : ∀ i, txPtr { A with tb := upd A.tb j n, mb := upd A.mb j mj } (upd s.tx j (some t)) i = if i = j then .pointer (some ⟨n, 0, none⟩) else txPtr A s.tx i := fun i => by
    unfold txPtr
    by_cases e : i = j
    · subst e; simp [upd_same]
    · simp [upd_other _ _ _ e, e]
  unfold modCells St.setTx
  simp only [e]
  match j, hj with
  | 0, _ => rfl
  | 1, _ => rfl
  | 2, _ => rfl
  | 3, _ => rfl
  | 4, _ => rfl
  | 5, _ => rfl
  | 6, _ => rfl
  | 7, _ => rfl
/-- A transaction that is new. -/
theorem MIn.beginTx {B m : Nat} {w w' : World} {P : Nat → Prop} {s : St} {A : Ad} (h : MIn B w P m s A) {j n : Nat} {mj : Nat → Nat} (hj : j < 8) (id level beg : Int) (o : Only (fun b => b = m) w w') (hn : w.heap.size ≤ n) (hn' : n < w'.heap.size) (hm : ∀ q, q < 3 → w.heap.size ≤ mj q ∧ w'.heap[mj q]? = some (.map #[] 0)) (hinj : ∀ p q, p < 3 → q < 3 → mj p = mj q → p = q)
    (hb : Blk w' n 100 #[.int .i64 id, .int .i64 level, .int .u64 beg, .int .i64 0, .map (some (mj 0)), .map (some (mj 1)), .map (some (mj 2))]) (hmod : Blk w' m 96 ((modCells A s).setIfInBounds (5 + j) (.pointer (some ⟨n, 0, none⟩)))) :
    MIn B w' (fun b => P b ∨ b = n ∨ ∃ q, q < 3 ∧ b = mj q) m (s.setTx j (some (newTx id level beg))) { A with tb := upd A.tb j n, mb := upd A.mb j mj } := by
  have hB : B ≤ w.heap.size := by have := h.above m h.pm; have := h.mod.lt; omega
  have T := h.txs.only o (h.txs.blkNe h.mod (by decide) (by decide))
  have hcase : ∀ i u, (s.setTx j (some (newTx id level beg))).tx i = some u → (i = j ∧ u = newTx id level beg) ∨ (i ≠ j ∧ s.tx i = some u) := fun i u hu => by
    by_cases e : i = j
    · subst e; simp only [St.setTx, upd_same] at hu; cases hu; exact .inl ⟨rfl, rfl⟩
    · simp only [St.setTx, upd_other _ _ _ e] at hu; exact .inr ⟨e, hu⟩
  have oldT : ∀ i u, s.tx i = some u → A.tb i < w.heap.size ∧ (∀ q, q < 3 → A.mb i q < w.heap.size) := fun i u hu => ⟨h.under _ (h.txs.one i u hu).2.pt, fun q hq => h.under _ ((h.txs.one i u hu).2.pm q hq)⟩
  refine ⟨by rw [modCells_new A s j n mj _ hj]; exact hmod, rows_only h.row o (fun b hb' e => by subst e; exact rows_ne h.row h.mod (by decide) hb'), (h.vers.only o (h.vers.blkNe h.mod (by decide))).toward (fun b hb => .inl hb), ?_, ?_, .inl h.pm, fun b hb => .inl (h.pr b hb), ?_, ?_⟩
  · refine ⟨fun i u hu => ?_, fun i k a b ha hb e => ?_, fun i k a b p q ha hb hp hq e => ?_, fun i k a b p q c d ha hb hc hd e => ?_⟩
    · rcases hcase i u hu with ⟨rfl, rfl⟩ | ⟨e, hu'⟩
      · refine ⟨hj, ?_, ?_, ?_, ?_, fun k c hk => by simp [newTx] at hk, .inr (.inl ?_), fun q hq => .inr (.inr ⟨q, hq, ?_⟩)⟩
        · show Blk w' (upd A.tb i n i) _ #[.int .i64 id, .int .i64 level, .int .u64 beg, .int .i64 0, .map (some (upd A.mb i mj i 0)), .map (some (upd A.mb i mj i 1)), .map (some (upd A.mb i mj i 2))]
          rw [upd_same, upd_same]; exact hb
        · show CMap w' (upd A.mb i mj i 0) _ _
          rw [upd_same]; exact CMap.empty (hm 0 (by omega)).2 _
        · show BMap w' (upd A.mb i mj i 1) _
          rw [upd_same]; exact BMap.empty (hm 1 (by omega)).2
        · show BMap w' (upd A.mb i mj i 2) _
          rw [upd_same]; exact BMap.empty (hm 2 (by omega)).2
        · exact upd_same _ _ _
        · show upd A.mb i mj i q = mj q
          rw [upd_same]
      · exact ⟨(T.one i u hu').1, ((T.one i u hu').2.toward (fun b hb => .inl hb)).congrA (upd_other _ _ _ e) (upd_other _ _ _ e) rfl⟩
    · change upd A.tb j n i = upd A.tb j n k at e
      rcases hcase i a ha with ⟨rfl, _⟩ | ⟨e1, ha'⟩
      · rcases hcase k b hb with ⟨rfl, _⟩ | ⟨e2, hb'⟩
        · rfl
        · rw [upd_same, upd_other _ _ _ e2] at e
          have := (oldT k b hb').1; omega
      · rcases hcase k b hb with ⟨rfl, _⟩ | ⟨e2, hb'⟩
        · rw [upd_same, upd_other _ _ _ e1] at e
          have := (oldT i a ha').1; omega
        · rw [upd_other _ _ _ e1, upd_other _ _ _ e2] at e
          exact h.txs.tinj i k a b ha' hb' e
    · change upd A.mb j mj i p = upd A.mb j mj k q at e
      rcases hcase i a ha with ⟨rfl, _⟩ | ⟨e1, ha'⟩
      · rcases hcase k b hb with ⟨rfl, _⟩ | ⟨e2, hb'⟩
        · rw [upd_same] at e; exact ⟨rfl, hinj p q hp hq e⟩
        · rw [upd_same, upd_other _ _ _ e2] at e
          have := (oldT k b hb').2 q hq; have := (hm p hp).1; omega
      · rcases hcase k b hb with ⟨rfl, _⟩ | ⟨e2, hb'⟩
        · rw [upd_same, upd_other _ _ _ e1] at e
          have := (oldT i a ha').2 p hp; have := (hm q hq).1; omega
        · rw [upd_other _ _ _ e1, upd_other _ _ _ e2] at e
          exact h.txs.minj i k a b p q ha' hb' hp hq e
    · rcases hcase i a ha with ⟨rfl, rfl⟩ | ⟨e1, ha'⟩
      · simp [newTx] at hc
      · rcases hcase k b hb with ⟨rfl, rfl⟩ | ⟨e2, hb'⟩
        · simp [newTx] at hd
        · exact h.txs.cinj i k a b p q c d ha' hb' hc hd e
  · exact h.ok.setTx (by simp [newTx]) (fun k c hc => by simp [newTx] at hc)
  · rintro b (hb | rfl | ⟨q, hq, rfl⟩)
    · exact Nat.lt_of_lt_of_le (h.under b hb) o.size
    · exact hn'
    · exact (Array.getElem?_eq_some_iff.1 (hm q hq).2).1
  · rintro b (hb | rfl | ⟨q, hq, rfl⟩)
    · exact h.above b hb
    · omega
    · have := (hm q hq).1; omega
/-- What Begin leaves. -/
def BeRes (B m : Nat) (w : World) (P : Nat → Prop) (x : Int × Int × St) (e : Ending) (w' : World) : Prop :=
  ∃ P' : Nat → Prop, e = .returned (.tuple #[.int .i64 x.1, .int .i64 x.2.1]) ∧ MAt B w' P' m x.2.2 ∧ Only P w w' ∧ Grew w.heap.size P P'
end Go.Proofs.Ytcbhafddehipdaa
namespace Go.Proofs.Ytcbhafddehipdaa
open Go.RowKit
set_option linter.unusedVariables false
set_option linter.unusedSimpArgs false
theorem heap3 (W : World) (o : Obj) (x : Nat) (h1 : W.heap.size ≤ x) (h2 : x < W.heap.size + 3) : (((W.alloc o).alloc o).alloc o).heap[x]? = some o := by
  show (((W.heap.push o).push o).push o)[x]? = some o
  rw [Array.getElem?_push]
  split
  · rfl
  · rename_i e1
    rw [Array.getElem?_push]
    split
    · rfl
    · rename_i e2
      rw [Array.getElem?_push]
      split
      · rfl
      · rename_i e3
        simp at e1 e2 e3; omega
set_option maxRecDepth 100000 in
set_option maxHeartbeats 16000000 in
theorem md_begin_ok {B m : Nat} {w : World} {P : Nat → Prop} {s : St} {A : Ad} (h : MIn B w P m s A) (j : Nat) (level : Int) (hj : j < 8) (hl : levelB level = true) (htx : s.tx j = none) (hmade : s.made < 2000) (hnow : s.now < s.limit) :
    Calls Try.prog 23 #[.pointer (some ⟨m, 0, none⟩), .int .i64 j, .int .i64 level] w (BeRes B m w P (s.made + 1, 0, { s with made := s.made + 1, now := s.now + 1, tx := upd s.tx j (some (newTx (s.made + 1) level (s.now + 1))) })) := by
  have CS := md_sess j w
  rw [show sessB (j : Int) = true by simp [sessB]; omega] at CS
  have CL := md_level level w
  rw [hl] at CL
  have cj := h.sess j hj
  rw [show txPtr A s.tx j = .pointer none by simp [txPtr, htx]] at cj
  have m1 : w.cell? ⟨m, 1, none⟩ = some (.int .u64 s.limit) := h.mod.cell 1
  have m2 : w.cell? ⟨m, 2, none⟩ = some (.int .u64 s.now) := h.mod.cell 2
  have m3 : w.cell? ⟨m, 3, none⟩ = some (.int .i64 s.made) := h.mod.cell 3
  obtain ⟨n1, n2⟩ := h.ok.now
  obtain ⟨l1, l2⟩ := h.ok.limit
  obtain ⟨d1, d2⟩ := h.ok.made
  have j8 : (j : Int) < 8 := by omega
  have j0 : (0 : Int) ≤ (j : Int) := by omega
  have HH := Lib.hid h
  have hmm := @run_makeMap Try.prog
  clear h htx hl
  go_enter Try.func23, Try.ntmps23
  go_wp2_with fail
  refine CS.mono ?_
  rintro e w1 ⟨rfl, rfl⟩
  go_wp2_with fail
  refine CL.mono ?_
  rintro e w1 ⟨rfl, rfl⟩
  clear CS CL
  go_wp2_with fail
  go_quiet (fail)
  have M1 := HH.out.drewN nq
  have O1 : Only P w (w.drewN nq) := (Only.refl P w).drewN nq
  have z1 : w.heap.size ≤ (w.drewN nq).heap.size := Nat.le_refl _
  replace m2 : (w.drewN nq).cell? ⟨m, 2, none⟩ = some (.int .u64 s.now) := m2
  replace m3 : (w.drewN nq).cell? ⟨m, 3, none⟩ = some (.int .i64 s.made) := m3
  clear m1 cj
  generalize w.drewN nq = W1 at *
  have f2 := M1.mod.free 2
  have f3 := M1.mod.free 3
  obtain ⟨s2, hs2⟩ : ∃ s2 : St, s2 = { s with slots := s.slots, limit := s.limit, now := s.now + 1, made := s.made + 1 } := ⟨_, rfl⟩
  obtain ⟨W2, hW2⟩ : ∃ W2, W2 = (W1.setCell ⟨m, 3, none⟩ (.int .i64 (s.made + 1))).setCell ⟨m, 2, none⟩ (.int .u64 (s.now + 1)) := ⟨_, rfl⟩
  have o12 : Only (fun b => b = m) W1 W2 := by rw [hW2]; exact (Only.set1 W1 m 3 _).trans (Only.set1 _ m 2 _)
  have M2 : MIn B W2 P m s2 A := by
    rw [hs2]
    refine M1.setMod o12 ?_ ⟨M1.ok.slots, M1.ok.limit, by simp; omega, by simp; omega, M1.ok.few, M1.ok.lin, M1.ok.ops, M1.ok.refs⟩
    have := (M1.mod.set 3 (.int .i64 (s.made + 1))).set 2 (.int .u64 (s.now + 1))
    rw [hW2]
    have e : ((modCells A s).setIfInBounds 3 (.int .i64 (s.made + 1))).setIfInBounds 2 (.int .u64 (s.now + 1)) = modCells A { s with slots := s.slots, limit := s.limit, now := s.now + 1, made := s.made + 1 } := by simp [modCells]
    rw [← e]; exact this
  have p2 : W2.cell? ⟨m, 2, none⟩ = some (.int .u64 (s.now + 1)) := by rw [M2.mod.cell 2, hs2]; rfl
  have p3 : W2.cell? ⟨m, 3, none⟩ = some (.int .i64 (s.made + 1)) := by rw [M2.mod.cell 3, hs2]; rfl
  have HM2 := Lib.hid M2
  have HO2' := O1.trans (o12.toward (fun b hb => by subst hb; exact M1.pm))
  have HZ' := Nat.le_trans z1 o12.size
  have pj : ∀ o1 o2 o3 o4, ((((W2.alloc o1).alloc o2).alloc o3).alloc o4).cell? ⟨m, 5 + j, none⟩ = some (txPtr A s2.tx j) := fun o1 o2 o3 o4 => by
    rw [Blk.cell ((((M2.mod.alloc o1).alloc o2).alloc o3).alloc o4), modCells_tx A s2 j hj]
  have pf : ∀ o1 o2 o3 o4, ((((W2.alloc o1).alloc o2).alloc o3).alloc o4).frozen? ⟨m, 5 + j, none⟩ = false := fun o1 o2 o3 o4 => Blk.free ((((M2.mod.alloc o1).alloc o2).alloc o3).alloc o4) _
  have q21 : ∀ o1, (W2.alloc o1).cell? ⟨m, 2, none⟩ = some (.int .u64 (s.now + 1)) := fun o1 => by rw [Blk.cell (M2.mod.alloc o1), hs2]; rfl
  have q22 : ∀ o1 o2, ((W2.alloc o1).alloc o2).cell? ⟨m, 2, none⟩ = some (.int .u64 (s.now + 1)) := fun o1 o2 => by rw [Blk.cell ((M2.mod.alloc o1).alloc o2), hs2]; rfl
  have q23 : ∀ o1 o2 o3, (((W2.alloc o1).alloc o2).alloc o3).cell? ⟨m, 2, none⟩ = some (.int .u64 (s.now + 1)) := fun o1 o2 o3 => by rw [Blk.cell (((M2.mod.alloc o1).alloc o2).alloc o3), hs2]; rfl
  have q31 : ∀ o1, (W2.alloc o1).cell? ⟨m, 3, none⟩ = some (.int .i64 (s.made + 1)) := fun o1 => by rw [Blk.cell (M2.mod.alloc o1), hs2]; rfl
  have q32 : ∀ o1 o2, ((W2.alloc o1).alloc o2).cell? ⟨m, 3, none⟩ = some (.int .i64 (s.made + 1)) := fun o1 o2 => by rw [Blk.cell ((M2.mod.alloc o1).alloc o2), hs2]; rfl
  have q33 : ∀ o1 o2 o3, (((W2.alloc o1).alloc o2).alloc o3).cell? ⟨m, 3, none⟩ = some (.int .i64 (s.made + 1)) := fun o1 o2 o3 => by rw [Blk.cell (((M2.mod.alloc o1).alloc o2).alloc o3), hs2]; rfl
  have q34 : ∀ o1 o2 o3 o4, ((((W2.alloc o1).alloc o2).alloc o3).alloc o4).cell? ⟨m, 3, none⟩ = some (.int .i64 (s.made + 1)) := fun o1 o2 o3 o4 => by rw [Blk.cell ((((M2.mod.alloc o1).alloc o2).alloc o3).alloc o4), hs2]; rfl
  have FIN : ∀ x0 x1 x2 : Nat, (W2.heap.size ≤ x0 ∧ x0 < W2.heap.size + 3) ∧ (W2.heap.size ≤ x1 ∧ x1 < W2.heap.size + 3) ∧ (W2.heap.size ≤ x2 ∧ x2 < W2.heap.size + 3) ∧ x0 ≠ x1 ∧ x0 ≠ x2 ∧ x1 ≠ x2 →
      BeRes B m w P (s.made + 1, 0, { s with made := s.made + 1, now := s.now + 1, tx := upd s.tx j (some (newTx (s.made + 1) level (s.now + 1))) }) (.returned (.tuple #[.int .i64 (s.made + 1), .int .i64 0]))
        (((((W2.alloc (.map #[] 0)).alloc (.map #[] 0)).alloc (.map #[] 0)).alloc (.cells #[.int .i64 (s.made + 1), .int .i64 level, .int .u64 (s.now + 1), .int .i64 0, .map (some x0), .map (some x1), .map (some x2)] 100)).setCell ⟨m, 5 + j, none⟩ (.pointer (some ⟨W2.heap.size + 1 + 1 + 1, 0, none⟩))).drew := by
    rintro x0 x1 x2 ⟨a0, a1, a2, e01, e02, e12⟩
    have hmlt := M2.mod.lt
    obtain ⟨Wb, hWb⟩ : ∃ Wb, Wb = ((W2.alloc (.map #[] 0)).alloc (.map #[] 0)).alloc (.map #[] 0) := ⟨_, rfl⟩
    have zb : Wb.heap.size = W2.heap.size + 3 := by rw [hWb]; simp
    have hmap : ∀ x, W2.heap.size ≤ x → x < W2.heap.size + 3 → Wb.heap[x]? = some (.map #[] 0) := fun x h1 h2 => by
      rw [hWb]; exact heap3 W2 _ x h1 h2
    have ob : Only0 W2 Wb := by rw [hWb]; exact (((Only0.refl _).alloc _).alloc _).alloc _
    rw [← hWb]
    obtain ⟨Wc, hWc⟩ : ∃ Wc, Wc = Wb.alloc (.cells #[.int .i64 (s.made + 1), .int .i64 level, .int .u64 (s.now + 1), .int .i64 0, .map (some x0), .map (some x1), .map (some x2)] 100) := ⟨_, rfl⟩
    rw [← hWc]
    have zc : Wc.heap.size = W2.heap.size + 4 := by rw [hWc]; simp [zb]
    have oc : Only0 W2 Wc := by rw [hWc]; exact ob.alloc _
    have bc : Blk Wc (W2.heap.size + 3) 100 #[.int .i64 (s.made + 1), .int .i64 level, .int .u64 (s.now + 1), .int .i64 0, .map (some x0), .map (some x1), .map (some x2)] := by rw [hWc]; exact Blk.new' _ _ _ _ zb.symm
    have hmc : ∀ x, W2.heap.size ≤ x → x < W2.heap.size + 3 → Wc.heap[x]? = some (.map #[] 0) := fun x h1 h2 => by
      rw [hWc]
      exact (RowKit.Below.heap_alloc _ _ _ (by omega)).trans (hmap x h1 h2)
    obtain ⟨Wd, hWd⟩ : ∃ Wd, Wd = Wc.setCell ⟨m, 5 + j, none⟩ (.pointer (some ⟨W2.heap.size + 1 + 1 + 1, 0, none⟩)) := ⟨_, rfl⟩
    rw [← hWd]
    have od : Only (fun b => b = m) W2 Wd := by rw [hWd]; exact (oc.any _).trans (Only.set1 Wc m (5 + j) _)
    have MN := M2.beginTx (w' := Wd) (n := W2.heap.size + 3) (mj := fun q => if q = 0 then x0 else if q = 1 then x1 else x2) hj (s.made + 1) level (s.now + 1) od (by omega) (by rw [hWd]; simp [zc]) (fun q hq => by
        have hx : W2.heap.size ≤ (if q = 0 then x0 else if q = 1 then x1 else x2) ∧ (if q = 0 then x0 else if q = 1 then x1 else x2) < W2.heap.size + 3 := by split; omega; split <;> omega
        refine ⟨hx.1, ?_⟩
        rw [hWd, heap_setCell_other _ _ _ _ (by show _ ≠ m; omega)]
        exact hmc _ hx.1 hx.2) (fun p q hp hq e => by
        have hp3 : p = 0 ∨ p = 1 ∨ p = 2 := by omega
        have hq3 : q = 0 ∨ q = 1 ∨ q = 2 := by omega
        rcases hp3 with rfl | rfl | rfl <;> rcases hq3 with rfl | rfl | rfl <;> simp at e <;> first | rfl | (exfalso; omega)) (by
        rw [hWd]; exact bc.other ⟨m, 5 + j, none⟩ _ (by show _ ≠ m; omega)) (by
        rw [hWd]; exact (oc.blk M2.mod (fun h => h)).set _ _)
    have MN' := MN.drewN 1
    rw [hs2] at MN'
    refine ⟨_, rfl, ⟨_, MN'⟩, (HO2'.trans (od.toward (fun b hb => by subst hb; exact M2.pm))).drew, fun b hb => ?_⟩
    rcases hb with hb | hb | ⟨q, hq, hb⟩
    · exact .inl hb
    · exact .inr (by have := HZ'; omega)
    · refine .inr ?_
      have := HZ'
      rw [hb]
      show w.heap.size ≤ (if q = 0 then x0 else if q = 1 then x1 else x2)
      split; omega; split <;> omega
  have HFIN := Lib.hid FIN
  clear FIN HO2' HZ'
  clear M1 M2 O1 o12 z1
  go_upto_region 11 with (fail)
  rw [← hW2]
  clear hW2 m2 m3 f2 f3
  go_region
  all_goals
    go_wp2_with fail
    go_ret2
    exact HFIN.out _ _ _ (by omega)
end Go.Proofs.Ytcbhafddehipdaa
namespace Go.Proofs.Ytcbhafddehipdaa
open Go.RowKit
set_option linter.unusedVariables false
set_option linter.unusedSimpArgs false
theorem BeRes.no {B m : Nat} {w w' : World} {P : Nat → Prop} {s : St} {A : Ad} (h : MIn B w P m s A) (er : Int) (o : Only0 w w') : BeRes B m w P (0, er, s) (.returned (.tuple #[.int .i64 0, .int .i64 er])) w' := ⟨P, rfl, ⟨A, h.only0 o⟩, o.any _, Grew.refl _ _⟩
set_option maxRecDepth 100000 in
set_option maxHeartbeats 16000000 in
theorem md_begin {B m : Nat} {w : World} {P : Nat → Prop} {s : St} (h : MAt B w P m s) (j level : Int) :
    Calls Try.prog 23 #[.pointer (some ⟨m, 0, none⟩), .int .i64 j, .int .i64 level] w (BeRes B m w P (s.begin j level)) := by
  obtain ⟨A, h⟩ := h
  have CS := md_sess j w
  have CL := md_level level w
  have m1 : w.cell? ⟨m, 1, none⟩ = some (.int .u64 s.limit) := h.mod.cell 1
  have m2 : w.cell? ⟨m, 2, none⟩ = some (.int .u64 s.now) := h.mod.cell 2
  have m3 : w.cell? ⟨m, 3, none⟩ = some (.int .i64 s.made) := h.mod.cell 3
  have HH := Lib.hid h
  cases hs : sessB j with
  | false =>
    rw [show s.begin j level = (0, 1, s) by simp [St.begin, hs]]
    rw [hs] at CS
    clear hs h CL
    go_enter Try.func23, Try.ntmps23
    go_wp2_with fail
    refine CS.mono ?_
    rintro e w1 ⟨rfl, rfl⟩
    go_wp2_with fail
    go_ret2
    exact BeRes.no HH.out 1 (Only0.refl _)
  | true =>
    cases hl : levelB level with
    | false =>
      rw [show s.begin j level = (0, 1, s) by simp [St.begin, hs, hl]]
      rw [hs] at CS
      rw [hl] at CL
      clear hs h hl
      go_enter Try.func23, Try.ntmps23
      go_wp2_with fail
      refine CS.mono ?_
      rintro e w1 ⟨rfl, rfl⟩
      go_wp2_with fail
      refine CL.mono ?_
      rintro e w1 ⟨rfl, rfl⟩
      go_wp2_with fail
      go_ret2
      exact BeRes.no HH.out 1 (Only0.refl _)
    | true =>
      obtain ⟨jn, rfl, hjn⟩ : ∃ jn : Nat, j = (jn : Int) ∧ jn < 8 := by
        simp [sessB] at hs; exact ⟨j.toNat, by omega, by omega⟩
      have j8 : (jn : Int) < 8 := by omega
      have j0 : (0 : Int) ≤ (jn : Int) := by omega
      have cj := h.sess jn hjn
      cases htx : s.tx jn with
      | some t =>
        rw [show s.begin (jn : Int) level = (0, 9, s) by simp [St.begin, hs, hl, htx]]
        rw [show txPtr A s.tx jn = .pointer (some ⟨A.tb jn, 0, none⟩) by simp [txPtr, htx]] at cj
        rw [hs] at CS
        rw [hl] at CL
        clear hs h hl htx
        go_enter Try.func23, Try.ntmps23
        go_wp2_with fail
        refine CS.mono ?_
        rintro e w1 ⟨rfl, rfl⟩
        go_wp2_with fail
        refine CL.mono ?_
        rintro e w1 ⟨rfl, rfl⟩
        go_wp2_with fail
        go_ret2
        exact BeRes.no HH.out 9 (Only0.refl _)
      | none =>
        by_cases hm : 2000 ≤ s.made
        · rw [show s.begin (jn : Int) level = (0, 65, s) by simp [St.begin, hs, hl, htx, hm]]
          rw [show txPtr A s.tx jn = .pointer none by simp [txPtr, htx]] at cj
          rw [hs] at CS
          rw [hl] at CL
          clear hs h hl htx
          go_enter Try.func23, Try.ntmps23
          go_wp2_with fail
          refine CS.mono ?_
          rintro e w1 ⟨rfl, rfl⟩
          go_wp2_with fail
          refine CL.mono ?_
          rintro e w1 ⟨rfl, rfl⟩
          go_wp2_with fail
          go_ret2
          exact BeRes.no HH.out 65 (Only0.refl _)
        · by_cases hn : s.limit ≤ s.now
          · rw [show s.begin (jn : Int) level = (0, 16, s) by simp [St.begin, hs, hl, htx, hm, hn]]
            rw [show txPtr A s.tx jn = .pointer none by simp [txPtr, htx]] at cj
            rw [hs] at CS
            rw [hl] at CL
            clear hs h hl htx
            have hm' : s.made < 2000 := by omega
            clear hm
            go_enter Try.func23, Try.ntmps23
            go_wp2_with fail
            refine CS.mono ?_
            rintro e w1 ⟨rfl, rfl⟩
            go_wp2_with fail
            refine CL.mono ?_
            rintro e w1 ⟨rfl, rfl⟩
            go_wp2_with fail
            go_quiet (fail)
            go_wp2_with fail
            go_ret2
            exact BeRes.no HH.out 16 ((Only0.refl _).drewN _)
          · have := md_begin_ok h jn level hjn hl htx (by omega) (by omega)
            rw [show s.begin (jn : Int) level = (s.made + 1, 0, { s with made := s.made + 1, now := s.now + 1, tx := upd s.tx jn (some (newTx (s.made + 1) level (s.now + 1))) }) by simp [St.begin, hs, hl, htx, hm, hn]]
            exact this
set_option maxRecDepth 100000 in
set_option maxHeartbeats 4000000 in
theorem md_now {B m : Nat} {w : World} {P : Nat → Prop} {s : St} (h : MAt B w P m s) : Calls Try.prog 27 #[.pointer (some ⟨m, 0, none⟩)] w fun e w' => e = .returned (.int .u64 s.now) ∧ w = w' := by
  obtain ⟨A, h⟩ := h
  have m2 : w.cell? ⟨m, 2, none⟩ = some (.int .u64 s.now) := h.mod.cell 2
  clear h
  go_enter Try.func27, Try.ntmps27
  go_wp2_with fail
  go_ret
  exact ⟨rfl, rfl⟩
end Go.Proofs.Ytcbhafddehipdaa
namespace Go.Proofs.Ytcbhafddehipdaa
open Go.RowKit
set_option linter.unusedVariables false
set_option linter.unusedSimpArgs false
def St.pairAt (s : St) (at_ : Int) (k : Nat) : Option (Int × Int) := (s.at k at_).map fun i => ((k : Int), (s.ver i).value)
theorem pairs_eq (s : St) (at_ : Int) : s.pairs at_ = (List.range 64).filterMap (s.pairAt at_) := rfl
theorem pairsTo_none {s : St} {at_ : Int} {q : Nat} (h : s.at q at_ = none) : (List.range (q + 1)).filterMap (s.pairAt at_) = (List.range q).filterMap (s.pairAt at_) := by
  rw [List.range_succ, List.filterMap_append]; simp [St.pairAt, h]
theorem pairsTo_some {s : St} {at_ : Int} {q i : Nat} (h : s.at q at_ = some i) : (List.range (q + 1)).filterMap (s.pairAt at_) = (List.range q).filterMap (s.pairAt at_) ++ [((q : Int), (s.ver i).value)] := by
  rw [List.range_succ, List.filterMap_append]; simp [St.pairAt, h]
theorem pairsTo_few (s : St) (at_ : Int) (q : Nat) : ((List.range q).filterMap (s.pairAt at_)).length ≤ q := by
  refine Nat.le_trans (List.length_filterMap_le _ _) ?_
  simp
set_option maxRecDepth 100000 in
set_option maxHeartbeats 8000000 in
theorem md_pairs {B m : Nat} {w : World} {P : Nat → Prop} {s : St} (h : MAt B w P m s) (at_ : Int) :
    Calls Try.prog 35 #[.pointer (some ⟨m, 0, none⟩), .int .u64 at_] w fun e w' => (∃ a c, e = .returned (.slice a (s.pairs at_).length c) ∧ PairsIn w' a (s.pairs at_) ∧ ∀ x, a = some x → w.heap.size ≤ x.block) ∧ Only0 w w' := by
  obtain ⟨A, h⟩ := h
  have HH := Lib.hid h
  obtain ⟨i0, hi0, hz0, hz1, hz2⟩ := info_parts info_pair
  clear h
  go_enter Try.func35, Try.ntmps35
  go_wp2_with fail
  go_loopw [5, 8] (fun s5 s8 wr => ∃ (q len : Nat) (ra : Option Addr) (rc : Nat), s8 = .int .i64 q ∧ q ≤ 64 ∧ s5 = .slice ra len rc ∧ len ≤ 64 ∧ Hid (len = ((List.range q).filterMap (s.pairAt at_)).length ∧ Only0 w wr ∧ wr.ownsRow w.heap.size 48 2 (.slice ra len rc) len (pairCells ((List.range q).filterMap (s.pairAt at_))))) (fun _ s8 _ => 64 - (intOf s8).toNat)
  case atStart => exact ⟨0, 0, none, 0, rfl, by omega, rfl, by omega, Lib.hid ⟨rfl, Only0.refl _, World.ownsRow_nil _ _ _ _⟩⟩
  case round =>
    obtain ⟨q, len, ra, rc, rfl, hq, rfl, hl, HR⟩ := hrel
    by_cases hlt : q < 64
    · have M := HH.out.only0 HR.out.2.1
      have C := md_at M q at_
      have few := pairsTo_few s at_ (q + 1)
      cases hs : s.at q at_ with
      | none =>
        rw [hs, show ptrOf A.va none = .pointer none from rfl] at C
        have R := Lib.hid (show len = ((List.range (q + 1)).filterMap (s.pairAt at_)).length ∧ Only0 w wr ∧ wr.ownsRow w.heap.size 48 2 (.slice ra len rc) len (pairCells ((List.range (q + 1)).filterMap (s.pairAt at_))) by rw [pairsTo_none hs]; exact HR.out)
        clear hs M few HR
        go_wp2_with fail
        refine C.mono ?_
        rintro e w1 ⟨rfl, rfl⟩
        go_wp2_with fail
        go_roundw
        case rel => exact ⟨q + 1, len, ra, rc, by go_num, by omega, rfl, hl, R⟩
        case measure => simp [intOf]; omega
      | some i =>
        rw [hs, show ptrOf A.va (some i) = .pointer (some ⟨A.va i, 0, none⟩) from rfl] at C
        have v1 : wr.cell? ⟨A.va i, 1, none⟩ = some (.int .i64 (s.ver i).value) := (M.vers.blk i (at_lt M i hs)).1.cell 1
        have e1 := pairsTo_some hs
        have len1 := HR.out.1
        have hown := HR.out.2.2
        have hwr := HR.out.2.1.size
        have hl2 : len + 1 ≤ 64 := by rw [e1] at few; simp at few; omega
        have NEXT : ∀ (g cap : Nat) (w2 : World), w2.ownsRow w.heap.size 48 2 (.slice (some ⟨g, 0, none⟩) (len + 1) cap) (len + 1) (pairCells ((List.range q).filterMap (s.pairAt at_)) ++ [.int .i64 q, .int .i64 (s.ver i).value]) → (wr.alloc (.cells #[.int .i64 q, .int .i64 (s.ver i).value] 48)).grownBy w2 (Value.slice ra len rc).ownBlock →
            len + 1 = ((List.range (q + 1)).filterMap (s.pairAt at_)).length ∧ Only0 w w2 ∧ w2.ownsRow w.heap.size 48 2 (.slice (some ⟨g, 0, none⟩) (len + 1) cap) (len + 1) (pairCells ((List.range (q + 1)).filterMap (s.pairAt at_))) := by
          intro g cap w2 h2 hg
          rw [e1, pairCells_snoc]
          refine ⟨by simp [len1], (HR.out.2.1.alloc _).grown hg (fun b hb => (hown.lt b hb).1), h2⟩
        have HNX := Lib.hid NEXT
        clear hs M few HR NEXT e1 len1
        generalize (s.ver i).value = x at *
        go_wp2_with fail
        refine C.mono ?_
        rintro e w1 ⟨rfl, rfl⟩
        clear C
        go_wp2_with (at_builtin; refine wpList_append_lies _ rfl _ _ 25 rfl w.heap.size 48 i0 _ 2 16 Try.underlying25 hi0 hz0 hz1 hz2 rfl (by decide) (.slice ra len rc) len (pairCells ((List.range q).filterMap (s.pairAt at_))) rfl (hown.alloc _) ⟨wr.heap.size, 0, none⟩ 1 1 [.int .i64 q, .int .i64 x] rfl rfl ?c1 ?c2 (by decide) ?c3 ?c4 ?c5 (wr.heap.size + 1) ?c6 ?_)
        case c1 => exact World.news_of_block (cs := #[.int .i64 q, .int .i64 x]) (t := 48) (fr := (0, 0)) (heap_alloc_new wr _)
        case c2 => intro u hu; simp at hu; rcases hu with rfl | rfl <;> rfl
        case c3 => unfold maxLen; omega
        case c4 => omega
        case c5 => simp; omega
        case c6 => simp
        intro g cap w2 hown2 hgrow hat hlt2
        have R := Lib.hid (HNX.out g cap w2 hown2 hgrow)
        clear HNX hown hown2 hgrow hat hlt2
        go_wp2_with fail
        go_roundw
        case rel => exact ⟨q + 1, len + 1, _, cap, by go_num, by omega, rfl, by omega, R⟩
        case measure => simp [intOf]; omega
    · obtain rfl : q = 64 := by omega
      have R := Lib.hid HR.out
      clear HR
      go_wp2_with fail
      go_ret
      obtain ⟨e1, o1, r1⟩ := R.out
      rw [← pairs_eq] at e1 r1
      subst e1
      exact ⟨⟨ra, rc, rfl, PairsIn.of_own r1, fun x hx => by
        subst hx
        rcases r1.2 with ⟨h0, _⟩ | ⟨g, c1, c2, hv, hg, _⟩
        · cases h0
        · injection hv with h1 h2 h3; injection h1 with h1; subst h1; exact hg⟩, o1⟩
end Go.Proofs.Ytcbhafddehipdaa
namespace Go.Proofs.Ytcbhafddehipdaa
open Go.RowKit
set_option linter.unusedVariables false
set_option linter.unusedSimpArgs false
def statV : Option Tx → Array Value
  | none => #[.bool false, .bool false, .bool false, .int .i64 0, .int .i64 0, .int .i64 0, .int .u64 0, .int .u64 0, .int .i64 0]
  | some t => #[.bool true, .bool false, .bool false, .int .i64 t.id, .int .i64 t.level, .int .i64 1, .int .u64 t.beg, .int .u64 0, .int .i64 t.ops]
theorem info_stat : (Try.prog.info? 53).map (·.size) = some 9 := by kernel_rfl
theorem set9 {w : World} {n : Nat} {t : TypeId} {a b c d e f g h i : Value} (B : Blk w n t #[a, b, c, d, e, f, g, h, i]) (a' b' c' d' e' f' g' h' i' : Value) :
    Blk (((((((((w.setCell ⟨n, 0, none⟩ a').setCell ⟨n, 1, none⟩ b').setCell ⟨n, 2, none⟩ c').setCell ⟨n, 3, none⟩ d').setCell ⟨n, 4, none⟩ e').setCell ⟨n, 5, none⟩ f').setCell ⟨n, 6, none⟩ g').setCell ⟨n, 7, none⟩ h').setCell ⟨n, 8, none⟩ i') n t #[a', b', c', d', e', f', g', h', i'] ∧ Only (fun c => c = n) w (((((((((w.setCell ⟨n, 0, none⟩ a').setCell ⟨n, 1, none⟩ b').setCell ⟨n, 2, none⟩ c').setCell ⟨n, 3, none⟩ d').setCell ⟨n, 4, none⟩ e').setCell ⟨n, 5, none⟩ f').setCell ⟨n, 6, none⟩ g').setCell ⟨n, 7, none⟩ h').setCell ⟨n, 8, none⟩ i') := by
  have B0 : Blk _ n t #[a', b, c, d, e, f, g, h, i] := B.set 0 a'
  have B1 : Blk _ n t #[a', b', c, d, e, f, g, h, i] := B0.set 1 b'
  have B2 : Blk _ n t #[a', b', c', d, e, f, g, h, i] := B1.set 2 c'
  have B3 : Blk _ n t #[a', b', c', d', e, f, g, h, i] := B2.set 3 d'
  have B4 : Blk _ n t #[a', b', c', d', e', f, g, h, i] := B3.set 4 e'
  have B5 : Blk _ n t #[a', b', c', d', e', f', g, h, i] := B4.set 5 f'
  have B6 : Blk _ n t #[a', b', c', d', e', f', g', h, i] := B5.set 6 g'
  have B7 : Blk _ n t #[a', b', c', d', e', f', g', h', i] := B6.set 7 h'
  have B8 : Blk _ n t #[a', b', c', d', e', f', g', h', i'] := B7.set 8 i'
  exact ⟨B8, ((((((((Only.set1 w n 0 a').trans (Only.set1 _ n 1 b')).trans (Only.set1 _ n 2 c')).trans (Only.set1 _ n 3 d')).trans (Only.set1 _ n 4 e')).trans (Only.set1 _ n 5 f')).trans (Only.set1 _ n 6 g')).trans (Only.set1 _ n 7 h')).trans (Only.set1 _ n 8 i')⟩
theorem Only0.box {w W w9 : World} {n0 : Nat} (oW : Only0 w W) (hn : w.heap.size ≤ n0) (o9 : Only (fun c => c = n0) W w9) : Only0 w w9 :=
  ⟨o9.os.trans oW.os, o9.tape.trans oW.tape, o9.output.trans oW.output, Nat.le_trans oW.size o9.size, fun k hk hk' => by
    rw [o9.block k (Nat.lt_of_lt_of_le hk oW.size) (fun e => by omega)]
    exact oW.block k hk hk'⟩
set_option maxRecDepth 100000 in
set_option maxHeartbeats 8000000 in
theorem md_status {B m : Nat} {w : World} {P : Nat → Prop} {s : St} (h : MAt B w P m s) (j : Nat) (hj : j < 8) :
    Calls Try.prog 26 #[.pointer (some ⟨m, 0, none⟩), .int .i64 j] w fun e w' => e = .returned (.agg (statV (s.tx j))) ∧ Only0 w w' := by
  obtain ⟨A, h⟩ := h
  obtain ⟨W, hW⟩ : ∃ W, W = w.alloc (.cells #[.bool false, .bool false, .bool false, .int .i64 0, .int .i64 0, .int .i64 0, .int .u64 0, .int .u64 0, .int .i64 0] 53) := ⟨_, rfl⟩
  have oW : Only0 w W := by rw [hW]; exact (Only0.refl w).alloc _
  have M0 := h.only0 oW
  have BX : Blk W w.heap.size 53 #[.bool false, .bool false, .bool false, .int .i64 0, .int .i64 0, .int .i64 0, .int .u64 0, .int .u64 0, .int .i64 0] := by rw [hW]; exact Blk.new _ _ _
  obtain ⟨n0, hn0⟩ : ∃ n0, n0 = w.heap.size := ⟨_, rfl⟩
  have HN := Lib.hid hn0
  have HO := Lib.hid oW
  rw [← hn0] at BX
  have CS := md_sess (j : Int) W
  rw [show sessB (j : Int) = true by simp [sessB]; omega] at CS
  have j8 : (j : Int) < 8 := by omega
  have j0 : (0 : Int) ≤ (j : Int) := by omega
  have cj := M0.sess j hj
  have b0 : W.cell? ⟨n0, 0, none⟩ = some (.bool false) := BX.cell 0
  have b1 : W.cell? ⟨n0, 1, none⟩ = some (.bool false) := BX.cell 1
  have b2 : W.cell? ⟨n0, 2, none⟩ = some (.bool false) := BX.cell 2
  have b3 : W.cell? ⟨n0, 3, none⟩ = some (.int .i64 0) := BX.cell 3
  have b4 : W.cell? ⟨n0, 4, none⟩ = some (.int .i64 0) := BX.cell 4
  have b5 : W.cell? ⟨n0, 5, none⟩ = some (.int .i64 0) := BX.cell 5
  have b6 : W.cell? ⟨n0, 6, none⟩ = some (.int .u64 0) := BX.cell 6
  have b7 : W.cell? ⟨n0, 7, none⟩ = some (.int .u64 0) := BX.cell 7
  have b8 : W.cell? ⟨n0, 8, none⟩ = some (.int .i64 0) := BX.cell 8
  have bf := fun i => BX.free i
  have HBX := Lib.hid BX
  clear BX hn0
  cases hu : s.tx j with
  | none =>
    rw [show txPtr A s.tx j = .pointer none by simp [txPtr, hu]] at cj
    clear hu h M0 oW
    go_enter Try.func26, Try.ntmps26
    go_upto_region 1 with (fail)
    rw [← hW, ← HN.out]
    clear hW
    go_wp2_with fail
    refine CS.mono ?_
    rintro e w1 ⟨rfl, rfl⟩
    go_wp2_with fail
    obtain ⟨B9, o9⟩ := set9 HBX.out (.bool false) (.bool false) (.bool false) (.int .i64 0) (.int .i64 0) (.int .i64 0) (.int .u64 0) (.int .u64 0) (.int .i64 0)
    exact bodyPost_ret (v := .agg (statV none)) (results_cell_row Try.results26 _ _ n0 _ _ _ _ rfl B9 Try.underlying53 rfl info_stat) rfl ⟨rfl, HO.out.box (by rw [HN.out]; exact Nat.le_refl _) o9⟩
  | some t =>
    have X0 := (M0.txs.one j t hu).2.blk
    have t0 : W.cell? ⟨A.tb j, 0, none⟩ = some (.int .i64 t.id) := X0.cell 0
    have t1 : W.cell? ⟨A.tb j, 1, none⟩ = some (.int .i64 t.level) := X0.cell 1
    have t2 : W.cell? ⟨A.tb j, 2, none⟩ = some (.int .u64 t.beg) := X0.cell 2
    have t3 : W.cell? ⟨A.tb j, 3, none⟩ = some (.int .i64 t.ops) := X0.cell 3
    rw [show txPtr A s.tx j = .pointer (some ⟨A.tb j, 0, none⟩) by simp [txPtr, hu]] at cj
    clear hu h M0 oW X0
    go_enter Try.func26, Try.ntmps26
    go_upto_region 1 with (fail)
    rw [← hW, ← HN.out]
    clear hW
    go_wp2_with fail
    refine CS.mono ?_
    rintro e w1 ⟨rfl, rfl⟩
    go_wp2_with fail
    go_region
    go_wp2_with fail
    obtain ⟨B9, o9⟩ := set9 HBX.out (.bool true) (.bool false) (.bool false) (.int .i64 t.id) (.int .i64 t.level) (.int .i64 1) (.int .u64 t.beg) (.int .u64 0) (.int .i64 t.ops)
    exact bodyPost_ret (v := .agg (statV (some t))) (results_cell_row Try.results26 _ _ n0 _ _ _ _ rfl B9.drew Try.underlying53 rfl info_stat) rfl ⟨rfl, (HO.out.box (by rw [HN.out]; exact Nat.le_refl _) o9).drew⟩
end Go.Proofs.Ytcbhafddehipdaa
namespace Go.Proofs.Ytcbhafddehipdaa
open Go.RowKit
attribute [local go_sem ↓] Go.wp_at_zero Go.wp_at_succ
set_option linter.unusedVariables false
set_option linter.unusedSimpArgs false
theorem RAt.only {B m : Nat} {w w' : World} {P S : Nat → Prop} {s : RSt} (h : RAt B w P m s) (o : Only S w w') (ap : Apart P S) : RAt B w' P m s := by obtain ⟨A, h⟩ := h; exact ⟨A, h.only o ap⟩
theorem RAt.under {B m : Nat} {w : World} {P : Nat → Prop} {s : RSt} (h : RAt B w P m s) : Under P w.heap.size := by obtain ⟨A, h⟩ := h; exact h.under
theorem RAt.above {B m : Nat} {w : World} {P : Nat → Prop} {s : RSt} (h : RAt B w P m s) : Above P B := by obtain ⟨A, h⟩ := h; exact h.above
theorem RAt.ok {B m : Nat} {w : World} {P : Nat → Prop} {s : RSt} (h : RAt B w P m s) : ROk s := by obtain ⟨A, h⟩ := h; exact h.ok
def RAd0 : RAd := ⟨none, 0, fun _ => none, fun _ => 0, fun _ => none, fun _ => 0⟩
theorem newRSt_ok {slots limit : Int} (h : confB slots limit = true) : ROk (newRSt slots limit) := by
  simp [confB] at h
  refine ⟨by simp [newRSt]; omega, by simp [newRSt]; omega, by simp [newRSt]; omega, by simp [newRSt], by simp [newRSt]; omega, fun j => by simp [newRSt, RTx.zero], fun j => by simp [newRSt, RTx.zero], fun j => by simp [newRSt, RTx.zero], fun j r hr => by simp [newRSt, RTx.zero] at hr⟩
theorem newRIn {w : World} {slots limit : Int} {B m : Nat} (h : confB slots limit = true) (hb : Blk w m 65 (rmCells RAd0 (newRSt slots limit))) (hB : B ≤ m) : RIn B w (fun b => b = m) m (newRSt slots limit) RAd0 :=
  ⟨hb, World.ownsRow_nil _ _ _ _, fun j hj => World.ownsRow_nil _ _ _ _, fun j hj => World.ownsRow_nil _ _ _ _, fun i j _ _ _ b hb => (rowOf_none _ _ _ hb).elim, fun i j _ _ _ b hb => (rowOf_none _ _ _ hb).elim, newRSt_ok h, rfl, fun b hb => (rowOf_none _ _ _ hb).elim, fun j _ b hb => (rowOf_none _ _ _ hb).elim, fun j _ b hb => (rowOf_none _ _ _ hb).elim, fun b hb => by subst hb; exact hb.lt, fun b hb => by subst hb; exact hB⟩
set_option maxRecDepth 100000 in
set_option maxHeartbeats 4000000 in
theorem ref_new (slots limit : Int) (w : World) (h : confB slots limit = true) :
    Calls Try.prog 28 #[.agg #[.int .i64 slots, .int .u64 limit]] w fun e w' => ∃ m, e = .returned (.pointer (some ⟨m, 0, none⟩)) ∧ RAt w.heap.size w' (fun b => b = m) m (newRSt slots limit) ∧ Only0 w w' ∧ w.heap.size ≤ m := by
  have HH := Lib.hid h
  have hc : (1 ≤ slots ∧ slots ≤ 256) ∧ 1 ≤ limit ∧ limit ≤ 1099511627776 := by simp [confB] at h; omega
  obtain ⟨⟨h1, h2⟩, h3, h4⟩ := hc
  clear h
  go_enter Try.func28, Try.ntmps28
  go_wp2_with fail
  go_ret
  have o2 : Only0 w ((w.alloc (.cells #[.int .i64 slots, .int .u64 limit] 41)).alloc (.cells (rmCells RAd0 (newRSt slots limit)) 65)) := ((Only0.refl w).alloc _).alloc _
  exact ⟨w.heap.size + 1, rfl, ⟨RAd0, newRIn HH.out (Blk.new' _ _ _ _ (by simp)) (by omega)⟩, o2, by omega⟩
set_option maxRecDepth 100000 in
set_option maxHeartbeats 4000000 in
theorem ref_new_no (slots limit : Int) (w : World) (h : confB slots limit = false) :
    Calls Try.prog 28 #[.agg #[.int .i64 slots, .int .u64 limit]] w fun e w' => e = .returned (.pointer none) ∧ Only0 w w' := by
  have hd : slots < 1 ∨ (1 ≤ slots ∧ 256 < slots) ∨ (1 ≤ slots ∧ slots ≤ 256 ∧ limit < 1) ∨ (1 ≤ slots ∧ slots ≤ 256 ∧ 1 ≤ limit ∧ 1099511627776 < limit) := by simp [confB] at h; omega
  clear h
  rcases hd with h1 | ⟨h1, h2⟩ | ⟨h1, h2, h3⟩ | ⟨h1, h2, h3, h4⟩
  all_goals
    go_enter Try.func28, Try.ntmps28
    go_wp2_with fail
    go_ret; exact ⟨rfl, (Only0.refl w).alloc _⟩
def zStat : Array Value := #[.bool false, .bool false, .bool false, .int .i64 0, .int .i64 0, .int .i64 0, .int .u64 0, .int .u64 0, .int .i64 0]
def RSt.statV (s : RSt) (j : Int) : Array Value := if sessB j then (if (s.s j.toNat).id = 0 then zStat else #[.bool true, .bool false, .bool false, .int .i64 (s.s j.toNat).id, .int .i64 (s.s j.toNat).level, .int .i64 1, .int .u64 (s.s j.toNat).beg, .int .u64 0, .int .i64 (s.s j.toNat).ops]) else zStat
set_option maxRecDepth 100000 in
set_option maxHeartbeats 8000000 in
theorem ref_status {B m : Nat} {w : World} {P : Nat → Prop} {s : RSt} (h : RAt B w P m s) (j : Int) :
    Calls Try.prog 31 #[.pointer (some ⟨m, 0, none⟩), .int .i64 j] w fun e w' => e = .returned (.agg (s.statV j)) ∧ Only0 w w' := by
  obtain ⟨A, h⟩ := h
  obtain ⟨W, hW⟩ : ∃ W, W = w.alloc (.cells #[.bool false, .bool false, .bool false, .int .i64 0, .int .i64 0, .int .i64 0, .int .u64 0, .int .u64 0, .int .i64 0] 53) := ⟨_, rfl⟩
  obtain ⟨n0, hn0⟩ : ∃ n0, n0 = w.heap.size := ⟨_, rfl⟩
  have oW : Only0 w W := by rw [hW]; exact (Only0.refl w).alloc _
  have M0 := h.only0 oW
  have BX : Blk W n0 53 #[.bool false, .bool false, .bool false, .int .i64 0, .int .i64 0, .int .i64 0, .int .u64 0, .int .u64 0, .int .i64 0] := by rw [hW, hn0]; exact Blk.new _ _ _
  have HN := Lib.hid hn0
  have HO := Lib.hid oW
  have b0 : W.cell? ⟨n0, 0, none⟩ = some (.bool false) := BX.cell 0
  have b1 : W.cell? ⟨n0, 1, none⟩ = some (.bool false) := BX.cell 1
  have b2 : W.cell? ⟨n0, 2, none⟩ = some (.bool false) := BX.cell 2
  have b3 : W.cell? ⟨n0, 3, none⟩ = some (.int .i64 0) := BX.cell 3
  have b4 : W.cell? ⟨n0, 4, none⟩ = some (.int .i64 0) := BX.cell 4
  have b5 : W.cell? ⟨n0, 5, none⟩ = some (.int .i64 0) := BX.cell 5
  have b6 : W.cell? ⟨n0, 6, none⟩ = some (.int .u64 0) := BX.cell 6
  have b7 : W.cell? ⟨n0, 7, none⟩ = some (.int .u64 0) := BX.cell 7
  have b8 : W.cell? ⟨n0, 8, none⟩ = some (.int .i64 0) := BX.cell 8
  have bf := fun i => BX.free i
  have HBX := Lib.hid BX
  have HM := Lib.hid M0
  clear BX hn0 h M0 oW
  have hd : j < 0 ∨ (0 ≤ j ∧ 7 < j) ∨ (0 ≤ j ∧ j ≤ 7) := by omega
  rcases hd with h1 | ⟨h1, h2⟩ | ⟨h1, h2⟩
  · have HS : Hid (s.statV j = zStat) := Lib.hid (by unfold RSt.statV; rw [if_neg]; simp [sessB]; omega)
    go_enter Try.func31, Try.ntmps31
    go_upto_region 1 with (fail)
    rw [← hW, ← HN.out]
    clear hW
    go_wp2_with fail
    obtain ⟨B9, o9⟩ := set9 HBX.out (.bool false) (.bool false) (.bool false) (.int .i64 0) (.int .i64 0) (.int .i64 0) (.int .u64 0) (.int .u64 0) (.int .i64 0)
    exact bodyPost_ret (v := .agg zStat) (results_cell_row Try.results31 _ _ n0 _ _ _ _ rfl B9 Try.underlying53 rfl info_stat) rfl ⟨by rw [HS.out], HO.out.box (by rw [HN.out]; exact Nat.le_refl _) o9⟩
  · have HS : Hid (s.statV j = zStat) := Lib.hid (by unfold RSt.statV; rw [if_neg]; simp [sessB]; omega)
    go_enter Try.func31, Try.ntmps31
    go_upto_region 1 with (fail)
    rw [← hW, ← HN.out]
    clear hW
    go_wp2_with fail
    obtain ⟨B9, o9⟩ := set9 HBX.out (.bool false) (.bool false) (.bool false) (.int .i64 0) (.int .i64 0) (.int .i64 0) (.int .u64 0) (.int .u64 0) (.int .i64 0)
    exact bodyPost_ret (v := .agg zStat) (results_cell_row Try.results31 _ _ n0 _ _ _ _ rfl B9 Try.underlying53 rfl info_stat) rfl ⟨by rw [HS.out], HO.out.box (by rw [HN.out]; exact Nat.le_refl _) o9⟩
  · obtain ⟨jn, rfl⟩ : ∃ n : Nat, j = n := ⟨j.toNat, by omega⟩
    have hjn : jn < 8 := by omega
    have j8 : (jn : Int) < 8 := by omega
    obtain ⟨t0, t1, t2, t3, t4, t5⟩ := HM.out.txCells hjn
    have HS : Hid (s.statV jn = if (s.s jn).id = 0 then zStat else #[.bool true, .bool false, .bool false, .int .i64 (s.s jn).id, .int .i64 (s.s jn).level, .int .i64 1, .int .u64 (s.s jn).beg, .int .u64 0, .int .i64 (s.s jn).ops]) := Lib.hid (by unfold RSt.statV; rw [if_pos (by simp [sessB]; omega)]; rfl)
    by_cases hu : (s.s jn).id = 0
    · rw [hu] at t0
      have HS2 : Hid (s.statV jn = zStat) := Lib.hid (by rw [HS.out, if_pos hu])
      clear hu HS
      go_enter Try.func31, Try.ntmps31
      go_upto_region 1 with (fail)
      rw [← hW, ← HN.out]
      clear hW
      go_wp2_with fail
      obtain ⟨B9, o9⟩ := set9 HBX.out (.bool false) (.bool false) (.bool false) (.int .i64 0) (.int .i64 0) (.int .i64 0) (.int .u64 0) (.int .u64 0) (.int .i64 0)
      exact bodyPost_ret (v := .agg zStat) (results_cell_row Try.results31 _ _ n0 _ _ _ _ rfl B9 Try.underlying53 rfl info_stat) rfl ⟨by rw [HS2.out], HO.out.box (by rw [HN.out]; exact Nat.le_refl _) o9⟩
    · have hub : ((s.s jn).id == 0) = false := by simpa using hu
      have HS2 : Hid (s.statV jn = #[.bool true, .bool false, .bool false, .int .i64 (s.s jn).id, .int .i64 (s.s jn).level, .int .i64 1, .int .u64 (s.s jn).beg, .int .u64 0, .int .i64 (s.s jn).ops]) := Lib.hid (by rw [HS.out, if_neg hu])
      generalize (s.s jn).id = ii at *
      generalize (s.s jn).level = lv at *
      generalize (s.s jn).beg = bg at *
      generalize (s.s jn).ops = op at *
      clear hu HS
      obtain ⟨W2, hW2⟩ : ∃ W2, W2 = W.alloc (.cells #[.int .i64 ii, .int .i64 lv, .int .i64 op, .int .u64 bg, .slice (A.wa jn) (s.s jn).wrote.length (A.wc jn), .slice (A.ra jn) (s.s jn).reads.length (A.rc jn)] 62) := ⟨_, rfl⟩
      have o2 : Only0 W W2 := by rw [hW2]; exact (Only0.refl W).alloc _
      obtain ⟨n2, hn2⟩ : ∃ n2, n2 = W.heap.size := ⟨_, rfl⟩
      have B2 : Blk W2 n2 62 #[.int .i64 ii, .int .i64 lv, .int .i64 op, .int .u64 bg, .slice (A.wa jn) (s.s jn).wrote.length (A.wc jn), .slice (A.ra jn) (s.s jn).reads.length (A.rc jn)] := by rw [hW2, hn2]; exact Blk.new _ _ _
      have BX2 := o2.blk HBX.out (fun h => h)
      have HO2 := Lib.hid (HO.out.trans o2)
      have HN2 := Lib.hid hn2
      clear o2 hn2
      go_enter Try.func31, Try.ntmps31
      go_upto_region 1 with (fail)
      rw [← hW, ← HN.out]
      clear hW
      go_upto_region 4 with (fail)
      rw [← hW2, ← HN2.out]
      clear hW2 t0 t1 t2 t3 t4 t5 b0 b1 b2 b3 b4 b5 b6 b7 b8 bf
      have b0 : W2.cell? ⟨n0, 0, none⟩ = some (.bool false) := BX2.cell 0
      have b1 : W2.cell? ⟨n0, 1, none⟩ = some (.bool false) := BX2.cell 1
      have b2 : W2.cell? ⟨n0, 2, none⟩ = some (.bool false) := BX2.cell 2
      have b3 : W2.cell? ⟨n0, 3, none⟩ = some (.int .i64 0) := BX2.cell 3
      have b4 : W2.cell? ⟨n0, 4, none⟩ = some (.int .i64 0) := BX2.cell 4
      have b5 : W2.cell? ⟨n0, 5, none⟩ = some (.int .i64 0) := BX2.cell 5
      have b6 : W2.cell? ⟨n0, 6, none⟩ = some (.int .u64 0) := BX2.cell 6
      have b7 : W2.cell? ⟨n0, 7, none⟩ = some (.int .u64 0) := BX2.cell 7
      have b8 : W2.cell? ⟨n0, 8, none⟩ = some (.int .i64 0) := BX2.cell 8
      have bf := fun i => BX2.free i
      have d0 : W2.cell? ⟨n2, 0, none⟩ = some (.int .i64 ii) := B2.cell 0
      have d1 : W2.cell? ⟨n2, 1, none⟩ = some (.int .i64 lv) := B2.cell 1
      have d2 : W2.cell? ⟨n2, 2, none⟩ = some (.int .i64 op) := B2.cell 2
      have d3 : W2.cell? ⟨n2, 3, none⟩ = some (.int .u64 bg) := B2.cell 3
      have HBX2 := Lib.hid BX2
      clear BX2 B2
      go_wp2_with fail
      obtain ⟨B9, o9⟩ := set9 HBX2.out (.bool true) (.bool false) (.bool false) (.int .i64 ii) (.int .i64 lv) (.int .i64 1) (.int .u64 bg) (.int .u64 0) (.int .i64 op)
      exact bodyPost_ret (v := .agg #[.bool true, .bool false, .bool false, .int .i64 ii, .int .i64 lv, .int .i64 1, .int .u64 bg, .int .u64 0, .int .i64 op]) (results_cell_row Try.results31 _ _ n0 _ _ _ _ rfl B9 Try.underlying53 rfl info_stat) rfl ⟨by rw [HS2.out], HO2.out.box (by rw [HN.out]; exact Nat.le_refl _) o9⟩
end Go.Proofs.Ytcbhafddehipdaa
namespace Go
section
variable {P : Program} {ops : Array Oper} {Q : Exit → Act → World → Prop} {md : Region.Mode} {S : World → Prop} {l : Nat}
def heldL (P : Program) (md : Region.Mode) (ops : Array Oper) (Q : Exit → Act → World → Prop) (S : World → Prop) (l : Nat) : Nat → Array Bool → Act → World → Prop
  | 0, d, a, w => Region.ready md ops d = [] ∧ Q .normal a w
  | n + 1, d, a, w => (Region.ready md ops d = [] → Q .normal a w) ∧
    ∀ i ∈ Region.ready md ops d, wpOp P ops Q i (fun a' w' => (i = l ∨ S w') ∧ heldL P md ops Q S l n (d.setIfInBounds i true) a' w') a w
theorem any_of_heldL : ∀ (n : Nat) (d : Array Bool) (a : Act) (w : World), heldL P md ops Q S l n d a w → wpAny P md ops Q n d a w
  | 0, _, _, _, h => h
  | n + 1, _, _, _, h => ⟨h.1, fun i hi => wpOp_mono (fun a' w' h' => any_of_heldL n _ a' w' h'.2) (h.2 i hi)⟩
/-- l waits for i. -/
def waitsB (md : Region.Mode) (ops : Array Oper) (l i : Nat) : Bool := match ops[l]? with
  | some o => o.after.toList.any fun e => Region.binds md e && (e.on == i)
  | none => true
theorem not_ready_of_waits {k i : Nat} {d : Array Bool} (h : waitsB md ops k i = true) (hi : d.getD i true = false) : k ∉ Region.ready md ops d := by
  intro hl
  obtain ⟨_, o, ho, hall⟩ := mem_ready.1 hl
  unfold waitsB at h
  rw [ho] at h
  simp only [List.any_eq_true, Bool.and_eq_true, beq_iff_eq] at h
  obtain ⟨e, he, hb, heq⟩ := h
  have h1 := hall e (by simpa using he) hb
  have h0 := hi
  rw [heq] at h1
  rcases Nat.lt_or_ge i d.size with h' | h'
  · simp [h'] at h0 h1; rw [h0] at h1; cases h1
  · simp [Array.getElem?_eq_none h'] at h1
/-- A chain of operations, each of which waits for the one ahead of it; none is done. -/
def chainB (md : Region.Mode) (ops : Array Oper) (d : Array Bool) : Nat → List Nat → Bool
  | i, [] => !d.getD i true
  | i, k :: c => !d.getD i true && (waitsB md ops k i && chainB md ops d k c)
theorem chain_head {d : Array Bool} {i : Nat} {c : List Nat} (h : chainB md ops d i c = true) : d.getD i true = false := by
  cases c with
  | nil => simpa [chainB] using h
  | cons k c => simp only [chainB, Bool.and_eq_true] at h; simpa using h.1
theorem chain_not_ready {d : Array Bool} : ∀ (c : List Nat) (i : Nat), chainB md ops d i c = true → ∀ k ∈ c, k ∉ Region.ready md ops d := by
  intro c
  induction c with
  | nil => intro i _ k hk; cases hk
  | cons k0 c ih =>
    intro i h k hk
    have h0 := chain_head h
    simp only [chainB, Bool.and_eq_true] at h
    rcases List.mem_cons.1 hk with rfl | hk
    · exact not_ready_of_waits h.2.1 h0
    · exact ih k0 h.2.2 k hk
theorem chain_step {d : Array Bool} {j : Nat} (hj : j ∈ Region.ready md ops d) : ∀ (c : List Nat) (i : Nat), j ≠ i → chainB md ops d i c = true → chainB md ops (d.setIfInBounds j true) i c = true := by
  intro c
  induction c with
  | nil =>
    intro i hne h
    have h0 := chain_head h
    unfold chainB
    rw [getD_set_ne true hne, h0]; rfl
  | cons k c ih =>
    intro i hne h
    have h0 := chain_head h
    have hk : k ∉ Region.ready md ops d := chain_not_ready (k :: c) i h k (by simp)
    unfold chainB at h ⊢
    simp only [Bool.and_eq_true] at h ⊢
    refine ⟨by rw [getD_set_ne true hne, h0]; rfl, h.2.1, ih k (fun e => hk (e ▸ hj)) h.2.2⟩
theorem heldL_first {i : Nat} {oi : Oper} {v : Value} (hi : ops[i]? = some oi) (hsel : ∀ (j : Nat) (o : Oper) cs b, ops[j]? = some o → o.op ≠ .select cs b)
    (hQ : ∀ c a w, Q (.panic c) (a.put oi.dst v) w → Q (.panic c) a w) (ch : List Nat) (hl : l ∈ ch) :
    ∀ (n : Nat) (d : Array Bool) (a : Act) (w : World), chainB md ops d i ch = true →
      (∀ j oj, ops[j]? = some oj → j ≠ i → d.getD j true = false → (∀ e ∈ oj.after, Region.binds md e = true → e.on ≠ i) → oi.apart ops oj = true) →
      i ∈ Region.ready md ops d → YieldsIf P ops S oi v a → S w →
      heldL P md ops Q S l n (d.setIfInBounds i true) (a.put oi.dst v) w → heldL P md ops Q S l (n + 1) d a w := by
  intro n
  induction n with
  | zero =>
    intro d a w hch _ hr hy hS H
    refine ⟨fun h => (by rw [h] at hr; cases hr), fun j hj => ?_⟩
    by_cases hji : j = i
    · subst hji; exact hy.wpOp hi hS ⟨.inr hS, H⟩
    · have := ready_mono hj hji
      rw [H.1] at this
      cases this
  | succ n ih =>
    intro d a w hch hfree hr hy hS H
    refine ⟨fun h => (by rw [h] at hr; cases hr), fun j hj => ?_⟩
    by_cases hji : j = i
    · subst hji; exact hy.wpOp hi hS ⟨.inr hS, H⟩
    · have hjl : j ≠ l := fun e => chain_not_ready ch i hch l hl (e ▸ hj)
      have h1 := H.2 j (ready_mono hj hji)
      obtain ⟨hjun, oj, hoj, hall⟩ := mem_ready.1 hj
      have hnot : ∀ e ∈ oj.after, Region.binds md e = true → e.on ≠ i := fun e he hb heq => by
        have h1 := hall e he hb
        have h0 := (mem_ready.1 hr).1
        rw [heq] at h1
        rcases Nat.lt_or_ge i d.size with h' | h'
        · simp [h'] at h0 h1; rw [h0] at h1; cases h1
        · simp [Array.getElem?_eq_none h'] at h1
      have h2 := wpOp_putIf hoj (hfree j oj hoj hji hjun hnot) (fun cs b => hsel i oi cs b hi) (fun cs b => hsel j oj cs b hoj) hQ hy (wpOp_mono (fun a' w' h3 => (⟨h3.1.resolve_left hjl, h3.2⟩ : S w' ∧ _)) h1)
      have hfree' : ∀ k ok, ops[k]? = some ok → k ≠ i → (d.setIfInBounds j true).getD k true = false →
          (∀ e ∈ ok.after, Region.binds md e = true → e.on ≠ i) → oi.apart ops ok = true := fun k ok hk hki hun hno => by
        refine hfree k ok hk hki ?_ hno
        by_cases hjk : j = k
        · subst hjk; exact hjun
        · rw [getD_set_ne true hjk] at hun; exact hun
      refine wpOp_mono (fun a' w' h3 => ⟨.inr h3.2.1, ih (d.setIfInBounds j true) a' w' (chain_step hj ch i hji hch) hfree' (ready_mono hr (Ne.symm hji)) h3.1 h3.2.1 ?_⟩) h2
      rw [Array.setIfInBounds_comm _ _ hji]
      exact h3.2.2
theorem heldL_take {i : Nat} {oi : Oper} {v : Value} {n : Nat} {d : Array Bool} {a : Act} {w : World} (hi : ops[i]? = some oi)
    (hs : Region.noSelect ops = true) (hf : Region.free md ops d i = true) (hr : (Region.ready md ops d).contains i = true) (ch : List Nat) (hl : ch.contains l = true) (hch : chainB md ops d i ch = true)
    (hQ : ∀ c a w, Q (.panic c) (a.put oi.dst v) w → Q (.panic c) a w) (hy : YieldsIf P ops S oi v a) (hS : S w)
    (h : heldL P md ops Q S l n (d.setIfInBounds i true) (a.put oi.dst v) w) : heldL P md ops Q S l (n + 1) d a w :=
  heldL_first hi (Region.noSelect_spec hs) hQ ch (by simpa using hl) n d a w hch (Region.free_spec hi hf) (by simpa using hr) hy hS h
/-- One operation alone may come up; it keeps S. -/
theorem heldL_step {i : Nat} {o : Oper} {n : Nat} {d : Array Bool} {a : Act} {w : World} (hr : Region.ready md ops d = [i]) (ho : ops[i]? = some o)
    (h : ∀ K' : Act → World → Prop, Shut (∀ a w, S w → (S w → heldL P md ops Q S l n (d.setIfInBounds i true) a w) → K' a w) → if Region.wanted o (yielded ops a.tmps) = true then Oper.wp P o a w K' Q else K' (a.put o.dst undef) w) :
    heldL P md ops Q S l (n + 1) d a w := by
  refine ⟨fun h0 => (by rw [h0] at hr; cases hr), fun j hj => ?_⟩
  rw [hr] at hj
  obtain rfl : j = i := by simpa using hj
  exact wpOp_step ho (fun K' hK => h K' (fun a w hS hW => hK a w ⟨.inr hS, hW hS⟩))
/-- The last one. -/
theorem heldL_last {o : Oper} {n : Nat} {d : Array Bool} {a : Act} {w : World} (hr : Region.ready md ops d = [l]) (ho : ops[l]? = some o) (hd : Region.ready md ops (d.setIfInBounds l true) = [])
    (h : ∀ K' : Act → World → Prop, Shut (∀ a w, Q .normal a w → K' a w) → if Region.wanted o (yielded ops a.tmps) = true then Oper.wp P o a w K' Q else K' (a.put o.dst undef) w) :
    heldL P md ops Q S l (n + 1) d a w := by
  refine ⟨fun h0 => (by rw [h0] at hr; cases hr), fun j hj => ?_⟩
  rw [hr] at hj
  obtain rfl : j = l := by simpa using hj
  refine wpOp_step ho (fun K' hK => h K' (fun a w hq => hK a w ⟨.inl rfl, ?_⟩))
  cases n with
  | zero => exact ⟨hd, hq⟩
  | succ n => exact ⟨fun _ => hq, by rw [hd]; simp⟩
theorem wp_region_heldL {id : Nat} {a : Act} {w : World} (l : Nat) (hm : P.follows .mixedOrders = true) (hS : S w.drew)
    (h : S w.drew → heldL P .any ops Q S l ops.size (Array.replicate ops.size false) a w.drew) : (Code.region id ops true).wp P Q a w :=
  wp_region_any hm (any_of_heldL _ _ _ _ (h hS))
end
end Go
namespace Go.Proofs.Ytcbhafddehipdaa
open Go.RowKit
attribute [local go_sem ↓] Go.wp_at_zero Go.wp_at_succ
set_option linter.unusedVariables false
set_option linter.unusedSimpArgs false
/-- Session j is laid anew, with nothing read or written. -/
theorem RIn.lay {B m : Nat} {w : World} {P : Nat → Prop} {s : RSt} {A : RAd} (h : RIn B w P m s A) {j : Nat} (hj : j < 8) (id level beg : Int) :
    ∃ A', RIn B ((((((w.setCell ⟨m, 3 + j * 6, none⟩ (.int .i64 id)).setCell ⟨m, 3 + j * 6 + 1, none⟩ (.int .i64 level)).setCell ⟨m, 3 + j * 6 + 2, none⟩ (.int .i64 0)).setCell ⟨m, 3 + j * 6 + 3, none⟩ (.int .u64 beg)).setCell ⟨m, 3 + j * 6 + 4, none⟩ (.slice none 0 0)).setCell ⟨m, 3 + j * 6 + 5, none⟩ (.slice none 0 0)) P m (s.setS j ⟨id, level, 0, beg, [], []⟩) A' ∧
      Only P w ((((((w.setCell ⟨m, 3 + j * 6, none⟩ (.int .i64 id)).setCell ⟨m, 3 + j * 6 + 1, none⟩ (.int .i64 level)).setCell ⟨m, 3 + j * 6 + 2, none⟩ (.int .i64 0)).setCell ⟨m, 3 + j * 6 + 3, none⟩ (.int .u64 beg)).setCell ⟨m, 3 + j * 6 + 4, none⟩ (.slice none 0 0)).setCell ⟨m, 3 + j * 6 + 5, none⟩ (.slice none 0 0)) := by
  obtain ⟨A', hA'⟩ : ∃ A' : RAd, A' = ⟨A.va, A.vc, upd A.wa j none, upd A.wc j 0, upd A.ra j none, upd A.rc j 0⟩ := ⟨_, rfl⟩
  have wa : A'.wa j = none := by rw [hA']; exact upd_same _ _ _
  have wc : A'.wc j = 0 := by rw [hA']; exact upd_same _ _ _
  have ra : A'.ra j = none := by rw [hA']; exact upd_same _ _ _
  have rc : A'.rc j = 0 := by rw [hA']; exact upd_same _ _ _
  have off : ∀ i, i ≠ j → A'.wa i = A.wa i ∧ A'.wc i = A.wc i ∧ A'.ra i = A.ra i ∧ A'.rc i = A.rc i := fun i hi => by
    rw [hA']; exact ⟨upd_other _ _ _ hi, upd_other _ _ _ hi, upd_other _ _ _ hi, upd_other _ _ _ hi⟩
  have hv : A'.va = A.va ∧ A'.vc = A.vc := by rw [hA']; exact ⟨rfl, rfl⟩
  obtain ⟨b, o⟩ := rm_six (A' := A') hj ⟨id, level, 0, beg, [], []⟩ ⟨hv.1, hv.2, off⟩ h.mod
  rw [wa, wc, ra, rc] at b o
  refine ⟨A', h.setMod o b ⟨rfl, hv.1, hv.2⟩ (fun i hi => ?_) ?_, o.toward (fun b hb => by subst hb; exact h.pm)⟩
  · by_cases e : i = j
    · subst e
      right
      rw [show (s.setS i ⟨id, level, 0, beg, [], []⟩).s i = ⟨id, level, 0, beg, [], []⟩ from upd_same _ _ _]
      exact ⟨rfl, wa, wc, rfl, ra, rc⟩
    · left
      rw [show (s.setS j ⟨id, level, 0, beg, [], []⟩).s i = s.s i from upd_other _ _ _ e]
      obtain ⟨o1, o2, o3, o4⟩ := off i e
      exact ⟨rfl, o1, o2, rfl, o3, o4⟩
  · have e : ∀ i, (s.setS j ⟨id, level, 0, beg, [], []⟩).s i = if i = j then ⟨id, level, 0, beg, [], []⟩ else s.s i := fun i => rfl
    have h0 := h.ok
    refine ⟨h0.slots, h0.limit, h0.time, h0.made, h0.few, fun i => ?_, fun i => ?_, fun i => ?_, fun i r hr => ?_⟩
    · rw [e]; split
      · exact ⟨Int.le_refl 0, show (0 : Int) ≤ 12 by decide⟩
      · exact h0.ops i
    · rw [e]; split
      · exact Int.le_refl _
      · exact h0.wrote i
    · rw [e]; split
      · exact Int.le_refl _
      · exact h0.reads i
    · rw [e] at hr
      split at hr
      · cases hr
      · exact h0.span i r hr
/-- The clock and the count go on. -/
theorem RIn.turn {B m : Nat} {w : World} {P : Nat → Prop} {s : RSt} {A : RAd} (h : RIn B w P m s A) (hl : s.time < s.limit) (hm : s.made < 2000) :
    RIn B ((w.setCell ⟨m, 51, none⟩ (.int .u64 (s.time + 1))).setCell ⟨m, 52, none⟩ (.int .i64 (s.made + 1))) P m { s with time := s.time + 1, made := s.made + 1 } A ∧ Only P w ((w.setCell ⟨m, 51, none⟩ (.int .u64 (s.time + 1))).setCell ⟨m, 52, none⟩ (.int .i64 (s.made + 1))) := by
  have hb := (h.mod.set 51 (.int .u64 (s.time + 1))).set 52 (.int .i64 (s.made + 1))
  have e : ((rmCells A s).setIfInBounds 51 (.int .u64 (s.time + 1))).setIfInBounds 52 (.int .i64 (s.made + 1)) = rmCells A { s with time := s.time + 1, made := s.made + 1 } := by unfold rmCells; rw [List.setIfInBounds_toArray, List.setIfInBounds_toArray]; rfl
  rw [e] at hb
  have h0 := h.ok
  have o := (Only.set1 w m 51 (.int .u64 (s.time + 1))).trans (Only.set1 _ m 52 (.int .i64 (s.made + 1)))
  refine ⟨h.setMod o hb ⟨rfl, rfl, rfl⟩ (fun j hj => .inl ⟨rfl, rfl, rfl, rfl, rfl, rfl⟩) ⟨h0.slots, h0.limit, by have := h0.time; show 0 ≤ s.time + 1 ∧ s.time + 1 ≤ s.limit; omega, by have := h0.made; show 0 ≤ s.made + 1 ∧ s.made + 1 ≤ 2000; omega, h0.few, h0.ops, h0.wrote, h0.reads, h0.span⟩, o.toward (fun b hb => by subst hb; exact h.pm)⟩
/-- What Begin leaves. -/
def RBRes (B m : Nat) (w : World) (P : Nat → Prop) (x : Int × Int × RSt) (e : Ending) (w' : World) : Prop := e = .returned (.tuple #[.int .i64 x.1, .int .i64 x.2.1]) ∧ RAt B w' P m x.2.2 ∧ Only P w w'
theorem RBRes.no {B m : Nat} {w w' : World} {P : Nat → Prop} {s : RSt} {A : RAd} (h : RIn B w P m s A) (er : Int) (o : Only0 w w') : RBRes B m w P (0, er, s) (.returned (.tuple #[.int .i64 0, .int .i64 er])) w' := ⟨rfl, ⟨A, h.only0 o⟩, o.any P⟩
set_option maxRecDepth 100000 in
set_option maxHeartbeats 16000000 in
theorem ref_begin {B m : Nat} {w : World} {P : Nat → Prop} {s : RSt} (h : RAt B w P m s) (j level : Int) :
    Calls Try.prog 29 #[.pointer (some ⟨m, 0, none⟩), .int .i64 j, .int .i64 level] w (RBRes B m w P (s.begin j level)) := by
  obtain ⟨A, h⟩ := h
  have HH := Lib.hid h
  have hd : j < 0 ∨ (0 ≤ j ∧ 7 < j) ∨ (0 ≤ j ∧ j ≤ 7 ∧ level < 1) ∨ (0 ≤ j ∧ j ≤ 7 ∧ 1 ≤ level ∧ 3 < level) ∨ (0 ≤ j ∧ j ≤ 7 ∧ 1 ≤ level ∧ level ≤ 3) := by omega
  rcases hd with h1 | ⟨h1, h2⟩ | ⟨h1, h2, h3⟩ | ⟨h1, h2, h3, h4⟩ | ⟨h1, h2, h3, h4⟩
  · have HE : Hid (s.begin j level = (0, 1, s)) := Lib.hid (by unfold RSt.begin; rw [if_neg]; simp [sessB, levelB]; omega)
    clear h
    go_enter Try.func29, Try.ntmps29
    go_wp2_with fail
    go_ret2
    rw [HE.out]; exact RBRes.no HH.out 1 (Only0.refl _)
  · have HE : Hid (s.begin j level = (0, 1, s)) := Lib.hid (by unfold RSt.begin; rw [if_neg]; simp [sessB, levelB]; omega)
    clear h
    go_enter Try.func29, Try.ntmps29
    go_wp2_with fail
    go_ret2
    rw [HE.out]; exact RBRes.no HH.out 1 (Only0.refl _)
  · have HE : Hid (s.begin j level = (0, 1, s)) := Lib.hid (by unfold RSt.begin; rw [if_neg]; simp [sessB, levelB]; omega)
    clear h
    go_enter Try.func29, Try.ntmps29
    go_wp2_with fail
    go_ret2
    rw [HE.out]; exact RBRes.no HH.out 1 (Only0.refl _)
  · have HE : Hid (s.begin j level = (0, 1, s)) := Lib.hid (by unfold RSt.begin; rw [if_neg]; simp [sessB, levelB]; omega)
    clear h
    go_enter Try.func29, Try.ntmps29
    go_wp2_with fail
    go_ret2
    rw [HE.out]; exact RBRes.no HH.out 1 (Only0.refl _)
  · obtain ⟨jn, rfl⟩ : ∃ n : Nat, j = n := ⟨j.toNat, by omega⟩
    have hj : jn < 8 := by omega
    have j8 : (jn : Int) < 8 := by omega
    have HE0 : Hid (s.begin jn level = if !decide ((s.s jn).id = 0) then (0, 9, s) else if 2000 ≤ s.made then (0, 65, s) else if s.limit ≤ s.time then (0, 16, s)
        else (s.made + 1, 0, { s with made := s.made + 1, time := s.time + 1, s := upd s.s jn ⟨s.made + 1, level, 0, s.time + 1, [], []⟩ })) := Lib.hid (by unfold RSt.begin; rw [if_pos (by simp [sessB, levelB]; omega)]; rfl)
    obtain ⟨t0, t1, t2, t3, t4, t5⟩ := h.txCells hj
    obtain ⟨m0, m1, m2, m51, m52⟩ := h.head
    have tb := h.ok.time
    have lb := h.ok.limit
    have mb := h.ok.made
    clear h
    by_cases hu : (s.s jn).id = 0
    · rw [hu] at t0
      by_cases hm : 2000 ≤ s.made
      · have HE : Hid (s.begin jn level = (0, 65, s)) := Lib.hid (by rw [HE0.out]; simp [hu, hm])
        clear HE0 hu
        go_enter Try.func29, Try.ntmps29
        go_wp2_with fail
        go_ret2
        rw [HE.out]; exact RBRes.no HH.out 65 (Only0.refl _)
      · have hm2 : s.made < 2000 := by omega
        by_cases hl : s.limit ≤ s.time
        · have HE : Hid (s.begin jn level = (0, 16, s)) := Lib.hid (by rw [HE0.out]; simp [hu, hm, hl])
          clear HE0 hu
          go_enter Try.func29, Try.ntmps29
          go_wp2_with fail
          refine wp_region_held_drew (S := (fun w' => w'.cell? ⟨m, 51, none⟩ = some (.int .u64 s.time) ∧ w'.cell? ⟨m, 1, none⟩ = some (.int .u64 s.limit))) (by kernel_rfl) ?_ (fun hHeld => ?_)
          · exact ⟨m51, m1⟩
          refine wpAnyH_take (i := 0) (v := ?_) rfl (by kernel_rfl) (by kernel_rfl) (by kernel_rfl) (fun _ _ _ h => h) (Or.inl ⟨by rfl, ?_⟩) (by assumption) ?_; rotate_left; (focus (intro w hSw; (try dsimp only at hSw); go_simp; try with_reducible rfl))
          try simp only [Act.put, List.getElem_toArray, List.getElem_cons_zero, List.getElem_cons_succ, List.setIfInBounds_toArray, List.set_cons_zero, List.set_cons_succ]
          refine wpAnyH_take (i := 1) (v := ?_) rfl (by kernel_rfl) (by kernel_rfl) (by kernel_rfl) (fun _ _ _ h => h) (Or.inl ⟨by rfl, ?_⟩) (by assumption) ?_; rotate_left; (focus (intro w hSw; (try dsimp only at hSw); go_simp; try with_reducible rfl))
          try simp only [Act.put, List.getElem_toArray, List.getElem_cons_zero, List.getElem_cons_succ, List.setIfInBounds_toArray, List.set_cons_zero, List.set_cons_succ]
          refine wpAnyH_take (i := 2) (v := ?_) rfl (by kernel_rfl) (by kernel_rfl) (by kernel_rfl) (fun _ _ _ h => h) (Or.inl ⟨by rfl, ?_⟩) (by assumption) ?_; rotate_left; (focus (intro w hSw; (try dsimp only at hSw); go_simp; try with_reducible rfl))
          try simp only [Act.put, List.getElem_toArray, List.getElem_cons_zero, List.getElem_cons_succ, List.setIfInBounds_toArray, List.set_cons_zero, List.set_cons_succ]
          refine wpAnyH_take (i := 3) (v := ?_) rfl (by kernel_rfl) (by kernel_rfl) (by kernel_rfl) (fun _ _ _ h => h) (Or.inl ⟨by rfl, ?_⟩) (by assumption) ?_; rotate_left; (focus (intro w hSw; (try dsimp only at hSw); go_simp; try with_reducible rfl))
          try simp only [Act.put, List.getElem_toArray, List.getElem_cons_zero, List.getElem_cons_succ, List.setIfInBounds_toArray, List.set_cons_zero, List.set_cons_succ]
          refine wpAnyH_take (i := 4) (v := ?_) rfl (by kernel_rfl) (by kernel_rfl) (by kernel_rfl) (fun _ _ _ h => h) (Or.inl ⟨by rfl, ?_⟩) (by assumption) ?_; rotate_left; (focus (intro w hSw; (try dsimp only at hSw); go_simp; try with_reducible rfl))
          try simp only [Act.put, List.getElem_toArray, List.getElem_cons_zero, List.getElem_cons_succ, List.setIfInBounds_toArray, List.set_cons_zero, List.set_cons_succ]
          refine wpAnyH_take (i := 5) (v := ?_) rfl (by kernel_rfl) (by kernel_rfl) (by kernel_rfl) (fun _ _ _ h => h) (Or.inl ⟨by rfl, ?_⟩) (by assumption) ?_; rotate_left; (focus (intro w hSw; (try dsimp only at hSw); go_simp; try with_reducible rfl))
          try simp only [Act.put, List.getElem_toArray, List.getElem_cons_zero, List.getElem_cons_succ, List.setIfInBounds_toArray, List.set_cons_zero, List.set_cons_succ]
          refine wpAnyH_take (i := 6) (v := ?_) rfl (by kernel_rfl) (by kernel_rfl) (by kernel_rfl) (fun _ _ _ h => h) (Or.inl ⟨by rfl, ?_⟩) (by assumption) ?_; rotate_left; (focus (intro w hSw; (try dsimp only at hSw); go_simp; try with_reducible rfl))
          try simp only [Act.put, List.getElem_toArray, List.getElem_cons_zero, List.getElem_cons_succ, List.setIfInBounds_toArray, List.set_cons_zero, List.set_cons_succ]
          refine wpAnyH_take (i := 7) (v := ?_) rfl (by kernel_rfl) (by kernel_rfl) (by kernel_rfl) (fun _ _ _ h => h) (Or.inl ⟨by rfl, ?_⟩) (by assumption) ?_; rotate_left; (focus (intro w hSw; (try dsimp only at hSw); go_simp; try with_reducible rfl))
          try simp only [Act.put, List.getElem_toArray, List.getElem_cons_zero, List.getElem_cons_succ, List.setIfInBounds_toArray, List.set_cons_zero, List.set_cons_succ]
          refine wpAnyH_take (i := 8) (v := ?_) rfl (by kernel_rfl) (by kernel_rfl) (by kernel_rfl) (fun _ _ _ h => h) (Or.inl ⟨by rfl, ?_⟩) (by assumption) ?_; rotate_left; (focus (intro w hSw; (try dsimp only at hSw); go_simp; try with_reducible rfl))
          try simp only [Act.put, List.getElem_toArray, List.getElem_cons_zero, List.getElem_cons_succ, List.setIfInBounds_toArray, List.set_cons_zero, List.set_cons_succ]
          refine wpAnyH_take (i := 9) (v := ?_) rfl (by kernel_rfl) (by kernel_rfl) (by kernel_rfl) (fun _ _ _ h => h) (Or.inl ⟨by rfl, ?_⟩) (by assumption) ?_; rotate_left; (focus (intro w hSw; (try dsimp only at hSw); go_simp; try with_reducible rfl))
          try simp only [Act.put, List.getElem_toArray, List.getElem_cons_zero, List.getElem_cons_succ, List.setIfInBounds_toArray, List.set_cons_zero, List.set_cons_succ]
          refine wpAnyH_take (i := 10) (v := ?_) rfl (by kernel_rfl) (by kernel_rfl) (by kernel_rfl) (fun _ _ _ h => h) (Or.inl ⟨by rfl, ?_⟩) (by assumption) ?_; rotate_left; (focus (intro w hSw; (try dsimp only at hSw); go_simp; try with_reducible rfl))
          try simp only [Act.put, List.getElem_toArray, List.getElem_cons_zero, List.getElem_cons_succ, List.setIfInBounds_toArray, List.set_cons_zero, List.set_cons_succ]
          refine wpAnyH_done (by kernel_rfl) ?_ _
          go_wp2_with fail
          go_ret2
          rw [HE.out]; exact RBRes.no HH.out 16 (Only0.refl _).drew
        · have hl2 : s.time < s.limit := by omega
          have HE : Hid (s.begin jn level = (s.made + 1, 0, { s with made := s.made + 1, time := s.time + 1, s := upd s.s jn ⟨s.made + 1, level, 0, s.time + 1, [], []⟩ })) := Lib.hid (by rw [HE0.out]; simp [hu, hm, hl])
          clear HE0 hu
          go_enter Try.func29, Try.ntmps29
          go_wp2_with fail
          refine wp_region_held_drew (S := (fun w' => w'.cell? ⟨m, 51, none⟩ = some (.int .u64 s.time) ∧ w'.cell? ⟨m, 1, none⟩ = some (.int .u64 s.limit))) (by kernel_rfl) ?_ (fun hHeld => ?_)
          · exact ⟨m51, m1⟩
          refine wpAnyH_take (i := 0) (v := ?_) rfl (by kernel_rfl) (by kernel_rfl) (by kernel_rfl) (fun _ _ _ h => h) (Or.inl ⟨by rfl, ?_⟩) (by assumption) ?_; rotate_left; (focus (intro w hSw; (try dsimp only at hSw); go_simp; try with_reducible rfl))
          try simp only [Act.put, List.getElem_toArray, List.getElem_cons_zero, List.getElem_cons_succ, List.setIfInBounds_toArray, List.set_cons_zero, List.set_cons_succ]
          refine wpAnyH_take (i := 1) (v := ?_) rfl (by kernel_rfl) (by kernel_rfl) (by kernel_rfl) (fun _ _ _ h => h) (Or.inl ⟨by rfl, ?_⟩) (by assumption) ?_; rotate_left; (focus (intro w hSw; (try dsimp only at hSw); go_simp; try with_reducible rfl))
          try simp only [Act.put, List.getElem_toArray, List.getElem_cons_zero, List.getElem_cons_succ, List.setIfInBounds_toArray, List.set_cons_zero, List.set_cons_succ]
          refine wpAnyH_take (i := 2) (v := ?_) rfl (by kernel_rfl) (by kernel_rfl) (by kernel_rfl) (fun _ _ _ h => h) (Or.inl ⟨by rfl, ?_⟩) (by assumption) ?_; rotate_left; (focus (intro w hSw; (try dsimp only at hSw); go_simp; try with_reducible rfl))
          try simp only [Act.put, List.getElem_toArray, List.getElem_cons_zero, List.getElem_cons_succ, List.setIfInBounds_toArray, List.set_cons_zero, List.set_cons_succ]
          refine wpAnyH_take (i := 3) (v := ?_) rfl (by kernel_rfl) (by kernel_rfl) (by kernel_rfl) (fun _ _ _ h => h) (Or.inl ⟨by rfl, ?_⟩) (by assumption) ?_; rotate_left; (focus (intro w hSw; (try dsimp only at hSw); go_simp; try with_reducible rfl))
          try simp only [Act.put, List.getElem_toArray, List.getElem_cons_zero, List.getElem_cons_succ, List.setIfInBounds_toArray, List.set_cons_zero, List.set_cons_succ]
          refine wpAnyH_take (i := 4) (v := ?_) rfl (by kernel_rfl) (by kernel_rfl) (by kernel_rfl) (fun _ _ _ h => h) (Or.inl ⟨by rfl, ?_⟩) (by assumption) ?_; rotate_left; (focus (intro w hSw; (try dsimp only at hSw); go_simp; try with_reducible rfl))
          try simp only [Act.put, List.getElem_toArray, List.getElem_cons_zero, List.getElem_cons_succ, List.setIfInBounds_toArray, List.set_cons_zero, List.set_cons_succ]
          refine wpAnyH_take (i := 5) (v := ?_) rfl (by kernel_rfl) (by kernel_rfl) (by kernel_rfl) (fun _ _ _ h => h) (Or.inl ⟨by rfl, ?_⟩) (by assumption) ?_; rotate_left; (focus (intro w hSw; (try dsimp only at hSw); go_simp; try with_reducible rfl))
          try simp only [Act.put, List.getElem_toArray, List.getElem_cons_zero, List.getElem_cons_succ, List.setIfInBounds_toArray, List.set_cons_zero, List.set_cons_succ]
          refine wpAnyH_take (i := 6) (v := ?_) rfl (by kernel_rfl) (by kernel_rfl) (by kernel_rfl) (fun _ _ _ h => h) (Or.inl ⟨by rfl, ?_⟩) (by assumption) ?_; rotate_left; (focus (intro w hSw; (try dsimp only at hSw); go_simp; try with_reducible rfl))
          try simp only [Act.put, List.getElem_toArray, List.getElem_cons_zero, List.getElem_cons_succ, List.setIfInBounds_toArray, List.set_cons_zero, List.set_cons_succ]
          refine wpAnyH_take (i := 7) (v := ?_) rfl (by kernel_rfl) (by kernel_rfl) (by kernel_rfl) (fun _ _ _ h => h) (Or.inl ⟨by rfl, ?_⟩) (by assumption) ?_; rotate_left; (focus (intro w hSw; (try dsimp only at hSw); go_simp; try with_reducible rfl))
          try simp only [Act.put, List.getElem_toArray, List.getElem_cons_zero, List.getElem_cons_succ, List.setIfInBounds_toArray, List.set_cons_zero, List.set_cons_succ]
          refine wpAnyH_take (i := 8) (v := ?_) rfl (by kernel_rfl) (by kernel_rfl) (by kernel_rfl) (fun _ _ _ h => h) (Or.inl ⟨by rfl, ?_⟩) (by assumption) ?_; rotate_left; (focus (intro w hSw; (try dsimp only at hSw); go_simp; try with_reducible rfl))
          try simp only [Act.put, List.getElem_toArray, List.getElem_cons_zero, List.getElem_cons_succ, List.setIfInBounds_toArray, List.set_cons_zero, List.set_cons_succ]
          refine wpAnyH_take (i := 9) (v := ?_) rfl (by kernel_rfl) (by kernel_rfl) (by kernel_rfl) (fun _ _ _ h => h) (Or.inl ⟨by rfl, ?_⟩) (by assumption) ?_; rotate_left; (focus (intro w hSw; (try dsimp only at hSw); go_simp; try with_reducible rfl))
          try simp only [Act.put, List.getElem_toArray, List.getElem_cons_zero, List.getElem_cons_succ, List.setIfInBounds_toArray, List.set_cons_zero, List.set_cons_succ]
          refine wpAnyH_take (i := 10) (v := ?_) rfl (by kernel_rfl) (by kernel_rfl) (by kernel_rfl) (fun _ _ _ h => h) (Or.inl ⟨by rfl, ?_⟩) (by assumption) ?_; rotate_left; (focus (intro w hSw; (try dsimp only at hSw); go_simp; try with_reducible rfl))
          try simp only [Act.put, List.getElem_toArray, List.getElem_cons_zero, List.getElem_cons_succ, List.setIfInBounds_toArray, List.set_cons_zero, List.set_cons_succ]
          refine wpAnyH_done (by kernel_rfl) ?_ _
          have H1 := Lib.hid (HH.out.only0 (Only0.refl w).drew)
          have O1 := Lib.hid ((Only0.refl w).drew.any P)
          clear HH m0 m1 m2 m51 m52 t0 t1 t2 t3 t4 t5
          generalize w.drew = w1 at *
          obtain ⟨m0, m1, m2, m51, m52⟩ := H1.out.head
          have mf := fun i => H1.out.free i
          obtain ⟨M2, o2⟩ := H1.out.turn hl2 hm2
          have H2 := Lib.hid M2
          have O2 := Lib.hid (O1.out.trans o2)
          have n52 : (w1.setCell ⟨m, 51, none⟩ (.int .u64 (s.time + 1))).cell? ⟨m, 52, none⟩ = some (.int .i64 s.made) := by
            have := (H1.out.mod.set 51 (.int .u64 (s.time + 1))).cell 52
            rw [this, Array.getElem?_setIfInBounds_ne (by decide)]
            exact (H1.out.mod.cell 52).symm.trans m52
          obtain ⟨w2, hw2⟩ : ∃ w2, w2 = (w1.setCell ⟨m, 51, none⟩ (.int .u64 (s.time + 1))).setCell ⟨m, 52, none⟩ (.int .i64 (s.made + 1)) := ⟨_, rfl⟩
          rw [← hw2] at H2 O2
          clear M2 o2
          go_upto_region 11 with (fail)
          rw [← hw2]
          clear hw2 m0 m1 m2 m51 m52 mf n52 H1 O1
          obtain ⟨s2, hs2⟩ : ∃ s2 : RSt, s2 = { s with time := s.time + 1, made := s.made + 1 } := ⟨_, rfl⟩
          rw [← hs2] at H2
          have HS2 := Lib.hid hs2
          obtain ⟨m0, m1, m2, m51, m52⟩ := H2.out.head
          rw [show s2.time = s.time + 1 by rw [hs2]] at m51
          rw [show s2.made = s.made + 1 by rw [hs2]] at m52
          clear hs2
          obtain ⟨t0, t1, t2, t3, t4, t5⟩ := H2.out.txCells hj
          have mf := fun i => H2.out.free i
          obtain ⟨A3, M3, o3⟩ := H2.out.lay hj (s.made + 1) level (s.time + 1)
          have m52' := M3.head.2.2.2.2
          rw [show (s2.setS jn ⟨s.made + 1, level, 0, s.time + 1, [], []⟩).made = s.made + 1 by rw [HS2.out]; rfl] at m52'
          have H3 := Lib.hid M3
          have O3 := Lib.hid (O2.out.trans o3)
          clear M3 o3 O2
          obtain ⟨w3, hw3⟩ : ∃ w3, w3 = ((((((w2.setCell ⟨m, 3 + jn * 6, none⟩ (.int .i64 (s.made + 1))).setCell ⟨m, 3 + jn * 6 + 1, none⟩ (.int .i64 level)).setCell ⟨m, 3 + jn * 6 + 2, none⟩ (.int .i64 0)).setCell ⟨m, 3 + jn * 6 + 3, none⟩ (.int .u64 (s.time + 1))).setCell ⟨m, 3 + jn * 6 + 4, none⟩ (.slice none 0 0)).setCell ⟨m, 3 + jn * 6 + 5, none⟩ (.slice none 0 0)) := ⟨_, rfl⟩
          rw [← hw3] at H3 O3 m52'
          refine wp_region_heldL (S := (fun w' => w'.cell? ⟨m, 52, none⟩ = some (.int .i64 (s.made + 1)) ∧ w'.cell? ⟨m, 51, none⟩ = some (.int .u64 (s.time + 1)))) 15 (by kernel_rfl) ?_ (fun hHeld => ?_)
          · exact ⟨m52, m51⟩
          refine heldL_take (i := 0) (v := ?_) rfl (by kernel_rfl) (by kernel_rfl) (by kernel_rfl) [15] (by kernel_rfl) (by kernel_rfl) (fun _ _ _ h => h) (Or.inl ⟨by rfl, ?_⟩) (by assumption) ?_; rotate_left; (focus (intro w hSw; (try dsimp only at hSw); go_simp; try with_reducible rfl))
          try simp only [Act.put, List.getElem_toArray, List.getElem_cons_zero, List.getElem_cons_succ, List.setIfInBounds_toArray, List.set_cons_zero, List.set_cons_succ]
          refine heldL_take (i := 1) (v := ?_) rfl (by kernel_rfl) (by kernel_rfl) (by kernel_rfl) [15] (by kernel_rfl) (by kernel_rfl) (fun _ _ _ h => h) (Or.inl ⟨by rfl, ?_⟩) (by assumption) ?_; rotate_left; (focus (intro w hSw; (try dsimp only at hSw); go_simp; try with_reducible rfl))
          try simp only [Act.put, List.getElem_toArray, List.getElem_cons_zero, List.getElem_cons_succ, List.setIfInBounds_toArray, List.set_cons_zero, List.set_cons_succ]
          refine heldL_take (i := 2) (v := ?_) rfl (by kernel_rfl) (by kernel_rfl) (by kernel_rfl) [15] (by kernel_rfl) (by kernel_rfl) (fun _ _ _ h => h) (Or.inl ⟨by rfl, ?_⟩) (by assumption) ?_; rotate_left; (focus (intro w hSw; (try dsimp only at hSw); go_simp; try with_reducible rfl))
          try simp only [Act.put, List.getElem_toArray, List.getElem_cons_zero, List.getElem_cons_succ, List.setIfInBounds_toArray, List.set_cons_zero, List.set_cons_succ]
          refine heldL_take (i := 3) (v := ?_) rfl (by kernel_rfl) (by kernel_rfl) (by kernel_rfl) [15] (by kernel_rfl) (by kernel_rfl) (fun _ _ _ h => h) (Or.inl ⟨by rfl, ?_⟩) (by assumption) ?_; rotate_left; (focus (intro w hSw; (try dsimp only at hSw); go_simp; try with_reducible rfl))
          try simp only [Act.put, List.getElem_toArray, List.getElem_cons_zero, List.getElem_cons_succ, List.setIfInBounds_toArray, List.set_cons_zero, List.set_cons_succ]
          refine heldL_take (i := 4) (v := ?_) rfl (by kernel_rfl) (by kernel_rfl) (by kernel_rfl) [15] (by kernel_rfl) (by kernel_rfl) (fun _ _ _ h => h) (Or.inl ⟨by rfl, ?_⟩) (by assumption) ?_; rotate_left; (focus (intro w hSw; (try dsimp only at hSw); go_simp; try with_reducible rfl))
          try simp only [Act.put, List.getElem_toArray, List.getElem_cons_zero, List.getElem_cons_succ, List.setIfInBounds_toArray, List.set_cons_zero, List.set_cons_succ]
          refine heldL_take (i := 5) (v := ?_) rfl (by kernel_rfl) (by kernel_rfl) (by kernel_rfl) [15] (by kernel_rfl) (by kernel_rfl) (fun _ _ _ h => h) (Or.inl ⟨by rfl, ?_⟩) (by assumption) ?_; rotate_left; (focus (intro w hSw; (try dsimp only at hSw); go_simp; try with_reducible rfl))
          try simp only [Act.put, List.getElem_toArray, List.getElem_cons_zero, List.getElem_cons_succ, List.setIfInBounds_toArray, List.set_cons_zero, List.set_cons_succ]
          refine heldL_take (i := 6) (v := ?_) rfl (by kernel_rfl) (by kernel_rfl) (by kernel_rfl) [15] (by kernel_rfl) (by kernel_rfl) (fun _ _ _ h => h) (Or.inl ⟨by rfl, ?_⟩) (by assumption) ?_; rotate_left; (focus (intro w hSw; (try dsimp only at hSw); go_simp; try with_reducible rfl))
          try simp only [Act.put, List.getElem_toArray, List.getElem_cons_zero, List.getElem_cons_succ, List.setIfInBounds_toArray, List.set_cons_zero, List.set_cons_succ]
          refine heldL_take (i := 7) (v := ?_) rfl (by kernel_rfl) (by kernel_rfl) (by kernel_rfl) [15] (by kernel_rfl) (by kernel_rfl) (fun _ _ _ h => h) (Or.inl ⟨by rfl, ?_⟩) (by assumption) ?_; rotate_left; (focus (intro w hSw; (try dsimp only at hSw); go_simp; try with_reducible rfl))
          try simp only [Act.put, List.getElem_toArray, List.getElem_cons_zero, List.getElem_cons_succ, List.setIfInBounds_toArray, List.set_cons_zero, List.set_cons_succ]
          refine heldL_take (i := 8) (v := ?_) rfl (by kernel_rfl) (by kernel_rfl) (by kernel_rfl) [15] (by kernel_rfl) (by kernel_rfl) (fun _ _ _ h => h) (Or.inl ⟨by rfl, ?_⟩) (by assumption) ?_; rotate_left; (focus (intro w hSw; (try dsimp only at hSw); go_simp; try with_reducible rfl))
          try simp only [Act.put, List.getElem_toArray, List.getElem_cons_zero, List.getElem_cons_succ, List.setIfInBounds_toArray, List.set_cons_zero, List.set_cons_succ]
          refine heldL_take (i := 9) (v := ?_) rfl (by kernel_rfl) (by kernel_rfl) (by kernel_rfl) [15] (by kernel_rfl) (by kernel_rfl) (fun _ _ _ h => h) (Or.inl ⟨by rfl, ?_⟩) (by assumption) ?_; rotate_left; (focus (intro w hSw; (try dsimp only at hSw); go_simp; try with_reducible rfl))
          try simp only [Act.put, List.getElem_toArray, List.getElem_cons_zero, List.getElem_cons_succ, List.setIfInBounds_toArray, List.set_cons_zero, List.set_cons_succ]
          refine heldL_take (i := 10) (v := ?_) rfl (by kernel_rfl) (by kernel_rfl) (by kernel_rfl) [15] (by kernel_rfl) (by kernel_rfl) (fun _ _ _ h => h) (Or.inl ⟨by rfl, ?_⟩) (by assumption) ?_; rotate_left; (focus (intro w hSw; (try dsimp only at hSw); go_simp; try with_reducible rfl))
          try simp only [Act.put, List.getElem_toArray, List.getElem_cons_zero, List.getElem_cons_succ, List.setIfInBounds_toArray, List.set_cons_zero, List.set_cons_succ]
          refine heldL_take (i := 11) (v := ?_) rfl (by kernel_rfl) (by kernel_rfl) (by kernel_rfl) [15] (by kernel_rfl) (by kernel_rfl) (fun _ _ _ h => h) (Or.inl ⟨by rfl, ?_⟩) (by assumption) ?_; rotate_left; (focus (intro w hSw; (try dsimp only at hSw); go_simp; try with_reducible rfl))
          try simp only [Act.put, List.getElem_toArray, List.getElem_cons_zero, List.getElem_cons_succ, List.setIfInBounds_toArray, List.set_cons_zero, List.set_cons_succ]
          refine heldL_take (i := 12) (v := ?_) rfl (by kernel_rfl) (by kernel_rfl) (by kernel_rfl) [13, 14, 15] (by kernel_rfl) (by kernel_rfl) (fun _ _ _ h => h) (Or.inl ⟨by rfl, ?_⟩) (by assumption) ?_; rotate_left; (focus (intro w hSw; (try dsimp only at hSw); go_simp; try with_reducible rfl))
          try simp only [Act.put, List.getElem_toArray, List.getElem_cons_zero, List.getElem_cons_succ, List.setIfInBounds_toArray, List.set_cons_zero, List.set_cons_succ]
          refine heldL_take (i := 13) (v := ?_) rfl (by kernel_rfl) (by kernel_rfl) (by kernel_rfl) [14, 15] (by kernel_rfl) (by kernel_rfl) (fun _ _ _ h => h) (Or.inl ⟨by rfl, ?_⟩) (by assumption) ?_; rotate_left; (focus (intro w hSw; (try dsimp only at hSw); go_simp; try with_reducible rfl))
          try simp only [Act.put, List.getElem_toArray, List.getElem_cons_zero, List.getElem_cons_succ, List.setIfInBounds_toArray, List.set_cons_zero, List.set_cons_succ]
          refine heldL_take (i := 14) (v := ?_) rfl (by kernel_rfl) (by kernel_rfl) (by kernel_rfl) [15] (by kernel_rfl) (by kernel_rfl) (fun _ _ _ h => h) (Or.inl ⟨by rfl, ?_⟩) (by assumption) ?_; rotate_left; (focus (intro w hSw; (try dsimp only at hSw); go_simp; try with_reducible rfl))
          try simp only [Act.put, List.getElem_toArray, List.getElem_cons_zero, List.getElem_cons_succ, List.setIfInBounds_toArray, List.set_cons_zero, List.set_cons_succ]
          refine heldL_last (by kernel_rfl) rfl (by kernel_rfl) (fun K hK => ?_)
          try simp only [List.getElem_toArray, List.getElem_cons_zero, List.getElem_cons_succ]
          go_simp
          skip
          try go_wp2_with fail
          refine hK.out _ _ ?_
          clear hK K
          try simp only [Act.put, List.getElem_toArray, List.getElem_cons_zero, List.getElem_cons_succ, List.setIfInBounds_toArray, List.set_cons_zero, List.set_cons_succ]
          rw [← hw3]
          clear hw3 t0 t1 t2 t3 t4 t5 m0 m1 m2 m51 m52 mf H2
          go_wp2_with fail
          go_ret2
          rw [HE.out]
          refine ⟨rfl, ⟨A3, ?_⟩, O3.out.drew⟩
          have M := H3.out.only0 (Only0.refl w3).drew
          rw [HS2.out] at M
          exact M
    · have hub : ((s.s jn).id != 0) = true := by simpa using hu
      have HE : Hid (s.begin jn level = (0, 9, s)) := Lib.hid (by rw [HE0.out]; simp [hu])
      clear HE0 hu
      go_enter Try.func29, Try.ntmps29
      go_wp2_with fail
      go_ret2
      rw [HE.out]; exact RBRes.no HH.out 9 (Only0.refl _)
end Go.Proofs.Ytcbhafddehipdaa
namespace Go.Proofs.Ytcbhafddehipdaa
open Go.RowKit
attribute [local go_sem ↓] Go.wp_at_zero Go.wp_at_succ
set_option linter.unusedVariables false
set_option linter.unusedSimpArgs false
theorem keysFrom_snoc' {lo k : Nat} (h : lo ≤ k) : keysFrom lo (k + 1 - lo) = keysFrom lo (k - lo) ++ [k] := by
  unfold keysFrom
  rw [show k + 1 - lo = (k - lo) + 1 by omega, List.range_succ, List.map_append]
  simp only [List.map_cons, List.map_nil]
  rw [show lo + (k - lo) = k by omega]
def RSt.some_ (s : RSt) (id beg : Int) (lo k : Nat) : List (Int × Int) := (keysFrom lo (k - lo)).filterMap (s.pairOf id beg)
theorem some_zero (s : RSt) (id beg : Int) (lo : Nat) : s.some_ id beg lo lo = [] := by unfold RSt.some_ keysFrom; simp
theorem some_none {s : RSt} {id beg : Int} {lo k : Nat} (h : lo ≤ k) (hs : s.sees id beg k = none) : s.some_ id beg lo (k + 1) = s.some_ id beg lo k := by
  unfold RSt.some_
  rw [keysFrom_snoc' h, List.filterMap_append]; simp [RSt.pairOf, hs]
theorem some_some {s : RSt} {id beg : Int} {lo k i : Nat} (h : lo ≤ k) (hs : s.sees id beg k = some i) : s.some_ id beg lo (k + 1) = s.some_ id beg lo k ++ [((k : Int), (s.v.getD i default).value)] := by
  unfold RSt.some_
  rw [keysFrom_snoc' h, List.filterMap_append]; simp [RSt.pairOf, hs]
theorem some_few (s : RSt) (id beg : Int) (lo k : Nat) : (s.some_ id beg lo k).length ≤ k := by
  unfold RSt.some_ keysFrom
  refine Nat.le_trans (List.length_filterMap_le _ _) ?_
  simp
theorem some_all (s : RSt) (id beg : Int) {lo hi : Nat} : s.some_ id beg lo (hi + 1) = (rKeys lo hi).filterMap (s.pairOf id beg) := by
  unfold RSt.some_ rKeys
  rw [show ((lo : Int)).toNat = lo by omega, show ((hi : Int) + 1 - lo).toNat = hi + 1 - lo by omega]
set_option maxRecDepth 100000 in
set_option maxHeartbeats 8000000 in
theorem ref_scan {B m : Nat} {w : World} {P : Nat → Prop} {s : RSt} {A : RAd} (h : RIn B w P m s A) (id level ops beg : Int) (wa : Option Addr) (wl wc : Nat) (ra : Option Addr) (rl rc : Nat) (lo hi : Nat) (hlo : lo ≤ hi) (hhi : hi ≤ 63) :
    Calls Try.prog 61 #[.pointer (some ⟨m, 0, none⟩), .agg #[.int .i64 id, .int .i64 level, .int .i64 ops, .int .u64 beg, .slice wa wl wc, .slice ra rl rc], .int .i64 lo, .int .i64 hi] w fun e w' => (∃ a c, e = .returned (.slice a ((rKeys lo hi).filterMap (s.pairOf id beg)).length c) ∧ PairsIn w' a ((rKeys lo hi).filterMap (s.pairOf id beg)) ∧ ∀ x, a = some x → w.heap.size ≤ x.block) ∧ Only0 w w' := by
  obtain ⟨i0, hi0, hz0, hz1, hz2⟩ := info_parts info_pair
  obtain ⟨W, hW⟩ : ∃ W, W = w.alloc (.cells #[.int .i64 id, .int .i64 level, .int .i64 ops, .int .u64 beg, .slice wa wl wc, .slice ra rl rc] 62) := ⟨_, rfl⟩
  have oW : Only0 w W := by rw [hW]; exact (Only0.refl w).alloc _
  obtain ⟨n0, hn0⟩ : ∃ n0, n0 = w.heap.size := ⟨_, rfl⟩
  have HB : Hid (Blk W n0 62 #[.int .i64 id, .int .i64 level, .int .i64 ops, .int .u64 beg, .slice wa wl wc, .slice ra rl rc]) := by rw [hW, hn0]; exact Blk.new _ _ _
  have HN0 := Lib.hid hn0
  have HW := Lib.hid oW
  have HH := Lib.hid h
  have hsv : s.v.length ≤ 256 := by have := h.ok.few; have := h.ok.slots; omega
  clear h oW hn0
  go_enter Try.func61, Try.ntmps61
  go_upto_region 1 with (fail)
  rw [← hW, ← HN0.out]
  clear hW
  go_wp2_with fail
  go_loopw [9, 10, 11] (fun s9 s10 s11 wr => ∃ (k len : Nat) (pa : Option Addr) (pc : Nat) (v : Value), s11 = v ∧ s10 = .int .i64 k ∧ lo ≤ k ∧ k ≤ hi + 1 ∧ s9 = .slice pa len pc ∧ len ≤ 64 ∧ Hid (len = (s.some_ id beg lo k).length ∧ Only0 W wr ∧ wr.ownsRow W.heap.size 48 2 (.slice pa len pc) len (pairCells (s.some_ id beg lo k)))) (fun _ s10 _ _ => hi + 1 - (intOf s10).toNat)
  case atStart => exact ⟨lo, 0, none, 0, _, rfl, rfl, by omega, by omega, rfl, by omega, Lib.hid ⟨by rw [some_zero]; rfl, Only0.refl _, by rw [some_zero]; exact World.ownsRow_nil _ _ _ _⟩⟩
  case round =>
    obtain ⟨k, len, pa, pc, v, rfl, rfl, hk0, hk1, rfl, hl, HR⟩ := hrel
    by_cases hlt : k ≤ hi
    · have M := HH.out.only0 (HW.out.trans HR.out.2.1)
      have b0 := (HR.out.2.1.blk HB.out (fun h => h)).cell 0
      have b1 := (HR.out.2.1.blk HB.out (fun h => h)).cell 1
      have b2 := (HR.out.2.1.blk HB.out (fun h => h)).cell 2
      have b3 := (HR.out.2.1.blk HB.out (fun h => h)).cell 3
      have b4 := (HR.out.2.1.blk HB.out (fun h => h)).cell 4
      have b5 := (HR.out.2.1.blk HB.out (fun h => h)).cell 5
      have C := ref_sees M id level ops beg wa wl wc ra rl rc k
      have few := some_few s id beg lo (k + 1)
      have HM := Lib.hid M
      clear M
      cases hs : s.sees id beg k with
      | none =>
        rw [hs, show idxV none = -1 from rfl] at C
        have R := Lib.hid (show len = (s.some_ id beg lo (k + 1)).length ∧ Only0 W wr ∧ wr.ownsRow W.heap.size 48 2 (.slice pa len pc) len (pairCells (s.some_ id beg lo (k + 1))) by rw [some_none hk0 hs]; exact HR.out)
        clear hs few HR
        go_wp2_with fail
        refine C.mono ?_
        rintro e w1 ⟨rfl, o1⟩
        have R1 := Lib.hid (show len = (s.some_ id beg lo (k + 1)).length ∧ Only0 W w1 ∧ w1.ownsRow W.heap.size 48 2 (.slice pa len pc) len (pairCells (s.some_ id beg lo (k + 1))) from ⟨R.out.1, R.out.2.1.trans o1, rows_only R.out.2.2 o1 (fun _ _ h => h)⟩)
        clear R C o1
        go_wp2_with fail
        go_roundw
        case rel => exact ⟨k + 1, len, pa, pc, _, rfl, by go_num, by omega, by omega, rfl, hl, R1⟩
        case measure => simp [intOf]; omega
      | some i =>
        rw [hs, show idxV (some i) = (i : Int) from rfl] at C
        have hi_ := sees_lt hs
        have hiI : (i : Int) < (s.v.length : Int) := by omega
        have e1 := some_some hk0 hs
        have len1 := HR.out.1
        have hl2 : len + 1 ≤ 64 := by rw [e1] at few; simp at few; omega
        have HE1 := Lib.hid e1
        have HL1 := Lib.hid len1
        clear hs few e1 len1
        go_wp2_with fail
        refine C.mono ?_
        rintro e w1 ⟨rfl, o1⟩
        have M1 := HM.out.only0 o1
        have hown := rows_only HR.out.2.2 o1 (fun _ _ h => h)
        have OO := Lib.hid (HR.out.2.1.trans o1)
        have hwr : W.heap.size ≤ w1.heap.size := OO.out.size
        obtain ⟨g, hg, hc⟩ : ∃ g, A.va = some ⟨g, 0, none⟩ ∧ w1.cell? ⟨g, i * 7 + 1, none⟩ = some (.int .i64 (s.v.getD i default).value) := by
          rcases M1.rowAt with ⟨_, e, _⟩ | ⟨g, hg, _, hc⟩
          · omega
          · exact ⟨g, hg, hc i 1 hi_ (by omega)⟩
        have m2 := M1.head.2.2.1
        rw [hg] at m2
        have NEXT : ∀ (g cap : Nat) (w2 : World), w2.ownsRow W.heap.size 48 2 (.slice (some ⟨g, 0, none⟩) (len + 1) cap) (len + 1) (pairCells (s.some_ id beg lo k) ++ [.int .i64 k, .int .i64 (s.v.getD i default).value]) → (w1.alloc (.cells #[.int .i64 k, .int .i64 (s.v.getD i default).value] 48)).grownBy w2 (Value.slice pa len pc).ownBlock →
            len + 1 = (s.some_ id beg lo (k + 1)).length ∧ Only0 W w2 ∧ w2.ownsRow W.heap.size 48 2 (.slice (some ⟨g, 0, none⟩) (len + 1) cap) (len + 1) (pairCells (s.some_ id beg lo (k + 1))) := by
          intro g cap w2 h2 hg
          rw [HE1.out, pairCells_snoc]
          exact ⟨by simp [HL1.out], (OO.out.alloc _).grown hg (fun b hb => (hown.lt b hb).1), h2⟩
        have HNX := Lib.hid NEXT
        clear HR NEXT M1 hg b0 b1 b2 b3 b4 b5 C o1
        generalize (s.v.getD i default).value = x at *
        go_wp2_with (at_builtin; refine wpList_append_lies _ rfl _ _ 25 rfl W.heap.size 48 i0 _ 2 16 Try.underlying25 hi0 hz0 hz1 hz2 rfl (by decide) (.slice pa len pc) len (pairCells (s.some_ id beg lo k)) rfl (hown.alloc _) ⟨w1.heap.size, 0, none⟩ 1 1 [.int .i64 k, .int .i64 x] rfl rfl ?c1 ?c2 (by decide) ?c3 ?c4 ?c5 (w1.heap.size + 1) ?c6 ?_)
        case c1 => exact World.news_of_block (cs := #[.int .i64 k, .int .i64 x]) (t := 48) (fr := (0, 0)) (heap_alloc_new w1 _)
        case c2 => intro u hu; simp at hu; rcases hu with rfl | rfl <;> rfl
        case c3 => unfold maxLen; omega
        case c4 => omega
        case c5 => simp; omega
        case c6 => simp
        intro g cap w2 hown2 hgrow hat hlt2
        have R := Lib.hid (HNX.out g cap w2 hown2 hgrow)
        clear HNX hown hown2 hgrow hat hlt2
        go_wp2_with fail
        go_roundw
        case rel => exact ⟨k + 1, len + 1, _, cap, _, rfl, by go_num, by omega, by omega, rfl, by omega, R⟩
        case measure => simp [intOf]; omega
    · obtain rfl : k = hi + 1 := by omega
      have R := Lib.hid HR.out
      clear HR
      have e9 : ((hi + 1 : Nat) : Int) = (hi : Int) + 1 := by omega
      go_wp2_with fail
      go_ret
      obtain ⟨e1, o1, r1⟩ := R.out
      rw [some_all] at e1 r1
      subst e1
      exact ⟨⟨pa, pc, rfl, PairsIn.of_own r1, fun x hx => by
        subst hx
        rcases r1.2 with ⟨h0, _⟩ | ⟨g, c1, c2, hv, hg, _⟩
        · cases h0
        · injection hv with h1 h2 h3; injection h1 with h1; subst h1; exact Nat.le_trans HW.out.size hg⟩, HW.out.trans o1⟩
end Go.Proofs.Ytcbhafddehipdaa
namespace Go.Proofs.Ytcbhafddehipdaa
open Go.RowKit
attribute [local go_sem ↓] Go.wp_at_zero Go.wp_at_succ
set_option linter.unusedVariables false
set_option linter.unusedSimpArgs false
theorem set_get_same {α : Type} [Inhabited α] (l : List α) (k : Nat) : l.set k (l.getD k default) = l := by
  refine List.ext_getElem (by simp) fun i h1 h2 => ?_
  rw [List.getElem_set]
  split
  · rename_i e; subst e
    rw [List.getD_eq_getElem?_getD, List.getElem?_eq_getElem h2]; rfl
  · rfl
theorem rDoneV_cases (id now : Int) (kk vv by_ en bg fn : Int) (dd : Bool) : rDoneV id now ⟨kk, vv, by_, en, bg, fn, dd⟩ = ⟨kk, vv, if by_ = id then 0 else by_, if en = id then 0 else en, if by_ = id then now else bg, if en = id then now else fn, dd⟩ := rfl
set_option maxRecDepth 100000 in
set_option maxHeartbeats 16000000 in
theorem ref_commit {B m : Nat} {w : World} {P0 : Nat → Prop} {s : RSt} (h : RAt B w P0 m s) (j : Nat) (hj : j < 8) :
    Calls Try.prog 58 #[.pointer (some ⟨m, 0, none⟩), .int .i64 j] w (RRes B m w P0 (resV (s.commit j).1) (s.commit j).2) := by
  obtain ⟨A, h⟩ := h
  obtain ⟨W, hW⟩ : ∃ W, W = w.alloc (.cells #[.int .i64 0, .int .i64 0, .slice none 0 0, .int .i64 0, .int .i64 0] 27) := ⟨_, rfl⟩
  obtain ⟨n0, hn0⟩ : ∃ n0, n0 = w.heap.size := ⟨_, rfl⟩
  have H0 : Hid (RcI B w P0 m [⟨n0, 27, #[.int .i64 0, .int .i64 0, .slice none 0 0, .int .i64 0, .int .i64 0]⟩] s P0 A W) := by
    rw [hn0, hW]; exact (RcI.start h).alloc _ _
  have HN0 := Lib.hid hn0
  have j8 : (j : Int) < 8 := by omega
  have j0 : (0 : Int) ≤ (j : Int) := by omega
  have tb := h.ok.time
  have lb := h.ok.limit
  clear h hn0
  go_enter Try.func58, Try.ntmps58
  go_upto_region 1 with (fail)
  rw [← hW, ← HN0.out]
  clear hW
  obtain ⟨m0, m1, m2, m51, m52⟩ := H0.out.mod.head
  have H1 := Lib.hid (H0.out.only0 (Only0.refl W).drew)
  clear H0
  refine wp_region_held_drew (S := (fun w' => w'.cell? ⟨m, 51, none⟩ = some (.int .u64 s.time) ∧ w'.cell? ⟨m, 1, none⟩ = some (.int .u64 s.limit))) (by kernel_rfl) ?_ (fun hHeld => ?_)
  · exact ⟨m51, m1⟩
  refine wpAnyH_take (i := 0) (v := ?_) rfl (by kernel_rfl) (by kernel_rfl) (by kernel_rfl) (fun _ _ _ h => h) (Or.inl ⟨by rfl, ?_⟩) (by assumption) ?_; rotate_left; (focus (intro w hSw; (try dsimp only at hSw); go_simp; try with_reducible rfl))
  try simp only [Act.put, List.getElem_toArray, List.getElem_cons_zero, List.getElem_cons_succ, List.setIfInBounds_toArray, List.set_cons_zero, List.set_cons_succ]
  refine wpAnyH_take (i := 1) (v := ?_) rfl (by kernel_rfl) (by kernel_rfl) (by kernel_rfl) (fun _ _ _ h => h) (Or.inl ⟨by rfl, ?_⟩) (by assumption) ?_; rotate_left; (focus (intro w hSw; (try dsimp only at hSw); go_simp; try with_reducible rfl))
  try simp only [Act.put, List.getElem_toArray, List.getElem_cons_zero, List.getElem_cons_succ, List.setIfInBounds_toArray, List.set_cons_zero, List.set_cons_succ]
  refine wpAnyH_take (i := 2) (v := ?_) rfl (by kernel_rfl) (by kernel_rfl) (by kernel_rfl) (fun _ _ _ h => h) (Or.inl ⟨by rfl, ?_⟩) (by assumption) ?_; rotate_left; (focus (intro w hSw; (try dsimp only at hSw); go_simp; try with_reducible rfl))
  try simp only [Act.put, List.getElem_toArray, List.getElem_cons_zero, List.getElem_cons_succ, List.setIfInBounds_toArray, List.set_cons_zero, List.set_cons_succ]
  refine wpAnyH_take (i := 3) (v := ?_) rfl (by kernel_rfl) (by kernel_rfl) (by kernel_rfl) (fun _ _ _ h => h) (Or.inl ⟨by rfl, ?_⟩) (by assumption) ?_; rotate_left; (focus (intro w hSw; (try dsimp only at hSw); go_simp; try with_reducible rfl))
  try simp only [Act.put, List.getElem_toArray, List.getElem_cons_zero, List.getElem_cons_succ, List.setIfInBounds_toArray, List.set_cons_zero, List.set_cons_succ]
  refine wpAnyH_take (i := 4) (v := ?_) rfl (by kernel_rfl) (by kernel_rfl) (by kernel_rfl) (fun _ _ _ h => h) (Or.inl ⟨by rfl, ?_⟩) (by assumption) ?_; rotate_left; (focus (intro w hSw; (try dsimp only at hSw); go_simp; try with_reducible rfl))
  try simp only [Act.put, List.getElem_toArray, List.getElem_cons_zero, List.getElem_cons_succ, List.setIfInBounds_toArray, List.set_cons_zero, List.set_cons_succ]
  refine wpAnyH_take (i := 5) (v := ?_) rfl (by kernel_rfl) (by kernel_rfl) (by kernel_rfl) (fun _ _ _ h => h) (Or.inl ⟨by rfl, ?_⟩) (by assumption) ?_; rotate_left; (focus (intro w hSw; (try dsimp only at hSw); go_simp; try with_reducible rfl))
  try simp only [Act.put, List.getElem_toArray, List.getElem_cons_zero, List.getElem_cons_succ, List.setIfInBounds_toArray, List.set_cons_zero, List.set_cons_succ]
  refine wpAnyH_take (i := 6) (v := ?_) rfl (by kernel_rfl) (by kernel_rfl) (by kernel_rfl) (fun _ _ _ h => h) (Or.inl ⟨by rfl, ?_⟩) (by assumption) ?_; rotate_left; (focus (intro w hSw; (try dsimp only at hSw); go_simp; try with_reducible rfl))
  try simp only [Act.put, List.getElem_toArray, List.getElem_cons_zero, List.getElem_cons_succ, List.setIfInBounds_toArray, List.set_cons_zero, List.set_cons_succ]
  refine wpAnyH_take (i := 7) (v := ?_) rfl (by kernel_rfl) (by kernel_rfl) (by kernel_rfl) (fun _ _ _ h => h) (Or.inl ⟨by rfl, ?_⟩) (by assumption) ?_; rotate_left; (focus (intro w hSw; (try dsimp only at hSw); go_simp; try with_reducible rfl))
  try simp only [Act.put, List.getElem_toArray, List.getElem_cons_zero, List.getElem_cons_succ, List.setIfInBounds_toArray, List.set_cons_zero, List.set_cons_succ]
  refine wpAnyH_take (i := 8) (v := ?_) rfl (by kernel_rfl) (by kernel_rfl) (by kernel_rfl) (fun _ _ _ h => h) (Or.inl ⟨by rfl, ?_⟩) (by assumption) ?_; rotate_left; (focus (intro w hSw; (try dsimp only at hSw); go_simp; try with_reducible rfl))
  try simp only [Act.put, List.getElem_toArray, List.getElem_cons_zero, List.getElem_cons_succ, List.setIfInBounds_toArray, List.set_cons_zero, List.set_cons_succ]
  refine wpAnyH_take (i := 9) (v := ?_) rfl (by kernel_rfl) (by kernel_rfl) (by kernel_rfl) (fun _ _ _ h => h) (Or.inl ⟨by rfl, ?_⟩) (by assumption) ?_; rotate_left; (focus (intro w hSw; (try dsimp only at hSw); go_simp; try with_reducible rfl))
  try simp only [Act.put, List.getElem_toArray, List.getElem_cons_zero, List.getElem_cons_succ, List.setIfInBounds_toArray, List.set_cons_zero, List.set_cons_succ]
  refine wpAnyH_done (by kernel_rfl) ?_ _
  clear m0 m1 m2 m51 m52
  generalize W.drew = w1 at *
  by_cases hl : s.limit ≤ s.time
  · have HE : Hid (s.commit j = (abortRes 14 6, s.over j)) := Lib.hid (by unfold RSt.commit; rw [if_pos hl])
    go_wp2_with fail
    refine (ref_over ⟨_, H1.out.mod⟩ j hj 14 6).mono ?_
    rintro e w8 ⟨P8, rfl, ⟨A8, M8⟩, o8, g8⟩
    have H8 := Lib.hid (H1.out.step M8 o8 g8)
    clear M8 o8 g8 H1
    have X8 := (H8.out.own _ (List.mem_cons_self)).1
    have HX8 := Lib.hid X8
    have b0 := X8.cell 0
    have b1 := X8.cell 1
    have b2 := X8.cell 2
    have b3 := X8.cell 3
    have b4 := X8.cell 4
    have bf := fun i => X8.free i
    clear X8
    go_wp2_with fail
    obtain ⟨B9, o9⟩ := set5 HX8.out (.int .i64 14) (.int .i64 0) (.slice none 0 0) (.int .i64 4) (.int .i64 6)
    refine bodyPost_ret (v := .agg #[.int .i64 14, .int .i64 0, .slice none 0 0, .int .i64 4, .int .i64 6]) (results_cell_row Try.results58 _ _ n0 _ _ _ _ rfl B9 Try.underlying27 rfl info_res) rfl ?_
    rw [HE.out]
    exact H8.out.done List.mem_cons_self o9
  · have hl2 : s.time < s.limit := by omega
    have HE : Hid (s.commit j = if !decide ((s.s j).level = 1) && !s.tick.holds (s.s j) then (abortRes 14 3, s.tick.over j) else (⟨0, 0, [], 3, 0⟩, s.tick.done j)) := Lib.hid (by unfold RSt.commit; rw [if_neg hl])
    obtain ⟨MT, oT⟩ := H1.out.mod.tick hl2
    have H2 := Lib.hid (H1.out.step MT oT (Grew.refl _ _))
    obtain ⟨m0, m1, m2, m51, m52⟩ := H1.out.mod.head
    have mf := fun i => H1.out.mod.free i
    clear H1 MT oT
    obtain ⟨w2, hw2⟩ : ∃ w2, w2 = w1.setCell ⟨m, 51, none⟩ (.int .u64 (s.time + 1)) := ⟨_, rfl⟩
    rw [← hw2] at H2
    go_upto_region 4 with (fail)
    rw [← hw2]
    clear hw2 m0 m1 m2 m51 m52 mf
    have es : Hid ((s.tick).s j = s.s j) := rfl
    have el : Hid ((s.tick).limit = s.limit) := rfl
    have et : Hid ((s.tick).time = s.time + 1) := rfl
    generalize hs1 : s.tick = s1 at *
    have HS1 := Lib.hid hs1
    clear hs1
    obtain ⟨w3, hw3⟩ : ∃ w3, w3 = w2.alloc (.cells #[.int .i64 (s.s j).id, .int .i64 (s.s j).level, .int .i64 (s.s j).ops, .int .u64 (s.s j).beg, .slice (A.wa j) (s.s j).wrote.length (A.wc j), .slice (A.ra j) (s.s j).reads.length (A.rc j)] 62) := ⟨_, rfl⟩
    obtain ⟨tb_, htb⟩ : ∃ b, b = w2.heap.size := ⟨_, rfl⟩
    have H3 : Hid (RcI B w P0 m [⟨tb_, 62, #[.int .i64 (s.s j).id, .int .i64 (s.s j).level, .int .i64 (s.s j).ops, .int .u64 (s.s j).beg, .slice (A.wa j) (s.s j).wrote.length (A.wc j), .slice (A.ra j) (s.s j).reads.length (A.rc j)]⟩, ⟨n0, 27, #[.int .i64 0, .int .i64 0, .slice none 0 0, .int .i64 0, .int .i64 0]⟩] s1 P0 A w3) := by
      rw [htb, hw3]; exact H2.out.alloc _ _
    obtain ⟨t0, t1, t2, t3, t4, t5⟩ := H2.out.mod.txCells hj
    rw [es.out] at t0 t1 t2 t3 t4 t5
    clear H2
    go_upto_region 5 with (fail)
    rw [← hw3, ← htb]
    clear hw3 htb t0 t1 t2 t3 t4 t5
    obtain ⟨bad, hbad⟩ : ∃ b, b = (!decide ((s.s j).level = 1) && !s1.holds (s.s j)) := ⟨_, rfl⟩
    rw [← hbad] at HE
    have HBAD := Lib.hid hbad
    clear hbad
    have X3 := (H3.out.own _ List.mem_cons_self).1
    have x0 := X3.cell 0
    have x1 := X3.cell 1
    have x2 := X3.cell 2
    have x3 := X3.cell 3
    have x4 := X3.cell 4
    have x5 := X3.cell 5
    simp only [List.getElem?_toArray, List.getElem?_cons_zero, List.getElem?_cons_succ] at x0 x1 x2 x3 x4 x5
    clear X3
    go_cut [42] (fun s42 wx => s42 = .bool bad ∧ Hid (RcI B w P0 m [⟨tb_, 62, #[.int .i64 (s.s j).id, .int .i64 (s.s j).level, .int .i64 (s.s j).ops, .int .u64 (s.s j).beg, .slice (A.wa j) (s.s j).wrote.length (A.wc j), .slice (A.ra j) (s.s j).reads.length (A.rc j)]⟩, ⟨n0, 27, #[.int .i64 0, .int .i64 0, .slice none 0 0, .int .i64 0, .int .i64 0]⟩] s1 P0 A wx))
    case first =>
      by_cases h1 : (s.s j).level = 1
      · have hb : Hid (bad = false) := Lib.hid (by rw [HBAD.out]; simp [h1])
        have h1b : ((s.s j).level != 1) = false := by simpa using h1
        clear h1
        go_wp2_with fail
        go_meet
        case rel => exact ⟨by rw [hb.out], H3⟩
      · have h1b : ((s.s j).level != 1) = true := by simpa using h1
        have hb : Hid (bad = !s1.holds (s.s j)) := Lib.hid (by rw [HBAD.out]; simp [h1])
        have hrd := H3.out.mod.readsAt hj
        have hfew := (H3.out.mod.few12 j).2
        have hsp := H3.out.mod.ok.span j
        rw [es.out] at hrd hfew hsp
        have C := ref_holds H3.out.mod (s.s j) (A.wa j) (s.s j).wrote.length (A.wc j) (A.ra j) (A.rc j) (by omega) hrd hsp
        obtain ⟨hs, hhs⟩ : ∃ b, b = s1.holds (s.s j) := ⟨_, rfl⟩
        rw [← hhs] at C hb
        clear hhs h1 hrd hfew hsp
        go_wp2_with fail
        refine C.mono ?_
        rintro e w4 ⟨rfl, o4⟩
        have H4 := Lib.hid (H3.out.only0 o4)
        clear C o4
        go_wp2_with fail
        go_meet
        case rel => exact ⟨by rw [hb.out], H4⟩
    case rest =>
      obtain ⟨rfl, H4⟩ := hcut
      clear H3 x0 x1 x2 x3 x4 x5
      cases bad with
      | true =>
        go_wp2_with fail
        refine (ref_over ⟨_, H4.out.mod⟩ j hj 14 3).mono ?_
        rintro e w8 ⟨P8, rfl, ⟨A8, M8⟩, o8, g8⟩
        have H8 := Lib.hid (H4.out.step M8 o8 g8)
        clear M8 o8 g8 H4
        have X8 := (H8.out.own _ (List.mem_cons_of_mem _ List.mem_cons_self)).1
        have HX8 := Lib.hid X8
        have b0 := X8.cell 0
        have b1 := X8.cell 1
        have b2 := X8.cell 2
        have b3 := X8.cell 3
        have b4 := X8.cell 4
        have bf := fun i => X8.free i
        clear X8
        go_wp2_with fail
        obtain ⟨B9, o9⟩ := set5 HX8.out (.int .i64 14) (.int .i64 0) (.slice none 0 0) (.int .i64 4) (.int .i64 3)
        refine bodyPost_ret (v := .agg #[.int .i64 14, .int .i64 0, .slice none 0 0, .int .i64 4, .int .i64 3]) (results_cell_row Try.results58 _ _ n0 _ _ _ _ rfl B9 Try.underlying27 rfl info_res) rfl ?_
        rw [HE.out]
        exact H8.out.done (List.mem_cons_of_mem _ List.mem_cons_self) o9
      | false =>
        have HE2 : Hid (s.commit j = (⟨0, 0, [], 3, 0⟩, s1.done j)) := HE.out
        clear HE HBAD
        obtain ⟨id, hid⟩ : ∃ id, id = (s.s j).id := ⟨_, rfl⟩
        obtain ⟨nw, hnw⟩ : ∃ nw, nw = s1.time := ⟨_, rfl⟩
        have HID := Lib.hid hid
        have HNW := Lib.hid hnw
        have R0 : Hid (RcI B w P0 m [⟨tb_, 62, #[.int .i64 (s.s j).id, .int .i64 (s.s j).level, .int .i64 (s.s j).ops, .int .u64 (s.s j).beg, .slice (A.wa j) (s.s j).wrote.length (A.wc j), .slice (A.ra j) (s.s j).reads.length (A.rc j)]⟩, ⟨n0, 27, #[.int .i64 0, .int .i64 0, .slice none 0 0, .int .i64 0, .int .i64 0]⟩] { s1 with v := rUpto (rDoneV id nw) s1.v 0 } P0 A wc) := by rw [rUpto_zero]; exact H4.out
        have hlen : s1.v.length ≤ 256 := by have := H4.out.mod.ok.few; have := H4.out.mod.ok.slots; omega
        clear H4 hid hnw tb lb hl hl2 el et
        go_wp2_with fail
        go_loopw [6, 7] (fun s6 s7 wr => ∃ (k : Nat) (v7 : Value), s7 = v7 ∧ k ≤ s1.v.length ∧ s6 = .int .i64 k ∧ Hid (RcI B w P0 m [⟨tb_, 62, #[.int .i64 (s.s j).id, .int .i64 (s.s j).level, .int .i64 (s.s j).ops, .int .u64 (s.s j).beg, .slice (A.wa j) (s.s j).wrote.length (A.wc j), .slice (A.ra j) (s.s j).reads.length (A.rc j)]⟩, ⟨n0, 27, #[.int .i64 0, .int .i64 0, .slice none 0 0, .int .i64 0, .int .i64 0]⟩] { s1 with v := rUpto (rDoneV id nw) s1.v k } P0 A wr)) (fun s6 _ _ => s1.v.length - (intOf s6).toNat)
        case atStart => exact ⟨0, _, rfl, Nat.zero_le _, rfl, R0⟩
        case round =>
          obtain ⟨k, v7, rfl, hk, rfl, HR⟩ := hrel
          clear R0
          have c2 : wr.cell? ⟨m, 2, none⟩ = some (.slice A.va s1.v.length A.vc) := by have := HR.out.mod.head.2.2.1; rw [rUpto_len] at this; exact this
          by_cases hlt : k < s1.v.length
          · obtain ⟨g, hg⟩ : ∃ g, A.va = some ⟨g, 0, none⟩ := by
              rcases HR.out.mod.rowAt with ⟨_, e, _⟩ | ⟨g, hg, _, _⟩
              · rw [rUpto_len] at e; omega
              · exact ⟨g, hg⟩
            have hk' : k < (rUpto (rDoneV id nw) s1.v k).length := by rw [rUpto_len]; exact hlt
            have US := Lib.hid (rUpto_set (rDoneV id nw) s1.v k hlt)
            have hgd := rUpto_get (rDoneV id nw) s1.v k hlt
            obtain ⟨v, hv⟩ : ∃ v, s1.v.getD k default = v := ⟨_, rfl⟩
            rw [hv] at hgd US
            obtain ⟨kk, vv, by_, en, bg, fn, dd⟩ := v
            have HGD := Lib.hid hgd
            obtain ⟨hc, hf⟩ := HR.out.mod.verCells hg hk'
            rw [hgd] at hc
            have q2 : wr.cell? ⟨g, k * 7 + 2, none⟩ = some (.int .i64 by_) := hc 2 (by omega)
            have HX := Lib.hid (HR.out.only0 (Only0.refl wr).drew)
            have x0 : wr.cell? ⟨tb_, 0, none⟩ = some (.int .i64 id) := by rw [HID.out]; exact (HR.out.own _ List.mem_cons_self).1.cell 0
            have HG := Lib.hid hg
            have HK' := Lib.hid hk'
            rw [hg] at c2
            clear hc hf hgd hv HR hk' hg
            go_wp2_with fail
            refine wp_region_held_drew (S := (fun w' => w'.cell? ⟨g, k * 7 + 2, none⟩ = some (.int .i64 by_) ∧ w'.cell? ⟨tb_, 0, none⟩ = some (.int .i64 id))) (by kernel_rfl) ?_ (fun hHeld => ?_)
            · exact ⟨q2, x0⟩
            refine wpAnyH_take (i := 0) (v := ?_) rfl (by kernel_rfl) (by kernel_rfl) (by kernel_rfl) (fun _ _ _ h => h) (Or.inl ⟨by rfl, ?_⟩) (by assumption) ?_; rotate_left; (focus (intro w hSw; (try dsimp only at hSw); go_simp; try with_reducible rfl))
            try simp only [Act.put, List.getElem_toArray, List.getElem_cons_zero, List.getElem_cons_succ, List.setIfInBounds_toArray, List.set_cons_zero, List.set_cons_succ]
            refine wpAnyH_take (i := 1) (v := ?_) rfl (by kernel_rfl) (by kernel_rfl) (by kernel_rfl) (fun _ _ _ h => h) (Or.inl ⟨by rfl, ?_⟩) (by assumption) ?_; rotate_left; (focus (intro w hSw; (try dsimp only at hSw); go_simp; try with_reducible rfl))
            try simp only [Act.put, List.getElem_toArray, List.getElem_cons_zero, List.getElem_cons_succ, List.setIfInBounds_toArray, List.set_cons_zero, List.set_cons_succ]
            refine wpAnyH_take (i := 2) (v := ?_) rfl (by kernel_rfl) (by kernel_rfl) (by kernel_rfl) (fun _ _ _ h => h) (Or.inl ⟨by rfl, ?_⟩) (by assumption) ?_; rotate_left; (focus (intro w hSw; (try dsimp only at hSw); go_simp; try with_reducible rfl))
            try simp only [Act.put, List.getElem_toArray, List.getElem_cons_zero, List.getElem_cons_succ, List.setIfInBounds_toArray, List.set_cons_zero, List.set_cons_succ]
            refine wpAnyH_take (i := 3) (v := ?_) rfl (by kernel_rfl) (by kernel_rfl) (by kernel_rfl) (fun _ _ _ h => h) (Or.inl ⟨by rfl, ?_⟩) (by assumption) ?_; rotate_left; (focus (intro w hSw; (try dsimp only at hSw); go_simp; try with_reducible rfl))
            try simp only [Act.put, List.getElem_toArray, List.getElem_cons_zero, List.getElem_cons_succ, List.setIfInBounds_toArray, List.set_cons_zero, List.set_cons_succ]
            refine wpAnyH_take (i := 4) (v := ?_) rfl (by kernel_rfl) (by kernel_rfl) (by kernel_rfl) (fun _ _ _ h => h) (Or.inl ⟨by rfl, ?_⟩) (by assumption) ?_; rotate_left; (focus (intro w hSw; (try dsimp only at hSw); go_simp; try with_reducible rfl))
            try simp only [Act.put, List.getElem_toArray, List.getElem_cons_zero, List.getElem_cons_succ, List.setIfInBounds_toArray, List.set_cons_zero, List.set_cons_succ]
            refine wpAnyH_take (i := 5) (v := ?_) rfl (by kernel_rfl) (by kernel_rfl) (by kernel_rfl) (fun _ _ _ h => h) (Or.inl ⟨by rfl, ?_⟩) (by assumption) ?_; rotate_left; (focus (intro w hSw; (try dsimp only at hSw); go_simp; try with_reducible rfl))
            try simp only [Act.put, List.getElem_toArray, List.getElem_cons_zero, List.getElem_cons_succ, List.setIfInBounds_toArray, List.set_cons_zero, List.set_cons_succ]
            refine wpAnyH_take (i := 6) (v := ?_) rfl (by kernel_rfl) (by kernel_rfl) (by kernel_rfl) (fun _ _ _ h => h) (Or.inl ⟨by rfl, ?_⟩) (by assumption) ?_; rotate_left; (focus (intro w hSw; (try dsimp only at hSw); go_simp; try with_reducible rfl))
            try simp only [Act.put, List.getElem_toArray, List.getElem_cons_zero, List.getElem_cons_succ, List.setIfInBounds_toArray, List.set_cons_zero, List.set_cons_succ]
            refine wpAnyH_done (by kernel_rfl) ?_ _
            clear q2 x0 c2
            generalize wr.drew = wx at *
            obtain ⟨hc, hf⟩ := HX.out.mod.verCells HG.out HK'.out
            rw [HGD.out] at hc
            have q2 : wx.cell? ⟨g, k * 7 + 2, none⟩ = some (.int .i64 by_) := hc 2 (by omega)
            have q3 : wx.cell? ⟨g, k * 7 + 3, none⟩ = some (.int .i64 en) := hc 3 (by omega)
            have m51 : wx.cell? ⟨m, 51, none⟩ = some (.int .u64 nw) := by rw [HNW.out]; exact HX.out.mod.head.2.2.2.1
            obtain ⟨M1, o1⟩ := HX.out.mod.setVer HG.out HK'.out (f := 2) (by decide) (v' := ⟨kk, vv, 0, en, bg, fn, dd⟩) (u := .int .i64 0) (by rw [HGD.out]; rfl)
            obtain ⟨hc1, hf1⟩ := M1.verCells HG.out (k := k) (by simpa using HK'.out)
            rw [show ({ s1 with v := (rUpto (rDoneV id nw) s1.v k).set k ⟨kk, vv, 0, en, bg, fn, dd⟩ } : RSt).v.getD k default = ⟨kk, vv, 0, en, bg, fn, dd⟩ from getD_set_same _ _ _ HK'.out] at hc1
            have r4 : (wx.setCell ⟨g, k * 7 + 2, none⟩ (.int .i64 0)).cell? ⟨g, k * 7 + 4, none⟩ = some (.int .u64 bg) := hc1 4 (by omega)
            obtain ⟨M2, o2⟩ := HX.out.mod.setVer2 HG.out HK'.out (f := 2) (f2 := 4) (by decide) (by decide) ⟨kk, vv, 0, en, bg, fn, dd⟩ ⟨kk, vv, 0, en, nw, fn, dd⟩ (.int .i64 0) (.int .u64 nw) (by rw [HGD.out]; rfl) rfl
            have HY := Lib.hid (HX.out.step M2 o2 (Grew.refl _ _))
            have HX' : Hid (RcI B w P0 m [⟨tb_, 62, #[.int .i64 (s.s j).id, .int .i64 (s.s j).level, .int .i64 (s.s j).ops, .int .u64 (s.s j).beg, .slice (A.wa j) (s.s j).wrote.length (A.wc j), .slice (A.ra j) (s.s j).reads.length (A.rc j)]⟩, ⟨n0, 27, #[.int .i64 0, .int .i64 0, .slice none 0 0, .int .i64 0, .int .i64 0]⟩] { s1 with v := (rUpto (rDoneV id nw) s1.v k).set k ⟨kk, vv, by_, en, bg, fn, dd⟩ } P0 A wx) := by
              rw [← HGD.out, set_get_same]; exact HX.out
            clear M1 o1 M2 o2 hc hc1 HX
            by_cases h1 : by_ = id
            · have h1b : (by_ == id) = true := by simpa using h1
              have NX : Hid (∃ b1 g1, (b1 = (if by_ = id then 0 else by_) ∧ g1 = (if by_ = id then nw else bg)) ∧ RcI B w P0 m [⟨tb_, 62, #[.int .i64 (s.s j).id, .int .i64 (s.s j).level, .int .i64 (s.s j).ops, .int .u64 (s.s j).beg, .slice (A.wa j) (s.s j).wrote.length (A.wc j), .slice (A.ra j) (s.s j).reads.length (A.rc j)]⟩, ⟨n0, 27, #[.int .i64 0, .int .i64 0, .slice none 0 0, .int .i64 0, .int .i64 0]⟩] { s1 with v := (rUpto (rDoneV id nw) s1.v k).set k ⟨kk, vv, b1, en, g1, fn, dd⟩ } P0 A ((wx.setCell ⟨g, k * 7 + 2, none⟩ (.int .i64 0)).setCell ⟨g, k * 7 + 4, none⟩ (.int .u64 nw))) := ⟨0, nw, by simp [h1], HY.out⟩
              clear HX' HY h1
              go_upto_region 13 with (fail)
              clear q2 q3 m51 r4 h1b hf hf1
              generalize (wx.setCell ⟨g, k * 7 + 2, none⟩ (.int .i64 0)).setCell ⟨g, k * 7 + 4, none⟩ (.int .u64 nw) = wy at *
              obtain ⟨b1, g1, hbg, HY2⟩ := NX.out
              have HBG := Lib.hid hbg
              have HYY := Lib.hid HY2
              have hky : k < ((rUpto (rDoneV id nw) s1.v k).set k (⟨kk, vv, b1, en, g1, fn, dd⟩ : RVer)).length := by simpa using HK'.out
              have HGY : Hid (((rUpto (rDoneV id nw) s1.v k).set k (⟨kk, vv, b1, en, g1, fn, dd⟩ : RVer)).getD k default = ⟨kk, vv, b1, en, g1, fn, dd⟩) := getD_set_same _ _ _ HK'.out
              have HKY := Lib.hid hky
              obtain ⟨hc, hf⟩ := HY2.mod.verCells HG.out hky
              rw [HGY.out] at hc
              have q3 : wy.cell? ⟨g, k * 7 + 3, none⟩ = some (.int .i64 en) := hc 3 (by omega)
              have x0 : wy.cell? ⟨tb_, 0, none⟩ = some (.int .i64 id) := by rw [HID.out]; exact (HY2.own _ List.mem_cons_self).1.cell 0
              have HZ := Lib.hid (HY2.only0 (Only0.refl wy).drew)
              clear hbg HY2 NX HYY hc hf hky
              refine wp_region_held_drew (S := (fun w' => w'.cell? ⟨g, k * 7 + 3, none⟩ = some (.int .i64 en) ∧ w'.cell? ⟨tb_, 0, none⟩ = some (.int .i64 id))) (by kernel_rfl) ?_ (fun hHeld => ?_)
              · exact ⟨q3, x0⟩
              refine wpAnyH_take (i := 0) (v := ?_) rfl (by kernel_rfl) (by kernel_rfl) (by kernel_rfl) (fun _ _ _ h => h) (Or.inl ⟨by rfl, ?_⟩) (by assumption) ?_; rotate_left; (focus (intro w hSw; (try dsimp only at hSw); go_simp; try with_reducible rfl))
              try simp only [Act.put, List.getElem_toArray, List.getElem_cons_zero, List.getElem_cons_succ, List.setIfInBounds_toArray, List.set_cons_zero, List.set_cons_succ]
              refine wpAnyH_take (i := 1) (v := ?_) rfl (by kernel_rfl) (by kernel_rfl) (by kernel_rfl) (fun _ _ _ h => h) (Or.inl ⟨by rfl, ?_⟩) (by assumption) ?_; rotate_left; (focus (intro w hSw; (try dsimp only at hSw); go_simp; try with_reducible rfl))
              try simp only [Act.put, List.getElem_toArray, List.getElem_cons_zero, List.getElem_cons_succ, List.setIfInBounds_toArray, List.set_cons_zero, List.set_cons_succ]
              refine wpAnyH_take (i := 2) (v := ?_) rfl (by kernel_rfl) (by kernel_rfl) (by kernel_rfl) (fun _ _ _ h => h) (Or.inl ⟨by rfl, ?_⟩) (by assumption) ?_; rotate_left; (focus (intro w hSw; (try dsimp only at hSw); go_simp; try with_reducible rfl))
              try simp only [Act.put, List.getElem_toArray, List.getElem_cons_zero, List.getElem_cons_succ, List.setIfInBounds_toArray, List.set_cons_zero, List.set_cons_succ]
              refine wpAnyH_take (i := 3) (v := ?_) rfl (by kernel_rfl) (by kernel_rfl) (by kernel_rfl) (fun _ _ _ h => h) (Or.inl ⟨by rfl, ?_⟩) (by assumption) ?_; rotate_left; (focus (intro w hSw; (try dsimp only at hSw); go_simp; try with_reducible rfl))
              try simp only [Act.put, List.getElem_toArray, List.getElem_cons_zero, List.getElem_cons_succ, List.setIfInBounds_toArray, List.set_cons_zero, List.set_cons_succ]
              refine wpAnyH_take (i := 4) (v := ?_) rfl (by kernel_rfl) (by kernel_rfl) (by kernel_rfl) (fun _ _ _ h => h) (Or.inl ⟨by rfl, ?_⟩) (by assumption) ?_; rotate_left; (focus (intro w hSw; (try dsimp only at hSw); go_simp; try with_reducible rfl))
              try simp only [Act.put, List.getElem_toArray, List.getElem_cons_zero, List.getElem_cons_succ, List.setIfInBounds_toArray, List.set_cons_zero, List.set_cons_succ]
              refine wpAnyH_take (i := 5) (v := ?_) rfl (by kernel_rfl) (by kernel_rfl) (by kernel_rfl) (fun _ _ _ h => h) (Or.inl ⟨by rfl, ?_⟩) (by assumption) ?_; rotate_left; (focus (intro w hSw; (try dsimp only at hSw); go_simp; try with_reducible rfl))
              try simp only [Act.put, List.getElem_toArray, List.getElem_cons_zero, List.getElem_cons_succ, List.setIfInBounds_toArray, List.set_cons_zero, List.set_cons_succ]
              refine wpAnyH_take (i := 6) (v := ?_) rfl (by kernel_rfl) (by kernel_rfl) (by kernel_rfl) (fun _ _ _ h => h) (Or.inl ⟨by rfl, ?_⟩) (by assumption) ?_; rotate_left; (focus (intro w hSw; (try dsimp only at hSw); go_simp; try with_reducible rfl))
              try simp only [Act.put, List.getElem_toArray, List.getElem_cons_zero, List.getElem_cons_succ, List.setIfInBounds_toArray, List.set_cons_zero, List.set_cons_succ]
              refine wpAnyH_done (by kernel_rfl) ?_ _
              clear q3 x0
              generalize wy.drew = wz at *
              obtain ⟨hc, hf⟩ := HZ.out.mod.verCells HG.out HKY.out
              rw [HGY.out] at hc
              have q3 : wz.cell? ⟨g, k * 7 + 3, none⟩ = some (.int .i64 en) := hc 3 (by omega)
              have m51 : wz.cell? ⟨m, 51, none⟩ = some (.int .u64 nw) := by rw [HNW.out]; exact HZ.out.mod.head.2.2.2.1
              obtain ⟨M1, o1⟩ := HZ.out.mod.setVer HG.out HKY.out (f := 3) (by decide) (v' := ⟨kk, vv, b1, 0, g1, fn, dd⟩) (u := .int .i64 0) (by rw [HGY.out]; rfl)
              obtain ⟨hc1, hf1⟩ := M1.verCells HG.out (k := k) (by simpa using HK'.out)
              rw [show ({ s1 with v := ((rUpto (rDoneV id nw) s1.v k).set k ⟨kk, vv, b1, en, g1, fn, dd⟩).set k ⟨kk, vv, b1, 0, g1, fn, dd⟩ } : RSt).v.getD k default = ⟨kk, vv, b1, 0, g1, fn, dd⟩ from getD_set_same _ _ _ HKY.out] at hc1
              have r5 : (wz.setCell ⟨g, k * 7 + 3, none⟩ (.int .i64 0)).cell? ⟨g, k * 7 + 5, none⟩ = some (.int .u64 fn) := hc1 5 (by omega)
              obtain ⟨M2, o2⟩ := HZ.out.mod.setVer2 HG.out HKY.out (f := 3) (f2 := 5) (by decide) (by decide) ⟨kk, vv, b1, 0, g1, fn, dd⟩ ⟨kk, vv, b1, 0, g1, nw, dd⟩ (.int .i64 0) (.int .u64 nw) (by rw [HGY.out]; rfl) rfl
              have M2' := HZ.out.step M2 o2 (Grew.refl _ _)
              simp only [set_set_same] at M2'
              have HM2 := Lib.hid M2'
              clear M1 o1 M2 o2 M2' hc hc1
              by_cases h2 : en = id
              · have h2b : (en == id) = true := by simpa using h2
                have NX : Hid (RcI B w P0 m [⟨tb_, 62, #[.int .i64 (s.s j).id, .int .i64 (s.s j).level, .int .i64 (s.s j).ops, .int .u64 (s.s j).beg, .slice (A.wa j) (s.s j).wrote.length (A.wc j), .slice (A.ra j) (s.s j).reads.length (A.rc j)]⟩, ⟨n0, 27, #[.int .i64 0, .int .i64 0, .slice none 0 0, .int .i64 0, .int .i64 0]⟩] { s1 with v := rUpto (rDoneV id nw) s1.v (k + 1) } P0 A ((wz.setCell ⟨g, k * 7 + 3, none⟩ (.int .i64 0)).setCell ⟨g, k * 7 + 5, none⟩ (.int .u64 nw))) := by
                  rw [← US.out, rDoneV_cases, ← HBG.out.1, ← HBG.out.2, if_pos h2, if_pos h2]; exact HM2.out
                clear HM2 HZ h2 HBG HGD HGY US HG HKY HK'
                go_wp2_with fail
                go_roundw
                case rel => exact ⟨k + 1, _, rfl, by omega, by go_num, NX⟩
                case measure => simp [intOf]; omega
              · have h2b : (en == id) = false := by simpa using h2
                have NX : Hid (RcI B w P0 m [⟨tb_, 62, #[.int .i64 (s.s j).id, .int .i64 (s.s j).level, .int .i64 (s.s j).ops, .int .u64 (s.s j).beg, .slice (A.wa j) (s.s j).wrote.length (A.wc j), .slice (A.ra j) (s.s j).reads.length (A.rc j)]⟩, ⟨n0, 27, #[.int .i64 0, .int .i64 0, .slice none 0 0, .int .i64 0, .int .i64 0]⟩] { s1 with v := rUpto (rDoneV id nw) s1.v (k + 1) } P0 A wz) := by
                  rw [← US.out, rDoneV_cases, ← HBG.out.1, ← HBG.out.2, if_neg h2, if_neg h2]; exact HZ.out
                clear HM2 HZ h2 HBG HGD HGY US HG HKY HK'
                go_wp2_with fail
                go_roundw
                case rel => exact ⟨k + 1, _, rfl, by omega, by go_num, NX⟩
                case measure => simp [intOf]; omega
            · have h1b : (by_ == id) = false := by simpa using h1
              have NX : Hid (∃ b1 g1, (b1 = (if by_ = id then 0 else by_) ∧ g1 = (if by_ = id then nw else bg)) ∧ RcI B w P0 m [⟨tb_, 62, #[.int .i64 (s.s j).id, .int .i64 (s.s j).level, .int .i64 (s.s j).ops, .int .u64 (s.s j).beg, .slice (A.wa j) (s.s j).wrote.length (A.wc j), .slice (A.ra j) (s.s j).reads.length (A.rc j)]⟩, ⟨n0, 27, #[.int .i64 0, .int .i64 0, .slice none 0 0, .int .i64 0, .int .i64 0]⟩] { s1 with v := (rUpto (rDoneV id nw) s1.v k).set k ⟨kk, vv, b1, en, g1, fn, dd⟩ } P0 A wx) := ⟨by_, bg, by simp [h1], HX'.out⟩
              clear HX' HY h1
              go_upto_region 13 with (fail)
              clear q2 q3 m51 r4 h1b hf hf1
              generalize wx = wy at *
              obtain ⟨b1, g1, hbg, HY2⟩ := NX.out
              have HBG := Lib.hid hbg
              have HYY := Lib.hid HY2
              have hky : k < ((rUpto (rDoneV id nw) s1.v k).set k (⟨kk, vv, b1, en, g1, fn, dd⟩ : RVer)).length := by simpa using HK'.out
              have HGY : Hid (((rUpto (rDoneV id nw) s1.v k).set k (⟨kk, vv, b1, en, g1, fn, dd⟩ : RVer)).getD k default = ⟨kk, vv, b1, en, g1, fn, dd⟩) := getD_set_same _ _ _ HK'.out
              have HKY := Lib.hid hky
              obtain ⟨hc, hf⟩ := HY2.mod.verCells HG.out hky
              rw [HGY.out] at hc
              have q3 : wy.cell? ⟨g, k * 7 + 3, none⟩ = some (.int .i64 en) := hc 3 (by omega)
              have x0 : wy.cell? ⟨tb_, 0, none⟩ = some (.int .i64 id) := by rw [HID.out]; exact (HY2.own _ List.mem_cons_self).1.cell 0
              have HZ := Lib.hid (HY2.only0 (Only0.refl wy).drew)
              clear hbg HY2 NX HYY hc hf hky
              refine wp_region_held_drew (S := (fun w' => w'.cell? ⟨g, k * 7 + 3, none⟩ = some (.int .i64 en) ∧ w'.cell? ⟨tb_, 0, none⟩ = some (.int .i64 id))) (by kernel_rfl) ?_ (fun hHeld => ?_)
              · exact ⟨q3, x0⟩
              refine wpAnyH_take (i := 0) (v := ?_) rfl (by kernel_rfl) (by kernel_rfl) (by kernel_rfl) (fun _ _ _ h => h) (Or.inl ⟨by rfl, ?_⟩) (by assumption) ?_; rotate_left; (focus (intro w hSw; (try dsimp only at hSw); go_simp; try with_reducible rfl))
              try simp only [Act.put, List.getElem_toArray, List.getElem_cons_zero, List.getElem_cons_succ, List.setIfInBounds_toArray, List.set_cons_zero, List.set_cons_succ]
              refine wpAnyH_take (i := 1) (v := ?_) rfl (by kernel_rfl) (by kernel_rfl) (by kernel_rfl) (fun _ _ _ h => h) (Or.inl ⟨by rfl, ?_⟩) (by assumption) ?_; rotate_left; (focus (intro w hSw; (try dsimp only at hSw); go_simp; try with_reducible rfl))
              try simp only [Act.put, List.getElem_toArray, List.getElem_cons_zero, List.getElem_cons_succ, List.setIfInBounds_toArray, List.set_cons_zero, List.set_cons_succ]
              refine wpAnyH_take (i := 2) (v := ?_) rfl (by kernel_rfl) (by kernel_rfl) (by kernel_rfl) (fun _ _ _ h => h) (Or.inl ⟨by rfl, ?_⟩) (by assumption) ?_; rotate_left; (focus (intro w hSw; (try dsimp only at hSw); go_simp; try with_reducible rfl))
              try simp only [Act.put, List.getElem_toArray, List.getElem_cons_zero, List.getElem_cons_succ, List.setIfInBounds_toArray, List.set_cons_zero, List.set_cons_succ]
              refine wpAnyH_take (i := 3) (v := ?_) rfl (by kernel_rfl) (by kernel_rfl) (by kernel_rfl) (fun _ _ _ h => h) (Or.inl ⟨by rfl, ?_⟩) (by assumption) ?_; rotate_left; (focus (intro w hSw; (try dsimp only at hSw); go_simp; try with_reducible rfl))
              try simp only [Act.put, List.getElem_toArray, List.getElem_cons_zero, List.getElem_cons_succ, List.setIfInBounds_toArray, List.set_cons_zero, List.set_cons_succ]
              refine wpAnyH_take (i := 4) (v := ?_) rfl (by kernel_rfl) (by kernel_rfl) (by kernel_rfl) (fun _ _ _ h => h) (Or.inl ⟨by rfl, ?_⟩) (by assumption) ?_; rotate_left; (focus (intro w hSw; (try dsimp only at hSw); go_simp; try with_reducible rfl))
              try simp only [Act.put, List.getElem_toArray, List.getElem_cons_zero, List.getElem_cons_succ, List.setIfInBounds_toArray, List.set_cons_zero, List.set_cons_succ]
              refine wpAnyH_take (i := 5) (v := ?_) rfl (by kernel_rfl) (by kernel_rfl) (by kernel_rfl) (fun _ _ _ h => h) (Or.inl ⟨by rfl, ?_⟩) (by assumption) ?_; rotate_left; (focus (intro w hSw; (try dsimp only at hSw); go_simp; try with_reducible rfl))
              try simp only [Act.put, List.getElem_toArray, List.getElem_cons_zero, List.getElem_cons_succ, List.setIfInBounds_toArray, List.set_cons_zero, List.set_cons_succ]
              refine wpAnyH_take (i := 6) (v := ?_) rfl (by kernel_rfl) (by kernel_rfl) (by kernel_rfl) (fun _ _ _ h => h) (Or.inl ⟨by rfl, ?_⟩) (by assumption) ?_; rotate_left; (focus (intro w hSw; (try dsimp only at hSw); go_simp; try with_reducible rfl))
              try simp only [Act.put, List.getElem_toArray, List.getElem_cons_zero, List.getElem_cons_succ, List.setIfInBounds_toArray, List.set_cons_zero, List.set_cons_succ]
              refine wpAnyH_done (by kernel_rfl) ?_ _
              clear q3 x0
              generalize wy.drew = wz at *
              obtain ⟨hc, hf⟩ := HZ.out.mod.verCells HG.out HKY.out
              rw [HGY.out] at hc
              have q3 : wz.cell? ⟨g, k * 7 + 3, none⟩ = some (.int .i64 en) := hc 3 (by omega)
              have m51 : wz.cell? ⟨m, 51, none⟩ = some (.int .u64 nw) := by rw [HNW.out]; exact HZ.out.mod.head.2.2.2.1
              obtain ⟨M1, o1⟩ := HZ.out.mod.setVer HG.out HKY.out (f := 3) (by decide) (v' := ⟨kk, vv, b1, 0, g1, fn, dd⟩) (u := .int .i64 0) (by rw [HGY.out]; rfl)
              obtain ⟨hc1, hf1⟩ := M1.verCells HG.out (k := k) (by simpa using HK'.out)
              rw [show ({ s1 with v := ((rUpto (rDoneV id nw) s1.v k).set k ⟨kk, vv, b1, en, g1, fn, dd⟩).set k ⟨kk, vv, b1, 0, g1, fn, dd⟩ } : RSt).v.getD k default = ⟨kk, vv, b1, 0, g1, fn, dd⟩ from getD_set_same _ _ _ HKY.out] at hc1
              have r5 : (wz.setCell ⟨g, k * 7 + 3, none⟩ (.int .i64 0)).cell? ⟨g, k * 7 + 5, none⟩ = some (.int .u64 fn) := hc1 5 (by omega)
              obtain ⟨M2, o2⟩ := HZ.out.mod.setVer2 HG.out HKY.out (f := 3) (f2 := 5) (by decide) (by decide) ⟨kk, vv, b1, 0, g1, fn, dd⟩ ⟨kk, vv, b1, 0, g1, nw, dd⟩ (.int .i64 0) (.int .u64 nw) (by rw [HGY.out]; rfl) rfl
              have M2' := HZ.out.step M2 o2 (Grew.refl _ _)
              simp only [set_set_same] at M2'
              have HM2 := Lib.hid M2'
              clear M1 o1 M2 o2 M2' hc hc1
              by_cases h2 : en = id
              · have h2b : (en == id) = true := by simpa using h2
                have NX : Hid (RcI B w P0 m [⟨tb_, 62, #[.int .i64 (s.s j).id, .int .i64 (s.s j).level, .int .i64 (s.s j).ops, .int .u64 (s.s j).beg, .slice (A.wa j) (s.s j).wrote.length (A.wc j), .slice (A.ra j) (s.s j).reads.length (A.rc j)]⟩, ⟨n0, 27, #[.int .i64 0, .int .i64 0, .slice none 0 0, .int .i64 0, .int .i64 0]⟩] { s1 with v := rUpto (rDoneV id nw) s1.v (k + 1) } P0 A ((wz.setCell ⟨g, k * 7 + 3, none⟩ (.int .i64 0)).setCell ⟨g, k * 7 + 5, none⟩ (.int .u64 nw))) := by
                  rw [← US.out, rDoneV_cases, ← HBG.out.1, ← HBG.out.2, if_pos h2, if_pos h2]; exact HM2.out
                clear HM2 HZ h2 HBG HGD HGY US HG HKY HK'
                go_wp2_with fail
                go_roundw
                case rel => exact ⟨k + 1, _, rfl, by omega, by go_num, NX⟩
                case measure => simp [intOf]; omega
              · have h2b : (en == id) = false := by simpa using h2
                have NX : Hid (RcI B w P0 m [⟨tb_, 62, #[.int .i64 (s.s j).id, .int .i64 (s.s j).level, .int .i64 (s.s j).ops, .int .u64 (s.s j).beg, .slice (A.wa j) (s.s j).wrote.length (A.wc j), .slice (A.ra j) (s.s j).reads.length (A.rc j)]⟩, ⟨n0, 27, #[.int .i64 0, .int .i64 0, .slice none 0 0, .int .i64 0, .int .i64 0]⟩] { s1 with v := rUpto (rDoneV id nw) s1.v (k + 1) } P0 A wz) := by
                  rw [← US.out, rDoneV_cases, ← HBG.out.1, ← HBG.out.2, if_neg h2, if_neg h2]; exact HZ.out
                clear HM2 HZ h2 HBG HGD HGY US HG HKY HK'
                go_wp2_with fail
                go_roundw
                case rel => exact ⟨k + 1, _, rfl, by omega, by go_num, NX⟩
                case measure => simp [intOf]; omega
          · obtain rfl : k = s1.v.length := by omega
            have H9 := HR.out
            rw [rUpto_all] at H9
            obtain ⟨A', MA, OA⟩ := H9.mod.empty hj
            have HA := H9.step MA OA (Grew.refl _ _)
            obtain ⟨t0, t1, t2, t3, t4, t5⟩ := H9.mod.txCells hj
            have tf := fun i => H9.mod.free i
            obtain ⟨W8, hW8⟩ : ∃ W8, W8 = ((((((wr.setCell ⟨m, 3 + j * 6, none⟩ (.int .i64 0)).setCell ⟨m, 3 + j * 6 + 1, none⟩ (.int .i64 0)).setCell ⟨m, 3 + j * 6 + 2, none⟩ (.int .i64 0)).setCell ⟨m, 3 + j * 6 + 3, none⟩ (.int .u64 0)).setCell ⟨m, 3 + j * 6 + 4, none⟩ (.slice none 0 0)).setCell ⟨m, 3 + j * 6 + 5, none⟩ (.slice none 0 0)) := ⟨_, rfl⟩
            rw [← hW8] at HA
            rw [show ({ s1 with v := s1.v.map (rDoneV id nw) } : RSt).setS j RTx.zero = s1.done j by unfold RSt.done RSt.setS; rw [HID.out, HNW.out, es.out]] at HA
            have HA8 := Lib.hid HA
            have X8 := (HA.own _ (List.mem_cons_of_mem _ List.mem_cons_self)).1
            have HX8 := Lib.hid X8
            have b0 := X8.cell 0
            have b1 := X8.cell 1
            have b2 := X8.cell 2
            have b3 := X8.cell 3
            have b4 := X8.cell 4
            have bf := fun i => X8.free i
            clear H9 MA OA HA X8 HR
            go_upto_region 16 with (fail)
            rw [← hW8]
            clear hW8 t0 t1 t2 t3 t4 t5 tf
            go_wp2_with fail
            obtain ⟨B9, o9⟩ := set5 HX8.out (.int .i64 0) (.int .i64 0) (.slice none 0 0) (.int .i64 3) (.int .i64 0)
            refine bodyPost_ret (v := .agg #[.int .i64 0, .int .i64 0, .slice none 0 0, .int .i64 3, .int .i64 0]) (results_cell_row Try.results58 _ _ n0 _ _ _ _ rfl B9 Try.underlying27 rfl info_res) rfl ?_
            rw [HE2.out]
            exact HA8.out.done (List.mem_cons_of_mem _ List.mem_cons_self) o9
end Go.Proofs.Ytcbhafddehipdaa
namespace Go.Proofs.Ytcbhafddehipdaa
open Go.RowKit
set_option linter.unusedVariables false
set_option linter.unusedSimpArgs false
set_option maxRecDepth 100000 in
theorem part0 (a b : Int) (w : World) : (part 3 #[.int .i64 a, .int .i64 b] 0).run Try.prog w = .ok (.int .i64 a) w := by kernel_rfl
set_option maxRecDepth 100000 in
theorem part1 (a b : Int) (w : World) : (part 3 #[.int .i64 a, .int .i64 b] 1).run Try.prog w = .ok (.int .i64 b) w := by kernel_rfl
set_option maxRecDepth 100000 in
theorem stood_pair : Try.prog.stoodInHeld 48 = false := by kernel_rfl
set_option maxRecDepth 100000 in
theorem fields_pair : Try.prog.underlying 48 = some (.struct (Try.prog.fieldsOf 48)) := by kernel_rfl
set_option maxRecDepth 100000 in
theorem guardt_pair : Try.prog.eqGuardType Try.prog.depth 48 = false := by kernel_rfl
set_option maxRecDepth 100000 in
set_option maxHeartbeats 1000000 in
theorem pair_neq (a b c d : Int) (w : World) : (binOp .neq 48 (.agg #[.int .i64 a, .int .i64 b]) (.agg #[.int .i64 c, .int .i64 d])).run Try.prog w = .ok (.bool (!(decide (a = c) && decide (b = d)))) w := by
  rw [run_neq_struct, run_equalIn_agg w 9999 _ _ _ fields_pair stood_pair]
  have e : ∀ (x y : Int), (Op.equalIn 9999 3 (.int .i64 x) (.int .i64 y)).run Try.prog w = .ok (x == y) w := fun x y => run_equalIn_int w 9998 _ _ _ x y Try.underlying3
  unfold Program.fieldsOf
  rw [Try.underlying48]
  by_cases e1 : a = c <;> by_cases e2 : b = d <;> simp [Op.eqFields, part0, part1, e, e1, e2, Result.andThen]
set_option maxRecDepth 100000 in
set_option maxHeartbeats 1000000 in
theorem pair_equalIn (a b c d : Int) (w : World) : (Op.equalIn 10000 48 (.agg #[.int .i64 a, .int .i64 b]) (.agg #[.int .i64 c, .int .i64 d])).run Try.prog w = .ok (decide (a = c) && decide (b = d)) w := by
  rw [run_equalIn_agg w 9999 _ _ _ fields_pair stood_pair]
  have e : ∀ (x y : Int), (Op.equalIn 9999 3 (.int .i64 x) (.int .i64 y)).run Try.prog w = .ok (x == y) w := fun x y => run_equalIn_int w 9998 _ _ _ x y Try.underlying3
  unfold Program.fieldsOf
  rw [Try.underlying48]
  by_cases e1 : a = c <;> by_cases e2 : b = d <;> simp [Op.eqFields, part0, part1, e, e1, e2, Result.andThen]
theorem PairsIn.at {w : World} {a : Option Addr} {ps : List (Int × Int)} (h : PairsIn w a ps) (hn : 0 < ps.length) :
    ∃ b off, a = some ⟨b, off, none⟩ ∧ ∀ i, i < ps.length → w.cell? ⟨b, off + i * 2, none⟩ = some (.int .i64 (ps.getD i (0, 0)).1) ∧ w.cell? ⟨b, off + (i * 2 + 1), none⟩ = some (.int .i64 (ps.getD i (0, 0)).2) := by
  rcases h with rfl | h
  · simp at hn
  · exact h
def uptoP (xs ys : List (Int × Int)) (k : Nat) : Prop := ∀ j, j < k → xs.getD j (0, 0) = ys.getD j (0, 0)
theorem uptoP_all {xs ys : List (Int × Int)} (h : xs.length = ys.length) (hu : uptoP xs ys xs.length) : xs = ys := by
  apply List.ext_getElem h
  intro i h1 h2
  have := hu i h1
  simpa [List.getD_eq_getElem?_getD, h1, h2] using this
theorem uptoP_succ {xs ys : List (Int × Int)} {k : Nat} (h : uptoP xs ys k) (h1 : xs.getD k (0, 0) = ys.getD k (0, 0)) : uptoP xs ys (k + 1) := by
  intro j hj
  rcases Nat.lt_or_ge j k with h2 | h2
  · exact h j h2
  · obtain rfl : j = k := by omega
    exact h1
set_option maxRecDepth 100000 in
set_option maxHeartbeats 4000000 in
theorem samePairs_any (a a' : Option Addr) (c c' : Nat) (xs ys : List (Int × Int)) (w : World) (hx : PairsIn w a xs) (hy : PairsIn w a' ys) (lx : xs.length ≤ 1000000) (ly : ys.length ≤ 1000000) :
    Calls Try.prog 36 #[.slice a xs.length c, .slice a' ys.length c'] w fun e w' => e = .returned (.bool (decide (xs = ys))) ∧ ∃ n, w' = w.drewN n := by
  by_cases hl : xs.length = ys.length
  · have hl1 : ((xs.length : Int) != (ys.length : Int)) = false := by simp [hl]
    have H := Lib.hid hl
    clear hl
    go_enter Try.func36, Try.ntmps36
    go_wp2_with fail
    go_loopw [5] (fun i wr => ∃ k m : Nat, k ≤ xs.length ∧ i = .int .i64 k ∧ wr = w.drewN m ∧ Hid (uptoP xs ys k)) (fun i _ => xs.length - (intOf i).toNat)
    case atStart => exact ⟨0, 0, Nat.zero_le _, rfl, rfl, Lib.hid (fun j hj => by omega)⟩
    case round =>
      obtain ⟨k, m, hk, rfl, rfl, HU⟩ := hrel
      by_cases hlt : k < xs.length
      · have hly : k < ys.length := by have := H.out; omega
        obtain ⟨b, off, rfl, hc⟩ := hx.at (by omega)
        obtain ⟨b', off', rfl, hc'⟩ := hy.at (by omega)
        obtain ⟨h1, h1'⟩ := hc k hlt
        obtain ⟨h2, h2'⟩ := hc' k hly
        have U1 := Lib.hid (show xs.getD k (0, 0) = ys.getD k (0, 0) → uptoP xs ys (k + 1) from fun e => uptoP_succ HU.out e)
        have U2 := Lib.hid (show xs.getD k (0, 0) ≠ ys.getD k (0, 0) → decide (xs = ys) = false from fun e => decide_eq_false (fun e' => e (by rw [e'])))
        generalize xs.getD k (0, 0) = x at h1 h1' U1 U2
        generalize ys.getD k (0, 0) = y at h2 h2' U1 U2
        obtain ⟨x1, x2⟩ := x
        obtain ⟨y1, y2⟩ := y
        have hq : ∀ n, (binOp .neq 48 (.agg #[.int .i64 x1, .int .i64 x2]) (.agg #[.int .i64 y1, .int .i64 y2])).run Try.prog ((w.drewN m).drewN n) = .ok (.bool (!(decide (x1 = y1) && decide (x2 = y2)))) ((w.drewN m).drewN n) := fun n => pair_neq _ _ _ _ _
        have hq2 : ∀ n, (Op.equalIn 10000 48 (.agg #[.int .i64 x1, .int .i64 x2]) (.agg #[.int .i64 y1, .int .i64 y2])).run Try.prog ((w.drewN m).drewN n) = .ok (decide (x1 = y1) && decide (x2 = y2)) ((w.drewN m).drewN n) := fun n => pair_equalIn _ _ _ _ _
        have hg := guardt_pair
        clear hc hc'
        dsimp only at h1 h1' h2 h2'
        rw [← Nat.add_assoc] at h1' h2'
        by_cases exy : x1 = y1 ∧ x2 = y2
        · obtain ⟨rfl, rfl⟩ := exy
          have U4 := Lib.hid (U1.out rfl)
          simp only [decide_true, Bool.and_self, Bool.not_true] at hq hq2
          clear U1 U2 HU
          go_wp2_with fail
          go_quiet (fail)
          go_wp2_with fail
          go_roundw
          case rel => exact ⟨k + 1, _, by omega, by go_num, rfl, U4⟩
          case measure => simp [intOf]; omega
        · have U4 := Lib.hid (U2.out (fun e => exy (by injection e with e1 e2; exact ⟨e1, e2⟩)))
          have eb : (decide (x1 = y1) && decide (x2 = y2)) = false := by simpa using exy
          rw [eb] at hq hq2
          have hd : (x1 == y1) = false ∨ (x1 = y1 ∧ (x2 == y2) = false) := by
            by_cases e1 : x1 = y1
            · exact .inr ⟨e1, by simpa using fun e2 => exy ⟨e1, e2⟩⟩
            · exact .inl (by simpa using e1)
          clear U1 U2 HU exy eb
          rcases hd with hd | ⟨rfl, hd⟩
          all_goals
            go_wp2_with fail
            go_quiet (fail)
            go_wp2_with fail
            go_ret
            exact ⟨ret_bool (by rw [U4.out]), _, World.drewN_drewN _ _ _⟩
      · obtain rfl : k = xs.length := by omega
        have U3 := Lib.hid (show decide (xs = ys) = true from decide_eq_true (uptoP_all H.out HU.out))
        go_wp2_with fail
        go_ret
        exact ⟨ret_bool (by rw [U3.out]), _, rfl⟩
  · have hl1 : ((xs.length : Int) != (ys.length : Int)) = true := by simp; omega
    have U3 := Lib.hid (show decide (xs = ys) = false from decide_eq_false (fun e => hl (by rw [e])))
    clear hl
    go_enter Try.func36, Try.ntmps36
    go_wp2_with fail
    go_ret
    exact ⟨ret_bool (by rw [U3.out]), 0, rfl⟩
end Go.Proofs.Ytcbhafddehipdaa

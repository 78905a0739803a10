/-
  model.Model: sees, look; what a turning of one transaction leaves.
-/
import Derived.Test.YtcbhafddehipdaaMdAt
namespace Go.Proofs.Ytcbhafddehipdaa
open Go.RowKit
set_option linter.unusedVariables false
set_option linter.unusedSimpArgs false

theorem rows_ne_map {P : Program} {K : TypeId} {R : MR} {w : World} {B b s n k : Nat} {D : MD} {e : TypeId} {v : Value} {xs : List Value} (h : w.ownsRow B e s v n xs) (hb : w.ownsMap P K R b k D) : ¬ rowOf v b := by
  rcases h.2 with ⟨rfl, _⟩ | ⟨g, cap, cur, rfl, hg, hh, r⟩
  · exact rowOf_none _ _ _
  · intro hk
    obtain rfl := rowOf_some.1 hk
    exact own_ne_blk hb (show Blk w _ _ cur from hh) rfl
theorem CMap.row {w : World} {b : Nat} {ca : Nat → Nat} {cells : Nat → Option Cel} (hb : CMap w b ca cells) {B s n : Nat} {e : TypeId} {v : Value} {xs : List Value} (h : w.ownsRow B e s v n xs) : ¬ rowOf v b := by obtain ⟨D, hb⟩ := hb; exact rows_ne_map h hb.own
theorem BMap.row {w : World} {b : Nat} {f : Nat → Bool} (hb : BMap w b f) {B s n : Nat} {e : TypeId} {v : Value} {xs : List Value} (h : w.ownsRow B e s v n xs) : ¬ rowOf v b := by obtain ⟨D, hb⟩ := hb; exact rows_ne_map h hb.own

theorem Ok.setTx {s : St} (h : Ok s) {j : Nat} {t : Tx} (ho : 0 ≤ t.ops ∧ t.ops ≤ 12) (hr : ∀ k c, t.cells k = some c → (∀ i, c.own = some i → i < s.vs.length) ∧ (∀ i, c.old = some i → i < s.vs.length)) : Ok (s.setTx j (some t)) := by
  refine ⟨h.slots, h.limit, h.now, h.made, h.few, h.lin, fun i u hu => ?_, fun i u k c hu hc => ?_⟩
  · by_cases e : i = j
    · subst e; simp only [St.setTx, upd_same] at hu; cases hu; exact ho
    · simp only [St.setTx, upd_other _ _ _ e] at hu; exact h.ops i u hu
  · by_cases e : i = j
    · subst e; simp only [St.setTx, upd_same] at hu; cases hu; exact hr k c hc
    · simp only [St.setTx, upd_other _ _ _ e] at hu; exact h.refs i u k c hu hc
theorem txPtr_set {A : Ad} {tx : Nat → Option Tx} {j : Nat} {t t' : Tx} (ht : tx j = some t) (i : Nat) : txPtr A (upd tx j (some t')) i = txPtr A tx i := by
  unfold txPtr
  by_cases e : i = j
  · subst e; rw [upd_same, ht]; rfl
  · rw [upd_other _ _ _ e]
theorem modCells_set {A : Ad} {s : St} {j : Nat} {t t' : Tx} (ht : s.tx j = some t) : modCells A (s.setTx j (some t')) = modCells A s := by
  unfold modCells St.setTx
  simp only [txPtr_set ht]
/-- Transaction j has turned; nothing else has. -/
theorem MIn.turnTx {B m : Nat} {w w' : World} {P S : Nat → Prop} {s : St} {A : Ad} (h : MIn B w P m s A) {j : Nat} {t t' : Tx} (ht : s.tx j = some t) (hs : ∀ k, (t'.cells k).isSome = (t.cells k).isSome) (o : Only S w w') (hm : ¬ S m)
    (hr : Apart (rowOf (.slice A.la s.l.length A.lc)) S) (hv : ∀ i, i < s.vs.length → ¬ S (A.va i)) (hn : ∀ i u, i ≠ j → s.tx i = some u → ¬ S (A.tb i) ∧ (∀ q, q < 3 → ¬ S (A.mb i q)) ∧ ∀ k c, u.cells k = some c → ¬ S (A.ca i k))
    (h' : TxIn w' P A.va A j t') (hok : Ok (s.setTx j (some t'))) : MIn B w' P m (s.setTx j (some t')) A :=
  ⟨by rw [modCells_set ht]; exact o.blk h.mod hm, rows_only h.row o hr, h.vers.only o hv, h.txs.set ht hs o hn h', hok, h.pm, h.pr, h.under.mono o.size, h.above⟩
/-- A block of transaction j's that is a map lies apart from all else. -/
theorem MIn.mapApart {B m : Nat} {w : World} {P : Nat → Prop} {s : St} {A : Ad} (h : MIn B w P m s A) {j q : Nat} {t : Tx} (ht : s.tx j = some t) (hq : q < 3) :
    m ≠ A.mb j q ∧ Apart (rowOf (.slice A.la s.l.length A.lc)) (fun b => b = A.mb j q) ∧ (∀ i, i < s.vs.length → A.va i ≠ A.mb j q) ∧ (∀ i u, s.tx i = some u → A.tb i ≠ A.mb j q ∧ (∀ p, p < 3 → (i ≠ j ∨ p ≠ q) → A.mb i p ≠ A.mb j q) ∧ ∀ k c, u.cells k = some c → A.ca i k ≠ A.mb j q) := by
  have X := (h.txs.one j t ht).2
  have ne : ∀ b t0 cs, Blk w b t0 cs → b ≠ A.mb j q := fun b t0 cs hb => by
    match q, hq with
    | 0, _ => exact (X.cm.ne hb).symm
    | 1, _ => exact (X.gm.ne hb).symm
    | 2, _ => exact (X.km.ne hb).symm
  refine ⟨ne _ _ _ h.mod, fun b hb e => ?_, fun i hi => ne _ _ _ (h.vers.blk i hi).1, fun i u hu => ⟨ne _ _ _ (h.txs.one i u hu).2.blk, fun p hp hd e => ?_, fun k c hk => ne _ _ _ ((h.txs.one i u hu).2.cel k c hk).2.1⟩⟩
  · subst e
    match q, hq with
    | 0, _ => exact X.cm.row h.row hb
    | 1, _ => exact X.gm.row h.row hb
    | 2, _ => exact X.km.row h.row hb
  · obtain ⟨e1, e2⟩ := h.txs.minj i j u t p q hu ht hp hq e
    rcases hd with hd | hd
    · exact hd e1
    · exact hd e2
/-- One of transaction j's sets of keys has turned. -/
theorem MIn.setLooked {B m : Nat} {w w' : World} {P : Nat → Prop} {s : St} {A : Ad} (h : MIn B w P m s A) {j : Nat} {t : Tx} (ht : s.tx j = some t) {f : Nat → Bool} (o : Only (fun b => b = A.mb j 2) w w') (hb : BMap w' (A.mb j 2) f) : MIn B w' P m (s.setTx j (some { t with looked := f })) A := by
  obtain ⟨a1, a2, a3, a4⟩ := h.mapApart ht (q := 2) (by omega)
  have X := (h.txs.one j t ht).2
  have b4 := a4 j t ht
  refine h.turnTx ht (fun k => rfl) o a1 a2 a3 (fun i u hi hu => ⟨(a4 i u hu).1, fun q hq => (a4 i u hu).2.1 q hq (.inl hi), (a4 i u hu).2.2⟩) ?_ (h.ok.setTx (h.ok.ops j t ht) (fun k c hc => h.ok.refs j t k c ht hc))
  exact ⟨o.blk X.blk b4.1, X.cm.only o (b4.2.1 0 (by omega) (.inr (by omega))), X.gm.only o (b4.2.1 1 (by omega) (.inr (by omega))), hb, fun k c hc => ⟨(X.cel k c hc).1, o.blk (X.cel k c hc).2.1 (b4.2.2 k c hc), (X.cel k c hc).2.2⟩, X.pt, X.pm⟩
theorem MIn.setGot {B m : Nat} {w w' : World} {P : Nat → Prop} {s : St} {A : Ad} (h : MIn B w P m s A) {j : Nat} {t : Tx} (ht : s.tx j = some t) {f : Nat → Bool} (o : Only (fun b => b = A.mb j 1) w w') (hb : BMap w' (A.mb j 1) f) : MIn B w' P m (s.setTx j (some { t with got := f })) A := by
  obtain ⟨a1, a2, a3, a4⟩ := h.mapApart ht (q := 1) (by omega)
  have X := (h.txs.one j t ht).2
  have b4 := a4 j t ht
  refine h.turnTx ht (fun k => rfl) o a1 a2 a3 (fun i u hi hu => ⟨(a4 i u hu).1, fun q hq => (a4 i u hu).2.1 q hq (.inl hi), (a4 i u hu).2.2⟩) ?_ (h.ok.setTx (h.ok.ops j t ht) (fun k c hc => h.ok.refs j t k c ht hc))
  exact ⟨o.blk X.blk b4.1, X.cm.only o (b4.2.1 0 (by omega) (.inr (by omega))), hb, X.km.only o (b4.2.1 2 (by omega) (.inr (by omega))), fun k c hc => ⟨(X.cel k c hc).1, o.blk (X.cel k c hc).2.1 (b4.2.2 k c hc), (X.cel k c hc).2.2⟩, X.pt, X.pm⟩

/-! ### look-ups and stores -/
set_option maxRecDepth 100000 in
theorem zero_cell (w : World) : (zeroValue 131).run Try.prog w = .ok (.pointer none) w := by kernel_rfl
set_option maxRecDepth 100000 in
theorem zero_bool (w : World) : (zeroValue 4).run Try.prog w = .ok (.bool false) w := by kernel_rfl
def celPtr (A : Ad) (j : Nat) (t : Tx) (k : Nat) : Value := .pointer ((t.cells k).map fun _ => at0 (A.ca j k))
set_option maxRecDepth 100000 in
theorem CMap.look {w : World} {A : Ad} {j : Nat} {t : Tx} (h : CMap w (A.mb j 0) (A.ca j) t.cells) (k : Nat) (hk : k < 64) : (Instr.lookup 97 (.map (some (A.mb j 0))) (.int .i64 k) false).run Try.prog w = .ok (celPtr A j t k) w := by
  obtain ⟨D, h⟩ := h
  obtain ⟨v, ps, h1, h2⟩ := h.look (T := 97) keyed Try.underlying3 Try.underlying97 (zero_cell w) (zd := .nil) (zp := []) rfl k hk
  rw [h1]
  have : v = celPtr A j t k := by
    unfold cMap at h2
    unfold celPtr
    cases hc : t.cells k with
    | none =>
      rw [hc] at h2
      rcases ptrElem_inv h2 with ⟨e, _⟩ | ⟨b, _, e⟩
      · exact e
      · cases e
    | some c =>
      rw [hc] at h2
      rcases ptrElem_inv h2 with ⟨_, e⟩ | ⟨b, e, e2⟩
      · cases e
      · have e2' : (Lit.int .i64 (A.ca j k : Int)) = .int .i64 b := by simpa using e2
        injection e2' with _ e3
        rw [e]
        have : A.ca j k = b := by omega
        rw [this]; rfl
  rw [this]
set_option maxRecDepth 100000 in
theorem BMap.store {w : World} {b : Nat} {f : Nat → Bool} (h : BMap w b f) (k : Nat) (hk : k < 64) : ∃ w', (Instr.mapUpdate 98 (.map (some b)) (.int .i64 k) (.bool true)).run Try.prog w = .ok () w' ∧ BMap w' b (upd f k true) ∧ Only (fun c => c = b) w w' := by
  obtain ⟨D, h⟩ := h
  obtain ⟨w', D', h1, h2, h3⟩ := h.store (T := 98) keyed Try.underlying3 Try.underlying98 k hk (plainElem_bool Try.underlying4 true)
  refine ⟨w', h1, ⟨D', h2.own, h2.keys, fun j hj z => ?_⟩, h3⟩
  rw [h2.at_ j hj z]
  unfold bMap upd
  by_cases e : j = k <;> simp [e]

theorem TxIn.cells {w : World} {P : Nat → Prop} {va : Nat → Nat} {A : Ad} {j : Nat} {t : Tx} (h : TxIn w P va A j t) : w.cell? ⟨A.tb j, 2, none⟩ = some (.int .u64 t.beg) ∧ w.cell? ⟨A.tb j, 4, none⟩ = some (.map (some (A.mb j 0))) ∧ w.cell? ⟨A.tb j, 5, none⟩ = some (.map (some (A.mb j 1))) ∧ w.cell? ⟨A.tb j, 6, none⟩ = some (.map (some (A.mb j 2))) :=
  ⟨h.blk.cell 2, h.blk.cell 4, h.blk.cell 5, h.blk.cell 6⟩

set_option maxRecDepth 100000 in
set_option maxHeartbeats 4000000 in
theorem md_sees {B m : Nat} {w : World} {P : Nat → Prop} {s : St} {A : Ad} (h : MIn B w P m s A) {j : Nat} {t : Tx} (ht : s.tx j = some t) (k : Nat) (hk : k < 64) :
    Calls Try.prog 74 #[.pointer (some ⟨m, 0, none⟩), .pointer (some ⟨A.tb j, 0, none⟩), .int .i64 k] w fun e w' => e = .returned (ptrOf A.va (s.sees t k)) ∧ w = w' := by
  have X := (h.txs.one j t ht).2
  obtain ⟨c2, c4, _, _⟩ := X.cells
  have hrun := X.cm.look k hk
  have C := md_at h k t.beg
  cases hc : t.cells k with
  | none =>
    have HR := Lib.hid (show s.sees t k = s.at k t.beg by simp [St.sees, hc])
    rw [show celPtr A j t k = .pointer none by simp [celPtr, hc]] at hrun
    clear h X ht hc
    go_enter Try.func74, Try.ntmps74
    go_wp2_with fail
    refine C.mono ?_
    rintro e w1 ⟨rfl, rfl⟩
    go_wp2_with fail
    go_ret
    exact ⟨by rw [HR.out]; rfl, rfl⟩
  | some c =>
    have hb := (X.cel k c hc).2.1
    have q0 : w.cell? ⟨A.ca j k, 0, none⟩ = some (ptrOf A.va c.own) := hb.cell 0
    have q2 : w.cell? ⟨A.ca j k, 2, none⟩ = some (.bool c.there) := hb.cell 2
    have HR := Lib.hid (show s.sees t k = if c.there then c.own else none by simp [St.sees, hc])
    rw [show celPtr A j t k = .pointer (some ⟨A.ca j k, 0, none⟩) by simp [celPtr, hc]] at hrun
    clear h X C ht hc hb
    rw [HR.out]
    generalize c.there = th at *
    clear HR
    cases th
    all_goals
      go_enter Try.func74, Try.ntmps74
      go_wp2_with fail
      go_ret
      exact ⟨rfl, rfl⟩
set_option maxRecDepth 100000 in
set_option maxHeartbeats 4000000 in
theorem md_look {B m : Nat} {w : World} {P : Nat → Prop} {s : St} {A : Ad} (h : MIn B w P m s A) {j : Nat} {t : Tx} (ht : s.tx j = some t) (k : Nat) (hk : k < 64) :
    Calls Try.prog 73 #[.pointer (some ⟨m, 0, none⟩), .pointer (some ⟨A.tb j, 0, none⟩), .int .i64 k] w fun e w' => e = .returned (ptrOf A.va (s.sees t k)) ∧ MIn B w' P m (s.setTx j (some (t.look k))) A ∧ Only P w w' := by
  have X := (h.txs.one j t ht).2
  obtain ⟨c2, c4, _, c6⟩ := X.cells
  have hrun := X.cm.look k hk
  have C := md_sees h ht k hk
  obtain ⟨w', hst, hb, ho⟩ := X.km.store k hk
  generalize s.sees t k = res at C ⊢
  have H2 : (t.cells k).isNone = true → MIn B w' P m (s.setTx j (some (t.look k))) A ∧ Only P w w' := fun e => by
    rw [Tx.look, if_pos e]
    exact ⟨h.setLooked ht ho hb, ho.toward (fun b hb => by subst hb; exact X.pm 2 (by omega))⟩
  have H1 : (t.cells k).isNone = false → MIn B w P m (s.setTx j (some (t.look k))) A ∧ Only P w w := fun e => by
    rw [Tx.look, if_neg (by simp [e])]
    refine ⟨?_, Only.refl _ _⟩
    have : s.setTx j (some t) = s := by
      unfold St.setTx
      have : upd s.tx j (some t) = s.tx := by funext i; by_cases e : i = j <;> simp [upd, e, ht]
      rw [this]
    rw [this]; exact h
  cases hc : t.cells k with
  | none =>
    have HE := Lib.hid (H2 (by simp [hc]))
    rw [show celPtr A j t k = .pointer none by simp [celPtr, hc]] at hrun
    clear h X ht hc H1 H2 hb ho
    go_enter Try.func73, Try.ntmps73
    go_wp2_with fail
    refine C.mono ?_
    rintro e w1 ⟨rfl, rfl⟩
    go_wp2_with fail
    go_ret
    exact ⟨rfl, HE.out⟩
  | some c =>
    have HE := Lib.hid (H1 (by simp [hc]))
    rw [show celPtr A j t k = .pointer (some ⟨A.ca j k, 0, none⟩) by simp [celPtr, hc]] at hrun
    clear h X ht hc H1 H2 hb ho hst
    go_enter Try.func73, Try.ntmps73
    go_wp2_with fail
    refine C.mono ?_
    rintro e w1 ⟨rfl, rfl⟩
    go_wp2_with fail
    go_ret
    exact ⟨rfl, HE.out⟩
end Go.Proofs.Ytcbhafddehipdaa

/-
  model.Model: a cell that is new, or has turned; the array of transactions.
-/
import Derived.Test.YtcbhafddehipdaaMdLook
import Derived.LaidEqlPtr
import Derived.Lib.Builder
namespace Go.Proofs.Ytcbhafddehipdaa
open Go.RowKit
set_option linter.unusedVariables false
set_option linter.unusedSimpArgs false

theorem TxIn.congrA {w : World} {P : Nat → Prop} {va : Nat → Nat} {A A' : Ad} {j : Nat} {t : Tx} (h : TxIn w P va A j t) (e1 : A'.tb j = A.tb j) (e2 : A'.mb j = A.mb j) (e3 : A'.ca j = A.ca j) : TxIn w P va A' j t := by
  obtain ⟨h1, h2, h3, h4, h5, h6, h7⟩ := h
  refine ⟨?_, ?_, ?_, ?_, ?_, ?_, ?_⟩
  · rw [e1]; unfold txCells at *; rw [e2]; exact h1
  · rw [e2, e3]; exact h2
  · rw [e2]; exact h3
  · rw [e2]; exact h4
  · rw [e3]; exact h5
  · rw [e1]; exact h6
  · rw [e2]; exact h7
theorem CMap.store {w : World} {b : Nat} {ca : Nat → Nat} {cells : Nat → Option Cel} (h : CMap w b ca cells) (k : Nat) (hk : k < 64) (n : Nat) (c : Cel) :
    ∃ w', (Instr.mapUpdate 97 (.map (some b)) (.int .i64 k) (.pointer (some ⟨n, 0, none⟩))).run Try.prog w = .ok () w' ∧ CMap w' b (upd ca k n) (upd cells k (some c)) ∧ Only (fun c => c = b) w w' := by
  obtain ⟨D, h⟩ := h
  obtain ⟨w', D', h1, h2, h3⟩ := h.store (T := 97) keyed Try.underlying3 Try.underlying97 k hk (v := .pointer (some ⟨n, 0, none⟩)) (d := .lit (.int .i64 n)) (ps := []) rfl
  refine ⟨w', h1, ⟨D', h2.own, h2.keys, fun j hj z => ?_⟩, h3⟩
  rw [h2.at_ j hj z]
  unfold cMap upd
  by_cases e : j = k <;> simp [e]
/-- A cell that is new. -/
theorem MIn.newCel {B m : Nat} {w w' : World} {P : Nat → Prop} {s : St} {A : Ad} (h : MIn B w P m s A) {j : Nat} {t : Tx} (ht : s.tx j = some t) {k n : Nat} (hk : k < 64) (hc : t.cells k = none) (c : Cel) (hn : w.heap.size ≤ n) (hn' : n < w'.heap.size) (o : Only (fun b => b = A.mb j 0) w w')
    (hb : Blk w' n 133 (celCells A.va c)) (hm : CMap w' (A.mb j 0) (upd (A.ca j) k n) (upd t.cells k (some c))) (hr : (∀ i, c.own = some i → i < s.vs.length) ∧ (∀ i, c.old = some i → i < s.vs.length)) :
    MIn B w' (fun b => P b ∨ b = n) m (s.setTx j (some (t.put k c))) { A with ca := upd A.ca j (upd (A.ca j) k n) } := by
  obtain ⟨a1, a2, a3, a4⟩ := h.mapApart ht (q := 0) (by omega)
  have X := (h.txs.one j t ht).2
  have b4 := a4 j t ht
  have hB : B ≤ n := by have := h.above m h.pm; have := h.mod.lt; omega
  have old : ∀ i u q c', s.tx i = some u → u.cells q = some c' → A.ca i q < w.heap.size := fun i u q c' hu hq => h.under _ ((h.txs.one i u hu).2.cel q c' hq).2.2
  refine ⟨?_, rows_only h.row o a2, (h.vers.only o a3).toward (fun b hb => .inl hb), ?_, ?_, .inl h.pm, fun b hb => .inl (h.pr b hb), ?_, ?_⟩
  · have := modCells_set (A := A) (t' := t.put k c) ht
    rw [show modCells { A with ca := upd A.ca j (upd (A.ca j) k n) } (s.setTx j (some (t.put k c))) = modCells A (s.setTx j (some (t.put k c))) from rfl, this]
    exact o.blk h.mod a1
  · refine ⟨fun i u hu => ?_, fun i i2 a b ha hb e => ?_, fun i i2 a b p q ha hb hp hq e => ?_, fun i i2 a b p q d d' ha hb hd hd' e => ?_⟩
    · by_cases e : i = j
      · subst e
        simp only [St.setTx, upd_same] at hu; cases hu
        refine ⟨(h.txs.one i t ht).1, o.blk X.blk b4.1, ?_, X.gm.only o (b4.2.1 1 (by omega) (.inr (by omega))), X.km.only o (b4.2.1 2 (by omega) (.inr (by omega))), fun q d hq => ?_, .inl X.pt, fun q hq => .inl (X.pm q hq)⟩
        · show CMap w' (A.mb i 0) (upd A.ca i (upd (A.ca i) k n) i) (upd t.cells k (some c))
          rw [upd_same]; exact hm
        · show q < 64 ∧ Blk w' (upd A.ca i (upd (A.ca i) k n) i q) _ _ ∧ _
          by_cases eq : q = k
          · subst eq
            rw [upd_same, upd_same]
            have : d = c := by simp only [Tx.put, upd_same] at hq; cases hq; rfl
            subst this
            exact ⟨hk, hb, .inr (by show upd A.ca i (upd (A.ca i) q n) i q = n; rw [upd_same, upd_same])⟩
          · rw [upd_same, upd_other _ _ _ eq]
            simp only [Tx.put, upd_other _ _ _ eq] at hq
            exact ⟨(X.cel q d hq).1, o.blk (X.cel q d hq).2.1 (b4.2.2 q d hq), .inl (by show P (upd A.ca i (upd (A.ca i) k n) i q); rw [upd_same, upd_other _ _ _ eq]; exact (X.cel q d hq).2.2)⟩
      · simp only [St.setTx, upd_other _ _ _ e] at hu
        have Y := (h.txs.one i u hu).2
        have y4 := a4 i u hu
        have Z := (Y.only o y4.1 (fun q hq => y4.2.1 q hq (.inl e)) y4.2.2).toward (Q := fun b => P b ∨ b = n) (fun b hb => .inl hb)
        exact ⟨(h.txs.one i u hu).1, Z.congrA rfl rfl (upd_other _ _ _ e)⟩
    · obtain ⟨a', ha', _⟩ : ∃ a', s.tx i = some a' ∧ True := by
        by_cases e' : i = j
        · subst e'; exact ⟨t, ht, trivial⟩
        · simp only [St.setTx, upd_other _ _ _ e'] at ha; exact ⟨a, ha, trivial⟩
      obtain ⟨b', hb', _⟩ : ∃ a', s.tx i2 = some a' ∧ True := by
        by_cases e' : i2 = j
        · subst e'; exact ⟨t, ht, trivial⟩
        · simp only [St.setTx, upd_other _ _ _ e'] at hb; exact ⟨b, hb, trivial⟩
      exact h.txs.tinj i i2 a' b' ha' hb' e
    · obtain ⟨a', ha', _⟩ : ∃ a', s.tx i = some a' ∧ True := by
        by_cases e' : i = j
        · subst e'; exact ⟨t, ht, trivial⟩
        · simp only [St.setTx, upd_other _ _ _ e'] at ha; exact ⟨a, ha, trivial⟩
      obtain ⟨b', hb', _⟩ : ∃ a', s.tx i2 = some a' ∧ True := by
        by_cases e' : i2 = j
        · subst e'; exact ⟨t, ht, trivial⟩
        · simp only [St.setTx, upd_other _ _ _ e'] at hb; exact ⟨b, hb, trivial⟩
      exact h.txs.minj i i2 a' b' p q ha' hb' hp hq e
    · -- each cell is an old one at its old place, or the new one at n
      have key : ∀ i a p d, (s.setTx j (some (t.put k c))).tx i = some a → a.cells p = some d → (i = j ∧ p = k ∧ upd A.ca j (upd (A.ca j) k n) i p = n) ∨ (∃ a' d', s.tx i = some a' ∧ a'.cells p = some d' ∧ upd A.ca j (upd (A.ca j) k n) i p = A.ca i p) := by
        intro i a p d ha hd
        by_cases e1 : i = j
        · subst e1
          simp only [St.setTx, upd_same] at ha; cases ha
          rw [upd_same]
          by_cases e2 : p = k
          · subst e2; exact .inl ⟨rfl, rfl, upd_same _ _ _⟩
          · simp only [Tx.put, upd_other _ _ _ e2] at hd
            exact .inr ⟨t, d, ht, hd, upd_other _ _ _ e2⟩
        · simp only [St.setTx, upd_other _ _ _ e1] at ha
          exact .inr ⟨a, d, ha, hd, by rw [upd_other _ _ _ e1]⟩
      change upd A.ca j (upd (A.ca j) k n) i p = upd A.ca j (upd (A.ca j) k n) i2 q at e
      rcases key i a p d ha hd with ⟨r1, r2, r3⟩ | ⟨a', d1, r1, r2, r3⟩
      · rcases key i2 b q d' hb hd' with ⟨s1, s2, s3⟩ | ⟨b', d2, s1, s2, s3⟩
        · exact ⟨r1.trans s1.symm, r2.trans s2.symm⟩
        · have := old i2 b' q d2 s1 s2; omega
      · rcases key i2 b q d' hb hd' with ⟨s1, s2, s3⟩ | ⟨b', d2, s1, s2, s3⟩
        · have := old i a' p d1 r1 r2; omega
        · exact h.txs.cinj i i2 a' b' p q d1 d2 r1 s1 r2 s2 (by rw [← r3, ← s3]; exact e)
  · refine h.ok.setTx (h.ok.ops j t ht) (fun q d hq => ?_)
    by_cases eq : q = k
    · subst eq
      simp only [Tx.put, upd_same] at hq; cases hq; exact hr
    · simp only [Tx.put, upd_other _ _ _ eq] at hq
      exact h.ok.refs j t q d ht hq
  · rintro b (hb | rfl)
    · exact Nat.lt_of_lt_of_le (h.under b hb) o.size
    · exact hn'
  · rintro b (hb | rfl)
    · exact h.above b hb
    · exact hB
/-- A cell has turned. -/
theorem MIn.setCel {B m : Nat} {w w' : World} {P : Nat → Prop} {s : St} {A : Ad} (h : MIn B w P m s A) {j : Nat} {t : Tx} (ht : s.tx j = some t) {k : Nat} {c : Cel} (hc : t.cells k = some c) (c' : Cel) (o : Only (fun b => b = A.ca j k) w w')
    (hb : Blk w' (A.ca j k) 133 (celCells A.va c')) (hr : (∀ i, c'.own = some i → i < s.vs.length) ∧ (∀ i, c'.old = some i → i < s.vs.length)) : MIn B w' P m (s.setTx j (some (t.put k c'))) A := by
  have X := (h.txs.one j t ht).2
  have h0 := (X.cel k c hc).2.1
  have mapNe : ∀ i u, s.tx i = some u → ∀ q, q < 3 → A.mb i q ≠ A.ca j k := fun i u hu q hq => by
    have Y := (h.txs.one i u hu).2
    match q, hq with
    | 0, _ => exact Y.cm.ne h0
    | 1, _ => exact Y.gm.ne h0
    | 2, _ => exact Y.km.ne h0
  have hs : ∀ q, ((t.put k c').cells q).isSome = (t.cells q).isSome := fun q => by
    by_cases e : q = k
    · subst e; simp [Tx.put, upd_same, hc]
    · simp [Tx.put, upd_other _ _ _ e]
  refine h.turnTx ht hs o (h.mod.ne h0 (by decide)) (fun b hb e => by subst e; exact rows_ne h.row h0 (by decide) hb) (h.vers.blkNe h0 (by decide))
    (fun i u hi hu => ⟨(h.txs.one i u hu).2.blk.ne h0 (by decide), mapNe i u hu, fun q d hq e => hi (h.txs.cinj i j u t q k d c hu ht hq hc e).1⟩) ?_ (h.ok.setTx (h.ok.ops j t ht) (fun q d hq => ?_))
  · refine ⟨o.blk X.blk (X.blk.ne h0 (by decide)), ?_, X.gm.only o (mapNe j t ht 1 (by omega)), X.km.only o (mapNe j t ht 2 (by omega)), fun q d hq => ?_, X.pt, X.pm⟩
    · have := X.cm.only o (mapNe j t ht 0 (by omega))
      have e : cMap (A.ca j) (t.put k c').cells = cMap (A.ca j) t.cells := by
        funext q
        by_cases e : q = k
        · subst e; simp [cMap, Tx.put, upd_same, hc]
        · simp [cMap, Tx.put, upd_other _ _ _ e]
      unfold CMap; rw [e]; exact this
    · by_cases eq : q = k
      · subst eq
        have : d = c' := by simp only [Tx.put, upd_same] at hq; cases hq; rfl
        subst this
        exact ⟨(X.cel q c hc).1, hb, (X.cel q c hc).2.2⟩
      · simp only [Tx.put, upd_other _ _ _ eq] at hq
        exact ⟨(X.cel q d hq).1, o.blk (X.cel q d hq).2.1 (fun e => eq (h.txs.cinj j j t t q k d c ht ht hq hc e).2), (X.cel q d hq).2.2⟩
  · by_cases eq : q = k
    · subst eq
      simp only [Tx.put, upd_same] at hq; cases hq; exact hr
    · simp only [Tx.put, upd_other _ _ _ eq] at hq
      exact h.ok.refs j t q d ht hq

/-! ### the array of transactions -/
def txArr (A : Ad) (tx : Nat → Option Tx) : List Value := [txPtr A tx 0, txPtr A tx 1, txPtr A tx 2, txPtr A tx 3, txPtr A tx 4, txPtr A tx 5, txPtr A tx 6, txPtr A tx 7]
theorem txArr_get (A : Ad) (tx : Nat → Option Tx) (k : Nat) (hk : k < 8) : (txArr A tx)[k]? = some (txPtr A tx k) := by
  match k, hk with
  | 0, _ => rfl
  | 1, _ => rfl
  | 2, _ => rfl
  | 3, _ => rfl
  | 4, _ => rfl
  | 5, _ => rfl
  | 6, _ => rfl
  | 7, _ => rfl
theorem modCells_tx (A : Ad) (s : St) (k : Nat) (hk : k < 8) : (modCells A s)[5 + k]? = some (txPtr A s.tx k) := by
  match k, hk with
  | 0, _ => rfl
  | 1, _ => rfl
  | 2, _ => rfl
  | 3, _ => rfl
  | 4, _ => rfl
  | 5, _ => rfl
  | 6, _ => rfl
  | 7, _ => rfl
theorem run_index_agg {P : Program} {w : World} (t e : TypeId) (n : Nat) (cs : Array Value) (i : Nat) (v : Value) (h : P.underlying t = some (.array n e)) (hi : i < n) (hv : cs[i]? = some v) (hs : (sizeOf e).run P w = .ok 1 w) (ha : (isAgg e).run P w = .ok false w) : (Instr.index t (.agg cs) (.int .i64 i)).run P w = .ok v w := by
  simp [Instr.index, run_underlying h, asIntOf, hi, hv, hs, ha, Result.andThen, go_sem]
theorem MIn.txCell {B m : Nat} {w : World} {P : Nat → Prop} {s : St} {A : Ad} (h : MIn B w P m s A) : w.cell? ⟨m, 5, none⟩ = some (txPtr A s.tx 0) ∧ w.cell? ⟨m, 6, none⟩ = some (txPtr A s.tx 1) ∧ w.cell? ⟨m, 7, none⟩ = some (txPtr A s.tx 2) ∧ w.cell? ⟨m, 8, none⟩ = some (txPtr A s.tx 3) ∧
    w.cell? ⟨m, 9, none⟩ = some (txPtr A s.tx 4) ∧ w.cell? ⟨m, 10, none⟩ = some (txPtr A s.tx 5) ∧ w.cell? ⟨m, 11, none⟩ = some (txPtr A s.tx 6) ∧ w.cell? ⟨m, 12, none⟩ = some (txPtr A s.tx 7) :=
  ⟨h.mod.cell 5, h.mod.cell 6, h.mod.cell 7, h.mod.cell 8, h.mod.cell 9, h.mod.cell 10, h.mod.cell 11, h.mod.cell 12⟩
set_option maxRecDepth 100000 in
theorem tx_index (A : Ad) (tx : Nat → Option Tx) (w : World) (k : Nat) (hk : k < 8) : (Instr.index 94 (.agg #[txPtr A tx 0, txPtr A tx 1, txPtr A tx 2, txPtr A tx 3, txPtr A tx 4, txPtr A tx 5, txPtr A tx 6, txPtr A tx 7]) (.int .i64 k)).run Try.prog w = .ok (txPtr A tx k) w :=
  run_index_agg _ _ 8 _ k _ Try.underlying94 hk (by simpa [txArr] using txArr_get A tx k hk) (by kernel_rfl) (by kernel_rfl)

/-! ### pointers held against each other -/
theorem info_some {P : Program} {e : TypeId} (h : (P.info? e).isSome = true) : ∃ j, P.info? e = some j := Option.isSome_iff_exists.1 h
theorem run_neq_ptr_other {P : Program} (w : World) {tp te : TypeId} {j : TypeInfo} {a b : Addr} {ca cb : Array Value} {ta tb : TypeId} (hp : P.underlying tp = some (.pointer te)) (hte : P.info? te = some j) (hsz : j.size ≠ 0)
    (hne : a ≠ b) (ha : w.heap[a.block]? = some (.cells ca ta (0, 0))) (hb : w.heap[b.block]? = some (.cells cb tb (0, 0))) :
    (binOp .neq tp (.pointer (some a)) (.pointer (some b))).run P w = .ok (.bool true) w := by
  have h : ∀ d : Nat, (Op.equalIn (d + 1) tp (.pointer (some a)) (.pointer (some b))).run P w = .ok false w := fun d => by
    simp [Op.equalIn, run_underlying hp, sizeOf, typeInfo, hte, hsz, run_sameAddr_other w hne ha hb]
  simp only [binOp]
  simp [Op.equal, Op.maxDepth, h 9999]
set_option maxRecDepth 100000 in
theorem infoTxn : (Try.prog.info? 100).map (·.size) = some 7 := by kernel_rfl
set_option maxRecDepth 100000 in
theorem infoVer : (Try.prog.info? 117).map (·.size) = some 6 := by kernel_rfl
theorem info_size {P : Program} {e : TypeId} {n : Nat} (h : (P.info? e).map (·.size) = some (n + 1)) : ∃ j, P.info? e = some j ∧ j.size ≠ 0 := by
  cases hq : P.info? e with
  | none => simp [hq] at h
  | some i => exact ⟨i, rfl, by simp [hq] at h; omega⟩
theorem txn_neq {w : World} {x y : Nat} {cx cy : Array Value} (hx : Blk w x 100 cx) (hy : Blk w y 100 cy) : (binOp .neq 92 (.pointer (some ⟨x, 0, none⟩)) (.pointer (some ⟨y, 0, none⟩))).run Try.prog w = .ok (.bool (!decide (x = y))) w := by
  obtain ⟨i, hi, hs⟩ := info_size infoTxn
  by_cases e : x = y
  · subst e
    rw [decide_eq_true rfl]
    exact Lib.run_neq_ptr_same w _ Try.underlying92 hi
  · rw [decide_eq_false e]
    exact run_neq_ptr_other w Try.underlying92 hi hs (fun e' => e (by injection e')) hx hy
theorem ver_neq {w : World} {x y : Nat} {cx cy : Array Value} (hx : Blk w x 117 cx) (hy : Blk w y 117 cy) : (binOp .neq 115 (.pointer (some ⟨x, 0, none⟩)) (.pointer (some ⟨y, 0, none⟩))).run Try.prog w = .ok (.bool (!decide (x = y))) w := by
  obtain ⟨i, hi, hs⟩ := info_size infoVer
  by_cases e : x = y
  · subst e
    rw [decide_eq_true rfl]
    exact Lib.run_neq_ptr_same w _ Try.underlying115 hi
  · rw [decide_eq_false e]
    exact run_neq_ptr_other w Try.underlying115 hi hs (fun e' => e (by injection e')) hx hy
end Go.Proofs.Ytcbhafddehipdaa

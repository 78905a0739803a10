/-
  model.Model: a version that is new, and its place in the row.
-/
import Derived.Test.YtcbhafddehipdaaMdTake
import Derived.Deep.AppendLies
namespace Go.Proofs.Ytcbhafddehipdaa
open Go.RowKit
set_option linter.unusedVariables false
set_option linter.unusedSimpArgs false

theorem ptrOf_upd {va : Nat → Nat} {n : Nat} {o : Option Nat} {len : Nat} (h : ∀ i, o = some i → i < len) : ptrOf (upd va len n) o = ptrOf va o := by
  cases o with
  | none => rfl
  | some i => have := h i rfl; unfold ptrOf; simp only [Option.map_some]; rw [upd_other _ _ _ (by omega)]
theorem celCells_upd {va : Nat → Nat} {n len : Nat} {c : Cel} (h : (∀ i, c.own = some i → i < len) ∧ (∀ i, c.old = some i → i < len)) : celCells (upd va len n) c = celCells va c := by
  unfold celCells; rw [ptrOf_upd h.1, ptrOf_upd h.2]
/-- A version is made: it is not in the row yet. -/
theorem MIn.newVer {B m : Nat} {w w' : World} {P : Nat → Prop} {s : St} {A : Ad} (h : MIn B w P m s A) {n : Nat} (v : Ver) (hn : w.heap.size ≤ n) (hn' : n < w'.heap.size) (o : Only0 w w') (hb : Blk w' n 117 (verCells v)) :
    MIn B w' (fun b => P b ∨ b = n) m { s with vs := s.vs ++ [v] } { A with va := upd A.va s.vs.length n } := by
  have h0 := h.only0 o
  have hB : B ≤ n := by have := h.above m h.pm; have := h.mod.lt; omega
  have hvb : ∀ i, i < s.vs.length → A.va i < w.heap.size := fun i hi => h.under _ (h.vers.blk i hi).2
  refine ⟨h0.mod, ?_, ?_, ?_, ?_, .inl h.pm, fun b hb => .inl (h.pr b hb), ?_, ?_⟩
  · have e : (s.l.map fun i => Value.pointer (some (at0 (upd A.va s.vs.length n i)))) = s.l.map fun i => Value.pointer (some (at0 (A.va i))) := by
      refine List.map_congr_left (fun i hi => ?_)
      have := h.ok.lin i hi
      rw [upd_other _ _ _ (by omega)]
    show w'.ownsRow B _ 1 _ _ (s.l.map fun i => Value.pointer (some (at0 (upd A.va s.vs.length n i))))
    rw [e]; exact h0.row
  · refine ⟨fun i hi => ?_, fun i j hi hj e => ?_⟩
    · by_cases e : i = s.vs.length
      · subst e
        refine ⟨?_, .inr ?_⟩
        · simp only [upd_same]
          have : (s.vs ++ [v]).getD s.vs.length default = v := by simp [List.getD_eq_getElem?_getD]
          rw [this]; exact hb
        · show upd A.va s.vs.length n s.vs.length = n
          rw [upd_same]
      · have hi' : i < s.vs.length := by simp at hi; omega
        have e2 : (s.vs ++ [v]).getD i default = s.vs.getD i default := by simp [List.getD_eq_getElem?_getD, List.getElem?_append_left hi']
        refine ⟨?_, .inl ?_⟩
        · simp only [upd_other _ _ _ e]; rw [e2]; exact (h0.vers.blk i hi').1
        · show P (upd A.va s.vs.length n i)
          rw [upd_other _ _ _ e]; exact (h0.vers.blk i hi').2
    · simp only [List.length_append, List.length_singleton] at hi hj
      change upd A.va s.vs.length n i = upd A.va s.vs.length n j at e
      by_cases e1 : i = s.vs.length <;> by_cases e2 : j = s.vs.length
      · omega
      · subst e1
        rw [upd_same, upd_other _ _ _ e2] at e
        have := hvb j (by omega); omega
      · subst e2
        rw [upd_same, upd_other _ _ _ e1] at e
        have := hvb i (by omega); omega
      · rw [upd_other _ _ _ e1, upd_other _ _ _ e2] at e
        exact h.vers.inj i j (by omega) (by omega) e
  · refine ⟨fun j t ht => ⟨(h0.txs.one j t ht).1, ?_⟩, h.txs.tinj, h.txs.minj, h.txs.cinj⟩
    have X := (h0.txs.one j t ht).2
    refine ⟨X.blk, X.cm, X.gm, X.km, fun k c hk => ⟨(X.cel k c hk).1, ?_, .inl (X.cel k c hk).2.2⟩, .inl X.pt, fun q hq => .inl (X.pm q hq)⟩
    show Blk w' (A.ca j k) _ (celCells (upd A.va s.vs.length n) c)
    rw [celCells_upd (h.ok.refs j t k c ht hk)]
    exact (X.cel k c hk).2.1
  · refine ⟨h.ok.slots, h.ok.limit, h.ok.now, h.ok.made, h.ok.few, fun i hi => ?_, h.ok.ops, fun j t k c ht hc => ⟨fun i hi => ?_, fun i hi => ?_⟩⟩
    · have := h.ok.lin i hi; simp; omega
    · have := (h.ok.refs j t k c ht hc).1 i hi; simp; omega
    · have := (h.ok.refs j t k c ht hc).2 i hi; simp; omega
  · rintro b (hb | rfl)
    · exact Nat.lt_of_lt_of_le (h.under b hb) o.size
    · exact hn'
  · rintro b (hb | rfl)
    · exact h.above b hb
    · exact hB
theorem modCells_row (A : Ad) (s : St) (id g cap : Nat) : modCells { A with la := some ⟨g, 0, none⟩, lc := cap } { s with l := s.l ++ [id] } = (modCells A s).setIfInBounds 4 (.slice (some ⟨g, 0, none⟩) (s.l.length + 1) cap) := by
  simp [modCells, txPtr]
/-- A version is put into the row. -/
theorem MIn.addRow {B m : Nat} {w w1 : World} {P : Nat → Prop} {s : St} {A : Ad} (h : MIn B w P m s A) {id g cap : Nat} (hid : id < s.vs.length) (hroom : (s.l.length : Int) < s.slots)
    (hown : w1.ownsRow B 115 1 (.slice (some ⟨g, 0, none⟩) (s.l.length + 1) cap) (s.l.length + 1) ((s.l.map fun i => .pointer (some (at0 (A.va i)))) ++ [.pointer (some (at0 (A.va id)))]))
    (o : Only (rowOf (.slice A.la s.l.length A.lc)) w w1) (hat : rowOf (.slice A.la s.l.length A.lc) g ∨ w.heap.size ≤ g) (hg : g < w1.heap.size) :
    MIn B (w1.setCell ⟨m, 4, none⟩ (.slice (some ⟨g, 0, none⟩) (s.l.length + 1) cap)) (fun b => P b ∨ b = g) m { s with l := s.l ++ [id] } { A with la := some ⟨g, 0, none⟩, lc := cap } ∧ Only (fun b => b = m ∨ rowOf (.slice A.la s.l.length A.lc) b) w (w1.setCell ⟨m, 4, none⟩ (.slice (some ⟨g, 0, none⟩) (s.l.length + 1) cap)) := by
  have hB : B ≤ g := by
    rcases hat with h1 | h1
    · exact h.above g (h.pr g h1)
    · have := h.above m h.pm; have := h.mod.lt; omega
  have hm : ¬ rowOf (.slice A.la s.l.length A.lc) m := rows_ne h.row h.mod (by decide)
  have hm1 : Blk w1 m _ _ := o.blk h.mod hm
  have hgm : g ≠ m := by
    rintro rfl
    exact rows_ne hown hm1 (by decide) (rowOf_some.2 rfl)
  have O : Only (fun b => b = m ∨ rowOf (.slice A.la s.l.length A.lc) b) w (w1.setCell ⟨m, 4, none⟩ (.slice (some ⟨g, 0, none⟩) (s.l.length + 1) cap)) := (o.toward (fun b hb => .inr hb)).setCell (fun _ => .inl rfl) _
  refine ⟨⟨?_, ?_, ?_, ?_, ?_, .inl h.pm, fun b hb => .inr (rowOf_some.1 hb), ?_, ?_⟩, O⟩
  · rw [modCells_row]; exact hm1.set 4 _
  · have := ownsRow_setCell_other hown (a := ⟨m, 4, none⟩) (fun e => hgm (by simpa [Value.ownBlock] using e)) (.slice (some ⟨g, 0, none⟩) (s.l.length + 1) cap)
    simpa using this
  · refine (h.vers.only O (fun i hi hS => ?_)).toward (fun b hb => .inl hb)
    rcases hS with e | e
    · exact h.vers.blkNe h.mod (by decide) i hi e
    · exact rows_ne h.row (h.vers.blk i hi).1 (by decide) e
  · have T : TxsIn (w1.setCell ⟨m, 4, none⟩ (.slice (some ⟨g, 0, none⟩) (s.l.length + 1) cap)) P A.va A s.tx := by
      refine h.txs.only O (fun j t ht => ?_)
      have X := (h.txs.one j t ht).2
      obtain ⟨a1, a2, a3⟩ := h.txs.blkNe h.mod (by decide) (by decide) j t ht
      refine ⟨fun hS => ?_, fun q hq hS => ?_, fun k c hk hS => ?_⟩
      · rcases hS with e | e
        · exact a1 e
        · exact rows_ne h.row X.blk (by decide) e
      · rcases hS with e | e
        · exact a2 q hq e
        · exact (h.mapApart ht hq).2.1 _ e rfl
      · rcases hS with e | e
        · exact a3 k c hk e
        · exact rows_ne h.row (X.cel k c hk).2.1 (by decide) e
    refine ⟨fun j t ht => ⟨(T.one j t ht).1, ((T.one j t ht).2.toward (fun b hb => .inl hb)).congrA rfl rfl rfl⟩, T.tinj, T.minj, T.cinj⟩
  · refine ⟨h.ok.slots, h.ok.limit, h.ok.now, h.ok.made, by simp; omega, fun i hi => ?_, h.ok.ops, h.ok.refs⟩
    rcases List.mem_append.1 hi with hi | hi
    · exact h.ok.lin i hi
    · obtain rfl : i = id := by simpa using hi
      exact hid
  · have hsz : (w1.setCell ⟨m, 4, none⟩ (.slice (some ⟨g, 0, none⟩) (s.l.length + 1) cap)).heap.size = w1.heap.size := by simp
    rintro b (hb | rfl)
    · rw [hsz]; exact Nat.lt_of_lt_of_le (h.under b hb) o.size
    · rw [hsz]; exact hg
  · rintro b (hb | rfl)
    · exact h.above b hb
    · exact hB
theorem take_cells {s : St} {j k : Nat} {t t1 : Tx} {c : Cel} (h : s.take j t k = (some c, t1)) : t1.cells k = some c ∧ t1.id = t.id := by
  unfold St.take at h
  split at h
  · rename_i c' hc; injection h with h1 h2; injection h1 with h1; subst h1 h2; exact ⟨hc, rfl⟩
  · split at h
    · simp at h
    · injection h with h1 h2; injection h1 with h1; subst h1 h2; exact ⟨by simp [Tx.put, upd_same], rfl⟩
end Go.Proofs.Ytcbhafddehipdaa

/-
  model.Model: write.
-/
import Derived.Test.YtcbhafddehipdaaMdVer
import Derived.StillTailTactics
import Derived.RegionTactic
import Derived.Deep.RegionLaw
namespace Go.Proofs.Ytcbhafddehipdaa
open Go.RowKit
set_option linter.unusedVariables false
set_option linter.unusedSimpArgs false

/-- What a call leaves that turns the state: the value that came back, and the Model at its place. -/
def StRes (B m : Nat) (w : World) (P : Nat → Prop) (A : Ad) (v : Value) (s' : St) (e : Ending) (w' : World) : Prop :=
  ∃ (A' : Ad) (P' : Nat → Prop), e = .returned v ∧ MIn B w' P' m s' A' ∧ A'.tb = A.tb ∧ A'.mb = A.mb ∧ Only P w w' ∧ Grew w.heap.size P P'
theorem StRes.mk0 {B m : Nat} {w w' : World} {P : Nat → Prop} {s' : St} {A : Ad} {v : Value} (h : MIn B w' P m s' A) (o : Only P w w') : StRes B m w P A v s' (.returned v) w' := ⟨A, P, rfl, h, rfl, rfl, o, Grew.refl _ _⟩

theorem Only.set1 (w : World) (b o : Nat) (v : Value) : Only (fun c => c = b) w (w.setCell ⟨b, o, none⟩ v) := Only.setCell (S := fun c => c = b) (Only.refl _ w) (p := ⟨b, o, none⟩) (fun _ => rfl) v
theorem Grew.base {N M : Nat} {P P' : Nat → Prop} (h : Grew M P P') (hN : N ≤ M) : Grew N P P' := fun b hb => (h b hb).imp id (fun hh => Nat.le_trans hN hh)
theorem Only.grewTrans {P P2 : Nat → Prop} {w w2 w3 : World} (h : Only P w w2) (g : Grew w.heap.size P P2) (h' : Only P2 w2 w3) : Only P w w3 :=
  ⟨h'.os.trans h.os, h'.tape.trans h.tape, h'.output.trans h.output, Nat.le_trans h.size h'.size, fun k hk hn => (h'.block k (Nat.lt_of_lt_of_le hk h.size) (fun hp => by
    rcases g k hp with h1 | h1
    · exact hn h1
    · omega)).trans (h.block k hk hn)⟩
theorem celCells_there (va : Nat → Nat) (c : Cel) (b : Bool) : (celCells va c).setIfInBounds 2 (.bool b) = celCells va { c with there := b } := by simp [celCells]
theorem celCells_own (va : Nat → Nat) (c : Cel) (i : Nat) : (celCells va c).setIfInBounds 0 (.pointer (some ⟨va i, 0, none⟩)) = celCells va { c with own := some i } := by simp [celCells, ptrOf]
theorem verCells_value (v : Ver) (x : Int) : (verCells v).setIfInBounds 1 (.int .i64 x) = verCells { v with value := x } := by simp [verCells]
theorem setTx_setTx (s : St) (j : Nat) (a b : Option Tx) : (s.setTx j a).setTx j b = s.setTx j b := by
  unfold St.setTx
  congr 1
  funext i
  by_cases e : i = j <;> simp [upd, e]
theorem write_none {s : St} {j k : Nat} {t t1 : Tx} {kind value : Int} (h : s.take j t k = (none, t1)) : s.write j t kind k value = (2, s) := by simp [St.write, h]
theorem write_del {s : St} {j k : Nat} {t t1 : Tx} {c : Cel} {value : Int} (h : s.take j t k = (some c, t1)) : s.write j t 4 k value = (0, s.setTx j (some (t1.put k { c with there := false }))) := by simp [St.write, h]
theorem write_full {s : St} {j k : Nat} {t t1 : Tx} {c : Cel} {kind value : Int} (h : s.take j t k = (some c, t1)) (h4 : kind ≠ 4) (ho : c.own = none) (hf : s.slots ≤ s.l.length) : s.write j t kind k value = (5, s.setTx j (some t1)) := by simp [St.write, h, h4, ho, hf]
theorem write_new {s : St} {j k : Nat} {t t1 : Tx} {c : Cel} {kind value : Int} (h : s.take j t k = (some c, t1)) (h4 : kind ≠ 4) (ho : c.own = none) (hf : ¬ s.slots ≤ s.l.length) :
    s.write j t kind k value = (0, (s.grow ⟨k, value, t.id, 0, 0, false⟩).setTx j (some (t1.put k { c with own := some s.vs.length, there := true }))) := by simp [St.write, h, h4, ho, hf]
theorem write_own {s : St} {j k i : Nat} {t t1 : Tx} {c : Cel} {kind value : Int} (h : s.take j t k = (some c, t1)) (h4 : kind ≠ 4) (ho : c.own = some i) : s.write j t kind k value = (0, (s.setVal i value).setTx j (some (t1.put k { c with there := true }))) := by simp [St.write, h, h4, ho]
theorem st_new1 (s : St) (j : Nat) (a b : Option Tx) (v : Ver) : ({ s.setTx j a with vs := (s.setTx j a).vs ++ [v] } : St).setTx j b = ({ s with vs := s.vs ++ [v] } : St).setTx j b := by
  unfold St.setTx
  congr 1
  funext q
  by_cases e : q = j <;> simp [upd, e]
theorem st_own (s : St) (j i : Nat) (a b : Option Tx) (value : Int) : ({ s.setTx j a with vs := (s.setTx j a).vs.set i { s.ver i with value := value } } : St).setTx j b = (s.setVal i value).setTx j b := by
  unfold St.setTx St.setVal
  congr 1
  funext q
  by_cases e : q = j <;> simp [upd, e]
set_option maxRecDepth 100000 in
theorem info_vptr : (Try.prog.info? 115).map (fun i => (i.zero, i.size, i.bytes)) = some (some (.pointer none), 1, 8) := by kernel_rfl
theorem take_none {s : St} {j k : Nat} {t t1 : Tx} (h : s.take j t k = (none, t1)) : t1 = t := by
  unfold St.take at h
  split at h
  · simp at h
  · split at h
    · injection h with _ h; exact h.symm
    · simp at h

set_option maxRecDepth 100000 in
set_option maxHeartbeats 8000000 in
theorem md_write {B m : Nat} {w : World} {P : Nat → Prop} {s : St} {A : Ad} (h : MIn B w P m s A) {j : Nat} {t : Tx} (ht : s.tx j = some t) (k : Nat) (hk : k < 64) (kind hi value : Int) :
    Calls Try.prog 75 #[.pointer (some ⟨m, 0, none⟩), .pointer (some ⟨A.tb j, 0, none⟩), .agg #[.int .i64 kind, .int .i64 k, .int .i64 hi, .int .i64 value]] w (StRes B m w P A (.int .i64 (s.write j t kind k value).1) (s.write j t kind k value).2) := by
  obtain ⟨W, hW⟩ : ∃ W, W = w.alloc (.cells #[.int .i64 kind, .int .i64 k, .int .i64 hi, .int .i64 value] 31) := ⟨_, rfl⟩
  have oW : Only0 w W := by rw [hW]; exact (Only0.refl w).alloc _
  have hM := h.only0 oW
  have BX : Blk W w.heap.size 31 #[.int .i64 kind, .int .i64 k, .int .i64 hi, .int .i64 value] := by rw [hW]; exact Blk.new _ _ _
  have C := md_take hM ht k hk
  have hnP : ¬ P w.heap.size := fun hp => by have := h.under _ hp; omega
  have c1 : W.cell? ⟨w.heap.size, 1, none⟩ = some (.int .i64 k) := BX.cell 1
  have HA := Lib.hid oW
  have HB := Lib.hid BX
  have HM := Lib.hid hM
  have HN := Lib.hid hnP
  have HT := Lib.hid ht
  obtain ⟨n0, hn0⟩ : ∃ n0, n0 = w.heap.size := ⟨_, rfl⟩
  rcases hk2 : s.take j t k with ⟨_ | c, t1⟩
  · rw [write_none hk2]
    have HK := Lib.hid hk2
    clear h ht hM BX hnP oW
    go_enter Try.func75, Try.ntmps75
    go_wp2_with fail
    rw [← hW]
    go_wp2_with fail
    refine C.mono ?_
    rintro e w2 ⟨ca, P2, rfl, h2, o2, g2⟩
    rw [HK.out] at h2 ⊢
    have R := Lib.hid (show StRes B m w P A (.int .i64 2) s (.returned (.int .i64 2)) w2 from ⟨{ A with ca := ca }, P2, rfl, by rw [take_none HK.out, setTx_self HT.out] at h2; exact h2, rfl, rfl, (HA.out.any P).trans o2, g2.base HA.out.size⟩)
    clear C h2 o2 g2 c1
    go_wp2_with fail
    go_ret
    exact R.out
  · have hc1 := take_cells hk2
    have HK := Lib.hid hk2
    have HC := Lib.hid hc1
    have SET : (s.setTx j (some t1)).tx j = some t1 := by simp [St.setTx, upd_same]
    have HS := Lib.hid SET
    clear SET
    by_cases h4 : kind = 4
    · subst h4
      rw [write_del hk2]
      have HO : (kind : Int) → True := fun _ => trivial
      clear h ht hM BX hnP oW hc1 hk2 HO
      go_enter Try.func75, Try.ntmps75
      go_wp2_with fail
      rw [← hW]
      go_wp2_with fail
      refine C.mono ?_
      rintro e w2 ⟨ca, P2, rfl, h2, o2, g2⟩
      rw [HK.out] at h2 ⊢
      have q := ((h2.txs.one j t1 HS.out).2.cel k c HC.out.1).2
      have q2 : w2.cell? ⟨ca j k, 2, none⟩ = some (.bool c.there) := q.1.cell 2
      have f2 := q.1.free 2
      have b0 : w2.cell? ⟨w.heap.size, 0, none⟩ = some (.int .i64 4) := (o2.blk HB.out HN.out).cell 0
      have M3 := h2.setCel HS.out HC.out.1 { c with there := false } (w' := w2.setCell ⟨ca j k, 2, none⟩ (.bool false)) (Only.set1 w2 _ 2 _) (by rw [← celCells_there]; exact q.1.set 2 _) (h2.ok.refs j t1 k c HS.out HC.out.1)
      rw [setTx_setTx] at M3
      have R := Lib.hid (show StRes B m w P A (.int .i64 0) (s.setTx j (some (t1.put k { c with there := false }))) (.returned (.int .i64 0)) (w2.setCell ⟨ca j k, 2, none⟩ (.bool false)) from
        ⟨{ A with ca := ca }, P2, rfl, M3, rfl, rfl, ((HA.out.any P).trans o2).grewTrans (g2.base HA.out.size) ((Only.set1 w2 _ 2 _).toward (fun b hb => by subst hb; exact q.2)), g2.base HA.out.size⟩)
      clear C h2 o2 g2 c1 q M3
      go_wp2_with fail
      go_ret
      exact R.out
    · have h4b : (kind == 4) = false := by simpa using h4
      cases hown : c.own with
      | none =>
        by_cases hf : s.slots ≤ s.l.length
        · rw [write_full hk2 h4 hown hf]
          have HO := Lib.hid hown
          have hlen : s.l.length ≤ 256 := by have := h.ok.few; have := h.ok.slots; omega
          clear h ht hM BX hnP oW hc1 hk2 h4 hown
          go_enter Try.func75, Try.ntmps75
          go_wp2_with fail
          rw [← hW]
          go_wp2_with fail
          refine C.mono ?_
          rintro e w2 ⟨ca, P2, rfl, h2, o2, g2⟩
          rw [HK.out] at h2 ⊢
          have q := ((h2.txs.one j t1 HS.out).2.cel k c HC.out.1).2
          have q0 : w2.cell? ⟨ca j k, 0, none⟩ = some (.pointer none) := by rw [q.1.cell 0]; simp only [celCells, HO.out]; rfl
          have m0 : w2.cell? ⟨m, 0, none⟩ = some (.int .i64 s.slots) := h2.mod.cell 0
          have m4 : w2.cell? ⟨m, 4, none⟩ = some (.slice A.la s.l.length A.lc) := h2.mod.cell 4
          have b0 : w2.cell? ⟨w.heap.size, 0, none⟩ = some (.int .i64 kind) := (o2.blk HB.out HN.out).cell 0
          have R := fun n => Lib.hid (show StRes B m w P A (.int .i64 5) (s.setTx j (some t1)) (.returned (.int .i64 5)) (w2.drewN n) from
            ⟨{ A with ca := ca }, P2, rfl, h2.drewN n, rfl, rfl, ((HA.out.any P).trans o2).drewN n, g2.base HA.out.size⟩)
          have HR := Lib.hid R
          clear C h2 o2 g2 c1 q R
          go_wp2_with fail
          go_quiet (fail)
          go_wp2_with fail
          go_ret
          exact (HR.out _).out
        · rw [write_new hk2 h4 hown hf]
          have HO := Lib.hid hown
          have hlen : s.l.length ≤ 256 := by have := h.ok.few; have := h.ok.slots; omega
          have HID := Lib.hid hc1.2
          clear h ht hM BX hnP oW hc1 hk2 h4 hown
          go_enter Try.func75, Try.ntmps75
          go_wp2_with fail
          rw [← hW]
          go_wp2_with fail
          refine C.mono ?_
          rintro e w2 ⟨ca, P2, rfl, h2, o2, g2⟩
          rw [HK.out] at h2 ⊢
          have X2 := (h2.txs.one j t1 HS.out).2
          have q := (X2.cel k c HC.out.1).2
          have q0 : w2.cell? ⟨ca j k, 0, none⟩ = some (.pointer none) := by rw [q.1.cell 0]; simp only [celCells, HO.out]; rfl
          have f0 := q.1.free 0
          have m0 : w2.cell? ⟨m, 0, none⟩ = some (.int .i64 s.slots) := h2.mod.cell 0
          have m4 : w2.cell? ⟨m, 4, none⟩ = some (.slice A.la s.l.length A.lc) := h2.mod.cell 4
          have b0 : w2.cell? ⟨w.heap.size, 0, none⟩ = some (.int .i64 kind) := (o2.blk HB.out HN.out).cell 0
          have b1 : w2.cell? ⟨w.heap.size, 1, none⟩ = some (.int .i64 k) := (o2.blk HB.out HN.out).cell 1
          have t0 : w2.cell? ⟨A.tb j, 0, none⟩ = some (.int .i64 t.id) := by rw [← HID.out]; exact X2.blk.cell 0
          clear C c1
          go_wp2_with fail
          go_quiet (fail)
          go_wp2_with fail
          have qlt := q.1.lt
          have a0 : ∀ (n : Nat) (o1 : Obj), ((w2.drewN n).alloc o1).cell? ⟨ca j k, 0, none⟩ = some (.pointer none) := fun n o1 => (Blk.cell (Blk.alloc (w := w2.drewN n) q.1 o1) 0).trans (by simp only [celCells, HO.out]; rfl)
          have a0f : ∀ (n : Nat) (o1 : Obj), ((w2.drewN n).alloc o1).frozen? ⟨ca j k, 0, none⟩ = false := fun n o1 => Blk.free (Blk.alloc (w := w2.drewN n) q.1 o1) 0
          go_region
          clear a0 a0f
          generalize hW5 : World.setCell _ _ _ = W5
          obtain ⟨N, hN⟩ : ∃ N, W5 = ((w2.drewN N).alloc (.cells #[.int .i64 k, .int .i64 0, .int .i64 t.id, .int .u64 0, .int .u64 0, .bool false] 117)).setCell ⟨ca j k, 0, none⟩ (.pointer (some ⟨w2.heap.size, 0, none⟩)) := ⟨_, hW5.symm⟩
          clear hW5
          obtain ⟨n1, hn1⟩ : ∃ n1, n1 = w2.heap.size := ⟨_, rfl⟩
          rw [← hn1] at hN ⊢
          obtain ⟨v0, hv0⟩ : ∃ v0 : Ver, v0 = ⟨k, 0, t.id, 0, 0, false⟩ := ⟨_, rfl⟩
          obtain ⟨Wa, hWa⟩ : ∃ Wa, Wa = (w2.drewN N).alloc (.cells #[.int .i64 k, .int .i64 0, .int .i64 t.id, .int .u64 0, .int .u64 0, .bool false] 117) := ⟨_, rfl⟩
          rw [← hWa] at hN
          have oa : Only0 (w2.drewN N) Wa := by rw [hWa]; exact (Only0.refl _).alloc _
          have M4 := (h2.drewN N).newVer v0 (n := n1) (w' := Wa) (by rw [hn1]; exact Nat.le_refl _) (by rw [hWa, hn1]; simp) oa (by rw [hWa, hn1, hv0]; exact Blk.new (w2.drewN N) _ _)
          have qa : Blk Wa (ca j k) 133 (celCells A.va c) := oa.blk (w := w2.drewN N) q.1 (fun h => h)
          have hcu : celCells (upd A.va s.vs.length n1) c = celCells A.va c := celCells_upd (h2.ok.refs j t1 k c HS.out HC.out.1)
          have M5 := M4.setCel HS.out HC.out.1 { c with own := some s.vs.length } (w' := W5) (by rw [hN]; exact Only.set1 Wa (ca j k) 0 _) (by
            rw [← celCells_own, hN]
            show Blk _ (ca j k) _ ((celCells (upd A.va s.vs.length n1) c).setIfInBounds 0 (.pointer (some ⟨upd A.va s.vs.length n1 s.vs.length, 0, none⟩)))
            rw [hcu, upd_same]
            exact qa.set 0 _) ⟨fun i hi => by simp at hi; subst hi; simp [St.setTx], fun i hi => by have := (M4.ok.refs j t1 k c HS.out HC.out.1).2 i hi; exact this⟩
          rw [st_new1] at M5
          have O5 : Only P w W5 := by
            have e1 : Only P w (w2.drewN N) := ((HA.out.any P).trans o2).drewN N
            have e2 : Only P2 (w2.drewN N) W5 := by rw [hN]; exact (oa.any P2).trans ((Only.set1 Wa (ca j k) 0 _).toward (fun b hb => by subst hb; exact q.2))
            exact e1.grewTrans (g2.base HA.out.size) e2
          have hsz2 : w.heap.size ≤ n1 := by have := HA.out.size; have := o2.size; omega
          have G5 : Grew w.heap.size P (fun b => P2 b ∨ b = n1) := fun b hb => by
            rcases hb with hb | rfl
            · exact (g2.base HA.out.size) b hb
            · exact .inr hsz2
          have B5 : Blk W5 w.heap.size 31 #[.int .i64 kind, .int .i64 k, .int .i64 hi, .int .i64 value] := by
            have e1 : Blk w2 w.heap.size 31 _ := o2.blk HB.out HN.out
            have e2 : Blk Wa w.heap.size 31 _ := oa.blk (w := w2.drewN N) e1 (fun h => h)
            rw [hN]; exact e2.other ⟨ca j k, 0, none⟩ _ (e2.ne qa (by decide))
          have T5 : (({ s with vs := s.vs ++ [v0] } : St).setTx j (some (t1.put k { c with own := some s.vs.length }))).tx j = some (t1.put k { c with own := some s.vs.length }) := by simp [St.setTx, upd_same]
          clear q0 f0 m0 m4 b0 b1 t0 qlt X2 h2 o2 g2 q M4 qa hcu hN oa hWa Wa hn1 N
          obtain ⟨P5, hP5⟩ : ∃ P5 : Nat → Prop, P5 = fun b => P2 b ∨ b = n1 := ⟨_, rfl⟩
          obtain ⟨c5, hc5⟩ : ∃ c5 : Cel, c5 = { c with own := some s.vs.length } := ⟨_, rfl⟩
          obtain ⟨t5, ht5⟩ : ∃ t5, t5 = t1.put k c5 := ⟨_, rfl⟩
          obtain ⟨s5, hs5⟩ : ∃ s5, s5 = ({ s with vs := s.vs ++ [v0] } : St).setTx j (some t5) := ⟨_, rfl⟩
          obtain ⟨A5, hA5⟩ : ∃ A5, A5 = ({ A with va := upd A.va s.vs.length n1, ca := ca } : Ad) := ⟨_, rfl⟩
          have M : MIn B W5 P5 m s5 A5 := by rw [hP5, hs5, hA5, ht5, hc5]; exact M5
          have E1 : s5.tx j = some t5 := by rw [hs5]; simp [St.setTx, upd_same]
          have E2 : t5.cells k = some c5 := by rw [ht5]; simp [Tx.put, upd_same]
          have G5' : Grew w.heap.size P P5 := by rw [hP5]; exact G5
          have E3 : s5.l = s.l ∧ s5.slots = s.slots ∧ s5.vs = s.vs ++ [v0] := by rw [hs5]; exact ⟨rfl, rfl, rfl⟩
          have E4 : A5.la = A.la ∧ A5.lc = A.lc ∧ A5.tb = A.tb ∧ A5.mb = A.mb ∧ A5.ca = ca ∧ A5.va s.vs.length = n1 := by rw [hA5]; exact ⟨rfl, rfl, rfl, rfl, rfl, upd_same _ _ _⟩
          have E5 : ∀ b, ({ s5 with l := s.l ++ [s.vs.length], vs := s5.vs.set s.vs.length { v0 with value := value } } : St).setTx j b = (s.grow { v0 with value := value }).setTx j b := fun b => by
            rw [hs5]; unfold St.setTx St.grow
            simp only [List.set_append_right _ _ (Nat.le_refl _), Nat.sub_self, List.set_cons_zero]
            congr 1
            funext q
            by_cases e : q = j <;> simp [upd, e]
          have E6 : t5.put k { c5 with there := true } = t1.put k { c with own := some s.vs.length, there := true } := by
            rw [ht5, hc5]; unfold Tx.put
            congr 1
            funext q
            by_cases e : q = k <;> simp [upd, e]
          clear M5 T5 hs5 ht5 hP5 hA5 G5 hsz2
          have X := (M.txs.one j t5 E1).2
          have q := (X.cel k c5 E2).2
          rw [E4.2.2.2.2.1] at q
          have R := M.row
          rw [E3.1, E4.1, E4.2.1] at R
          have q0 : W5.cell? ⟨ca j k, 0, none⟩ = some (.pointer (some ⟨n1, 0, none⟩)) := by rw [q.1.cell 0, hc5]; simp only [celCells, ptrOf, Option.map_some, E4.2.2.2.2.2]; rfl
          have m4 : W5.cell? ⟨m, 4, none⟩ = some (.slice A.la s.l.length A.lc) := by rw [M.mod.cell 4]; simp only [modCells, E3.1, E4.1, E4.2.1]; rfl
          have fm := M.mod.free 4
          obtain ⟨W6, hW6⟩ : ∃ W6, W6 = (W5.alloc (.cells #[.pointer (some ⟨n1, 0, none⟩)] 115)).drew := ⟨_, rfl⟩
          have o6 : Only0 W5 W6 := by rw [hW6]; exact ((Only0.refl _).alloc _).drew
          have m6 : W6.cell? ⟨m, 4, none⟩ = some (.slice A.la s.l.length A.lc) := by rw [(o6.blk M.mod (fun h => h)).cell 4]; simp only [modCells, E3.1, E4.1, E4.2.1]; rfl
          have fm6 := (o6.blk M.mod (fun h => h)).free 4
          have R6 := rows_only R o6 (fun _ _ hf => hf)
          have z6 : W6.heap.size = W5.heap.size + 1 := by rw [hW6]; simp
          have hm6 : m < W6.heap.size := by have := M.mod.lt; omega
          have nrow : ¬ rowOf (.slice A.la s.l.length A.lc) m := rows_ne R M.mod (by decide)
          have hB5 : B ≤ W5.heap.size := by have := M.above m M.pm; have := M.mod.lt; omega
          obtain ⟨j0, hj0, hj1, hj2, hj3⟩ := info_parts info_vptr
          rw [hW6] at m6 fm6 R6 z6 hm6
          have STEP : ∀ (gg cap : Nat) (w1 : World), w1.ownsRow B 115 1 (.slice (some ⟨gg, 0, none⟩) (s.l.length + 1) cap) (s.l.length + 1) ((s.l.map fun i => .pointer (some (at0 (A5.va i)))) ++ [.pointer (some ⟨n1, 0, none⟩)]) → W6.grownBy w1 (Value.slice A.la s.l.length A.lc).ownBlock → ((Value.slice A.la s.l.length A.lc).ownBlock = some gg ∨ gg = W5.heap.size + 1) → gg < w1.heap.size →
              ∃ (P7 : Nat → Prop) (A7 : Ad), MIn B (w1.setCell ⟨m, 4, none⟩ (.slice (some ⟨gg, 0, none⟩) (s.l.length + 1) cap)) P7 m { s5 with l := s.l ++ [s.vs.length] } A7 ∧ A7.va s.vs.length = n1 ∧ A7.ca = ca ∧ A7.tb = A.tb ∧ A7.mb = A.mb ∧ Only P w (w1.setCell ⟨m, 4, none⟩ (.slice (some ⟨gg, 0, none⟩) (s.l.length + 1) cap)) ∧ Grew w.heap.size P P7 ∧
                Blk (w1.setCell ⟨m, 4, none⟩ (.slice (some ⟨gg, 0, none⟩) (s.l.length + 1) cap)) w.heap.size 31 #[.int .i64 kind, .int .i64 k, .int .i64 hi, .int .i64 value] := by
            intro gg cap w1 hown2 hgrow hat hlt
            have M6 := M.only0 o6
            have oR : Only (rowOf (.slice A.la s.l.length A.lc)) W6 w1 := ⟨hgrow.os, hgrow.tape, hgrow.output, hgrow.size, fun b hb hn => hgrow.block b hb (fun e => hn e.symm)⟩
            have AR := M6.addRow (id := s.vs.length) (g := gg) (cap := cap) (w1 := w1) (by rw [E3.2.2]; simp) (by rw [E3.1, E3.2.1]; omega) (by rw [E3.1, E4.2.2.2.2.2]; exact hown2) (by rw [E3.1, E4.1, E4.2.1]; exact oR) (by
              rw [E3.1, E4.1, E4.2.1]
              rcases hat with h1 | h1
              · exact .inl h1
              · exact .inr (by rw [h1, hW6]; simp)) hlt
            rw [E3.1, E4.1, E4.2.1] at AR
            obtain ⟨M7, O7⟩ := AR
            have hp5 : ∀ b, (b = m ∨ rowOf (.slice A.la s.l.length A.lc) b) → P5 b := fun b hb => by
              rcases hb with rfl | hb
              · exact M.pm
              · exact M.pr b (by rw [E3.1, E4.1, E4.2.1]; exact hb)
            have B6 : Blk W6 w.heap.size 31 #[.int .i64 kind, .int .i64 k, .int .i64 hi, .int .i64 value] := o6.blk B5 (fun h => h)
            have hgw : w.heap.size ≤ W6.heap.size := Nat.le_trans O5.size o6.size
            refine ⟨_, _, M7, E4.2.2.2.2.2, E4.2.2.2.2.1, E4.2.2.1, E4.2.2.2.1, (O5.trans (o6.any P)).grewTrans G5' (O7.toward hp5), fun b hb => ?_, O7.blk B6 (fun hS => ?_)⟩
            · rcases hb with hb | rfl
              · exact G5' b hb
              · rcases hat with h1 | h1
                · exact G5' b (hp5 b (.inr h1))
                · exact .inr (by have := o6.size; rw [h1]; have := O5.size; omega)
            · rcases hS with e | e
              · exact (B6.ne M6.mod (by decide)) e
              · have R' := M6.row
                rw [E3.1, E4.1, E4.2.1] at R'
                exact rows_ne R' B6 (by decide) e
          have RES : ∀ (W7 : World) (P7 : Nat → Prop) (A7 : Ad), MIn B W7 P7 m { s5 with l := s.l ++ [s.vs.length] } A7 → A7.va s.vs.length = n1 → A7.ca = ca → A7.tb = A.tb → A7.mb = A.mb → Only P w W7 → Grew w.heap.size P P7 →
              (W7.cell? ⟨ca j k, 0, none⟩ = some (.pointer (some ⟨n1, 0, none⟩)) ∧ W7.cell? ⟨ca j k, 2, none⟩ = some (.bool c.there) ∧ W7.frozen? ⟨ca j k, 2, none⟩ = false ∧ W7.cell? ⟨n1, 1, none⟩ = some (.int .i64 0) ∧ W7.frozen? ⟨n1, 1, none⟩ = false) ∧
              ∀ N, StRes B m w P A (.int .i64 0) ((s.grow ⟨k, value, t.id, 0, 0, false⟩).setTx j (some (t1.put k { c with own := some s.vs.length, there := true }))) (.returned (.int .i64 0)) (((W7.drewN N).setCell ⟨n1, 1, none⟩ (.int .i64 value)).setCell ⟨ca j k, 2, none⟩ (.bool true)) := by
            intro W7 P7 A7 M7 a1 a2 a3 a4 O7 G7
            have X7 := (M7.txs.one j t5 E1).2
            have q7 := (X7.cel k c5 E2).2
            rw [a2] at q7
            have v7 := M7.vers.blk s.vs.length (by show s.vs.length < s5.vs.length; rw [E3.2.2]; simp)
            have e7 : s5.vs.getD s.vs.length default = v0 := by rw [E3.2.2]; simp [List.getD_eq_getElem?_getD]
            change Blk W7 (A7.va s.vs.length) _ (verCells (s5.vs.getD s.vs.length default)) ∧ P7 (A7.va s.vs.length) at v7
            rw [e7, a1] at v7
            refine ⟨⟨by rw [q7.1.cell 0, hc5]; simp only [celCells, ptrOf, Option.map_some, a1]; rfl, by rw [q7.1.cell 2, hc5]; rfl, q7.1.free 2, by rw [v7.1.cell 1, hv0]; rfl, v7.1.free 1⟩, fun N => ?_⟩
            have M8 := (M7.drewN N).setVer (i := s.vs.length) (v := { v0 with value := value }) (by show s.vs.length < s5.vs.length; rw [E3.2.2]; simp) (w' := (W7.drewN N).setCell ⟨n1, 1, none⟩ (.int .i64 value)) (by rw [a1]; exact Only.set1 (W7.drewN N) n1 1 _) (by rw [a1, ← verCells_value]; exact Blk.set (w := W7.drewN N) v7.1 1 _)
            have hne : ca j k ≠ n1 := q7.1.ne v7.1 (by decide)
            have M9 := M8.setCel E1 E2 { c5 with there := true } (w' := ((W7.drewN N).setCell ⟨n1, 1, none⟩ (.int .i64 value)).setCell ⟨ca j k, 2, none⟩ (.bool true)) (by rw [a2]; exact Only.set1 _ (ca j k) 2 _) (by rw [a2, ← celCells_there]; exact (Blk.other (w := W7.drewN N) q7.1 ⟨n1, 1, none⟩ (.int .i64 value) hne).set 2 _) (M8.ok.refs j t5 k c5 E1 E2)
            refine ⟨A7, P7, rfl, ?_, a3, a4, (O7.drewN N).grewTrans G7 (((Only.set1 (W7.drewN N) n1 1 (.int .i64 value)).toward (fun b hb => by subst hb; exact v7.2)).trans ((Only.set1 _ (ca j k) 2 _).toward (fun b hb => by subst hb; exact q7.2))), G7⟩
            have := M9
            rw [E6] at this
            rw [hv0] at this E5
            exact (E5 _) ▸ this
          have HSTEP := Lib.hid STEP
          have HRES := Lib.hid RES
          have HV := Lib.hid hv0
          rw [hW6] at HSTEP
          clear M X q O5 o6 z6 R E1 E2 E3 E4 E5 E6 hc5 STEP RES hW6 G5' hv0 B5
          go_wp2_with fail
          go_region_law
            ((refine step_append_lies _ (by rfl) _ _ _ (by rfl) B 115 j0 _ 1 8 Try.underlying93 hj0 hj1 hj2 hj3 rfl (by omega) (.slice A.la s.l.length A.lc) s.l.length (s.l.map fun i => .pointer (some (at0 (A5.va i)))) (by rfl) R6
                ⟨W5.heap.size, 0, none⟩ 1 1 [.pointer (some ⟨n1, 0, none⟩)] (by rfl) (by rfl) (World.news_of_block (cs := #[.pointer (some ⟨n1, 0, none⟩)]) (t := 115) (fr := (0, 0)) (heap_alloc_new W5 _)) (by simp [Value.oneCell'])
                (by omega) (by unfold maxLen; omega) (by omega) (by simp; omega) (W5.heap.size + 1) (by simp) ?_; intro gg cap w1 hown2 hgrow hat hlt
              have cz : w1.cell? ⟨m, 4, none⟩ = some (.slice A.la s.l.length A.lc) := (hgrow.cell_far ⟨m, 4, none⟩ hm6 (fun e => nrow e.symm)).trans m6
              have fz1 : w1.frozen? ⟨m, 4, none⟩ = false := (hgrow.frozen_far ⟨m, 4, none⟩ hm6 (fun e => nrow e.symm)).trans fm6))
          all_goals
            obtain ⟨P7, A7, M7, a1, a2, a3, a4, O7, G7, B7⟩ := HSTEP.out gg cap w1 hown2 hgrow hat hlt
            generalize hW7 : World.setCell w1 _ _ = W7 at *
            obtain ⟨⟨d0, d2, df, e1, ef⟩, R⟩ := HRES.out W7 P7 A7 M7 a1 a2 a3 a4 O7 G7
            have b3 : W7.cell? ⟨w.heap.size, 3, none⟩ = some (.int .i64 value) := B7.cell 3
            have HR := Lib.hid R
            clear M7 a1 a2 a3 a4 O7 G7 B7 R hW7 hown2 hgrow hat hlt cz fz1
            go_wp2_with fail
            go_region
            go_wp2_with fail
            go_ret
            exact HR.out _
      | some i =>
        rw [write_own hk2 h4 hown]
        have HO := Lib.hid hown
        have hlen : s.l.length ≤ 256 := by have := h.ok.few; have := h.ok.slots; omega
        clear h ht hM BX hnP oW hc1 hk2 h4 hown
        go_enter Try.func75, Try.ntmps75
        go_wp2_with fail
        rw [← hW]
        go_wp2_with fail
        refine C.mono ?_
        rintro e w2 ⟨ca, P2, rfl, h2, o2, g2⟩
        rw [HK.out] at h2 ⊢
        have q := ((h2.txs.one j t1 HS.out).2.cel k c HC.out.1).2
        have q0 : w2.cell? ⟨ca j k, 0, none⟩ = some (.pointer (some ⟨A.va i, 0, none⟩)) := by rw [q.1.cell 0]; simp only [celCells, HO.out]; rfl
        have q2 : w2.cell? ⟨ca j k, 2, none⟩ = some (.bool c.there) := q.1.cell 2
        have f2 := q.1.free 2
        have hi2 : i < s.vs.length := (h2.ok.refs j t1 k c HS.out HC.out.1).1 i HO.out
        have v := h2.vers.blk i hi2
        have v1 : w2.cell? ⟨A.va i, 1, none⟩ = some (.int .i64 (s.ver i).value) := v.1.cell 1
        have vf := v.1.free 1
        have b0 : w2.cell? ⟨w.heap.size, 0, none⟩ = some (.int .i64 kind) := (o2.blk HB.out HN.out).cell 0
        have b3 : w2.cell? ⟨w.heap.size, 3, none⟩ = some (.int .i64 value) := (o2.blk HB.out HN.out).cell 3
        have R : ∀ n, StRes B m w P A (.int .i64 0) ((s.setVal i value).setTx j (some (t1.put k { c with there := true }))) (.returned (.int .i64 0)) (((w2.drewN n).setCell ⟨A.va i, 1, none⟩ (.int .i64 value)).setCell ⟨ca j k, 2, none⟩ (.bool true)) := fun n => by
          have M3 := (h2.drewN n).setVer hi2 (v := { s.ver i with value := value }) (Only.set1 (w2.drewN n) (A.va i) 1 (.int .i64 value)) (by rw [← verCells_value]; exact Blk.set (w := w2.drewN n) v.1 1 _)
          have hne : ca j k ≠ A.va i := q.1.ne v.1 (by decide)
          have M4 := M3.setCel HS.out HC.out.1 { c with there := true } (Only.set1 ((w2.drewN n).setCell ⟨A.va i, 1, none⟩ (.int .i64 value)) (ca j k) 2 (.bool true)) (by rw [← celCells_there]; exact (Blk.other (w := w2.drewN n) q.1 ⟨A.va i, 1, none⟩ (.int .i64 value) hne).set 2 _) (M3.ok.refs j t1 k c HS.out HC.out.1)
          rw [st_own] at M4
          exact ⟨{ A with ca := ca }, P2, rfl, M4, rfl, rfl, (((HA.out.any P).trans o2).drewN n).grewTrans (g2.base HA.out.size) (((Only.set1 (w2.drewN n) (A.va i) 1 (.int .i64 value)).toward (fun b hb => by subst hb; exact v.2)).trans ((Only.set1 _ (ca j k) 2 _).toward (fun b hb => by subst hb; exact q.2))), g2.base HA.out.size⟩
        have HR := Lib.hid R
        clear C c1 R h2 o2 g2 q v
        go_wp2_with fail
        go_quiet (fail)
        go_wp2_with fail
        go_region
        go_wp2_with fail
        go_ret
        exact HR.out _
end Go.Proofs.Ytcbhafddehipdaa

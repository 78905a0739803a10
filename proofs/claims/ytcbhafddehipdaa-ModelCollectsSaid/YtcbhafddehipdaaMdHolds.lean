/-
  model.Model: holds.
-/
import Derived.Test.YtcbhafddehipdaaMdAbort
namespace Go.Proofs.Ytcbhafddehipdaa
open Go.RowKit
set_option linter.unusedVariables false
set_option linter.unusedSimpArgs false

set_option maxRecDepth 100000 in
theorem BMap.range {w : World} {b : Nat} {f : Nat → Bool} (h : BMap w b f) : ∃ w' D cnt, (Instr.range 98 (.map (some b))).run Try.prog w = .ok (.pointer (some ⟨w.heap.size, 0, none⟩)) w' ∧ IRange Try.prog kInt (plainElem Try.prog 4) w' b w.heap.size (bMap f) D f cnt ∧ Only0 w w' := by
  obtain ⟨D, hD⟩ := h
  obtain ⟨w0, cnt0, hrun, hR, o0, z0⟩ := hD.range (T := 98) keyed Try.underlying98
  have : (fun k => (bMap f k).isSome) = f := by funext k; unfold bMap; cases f k <;> rfl
  rw [this] at hR
  exact ⟨w0, D, cnt0, hrun, hR, o0⟩
theorem run_neq_none_some {P : Program} (w : World) {tp te : TypeId} (hp : P.underlying tp = some (.pointer te)) (a : Addr) : (binOp .neq tp (.pointer none) (.pointer (some a))).run P w = .ok (.bool true) w := by
  have h : ∀ d : Nat, (Op.equalIn (d + 1) tp (.pointer none) (.pointer (some a))).run P w = .ok false w := fun d => by
    simp [Op.equalIn, run_underlying hp]
  simp only [binOp]
  simp [Op.equal, Op.maxDepth, h 9999]
set_option maxRecDepth 100000 in
theorem ver_ne_ptr {w : World} {va : Nat → Nat} {n : Nat} (hb : ∀ i, i < n → ∃ cs, Blk w (va i) 117 cs) (hinj : ∀ i j, i < n → j < n → va i = va j → i = j) {o1 o2 : Option Nat} (h1 : ∀ i, o1 = some i → i < n) (h2 : ∀ i, o2 = some i → i < n) :
    (binOp .neq 115 (ptrOf va o1) (ptrOf va o2)).run Try.prog w = .ok (.bool (!decide (o1 = o2))) w := by
  cases o1 with
  | none =>
    cases o2 with
    | none => simp [ptrOf, go_sem, Try.underlying115]
    | some j => exact run_neq_none_some w Try.underlying115 _
  | some i =>
    cases o2 with
    | none => simp [ptrOf, go_sem, Try.underlying115]
    | some j =>
      obtain ⟨c1, b1⟩ := hb i (h1 i rfl)
      obtain ⟨c2, b2⟩ := hb j (h2 j rfl)
      have := ver_neq b1 b2
      simp only [ptrOf, Option.map_some]
      rw [this]
      congr 2
      congr 1
      rw [Bool.eq_iff_iff]; simp
      exact ⟨fun e => hinj i j (h1 i rfl) (h2 j rfl) e, fun e => by rw [e]⟩
theorem ptr_guard {va : Nat → Nat} (o1 o2 : Option Nat) (x y : Operand) (t : TypeId) (op : BinOp) (w : World) : (eqGuard op t x y (ptrOf va o1) (ptrOf va o2)).run Try.prog w = .ok () w := by
  unfold ptrOf eqGuard
  cases op <;> rfl
set_option maxRecDepth 100000 in
theorem at_lt {B m : Nat} {w : World} {P : Nat → Prop} {s : St} {A : Ad} (h : MIn B w P m s A) {key at_ : Int} : ∀ i, s.at key at_ = some i → i < s.vs.length := fun i hi => h.ok.lin i (List.mem_of_find?_eq_some hi)
def holdsAll (s : St) (f : Nat → Bool) (beg at_ : Int) : Bool := (List.range 64).all fun k => !f k || decide (s.at k at_ = s.at k beg)
theorem holdsAll_no {s : St} {f : Nat → Bool} {beg at_ : Int} {k : Nat} (hk : k < 64) (hf : f k = true) (hne : s.at k at_ ≠ s.at k beg) : holdsAll s f beg at_ = false := List.all_eq_false.2 ⟨k, List.mem_range.2 hk, by simp [hf, hne]⟩
theorem holdsAll_yes {s : St} {f left : Nat → Bool} {beg at_ : Int} (h : ∀ k, k < 64 → f k = true → left k = false → s.at k at_ = s.at k beg) (hl : ∀ k, k < 64 → left k = false) : holdsAll s f beg at_ = true :=
  List.all_eq_true.2 (fun k hk => by
    have hk := List.mem_range.1 hk
    cases hf : f k with
    | false => simp
    | true => simp [h k hk hf (hl k hk)])
set_option maxRecDepth 100000 in
/-- The loop over the keys that were looked at, under way. -/
structure HoRel (B m : Nat) (w : World) (P : Nat → Prop) (s : St) (A : Ad) (b r : Nat) (f : Nat → Bool) (beg at_ : Int) (left : Nat → Bool) (cnt : Nat) (wr : World) : Prop where
  rng : ∃ D, IRange Try.prog kInt (plainElem Try.prog 4) wr b r (bMap f) D left cnt
  mod : MIn B wr P m s A
  only : Only0 w wr
  nr : ¬ P r ∧ w.heap.size ≤ r
  sub : ∀ k, left k = true → f k = true
  done : ∀ k, k < 64 → f k = true → left k = false → s.at k at_ = s.at k beg
set_option maxRecDepth 100000 in
theorem bool_inv {v : Value} {d : MD} {ps : List MemPlace} (h : plainElem (H := Unit) Try.prog 4 v = some (d, ps)) : ∃ x, v = .bool x := by
  unfold plainElem at h
  rw [Try.underlying4] at h
  cases v <;> simp at h
  exact ⟨_, rfl⟩
set_option maxRecDepth 100000 in
theorem HoRel.next {B m : Nat} {w : World} {P : Nat → Prop} {s : St} {A : Ad} {b r : Nat} {f : Nat → Bool} {beg at_ : Int} {left : Nat → Bool} {cnt : Nat} {wr : World} (h : HoRel B m w P s A b r f beg at_ left cnt wr) (ty : TypeId) :
    (cnt = 0 ∧ (∀ k, k < 64 → left k = false) ∧ (Instr.next (.pointer (some ⟨r, 0, none⟩)) false ty).run Try.prog wr = .ok (.tuple #[.bool false]) wr) ∨
    ∃ (k : Nat) (x : Bool) (w' : World) (cnt' : Nat), k < 64 ∧ f k = true ∧ (Instr.next (.pointer (some ⟨r, 0, none⟩)) false ty).run Try.prog wr = .ok (.tuple #[.bool true, .int .i64 k, .bool x]) w' ∧
      (s.at k at_ = s.at k beg → HoRel B m w P s A b r f beg at_ (fun q => left q && !decide (q = k)) cnt' w') ∧ MIn B w' P m s A ∧ Only0 w w' ∧ w'.rangeLeft b r < wr.rangeLeft b r ∧ (Instr.entry (.pointer (some ⟨r, 0, none⟩))).run Try.prog w' = .ok (.tuple #[.int .i64 k, .bool x]) w' := by
  obtain ⟨D, hr⟩ := h.rng
  rcases hr.next keyed Try.underlying3 ty with h0 | ⟨k, v, d, ps, w', cnt', hk, hl, hf, hv, hrun, hr', hlt, ho, hen⟩
  · exact .inl h0
  · obtain ⟨x, rfl⟩ := bool_inv hv
    have ap : Apart P (fun b => b = r) := fun b hb e => h.nr.1 (e ▸ hb)
    have M := h.mod.only ho ap
    have O : Only0 w w' := ⟨ho.os.trans h.only.os, ho.tape.trans h.only.tape, ho.output.trans h.only.output, Nat.le_trans h.only.size ho.size, fun q hq hn => by
      rw [ho.block q (Nat.lt_of_lt_of_le hq h.only.size) (by have := h.nr.2; omega)]
      exact h.only.block q hq hn⟩
    refine .inr ⟨k, x, w', cnt', hk, h.sub k hl, hrun, fun e => ⟨⟨D, hr'⟩, M, O, h.nr, fun q hq => h.sub q (by simp at hq; exact hq.1), fun q hq hfq hlq => ?_⟩, M, O, by rw [hr'.left_eq, hr.left_eq]; exact hlt, hen⟩
    by_cases e1 : q = k
    · subst e1; exact e
    · exact h.done q hq hfq (by simpa [e1] using hlq)
theorem HoRel.drewN {B m : Nat} {w : World} {P : Nat → Prop} {s : St} {A : Ad} {b r : Nat} {f : Nat → Bool} {beg at_ : Int} {left : Nat → Bool} {cnt : Nat} {wr : World} (h : HoRel B m w P s A b r f beg at_ left cnt wr) (n : Nat) : HoRel B m w P s A b r f beg at_ left cnt (wr.drewN n) := by
  obtain ⟨D, hr⟩ := h.rng
  exact ⟨⟨D, hr.congr rfl rfl⟩, h.mod.drewN n, h.only.drewN n, h.nr, h.sub, h.done⟩

set_option maxRecDepth 100000 in
set_option maxHeartbeats 8000000 in
theorem md_holds {B m : Nat} {w : World} {P : Nat → Prop} {s : St} {A : Ad} (h : MIn B w P m s A) {j : Nat} {t : Tx} (ht : s.tx j = some t) (at_ : Int) :
    Calls Try.prog 72 #[.pointer (some ⟨m, 0, none⟩), .pointer (some ⟨A.tb j, 0, none⟩), .int .u64 at_] w fun e w' => e = .returned (.bool (s.holds t at_)) ∧ MIn B w' P m s A ∧ Only0 w w' := by
  have X := (h.txs.one j t ht).2
  have t1 : w.cell? ⟨A.tb j, 1, none⟩ = some (.int .i64 t.level) := X.blk.cell 1
  obtain ⟨t2, _, t5, t6⟩ := X.cells
  by_cases h1 : t.level = 1
  · have HR := Lib.hid (show s.holds t at_ = true by simp [St.holds, h1])
    have HH := Lib.hid h
    rw [h1] at t1
    clear h X ht h1
    go_enter Try.func72, Try.ntmps72
    go_wp2_with fail
    go_ret
    exact ⟨by rw [HR.out]; rfl, HH.out, Only0.refl _⟩
  · have h1b : (t.level == 1) = false := by simpa using h1
    obtain ⟨b, f, cb, hb, hf, hsel⟩ : ∃ (b : Nat) (f : Nat → Bool) (o : Nat), BMap w b f ∧ t.keysOf = f ∧ ((t.level = 2 ∧ o = 5 ∧ b = A.mb j 1) ∨ ((t.level == 2) = false ∧ o = 6 ∧ b = A.mb j 2)) := by
      by_cases h2 : t.level = 2
      · exact ⟨_, t.got, 5, X.gm, by simp [Tx.keysOf, h2], .inl ⟨h2, rfl, rfl⟩⟩
      · exact ⟨_, t.looked, 6, X.km, by simp [Tx.keysOf, h2], .inr ⟨by simpa using h2, rfl, rfl⟩⟩
    obtain ⟨w0, D, cnt0, hrun, hR, o0⟩ := hb.range
    obtain ⟨r, hr⟩ : ∃ r, r = w.heap.size := ⟨_, rfl⟩
    rw [← hr] at hrun hR
    have hnr : ¬ P r := fun hp => by have := h.under _ hp; omega
    have R0 : HoRel B m w P s A b r f t.beg at_ f cnt0 w0 := ⟨⟨D, hR⟩, h.only0 o0, o0, ⟨hnr, by omega⟩, fun k hk => hk, fun k _ h1 h2 => by rw [h1] at h2; cases h2⟩
    have HR0 := Lib.hid R0
    have HF := Lib.hid (show s.holds t at_ = holdsAll s f t.beg at_ by rw [← hf]; simp [St.holds, h1, holdsAll])
    have HT := Lib.hid ht
    clear h X hb hR o0 hr hnr R0 hf ht h1
    have tb0 := t2
    rcases hsel with ⟨h2, rfl, rfl⟩ | ⟨h2, rfl, rfl⟩
    · rw [h2] at t1
      clear h2 h1b
      go_enter Try.func72, Try.ntmps72
      go_wp2_with fail
      go_loopw [8] (fun _ wr => ∃ (left : Nat → Bool) (cnt : Nat), HoRel B m w P s A (A.mb j 1) r f t.beg at_ left cnt wr) (fun _ wr => wr.rangeLeft (A.mb j 1) r)
      case atStart => exact ⟨_, _, HR0.out⟩
      case round =>
        obtain ⟨left, cnt, hA⟩ := hrel
        rcases hA.next 0 with ⟨hc0, hl0, hnx⟩ | ⟨k, x, w1, cnt1, hk, hfk, hnx, hnew, M1, O1, hlt, hen⟩
        · have Q := Lib.hid (show s.holds t at_ = true ∧ MIn B wr P m s A ∧ Only0 w wr from ⟨HF.out.trans (holdsAll_yes hA.done hl0), hA.mod, hA.only⟩)
          clear hA hl0 hc0
          go_wp2_with fail
          go_ret
          exact ⟨by rw [Q.out.1]; rfl, Q.out.2⟩
        · have hcmp : ∀ n, (binOp .neq 115 (ptrOf A.va (s.at k at_)) (ptrOf A.va (s.at k t.beg))).run Try.prog (w1.drewN n) = .ok (.bool (!decide (s.at k at_ = s.at k t.beg))) (w1.drewN n) := fun n =>
            ver_ne_ptr (n := s.vs.length) (fun i hi => ⟨_, ((M1.drewN n).vers.blk i hi).1⟩) M1.vers.inj (at_lt M1) (at_lt M1)
          have HM1 := Lib.hid M1
          have hgd := fun n => ptr_guard (va := A.va) (s.at k at_) (s.at k t.beg) (.tmp 34) (.tmp 41) 115 .neq (w1.drewN n)
          have c2 := (M1.txs.one j t HT.out).2.cells.1
          by_cases e : s.at k at_ = s.at k t.beg
          · have Q := Lib.hid (hnew e)
            have Q2 := Lib.hid hlt
            rw [decide_eq_true e] at hcmp
            clear hA hnew M1 O1 hlt e
            go_wp2_with fail
            go_quiet ((go_at_call 65; exact (md_at (HM1.out.drewN _) _ _).mono fun e w' h => ⟨h.1, _, h.2.symm⟩))
            go_wp2_with fail
            go_roundw
            case rel => exact ⟨_, _, Q.out.drewN _⟩
            case measure => exact Q2.out
          · have Q := Lib.hid (show s.holds t at_ = false from HF.out.trans (holdsAll_no hk hfk e))
            have Q2 := Lib.hid O1
            rw [decide_eq_false e] at hcmp
            clear hA hnew M1 O1 hlt e
            go_wp2_with fail
            go_quiet ((go_at_call 65; exact (md_at (HM1.out.drewN _) _ _).mono fun e w' h => ⟨h.1, _, h.2.symm⟩))
            go_wp2_with fail
            go_ret
            exact ⟨by rw [Q.out]; rfl, HM1.out.drewN _, Q2.out.drewN _⟩
    · go_enter Try.func72, Try.ntmps72
      go_wp2_with fail
      go_loopw [8] (fun _ wr => ∃ (left : Nat → Bool) (cnt : Nat), HoRel B m w P s A (A.mb j 2) r f t.beg at_ left cnt wr) (fun _ wr => wr.rangeLeft (A.mb j 2) r)
      case atStart => exact ⟨_, _, HR0.out⟩
      case round =>
        obtain ⟨left, cnt, hA⟩ := hrel
        rcases hA.next 0 with ⟨hc0, hl0, hnx⟩ | ⟨k, x, w1, cnt1, hk, hfk, hnx, hnew, M1, O1, hlt, hen⟩
        · have Q := Lib.hid (show s.holds t at_ = true ∧ MIn B wr P m s A ∧ Only0 w wr from ⟨HF.out.trans (holdsAll_yes hA.done hl0), hA.mod, hA.only⟩)
          clear hA hl0 hc0
          go_wp2_with fail
          go_ret
          exact ⟨by rw [Q.out.1]; rfl, Q.out.2⟩
        · have hcmp : ∀ n, (binOp .neq 115 (ptrOf A.va (s.at k at_)) (ptrOf A.va (s.at k t.beg))).run Try.prog (w1.drewN n) = .ok (.bool (!decide (s.at k at_ = s.at k t.beg))) (w1.drewN n) := fun n =>
            ver_ne_ptr (n := s.vs.length) (fun i hi => ⟨_, ((M1.drewN n).vers.blk i hi).1⟩) M1.vers.inj (at_lt M1) (at_lt M1)
          have HM1 := Lib.hid M1
          have hgd := fun n => ptr_guard (va := A.va) (s.at k at_) (s.at k t.beg) (.tmp 34) (.tmp 41) 115 .neq (w1.drewN n)
          have c2 := (M1.txs.one j t HT.out).2.cells.1
          by_cases e : s.at k at_ = s.at k t.beg
          · have Q := Lib.hid (hnew e)
            have Q2 := Lib.hid hlt
            rw [decide_eq_true e] at hcmp
            clear hA hnew M1 O1 hlt e
            go_wp2_with fail
            go_quiet ((go_at_call 65; exact (md_at (HM1.out.drewN _) _ _).mono fun e w' h => ⟨h.1, _, h.2.symm⟩))
            go_wp2_with fail
            go_roundw
            case rel => exact ⟨_, _, Q.out.drewN _⟩
            case measure => exact Q2.out
          · have Q := Lib.hid (show s.holds t at_ = false from HF.out.trans (holdsAll_no hk hfk e))
            have Q2 := Lib.hid O1
            rw [decide_eq_false e] at hcmp
            clear hA hnew M1 O1 hlt e
            go_wp2_with fail
            go_quiet ((go_at_call 65; exact (md_at (HM1.out.drewN _) _ _).mono fun e w' h => ⟨h.1, _, h.2.symm⟩))
            go_wp2_with fail
            go_ret
            exact ⟨by rw [Q.out]; rfl, HM1.out.drewN _, Q2.out.drewN _⟩
end Go.Proofs.Ytcbhafddehipdaa

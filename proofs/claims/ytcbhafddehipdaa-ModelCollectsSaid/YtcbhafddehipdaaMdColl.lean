/-
  model.Model: Collect.
-/
import Derived.Test.YtcbhafddehipdaaMdDel
namespace Go.Proofs.Ytcbhafddehipdaa
open Go.RowKit
set_option linter.unusedVariables false
set_option linter.unusedSimpArgs false

theorem Ok.collect {s : St} (h : Ok s) : Ok s.collect :=
  ⟨h.slots, h.limit, h.now, h.made, by have := h.few; have h2 : s.kept.length ≤ s.l.length := List.length_filter_le _ _; show (s.kept.length : Int) ≤ s.slots; omega, fun i hi => h.lin i (List.mem_filter.1 hi).1, h.ops, h.refs⟩
theorem MIn.collected {B m : Nat} {w w' : World} {P : Nat → Prop} {s : St} {A : Ad} (h : MIn B w P m s A) {g : Nat} (hg : A.la = some ⟨g, 0, none⟩) {cs0 : Array Value} (h0 : Blk w g 115 cs0) (hB : B ≤ g) (hc : s.l.length ≤ A.lc) (hm : A.lc ≤ maxLen) (o : Only (fun b => b = g ∨ b = m) w w') (hb : Blk w' m 96 (modCells A s.collect)) {cs : Array Value} (hr : Blk w' g 115 cs) (hs : cs.size = A.lc)
    (hrow : ∀ k, k < s.kept.length → cs[k]? = some (.pointer (some ⟨A.va (s.kept.getD k 0), 0, none⟩))) : MIn B w' P m s.collect A := by
  have hkl : s.kept.length ≤ s.l.length := List.length_filter_le _ _
  refine ⟨hb, ⟨by simp [St.collect], .inr ⟨g, A.lc, cs, by rw [hg], hB, hr, by show s.kept.length ≤ _; omega, hm, by omega, ?_⟩⟩, h.vers.only o (fun i hi e => ?_), h.txs.only o (fun j t ht => ?_), h.ok.collect, h.pm, fun b hb' => h.pr b (by rw [hg] at hb' ⊢; exact hb'), h.under.mono o.size, h.above⟩
  · apply List.ext_getElem?
    intro k
    show (cs.toList.take (s.kept.length * 1))[k]? = (s.kept.map _)[k]?
    rw [Nat.mul_one, List.getElem?_take]
    by_cases hk : k < s.kept.length
    · have := hrow k hk
      simp [hk] at this ⊢
      exact this
    · simp [hk]
  · rcases e with e | e
    · exact h.vers.blkNe h0 (by decide) i hi e
    · exact h.vers.blkNe h.mod (by decide) i hi e
  · have X := h.txs.blkNe h0 (by decide) (by decide) j t ht
    have Y := h.txs.blkNe h.mod (by decide) (by decide) j t ht
    exact ⟨fun e => e.elim X.1 Y.1, fun q hq e => e.elim (X.2.1 q hq) (Y.2.1 q hq), fun k c hk e => e.elim (X.2.2 k c hk) (Y.2.2 k c hk)⟩

set_option maxRecDepth 100000 in
set_option maxHeartbeats 8000000 in
theorem idx_nil (w : World) (f : Value) :
    Calls Try.prog 79 #[.slice none 0 0, f] w fun e w' => e = .returned (.int .i64 (-1)) ∧ w' = w := by
  go_enter Try.func79, Try.ntmps79
  go_wp2_with fail
  go_loopw [8] (fun i wr => i = .int .i64 0 ∧ wr = w) (fun _ _ => 0)
  case atStart => exact ⟨rfl, rfl⟩
  case round =>
    obtain ⟨rfl, rfl⟩ := hrel
    go_wp2_with fail
    go_ret
    exact ⟨rfl, rfl⟩
set_option maxRecDepth 100000 in
set_option maxHeartbeats 8000000 in
theorem del_nil (w : World) (f : Value) :
    Calls Try.prog 63 #[.slice none 0 0, f] w fun e w' => e = .returned (.slice none 0 0) ∧ w' = w := by
  go_enter Try.func63, Try.ntmps63
  go_wp2_with fail
  refine (idx_nil w f).mono ?_
  rintro e w1 ⟨rfl, rfl⟩
  go_wp2_with fail
  go_ret
  exact ⟨rfl, rfl⟩

def lowStep (s : St) (a : Int) (j : Nat) : Int := match s.tx j with | some t => if t.beg < a then t.beg else a | none => a
def lowTo (s : St) (q : Nat) : Int := (List.range q).foldl (lowStep s) 18446744073709551615
theorem low_eq (s : St) : s.low = lowTo s 8 := rfl
theorem lowTo_none {s : St} {q : Nat} (h : s.tx q = none) : lowTo s (q + 1) = lowTo s q := by
  unfold lowTo; rw [List.range_succ, List.foldl_append]; simp [lowStep, h]
theorem lowTo_some {s : St} {q : Nat} {t : Tx} (h : s.tx q = some t) : lowTo s (q + 1) = if t.beg < lowTo s q then t.beg else lowTo s q := by
  unfold lowTo; rw [List.range_succ, List.foldl_append]; simp [lowStep, h]

set_option maxRecDepth 100000 in
set_option maxHeartbeats 8000000 in
theorem md_collect {B m : Nat} {w : World} {P : Nat → Prop} {s : St} (h : MAt B w P m s) :
    Calls Try.prog 34 #[.pointer (some ⟨m, 0, none⟩)] w fun e w' => e = .returned (.int .i64 ((s.l.length : Int) - (s.kept.length : Int))) ∧ MAt B w' P m s.collect ∧ Only P w w' := by
  obtain ⟨A, h⟩ := h
  obtain ⟨p0, p1, p2, p3, p4, p5, p6, p7⟩ := (h.only0 ((Only0.refl w).alloc (.cells #[.int .u64 18446744073709551615] 39))).txCell
  have HH := Lib.hid h
  clear h
  go_enter Try.func34, Try.ntmps34
  go_wp2_with fail
  go_loopw [11] (fun s11 wr => ∃ (q : Nat), s11 = .int .i64 q ∧ q ≤ 8 ∧ Hid (Only0 w wr ∧ Blk wr w.heap.size 39 #[.int .u64 (lowTo s q)])) (fun s11 _ => 8 - (intOf s11).toNat)
  case atStart => exact ⟨0, rfl, by omega, Lib.hid ⟨(Only0.refl _).alloc _, Blk.new _ _ _⟩⟩
  case round =>
    obtain ⟨q, rfl, hq, HR⟩ := hrel
    by_cases hlt : q < 8
    · have hix := tx_index A s.tx wr q hlt
      cases hu : s.tx q with
      | none =>
        rw [show txPtr A s.tx q = .pointer none by simp [txPtr, hu]] at hix
        have R := Lib.hid (show Only0 w wr ∧ Blk wr w.heap.size 39 #[.int .u64 (lowTo s (q + 1))] by rw [lowTo_none hu]; exact HR.out)
        clear hu HR
        go_wp2_with fail
        go_roundw
        case rel => exact ⟨q + 1, by go_num, by omega, R⟩
        case measure => simp [intOf]; omega
      | some t =>
        rw [show txPtr A s.tx q = .pointer (some ⟨A.tb q, 0, none⟩) by simp [txPtr, hu]] at hix
        have M := HH.out.only0 HR.out.1
        have t2 : wr.cell? ⟨A.tb q, 2, none⟩ = some (.int .u64 t.beg) := (M.txs.one q t hu).2.blk.cell 2
        have b0 : wr.cell? ⟨w.heap.size, 0, none⟩ = some (.int .u64 (lowTo s q)) := HR.out.2.cell 0
        have bf : wr.frozen? ⟨w.heap.size, 0, none⟩ = false := HR.out.2.free 0
        have hstep := lowTo_some hu
        have R := Lib.hid (show ∀ x, x = lowTo s (q + 1) → Only0 w (wr.setCell ⟨w.heap.size, 0, none⟩ (.int .u64 x)).drew ∧ Blk (wr.setCell ⟨w.heap.size, 0, none⟩ (.int .u64 x)).drew w.heap.size 39 #[.int .u64 (lowTo s (q + 1))] from fun x hx => by
          subst hx
          have o9 := Only.set1 wr w.heap.size 0 (.int .u64 (lowTo s (q + 1)))
          exact ⟨(Only0.box HR.out.1 (Nat.le_refl _) o9).drew, (HR.out.2.set 0 _).drew⟩)
        have HS := Lib.hid hstep
        clear hu HR M hstep
        generalize lowTo s q = a at *
        generalize t.beg = bg at *
        by_cases hlt2 : bg < a
        · go_wp2_with fail
          go_region
          go_wp2_with fail
          go_roundw
          case rel => exact ⟨q + 1, by go_num, by omega, Lib.hid (R.out _ (by rw [HS.out, if_pos (by omega)]))⟩
          case measure => simp [intOf]; omega
        · go_wp2_with fail
          go_region
          go_wp2_with fail
          go_roundw
          case rel => exact ⟨q + 1, by go_num, by omega, Lib.hid (R.out _ (by rw [HS.out, if_neg (by omega)]))⟩
          case measure => simp [intOf]; omega
    · obtain rfl : q = 8 := by omega
      have M := HH.out.only0 HR.out.1
      have m4 : wr.cell? ⟨m, 4, none⟩ = some (.slice A.la s.l.length A.lc) := M.mod.cell 4
      have mf : wr.frozen? ⟨m, 4, none⟩ = false := M.mod.free 4
      have hlen : s.l.length ≤ 256 := by have := M.ok.few; have := M.ok.slots; omega
      rcases M.row.2 with ⟨hv, hl0⟩ | ⟨g, cap, cur, hv, hB, hg, hn, hm, hcs, htk⟩
      · have e1 : A.la = none := by injection hv
        have e3 : A.lc = 0 := by injection hv
        rw [e1, hl0, e3] at m4
        have hk0 : s.kept = s.l := by
          have : s.l = [] := List.length_eq_zero_iff.1 hl0
          simp [St.kept, this]
        have hcol : s.collect = s := by simp [St.collect, hk0]
        have X : MAt B (wr.setCell ⟨m, 4, none⟩ (.slice none 0 0)) P m s.collect ∧ Only P w (wr.setCell ⟨m, 4, none⟩ (.slice none 0 0)) := by
          rw [hcol]
          have o' := Only.set1 wr m 4 (.slice none 0 0)
          have hb9 : Blk (wr.setCell ⟨m, 4, none⟩ (.slice none 0 0)) m 96 (modCells A s) := by
            have h5 := M.mod.set 4 (.slice none 0 0)
            have e : (modCells A s).setIfInBounds 4 (.slice none 0 0) = modCells A s := by unfold modCells; rw [e1, hl0, e3]; rfl
            rwa [e] at h5
          exact ⟨⟨A, M.setMod (slots := s.slots) (limit := s.limit) (now := s.now) (made := s.made) o' hb9 M.ok⟩, (HR.out.1.any P).trans (o'.toward (fun b hb => hb ▸ M.pm))⟩
        have HX := Lib.hid X
        have HK := Lib.hid (show (s.l.length : Int) - (s.kept.length : Int) = 0 by rw [hk0]; omega)
        clear X hcol hk0 hv hl0 M HH HR e1 e3
        go_wp2_with fail
        refine (del_nil wr _).mono ?_
        rintro e w2 ⟨rfl, rfl⟩
        go_wp2_with fail
        go_ret
        exact ⟨by rw [HK.out]; try rfl, HX.out⟩
      · have e1 : A.la = some ⟨g, 0, none⟩ := by injection hv
        have e3 : A.lc = cap := by injection hv
        rw [e1, e3] at m4
        have bx0 : wr.cell? ⟨w.heap.size, 0, none⟩ = some (.int .u64 (lowTo s 8)) := HR.out.2.cell 0
        have bxg : w.heap.size ≠ g := HR.out.2.ne hg (by decide)
        have hrow : ∀ k, k < s.l.length → cur[k]? = some (.pointer (some ⟨A.va (s.l.getD k 0), 0, none⟩)) := fun k hk => by
          have h3 := congrArg (fun z => z[k]?) htk
          rw [Nat.mul_one] at h3
          simp only [List.getElem?_take, hk, if_true, List.getElem?_map] at h3
          simpa [hk] using h3
        have ha : Asks wr g w.heap.size A.va s.l (fun i => goneB (s.ver i) s.low) := fun w1 o1 i hi => by
          have hi2 := M.ok.lin i hi
          refine md_goneV w1 (A.va i) w.heap.size (s.ver i) s.low (o1.blk (M.vers.blk i hi2).1 ((M.vers.blk i hi2).1.ne hg (by decide))) ?_
          rw [(o1.blk HR.out.2 bxg).cell]
          rfl
        have CD : Calls Try.prog 63 #[.slice (some ⟨g, 0, none⟩) s.l.length cap, .func (.func 64) #[] #[.pointer (some ⟨w.heap.size, 0, none⟩)]] wr fun e w' => e = .returned (.slice (some ⟨g, 0, none⟩) s.kept.length cap) ∧ DelOut wr w' g cur.size A.va s.kept :=
          del_vers wr g cap cur.size w.heap.size A.va s.l _ cur hlen hn (by unfold maxLen at hm; omega) hg rfl (by omega) hrow ha
        have hkl : s.kept.length ≤ s.l.length := List.length_filter_le _ _
        have FIN : ∀ w2, DelOut wr w2 g cur.size A.va s.kept → w2.cell? ⟨m, 4, none⟩ = some (.slice (some ⟨g, 0, none⟩) s.l.length cap) ∧ w2.frozen? ⟨m, 4, none⟩ = false ∧ MAt B (w2.setCell ⟨m, 4, none⟩ (.slice (some ⟨g, 0, none⟩) s.kept.length cap)) P m s.collect ∧ Only P w (w2.setCell ⟨m, 4, none⟩ (.slice (some ⟨g, 0, none⟩) s.kept.length cap)) := fun w2 hD => by
          obtain ⟨cs, k1, k2, k3, k4⟩ := hD
          have hmg : m ≠ g := M.mod.ne hg (by decide)
          have bm := k4.blk M.mod hmg
          have o' : Only (fun b => b = g ∨ b = m) wr (w2.setCell ⟨m, 4, none⟩ (.slice (some ⟨g, 0, none⟩) s.kept.length cap)) := (k4.toward (fun b hb => .inl hb)).trans ((Only.set1 w2 m 4 _).toward (fun b hb => .inr hb))
          have hb9 : Blk (w2.setCell ⟨m, 4, none⟩ (.slice (some ⟨g, 0, none⟩) s.kept.length cap)) m 96 (modCells A s.collect) := by
            rw [← e1, ← e3]
            exact bm.set 4 _
          have hr9 := (Only.set1 w2 m 4 (.slice (some ⟨g, 0, none⟩) s.kept.length cap)).blk k1 (Ne.symm hmg)
          have hPg : P g := M.pr g (by rw [e1]; exact rowOf_some.2 rfl)
          refine ⟨by rw [bm.cell, ← e1, ← e3]; rfl, bm.free 4, ⟨A, M.collected e1 hg hB (by omega) (by omega) o' hb9 hr9 (by omega) k3⟩, (HR.out.1.any P).trans (o'.toward (fun b hb => hb.elim (fun e => e ▸ hPg) (fun e => e ▸ M.pm)))⟩
        have HF := Lib.hid FIN
        clear FIN ha hrow htk hg hB hm hv M HH HR bx0 bxg hcs e1 e3
        go_wp2_with fail
        refine CD.mono ?_
        rintro e w2 ⟨rfl, hD⟩
        obtain ⟨c4, f4, X1, X2⟩ := HF.out w2 hD
        have HX := Lib.hid (And.intro X1 X2)
        clear X1 X2 hD HF CD
        go_wp2_with fail
        go_ret
        exact ⟨rfl, HX.out⟩
end Go.Proofs.Ytcbhafddehipdaa

/-
  ModelBounds: what its proof rests on, part 2.
-/
import Derived.Test.YtcbhafddehipdaaZModelBounds1
namespace Go.Proofs.Ytcbhafddehipdaa
open Go.RowKit
set_option linter.unusedVariables false
set_option linter.unusedSimpArgs false
theorem write_tx {s : St} {j k : Nat} {t : Tx} {kind value : Int} (ht : s.tx j = some t) : ∃ t1, (s.write j t kind k value).2.tx j = some t1 := by
  unfold St.write
  split
  · exact ⟨t, ht⟩
  · split
    · exact ⟨_, upd_same _ _ _⟩
    · split
      · split
        · exact ⟨_, upd_same _ _ _⟩
        · exact ⟨_, upd_same _ _ _⟩
      · exact ⟨_, upd_same _ _ _⟩
theorem write_r {s : St} {j k : Nat} {t : Tx} {kind value : Int} : (s.write j t kind k value).1 = 0 ∨ (s.write j t kind k value).1 = 2 ∨ (s.write j t kind k value).1 = 5 := by
  unfold St.write
  split
  · exact .inr (.inl rfl)
  · split
    · exact .inl rfl
    · split
      · split
        · exact .inr (.inr rfl)
        · exact .inl rfl
      · exact .inl rfl
set_option maxRecDepth 100000 in
set_option maxHeartbeats 16000000 in
theorem md_change {B m : Nat} {w : World} {P : Nat → Prop} {s : St} {A : Ad} (h : MIn B w P m s A) {j : Nat} {t : Tx} (ht : s.tx j = some t) (k : Nat) (hk : k < 64) (kind hi value : Int) :
    Calls Try.prog 54 #[.pointer (some ⟨m, 0, none⟩), .int .i64 j, .agg #[.int .i64 kind, .int .i64 k, .int .i64 hi, .int .i64 value]] w (StRes B m w P A (resV (s.change j t kind k value).1) (s.change j t kind k value).2) := by
  obtain ⟨W, hW⟩ : ∃ W, W = (w.alloc (.cells #[.int .i64 kind, .int .i64 k, .int .i64 hi, .int .i64 value] 31)).alloc (.cells #[.int .i64 0, .int .i64 0, .slice none 0 0, .int .i64 0, .int .i64 0] 27) := ⟨_, rfl⟩
  have oW : Only0 w W := by rw [hW]; exact ((Only0.refl w).alloc _).alloc _
  have M0 := h.only0 oW
  have BO : Blk W w.heap.size 31 #[.int .i64 kind, .int .i64 k, .int .i64 hi, .int .i64 value] := by rw [hW]; exact (Blk.new _ _ _).alloc _
  have BX : Blk W (w.heap.size + 1) 27 #[.int .i64 0, .int .i64 0, .slice none 0 0, .int .i64 0, .int .i64 0] := by rw [hW]; exact Blk.new' _ _ _ _ (by simp)
  have hn0 : ¬ P w.heap.size := fun hp => by have := h.under _ hp; omega
  have hn1 : ¬ P (w.heap.size + 1) := fun hp => by have := h.under _ hp; omega
  have hj := (M0.txs.one j t ht).1
  have j8 : (j : Int) < 8 := by omega
  have j0 : (0 : Int) ≤ (j : Int) := by omega
  have cj : W.cell? ⟨m, 5 + j, none⟩ = some (.pointer (some ⟨A.tb j, 0, none⟩)) := by rw [M0.sess j hj]; simp [txPtr, ht]
  have C := md_sees M0 ht k hk
  have o0 : W.cell? ⟨w.heap.size, 0, none⟩ = some (.int .i64 kind) := BO.cell 0
  have o1 : W.cell? ⟨w.heap.size, 1, none⟩ = some (.int .i64 k) := BO.cell 1
  have HM0 := Lib.hid M0
  have HT := Lib.hid ht
  have HO := Lib.hid oW
  have HB := Lib.hid BX
  have HBO := Lib.hid BO
  have H0 := Lib.hid hn0
  have H1 := Lib.hid hn1
  have hWs : w.heap.size + 1 < W.heap.size := BX.lt
  obtain ⟨n0, hn0'⟩ : ∃ n0, n0 = w.heap.size := ⟨_, rfl⟩
  have HN := Lib.hid hn0'
  rw [← hn0'] at HB HBO H0 H1 o0 o1
  obtain ⟨n1, hn1'⟩ : ∃ n1, n1 = n0 + 1 := ⟨_, rfl⟩
  have HN1 := Lib.hid hn1'
  rw [← hn1'] at HB H1
  clear h M0 BX BO oW ht hn0 hn1 hn0' hn1'
  by_cases hb : (s.sees t k).isSome = decide (kind = 2)
  · rw [show s.change j t kind k value = (.err (if (s.sees t k).isSome then 12 else 11), s.setTx j (some (t.look k))) by simp [St.change, hb]]
    have C2 := md_look HM0.out HT.out k hk
    cases hs : s.sees t k with
    | none =>
      rw [hs] at hb C C2
      have hk2 : (kind == 2) = false := by simpa using hb.symm
      rw [show ptrOf A.va none = .pointer none from rfl] at C C2
      clear hb
      go_enter Try.func54, Try.ntmps54
      go_upto_region 1 with (fail)
      rw [← hW, ← HN.out, ← HN1.out]
      clear hW
      go_wp2_with fail
      refine C.mono ?_
      rintro e w1 ⟨rfl, rfl⟩
      go_wp2_with fail
      refine C2.mono ?_
      rintro e w2 ⟨rfl, M2, o2⟩
      have B2 := o2.blk HB.out H1.out
      have HM := Lib.hid M2
      have HO2 := Lib.hid o2
      have b0 : w2.cell? ⟨n1, 0, none⟩ = some (.int .i64 0) := B2.cell 0
      have b1 : w2.cell? ⟨n1, 1, none⟩ = some (.int .i64 0) := B2.cell 1
      have b2 : w2.cell? ⟨n1, 2, none⟩ = some (.slice none 0 0) := B2.cell 2
      have b3 : w2.cell? ⟨n1, 3, none⟩ = some (.int .i64 0) := B2.cell 3
      have b4 : w2.cell? ⟨n1, 4, none⟩ = some (.int .i64 0) := B2.cell 4
      have bf := fun i => B2.free i
      have HB2 := Lib.hid B2
      clear C C2 M2 o2 B2 hs
      go_wp2_with fail
      obtain ⟨B9, o9⟩ := set5 HB2.out (.int .i64 11) (.int .i64 0) (.slice none 0 0) (.int .i64 0) (.int .i64 0)
      exact bodyPost_ret (v := .agg #[.int .i64 11, .int .i64 0, .slice none 0 0, .int .i64 0, .int .i64 0]) (results_cell_row Try.results54 _ _ n1 _ _ _ _ rfl B9 Try.underlying27 rfl info_res) rfl
        (StRes.box (by have := HN.out; have := HN1.out; omega) H1.out HM.out rfl rfl ((HO.out.any P).trans HO2.out) (Grew.refl _ _) o9)
    | some i =>
      rw [hs] at hb C C2
      have hk2 : kind = 2 := by simpa using hb.symm
      subst hk2
      rw [show ptrOf A.va (some i) = .pointer (some ⟨A.va i, 0, none⟩) from rfl] at C C2
      clear hb
      go_enter Try.func54, Try.ntmps54
      go_upto_region 1 with (fail)
      rw [← hW, ← HN.out, ← HN1.out]
      clear hW
      go_wp2_with fail
      refine C.mono ?_
      rintro e w1 ⟨rfl, rfl⟩
      go_wp2_with fail
      refine C2.mono ?_
      rintro e w2 ⟨rfl, M2, o2⟩
      have B2 := o2.blk HB.out H1.out
      have HM := Lib.hid M2
      have HO2 := Lib.hid o2
      have b0 : w2.cell? ⟨n1, 0, none⟩ = some (.int .i64 0) := B2.cell 0
      have b1 : w2.cell? ⟨n1, 1, none⟩ = some (.int .i64 0) := B2.cell 1
      have b2 : w2.cell? ⟨n1, 2, none⟩ = some (.slice none 0 0) := B2.cell 2
      have b3 : w2.cell? ⟨n1, 3, none⟩ = some (.int .i64 0) := B2.cell 3
      have b4 : w2.cell? ⟨n1, 4, none⟩ = some (.int .i64 0) := B2.cell 4
      have bf := fun i => B2.free i
      have HB2 := Lib.hid B2
      clear C C2 M2 o2 B2 hs
      go_wp2_with fail
      obtain ⟨B9, o9⟩ := set5 HB2.out (.int .i64 12) (.int .i64 0) (.slice none 0 0) (.int .i64 0) (.int .i64 0)
      exact bodyPost_ret (v := .agg #[.int .i64 12, .int .i64 0, .slice none 0 0, .int .i64 0, .int .i64 0]) (results_cell_row Try.results54 _ _ n1 _ _ _ _ rfl B9 Try.underlying27 rfl info_res) rfl
        (StRes.box (by have := HN.out; have := HN1.out; omega) H1.out HM.out rfl rfl ((HO.out.any P).trans HO2.out) (Grew.refl _ _) o9)
  · have C2 := md_write HM0.out HT.out k hk kind hi value
    obtain ⟨t1, ht1⟩ := write_tx (s := s) (j := j) (k := k) (t := t) (kind := kind) (value := value) HT.out
    have hr := write_r (s := s) (j := j) (k := k) (t := t) (kind := kind) (value := value)
    have e0 : s.change j t kind k value = if (s.write j t kind k value).1 = 0 then (.zero, (s.write j t kind k value).2) else (abortRes 14 (s.write j t kind k value).1, (s.write j t kind k value).2.kill j t1) := by
      simp only [St.change, if_neg hb, ht1]
    rw [e0]
    clear e0
    have o2 : W.cell? ⟨n0, 2, none⟩ = some (.int .i64 hi) := HBO.out.cell 2
    have o3 : W.cell? ⟨n0, 3, none⟩ = some (.int .i64 value) := HBO.out.cell 3
    -- the test's own words, whichever way
    obtain ⟨p, hp, hcmp⟩ : ∃ p : Option Addr, ptrOf A.va (s.sees t k) = .pointer p ∧ ((p = none ∧ kind = 2) ∨ ((∃ a, p = some a) ∧ (kind == 2) = false)) := by
      cases hs : s.sees t k with
      | none => exact ⟨none, rfl, .inl ⟨rfl, by rw [hs] at hb; simpa using hb⟩⟩
      | some i => exact ⟨_, rfl, .inr ⟨⟨_, rfl⟩, by rw [hs] at hb; simpa using hb⟩⟩
    rw [hp] at C
    generalize s.write j t kind k value = r at *
    obtain ⟨r, s1⟩ := r
    dsimp only at *
    have HT1 := Lib.hid ht1
    clear ht1 hb hp
    rcases hr with rfl | hr
    · rw [if_pos rfl]
      rcases hcmp with ⟨rfl, rfl⟩ | ⟨⟨a, rfl⟩, hk2⟩
      all_goals
        go_enter Try.func54, Try.ntmps54
        go_upto_region 1 with (fail)
        rw [← hW, ← HN.out, ← HN1.out]
        clear hW
        go_wp2_with fail
        refine C.mono ?_
        rintro e w1 ⟨rfl, rfl⟩
        go_wp2_with fail
        refine C2.mono ?_
        rintro e w2 ⟨A', P', rfl, M2, a1, a2, o4, g4⟩
        have nP' : ¬ P' n1 := fun hp => by
          rcases g4 n1 hp with h1 | h1
          · exact H1.out h1
          · have := HN.out; have := HN1.out; omega
        have B2 := o4.blk HB.out H1.out
        have HM := Lib.hid (show MIn B w2 P' m s1 A' ∧ A'.tb = A.tb ∧ A'.mb = A.mb ∧ Only P W w2 ∧ Grew W.heap.size P P' ∧ ¬ P' n1 from ⟨M2, a1, a2, o4, g4, nP'⟩)
        have b0 : w2.cell? ⟨n1, 0, none⟩ = some (.int .i64 0) := B2.cell 0
        have b1 : w2.cell? ⟨n1, 1, none⟩ = some (.int .i64 0) := B2.cell 1
        have b2 : w2.cell? ⟨n1, 2, none⟩ = some (.slice none 0 0) := B2.cell 2
        have b3 : w2.cell? ⟨n1, 3, none⟩ = some (.int .i64 0) := B2.cell 3
        have b4 : w2.cell? ⟨n1, 4, none⟩ = some (.int .i64 0) := B2.cell 4
        have bf := fun i => B2.free i
        have HB2 := Lib.hid B2
        clear C C2 M2 o4 B2 a1 a2 g4 nP'
        go_wp2_with fail
        obtain ⟨B9, o9⟩ := set5 HB2.out (.int .i64 0) (.int .i64 0) (.slice none 0 0) (.int .i64 0) (.int .i64 0)
        exact bodyPost_ret (v := .agg #[.int .i64 0, .int .i64 0, .slice none 0 0, .int .i64 0, .int .i64 0]) (results_cell_row Try.results54 _ _ n1 _ _ _ _ rfl B9 Try.underlying27 rfl info_res) rfl
          (StRes.box (by have := HN.out; have := HN1.out; omega) HM.out.2.2.2.2.2 HM.out.1 HM.out.2.1 HM.out.2.2.1 ((HO.out.any P).trans HM.out.2.2.2.1) (HM.out.2.2.2.2.1.base HO.out.size) o9)
    · have hr0 : r ≠ 0 := by omega
      rw [if_neg hr0]
      have hrb : (r != 0) = true := by simpa using hr0
      clear hr hr0
      rcases hcmp with ⟨rfl, rfl⟩ | ⟨⟨a, rfl⟩, hk2⟩
      all_goals
        go_enter Try.func54, Try.ntmps54
        go_upto_region 1 with (fail)
        rw [← hW, ← HN.out, ← HN1.out]
        clear hW
        go_wp2_with fail
        refine C.mono ?_
        rintro e w1 ⟨rfl, rfl⟩
        go_wp2_with fail
        refine C2.mono ?_
        rintro e w2 ⟨A', P', rfl, M2, a1, a2, o4, g4⟩
        have nP' : ¬ P' n1 := fun hp => by
          rcases g4 n1 hp with h1 | h1
          · exact H1.out h1
          · have := HN.out; have := HN1.out; omega
        have B2 := o4.blk HB.out H1.out
        have C3 := md_abort M2 HT1.out 14 r
        have HM := Lib.hid (show A'.tb = A.tb ∧ A'.mb = A.mb ∧ Only P W w2 ∧ Grew W.heap.size P P' ∧ ¬ P' n1 from ⟨a1, a2, o4, g4, nP'⟩)
        have HB2 := Lib.hid B2
        clear C C2 M2 o4 B2 a1 a2 g4 nP'
        go_wp2_with fail
        refine C3.mono ?_
        rintro e w3 ⟨A2, P2, rfl, M3, a1, a2, o5, g5⟩
        have nP2 : ¬ P2 n1 := fun hp => by
          rcases g5 n1 hp with h1 | h1
          · exact HM.out.2.2.2.2 h1
          · have := HN.out; have := HN1.out; have := HM.out.2.2.1.size; omega
        have B3 := o5.blk HB2.out HM.out.2.2.2.2
        have HM3 := Lib.hid (show MIn B w3 P2 m (s1.kill j t1) A2 ∧ A2.tb = A.tb ∧ A2.mb = A.mb ∧ Only P W w3 ∧ Grew W.heap.size P P2 ∧ ¬ P2 n1 from ⟨M3, a1.trans HM.out.1, a2.trans HM.out.2.1, HM.out.2.2.1.grewTrans HM.out.2.2.2.1 o5, HM.out.2.2.2.1.trans g5 HM.out.2.2.1.size, nP2⟩)
        have b0 : w3.cell? ⟨n1, 0, none⟩ = some (.int .i64 0) := B3.cell 0
        have b1 : w3.cell? ⟨n1, 1, none⟩ = some (.int .i64 0) := B3.cell 1
        have b2 : w3.cell? ⟨n1, 2, none⟩ = some (.slice none 0 0) := B3.cell 2
        have b3 : w3.cell? ⟨n1, 3, none⟩ = some (.int .i64 0) := B3.cell 3
        have b4 : w3.cell? ⟨n1, 4, none⟩ = some (.int .i64 0) := B3.cell 4
        have bf := fun i => B3.free i
        have HB3 := Lib.hid B3
        clear C3 M3 o5 B3 a1 a2 g5 nP2
        go_wp2_with fail
        obtain ⟨B9, o9⟩ := set5 HB3.out (.int .i64 14) (.int .i64 0) (.slice none 0 0) (.int .i64 4) (.int .i64 r)
        exact bodyPost_ret (v := .agg #[.int .i64 14, .int .i64 0, .slice none 0 0, .int .i64 4, .int .i64 r]) (results_cell_row Try.results54 _ _ n1 _ _ _ _ rfl B9 Try.underlying27 rfl info_res) rfl
          (StRes.box (by have := HN.out; have := HN1.out; omega) HM3.out.2.2.2.2.2 HM3.out.1 HM3.out.2.1 HM3.out.2.2.1 ((HO.out.any P).trans HM3.out.2.2.2.1) (HM3.out.2.2.2.2.1.base HO.out.size) o9)
end Go.Proofs.Ytcbhafddehipdaa
namespace Go.Proofs.Ytcbhafddehipdaa
open Go.RowKit
set_option linter.unusedVariables false
set_option linter.unusedSimpArgs false
def pairCells : List (Int × Int) → List Value
  | [] => []
  | p :: l => .int .i64 p.1 :: .int .i64 p.2 :: pairCells l
theorem pairCells_snoc (l : List (Int × Int)) (p : Int × Int) : pairCells (l ++ [p]) = pairCells l ++ [.int .i64 p.1, .int .i64 p.2] := by
  induction l with
  | nil => rfl
  | cons a l ih => simp only [List.cons_append, pairCells, ih]
theorem pairCells_get (l : List (Int × Int)) : ∀ i, i < l.length → (pairCells l)[i * 2]? = some (.int .i64 (l.getD i (0, 0)).1) ∧ (pairCells l)[i * 2 + 1]? = some (.int .i64 (l.getD i (0, 0)).2) := by
  induction l with
  | nil => intro i hi; simp at hi
  | cons a l ih =>
    intro i hi
    cases i with
    | zero => exact ⟨rfl, rfl⟩
    | succ i =>
      have := ih i (by simpa using hi)
      have e1 : (i + 1) * 2 = i * 2 + 2 := by omega
      have e2 : (i + 1) * 2 + 1 = i * 2 + 1 + 2 := by omega
      simp only [pairCells, e1, e2, List.getElem?_cons_succ, List.getD_cons_succ]
      exact this
/-- At an address lie pairs. -/
def PairsIn (w : World) (a : Option Addr) (ps : List (Int × Int)) : Prop :=
  ps = [] ∨ ∃ b off, a = some ⟨b, off, none⟩ ∧ ∀ i, i < ps.length → w.cell? ⟨b, off + i * 2, none⟩ = some (.int .i64 (ps.getD i (0, 0)).1) ∧ w.cell? ⟨b, off + (i * 2 + 1), none⟩ = some (.int .i64 (ps.getD i (0, 0)).2)
theorem PairsIn.only {w w' : World} {a : Option Addr} {ps : List (Int × Int)} {S : Nat → Prop} (h : PairsIn w a ps) (o : Only S w w') (hs : ∀ x, a = some x → ¬ S x.block) : PairsIn w' a ps := by
  rcases h with rfl | ⟨b, off, rfl, hc⟩
  · exact .inl rfl
  · refine .inr ⟨b, off, rfl, fun i hi => ?_⟩
    have hlt := block_lt_of_cell (hc i hi).1
    have e := o.block b hlt (hs _ rfl)
    exact ⟨(World.cell?_of_block e).trans (hc i hi).1, (World.cell?_of_block e).trans (hc i hi).2⟩
theorem PairsIn.of_own {B n c : Nat} {w : World} {a : Option Addr} {ps : List (Int × Int)} (h : w.ownsRow B 48 2 (.slice a n c) ps.length (pairCells ps)) : PairsIn w a ps := by
  rcases h.2 with ⟨_, h0⟩ | ⟨g, cap, cur, hv, _⟩
  · exact .inl (List.eq_nil_of_length_eq_zero h0)
  · injection hv with h1 h2 h3
    subst h1 h2 h3
    refine .inr ⟨g, 0, rfl, fun i hi => ?_⟩
    have G := pairCells_get ps i hi
    have e0 := h.cellAt (i * 2) (by omega)
    have e1 := h.cellAt (i * 2 + 1) (by omega)
    rw [Nat.zero_add, Nat.zero_add]
    exact ⟨e0.trans G.1, e1.trans G.2⟩
/-- What a call leaves that answers a result. -/
def ReRes (B m : Nat) (w : World) (P : Nat → Prop) (A : Ad) (r : Res) (s' : St) (e : Ending) (w' : World) : Prop :=
  ∃ (A' : Ad) (P' : Nat → Prop) (a : Option Addr) (c : Nat), e = .returned (.agg #[.int .i64 r.e, .int .i64 r.value, .slice a r.pairs.length c, .int .i64 r.over, .int .i64 r.reason]) ∧ MIn B w' P' m s' A' ∧ A'.tb = A.tb ∧ A'.mb = A.mb ∧ Only P w w' ∧ Grew w.heap.size P P' ∧
    PairsIn w' a r.pairs ∧ ∀ x, a = some x → w.heap.size ≤ x.block ∧ ¬ P' x.block
theorem StRes.re {B m : Nat} {w : World} {P : Nat → Prop} {A : Ad} {r : Res} {s' : St} {e : Ending} {w' : World} (hp : r.pairs = []) (h : StRes B m w P A (resV r) s' e w') : ReRes B m w P A r s' e w' := by
  obtain ⟨A', P', he, M, a1, a2, o, g⟩ := h
  refine ⟨A', P', none, 0, by rw [he, hp]; rfl, M, a1, a2, o, g, .inl hp, fun x hx => by cases hx⟩
/-- The loop of scan, under way: q keys are done. -/
structure ScRel (B m : Nat) (w W : World) (P : Nat → Prop) (s : St) (A : Ad) (j : Nat) (t : Tx) (lo n0 n1 q : Nat) (wr : World) (ra : Option Addr) (rc : Nat) : Prop where
  mod : MIn B wr P m (s.setTx j (some (t.lookAll lo q))) A
  box0 : Blk wr n0 27 #[.int .i64 0, .int .i64 0, .slice none 0 0, .int .i64 0, .int .i64 0]
  box1 : Blk wr n1 27 #[.int .i64 0, .int .i64 0, .slice ra ((keysFrom lo q).filterMap (s.pairOf t)).length rc, .int .i64 0, .int .i64 0]
  row : wr.ownsRow W.heap.size 48 2 (.slice ra ((keysFrom lo q).filterMap (s.pairOf t)).length rc) ((keysFrom lo q).filterMap (s.pairOf t)).length (pairCells ((keysFrom lo q).filterMap (s.pairOf t)))
  only : Only P w wr
theorem keysFrom_succ (lo q : Nat) : keysFrom lo (q + 1) = keysFrom lo q ++ [lo + q] := by unfold keysFrom; rw [List.range_succ, List.map_append]; rfl
theorem pairs_none {s : St} {t : Tx} {lo q : Nat} (h : s.sees t (lo + q) = none) : (keysFrom lo (q + 1)).filterMap (s.pairOf t) = (keysFrom lo q).filterMap (s.pairOf t) := by
  rw [keysFrom_succ, List.filterMap_append]; simp [St.pairOf, h]
theorem pairs_some {s : St} {t : Tx} {lo q i : Nat} (h : s.sees t (lo + q) = some i) : (keysFrom lo (q + 1)).filterMap (s.pairOf t) = (keysFrom lo q).filterMap (s.pairOf t) ++ [(((lo + q : Nat) : Int), (s.ver i).value)] := by
  rw [keysFrom_succ, List.filterMap_append]; simp [St.pairOf, h]
theorem pairs_few (s : St) (t : Tx) (lo q : Nat) : ((keysFrom lo q).filterMap (s.pairOf t)).length ≤ q := by
  refine Nat.le_trans (List.length_filterMap_le _ _) ?_
  simp [keysFrom]
theorem lookAll_zero (t : Tx) (lo : Nat) : t.lookAll lo 0 = t := by
  unfold Tx.lookAll
  have : (fun k => t.looked k || (decide (lo ≤ k) && decide (k < lo + 0))) = t.looked := by funext k; simp; intro h1 h2; omega
  rw [this]
theorem lookAll_succ (t : Tx) (lo q : Nat) : ({ (t.lookAll lo q).look (lo + q) with looked := upd ((t.lookAll lo q).look (lo + q)).looked (lo + q) true } : Tx) = t.lookAll lo (q + 1) := by
  unfold Tx.lookAll Tx.look
  have e : ∀ f g : Nat → Bool, (∀ k, f k = g k) → ({ t with looked := f } : Tx) = { t with looked := g } := fun f g h => by rw [show f = g from funext h]
  split
  · refine e _ _ (fun k => ?_)
    by_cases h : k = lo + q
    · subst h; simp [upd]
    · simp only [upd, h, if_false]
      congr 2
      rw [Bool.eq_iff_iff]; simp; omega
  · refine e _ _ (fun k => ?_)
    by_cases h : k = lo + q
    · subst h; simp [upd]
    · simp only [upd, h, if_false]
      congr 2
      rw [Bool.eq_iff_iff]; simp; omega
set_option maxRecDepth 100000 in
theorem info_pair : (Try.prog.info? 48).map (fun i => (i.zero, i.size, i.bytes)) = some (some (.agg #[.int .i64 0, .int .i64 0]), 2, 16) := by kernel_rfl
/-- A pair is put into the row. -/
theorem scan_app {B m : Nat} {w W w2 w1 : World} {P : Nat → Prop} {s2 : St} {A : Ad} {n0 n1 gg cap : Nat} {ra : Option Addr} {rc : Nat} {ps : List (Int × Int)} {p : Int × Int} (M : MIn B w2 P m s2 A) (hn0 : n0 < W.heap.size) (hn1 : n1 < W.heap.size) (h01 : n0 ≠ n1) (hP1 : ¬ P n1) (hPW : ∀ b, P b → b < W.heap.size)
    (hww : w.heap.size ≤ n1) (B0 : Blk w2 n0 27 #[.int .i64 0, .int .i64 0, .slice none 0 0, .int .i64 0, .int .i64 0]) (B1 : Blk w2 n1 27 #[.int .i64 0, .int .i64 0, .slice ra ps.length rc, .int .i64 0, .int .i64 0])
    (hrow : w2.ownsRow W.heap.size 48 2 (.slice ra ps.length rc) ps.length (pairCells ps)) (O : Only P w w2) (hWs : w.heap.size ≤ W.heap.size) (hW2 : W.heap.size ≤ w2.heap.size)
    (hown2 : w1.ownsRow W.heap.size 48 2 (.slice (some ⟨gg, 0, none⟩) (ps.length + 1) cap) (ps.length + 1) (pairCells ps ++ [.int .i64 p.1, .int .i64 p.2]))
    (hgrow : ((w2.alloc (.cells #[.int .i64 p.1, .int .i64 p.2] 48)).drew).grownBy w1 (Value.slice ra ps.length rc).ownBlock) (hlt : gg < w1.heap.size) :
    MIn B (w1.setCell ⟨n1, 2, none⟩ (.slice (some ⟨gg, 0, none⟩) (ps.length + 1) cap)) P m s2 A ∧ Blk (w1.setCell ⟨n1, 2, none⟩ (.slice (some ⟨gg, 0, none⟩) (ps.length + 1) cap)) n0 27 #[.int .i64 0, .int .i64 0, .slice none 0 0, .int .i64 0, .int .i64 0] ∧
      Blk (w1.setCell ⟨n1, 2, none⟩ (.slice (some ⟨gg, 0, none⟩) (ps.length + 1) cap)) n1 27 #[.int .i64 0, .int .i64 0, .slice (some ⟨gg, 0, none⟩) (ps ++ [p]).length cap, .int .i64 0, .int .i64 0] ∧
      (w1.setCell ⟨n1, 2, none⟩ (.slice (some ⟨gg, 0, none⟩) (ps.length + 1) cap)).ownsRow W.heap.size 48 2 (.slice (some ⟨gg, 0, none⟩) (ps ++ [p]).length cap) (ps ++ [p]).length (pairCells (ps ++ [p])) ∧ Only P w (w1.setCell ⟨n1, 2, none⟩ (.slice (some ⟨gg, 0, none⟩) (ps.length + 1) cap)) := by
  obtain ⟨W6, hW6⟩ : ∃ W6, W6 = (w2.alloc (.cells #[.int .i64 p.1, .int .i64 p.2] 48)).drew := ⟨_, rfl⟩
  rw [← hW6] at hgrow
  have o6 : Only0 w2 W6 := by rw [hW6]; exact ((Only0.refl _).alloc _).drew
  have hab : ∀ b, rowOf (.slice ra ps.length rc) b → W.heap.size ≤ b := fun b hb => rows_above hrow b hb
  have oR : Only (rowOf (.slice ra ps.length rc)) W6 w1 := ⟨hgrow.os, hgrow.tape, hgrow.output, hgrow.size, fun b hb hn => hgrow.block b hb (fun e => hn e.symm)⟩
  have O2 : Only (fun b => b = n1 ∨ rowOf (.slice ra ps.length rc) b) w2 (w1.setCell ⟨n1, 2, none⟩ (.slice (some ⟨gg, 0, none⟩) (ps.length + 1) cap)) := ((o6.any _).trans (oR.toward (fun b hb => .inr hb))).setCell (fun _ => .inl rfl) _
  have C1 : Blk w1 n1 27 #[.int .i64 0, .int .i64 0, .slice ra ps.length rc, .int .i64 0, .int .i64 0] := oR.blk (o6.blk B1 (fun h => h)) (fun hb => by have := hab _ hb; omega)
  have hgn : gg ≠ n1 := by
    rintro rfl
    exact rows_ne hown2 C1 (by decide) (rowOf_some.2 rfl)
  refine ⟨M.only O2 (fun b hb hS => ?_), O2.blk B0 (fun hS => ?_), ?_, ?_, O.grewTrans (P2 := fun b => P b ∨ w.heap.size ≤ b) (fun b hb => hb) (O2.toward (fun b hS => ?_))⟩
  · rcases hS with rfl | hS
    · exact hP1 hb
    · have := hab _ hS; have := hPW b hb; omega
  · rcases hS with e | hS
    · exact h01 e
    · have := hab _ hS; omega
  · have := C1.set 2 (.slice (some ⟨gg, 0, none⟩) (ps.length + 1) cap)
    simpa using this
  · have := ownsRow_setCell_other hown2 (a := ⟨n1, 2, none⟩) (fun e => hgn (by simpa [Value.ownBlock] using e)) (.slice (some ⟨gg, 0, none⟩) (ps.length + 1) cap)
    rw [pairCells_snoc]
    simpa using this
  · rcases hS with rfl | hS
    · exact .inr hww
    · exact .inr (by have := hab _ hS; omega)
set_option maxRecDepth 100000 in
set_option maxHeartbeats 16000000 in
theorem md_scan {B m : Nat} {w : World} {P : Nat → Prop} {s : St} {A : Ad} (h : MIn B w P m s A) {j : Nat} {t : Tx} (ht : s.tx j = some t) (lo hi : Nat) (hlo : lo ≤ hi) (hhi : hi < 64) :
    Calls Try.prog 53 #[.pointer (some ⟨m, 0, none⟩), .pointer (some ⟨A.tb j, 0, none⟩), .int .i64 lo, .int .i64 hi] w (ReRes B m w P A (s.scan j t lo (hi + 1 - lo)).1 (s.scan j t lo (hi + 1 - lo)).2) := by
  obtain ⟨W, hW⟩ : ∃ W, W = (w.alloc (.cells #[.int .i64 0, .int .i64 0, .slice none 0 0, .int .i64 0, .int .i64 0] 27)).alloc (.cells #[.int .i64 0, .int .i64 0, .slice none 0 0, .int .i64 0, .int .i64 0] 27) := ⟨_, rfl⟩
  have oW : Only0 w W := by rw [hW]; exact ((Only0.refl w).alloc _).alloc _
  have M0 := h.only0 oW
  have B0 : Blk W w.heap.size 27 #[.int .i64 0, .int .i64 0, .slice none 0 0, .int .i64 0, .int .i64 0] := by rw [hW]; exact (Blk.new _ _ _).alloc _
  have B1 : Blk W (w.heap.size + 1) 27 #[.int .i64 0, .int .i64 0, .slice none 0 0, .int .i64 0, .int .i64 0] := by rw [hW]; exact Blk.new' _ _ _ _ (by simp)
  have hu := h.under
  have hWs : W.heap.size = w.heap.size + 2 := by rw [hW]; simp
  obtain ⟨n0, hn0⟩ : ∃ n0, n0 = w.heap.size := ⟨_, rfl⟩
  obtain ⟨n1, hn1⟩ : ∃ n1, n1 = n0 + 1 := ⟨_, rfl⟩
  have R0 : ScRel B m w W P s A j t lo n0 n1 0 W none 0 := ⟨by rw [lookAll_zero, setTx_self ht]; exact M0, by rw [hn0]; exact B0, by rw [hn1, hn0]; exact B1, World.ownsRow_nil _ _ _ _, oW.any P⟩
  have HS := Lib.hid (show n0 < W.heap.size ∧ n1 < W.heap.size ∧ n0 ≠ n1 ∧ ¬ P n0 ∧ ¬ P n1 ∧ (∀ b, P b → b < W.heap.size) ∧ w.heap.size ≤ n0 ∧ w.heap.size ≤ n1 ∧ w.heap.size ≤ W.heap.size ∧ W.heap.size ≤ n1 + 1 from
    ⟨by omega, by omega, by omega, fun hp => by have := hu _ hp; omega, fun hp => by have := hu _ hp; omega, fun b hb => by have := hu _ hb; omega, by omega, by omega, by omega, by omega⟩)
  have HN := Lib.hid hn0
  have HN1 := Lib.hid hn1
  have HR0 := Lib.hid R0
  have HT := Lib.hid ht
  obtain ⟨i0, hi0, hz0, hz1, hz2⟩ := info_parts info_pair
  clear h M0 B0 B1 hu hWs hn0 hn1 R0 ht oW
  go_enter Try.func53, Try.ntmps53
  go_upto_region 2 with (fail)
  rw [← hW, ← HN.out, ← HN1.out]
  clear hW
  go_wp2_with fail
  go_loopw [10] (fun s10 wr => ∃ (q kk : Nat) (ra : Option Addr) (rc : Nat), s10 = .int .i64 kk ∧ Hid (kk = lo + q ∧ q ≤ hi + 1 - lo) ∧ kk ≤ hi + 1 ∧ Hid (ScRel B m w W P s A j t lo n0 n1 q wr ra rc)) (fun s10 _ => hi + 1 - (intOf s10).toNat)
  case atStart => exact ⟨0, lo, none, 0, rfl, Lib.hid ⟨rfl, by omega⟩, by omega, HR0⟩
  case round =>
    obtain ⟨q, kk, ra, rc, rfl, HK, hkb, HR⟩ := hrel
    by_cases hlt : kk ≤ hi
    · have hk64 : kk < 64 := by omega
      have T1 : (s.setTx j (some (t.lookAll lo q))).tx j = some (t.lookAll lo q) := by simp [St.setTx, upd_same]
      have HT1 := Lib.hid T1
      have C := md_look HR.out.mod T1 kk hk64
      rw [show (s.setTx j (some (t.lookAll lo q))).sees (t.lookAll lo q) kk = s.sees t kk from rfl, setTx_setTx] at C
      have hlen := pairs_few s t lo q
      have hq64 : q ≤ 64 := by have := HK.out.2; omega
      have NEXT : ∀ (w3 : World) (ra' : Option Addr) (rc' : Nat), MIn B w3 P m (s.setTx j (some ((t.lookAll lo q).look kk))) A → Blk w3 n0 27 #[.int .i64 0, .int .i64 0, .slice none 0 0, .int .i64 0, .int .i64 0] → Blk w3 n1 27 #[.int .i64 0, .int .i64 0, .slice ra' ((keysFrom lo (q + 1)).filterMap (s.pairOf t)).length rc', .int .i64 0, .int .i64 0] →
          w3.ownsRow W.heap.size 48 2 (.slice ra' ((keysFrom lo (q + 1)).filterMap (s.pairOf t)).length rc') ((keysFrom lo (q + 1)).filterMap (s.pairOf t)).length (pairCells ((keysFrom lo (q + 1)).filterMap (s.pairOf t))) → Only P w w3 →
          w3.cell? ⟨A.tb j, 6, none⟩ = some (.map (some (A.mb j 2))) ∧ ∃ w', (Instr.mapUpdate 98 (.map (some (A.mb j 2))) (.int .i64 kk) (.bool true)).run Try.prog w3 = .ok () w' ∧ Hid (ScRel B m w W P s A j t lo n0 n1 (q + 1) w' ra' rc') := by
        intro w3 ra' rc' M3 b0 b1 r3 o3
        have T3 : (s.setTx j (some ((t.lookAll lo q).look kk))).tx j = some ((t.lookAll lo q).look kk) := by simp [St.setTx, upd_same]
        have X3 := (M3.txs.one j _ T3).2
        obtain ⟨w', hst, hb, ho⟩ := X3.km.store kk hk64
        have M4 := M3.setLooked T3 ho hb
        have hkq := HK.out.1
        rw [setTx_setTx, hkq, lookAll_succ] at M4
        have hpm := X3.pm 2 (by omega)
        have oP : Only P w3 w' := ho.toward (fun b hb => by subst hb; exact hpm)
        refine ⟨X3.cells.2.2.2, w', hst, Lib.hid ⟨M4, oP.blk b0 HS.out.2.2.2.1, oP.blk b1 HS.out.2.2.2.2.1, rows_only r3 oP (fun b hb hp => ?_), o3.trans oP⟩⟩
        have := rows_above r3 b hb; have := HS.out.2.2.2.2.2.1 b hp; omega
      have HNEXT := Lib.hid NEXT
      cases hs : s.sees t kk with
      | none =>
        rw [hs, show ptrOf A.va none = .pointer none from rfl] at C
        have HE := Lib.hid (pairs_none (s := s) (t := t) (lo := lo) (q := q) (by rw [← HK.out.1]; exact hs))
        clear NEXT T1 hs
        go_wp2_with fail
        refine C.mono ?_
        rintro e w2 ⟨rfl, M2, o2⟩
        obtain ⟨c6, w', hst, HR'⟩ := HNEXT.out w2 ra rc M2 (o2.blk HR.out.box0 HS.out.2.2.2.1) (by rw [HE.out]; exact o2.blk HR.out.box1 HS.out.2.2.2.2.1) (by
          rw [HE.out]
          exact rows_only HR.out.row o2 (fun b hb hp => by have := rows_above HR.out.row b hb; have := HS.out.2.2.2.2.2.1 b hp; omega)) (HR.out.only.trans o2)
        have HK' := Lib.hid (show kk + 1 = lo + (q + 1) ∧ q + 1 ≤ hi + 1 - lo by have := HK.out; omega)
        clear C M2 o2 HK hq64 hlen
        go_wp2_with fail
        go_roundw
        case rel => exact ⟨q + 1, kk + 1, ra, rc, by go_num, HK', by omega, HR'⟩
        case measure => simp [intOf]; omega
      | some i =>
        rw [hs, show ptrOf A.va (some i) = .pointer (some ⟨A.va i, 0, none⟩) from rfl] at C
        have HE := Lib.hid (pairs_some (s := s) (t := t) (lo := lo) (q := q) (i := i) (by rw [← HK.out.1]; exact hs))
        have hi' : i < s.vs.length := by
          unfold St.sees at hs
          cases hc : t.cells kk with
          | none => rw [hc] at hs; exact at_lt HR.out.mod (key := kk) (at_ := t.beg) i hs
          | some c =>
            rw [hc] at hs
            simp only at hs
            split at hs
            · exact (HR.out.mod.ok.refs j _ kk c T1 hc).1 i hs
            · cases hs
        clear NEXT T1 hs
        obtain ⟨ps, hps⟩ : ∃ ps, ps = (keysFrom lo q).filterMap (s.pairOf t) := ⟨_, rfl⟩
        have B1 := HR.out.box1
        have RW := HR.out.row
        rw [← hps] at B1 RW hlen
        rw [← hps] at HE
        clear hps
        go_wp2_with fail
        refine C.mono ?_
        rintro e w2 ⟨rfl, M2, o2⟩
        have b0 := o2.blk HR.out.box0 HS.out.2.2.2.1
        have b1 := o2.blk B1 HS.out.2.2.2.2.1
        have r2 := rows_only RW o2 (fun b hb hp => by have := rows_above RW b hb; have := HS.out.2.2.2.2.2.1 b hp; omega)
        have o3 := HR.out.only.trans o2
        have hW2 : W.heap.size ≤ w2.heap.size := by have := b1.lt; have := HS.out.2.2.2.2.2.2.2.2.2; omega
        have v1 : w2.cell? ⟨A.va i, 1, none⟩ = some (.int .i64 (s.ver i).value) := (M2.vers.blk i hi').1.cell 1
        generalize (s.ver i).value = x at *
        rw [← HK.out.1] at HE
        have nrow : ¬ rowOf (.slice ra ps.length rc) n1 := fun hb => by have := rows_above r2 _ hb; have := HS.out.2.1; omega
        have APP := fun gg cap w1 h1 h2 h3 => scan_app (p := ((kk : Int), x)) (gg := gg) (cap := cap) (w1 := w1) M2 HS.out.1 HS.out.2.1 HS.out.2.2.1 HS.out.2.2.2.2.1 HS.out.2.2.2.2.2.1 HS.out.2.2.2.2.2.2.2.1 b0 b1 r2 o3 HS.out.2.2.2.2.2.2.2.2.1 hW2 h1 h2 h3
        have HAPP := Lib.hid APP
        have d2 : w2.cell? ⟨n1, 2, none⟩ = some (.slice ra ps.length rc) := b1.cell 2
        obtain ⟨W6, hW6⟩ : ∃ W6, W6 = (w2.alloc (.cells #[.int .i64 kk, .int .i64 x] 48)).drew := ⟨_, rfl⟩
        have o6 : Only0 w2 W6 := by rw [hW6]; exact ((Only0.refl _).alloc _).drew
        have m6 : W6.cell? ⟨n1, 2, none⟩ = some (.slice ra ps.length rc) := (o6.blk b1 (fun h => h)).cell 2
        have f6 := (o6.blk b1 (fun h => h)).free 2
        have R6 := rows_only r2 o6 (fun _ _ hf => hf)
        have hn6 : n1 < W6.heap.size := Nat.lt_of_lt_of_le b1.lt o6.size
        rw [hW6] at m6 f6 R6 hn6
        clear C M2 o2 B1 RW b0 b1 r2 o3 hi' APP hW6 o6
        go_wp2_with fail
        go_region_law
          ((refine step_append_lies _ (by rfl) _ _ _ (by rfl) W.heap.size 48 i0 _ 2 16 Try.underlying25 hi0 hz0 hz1 hz2 rfl (by omega) (.slice ra ps.length rc) ps.length (pairCells ps) (by rfl) R6
              ⟨w2.heap.size, 0, none⟩ 1 1 [.int .i64 kk, .int .i64 x] (by rfl) (by rfl) (World.news_of_block (cs := #[.int .i64 kk, .int .i64 x]) (t := 48) (fr := (0, 0)) (heap_alloc_new w2 _)) (by simp [Value.oneCell'])
              (by omega) (by unfold maxLen; omega) (by omega) (by simp; omega) (w2.heap.size + 1) (by simp) ?_; intro gg cap w1 hown2 hgrow hat hlt2
            have cz : w1.cell? ⟨n1, 2, none⟩ = some (.slice ra ps.length rc) := (hgrow.cell_far ⟨n1, 2, none⟩ hn6 (fun e => nrow e.symm)).trans m6
            have fz1 : w1.frozen? ⟨n1, 2, none⟩ = false := (hgrow.frozen_far ⟨n1, 2, none⟩ hn6 (fun e => nrow e.symm)).trans f6))
        all_goals
          obtain ⟨M5, b0, b1, r5, o5⟩ := HAPP.out gg cap w1 hown2 hgrow hlt2
          rw [← HE.out] at b1 r5
          generalize hW7 : World.setCell w1 _ _ = W7 at *
          obtain ⟨c6, w', hst, HR'⟩ := HNEXT.out W7 _ cap M5 b0 b1 r5 o5
          have HK' := Lib.hid (show kk + 1 = lo + (q + 1) ∧ q + 1 ≤ hi + 1 - lo by have := HK.out; omega)
          clear M5 b0 b1 r5 o5 hown2 hgrow hat hlt2 cz fz1 HK hq64 hlen hW7
          go_wp2_with fail
          go_roundw
          case rel => exact ⟨q + 1, kk + 1, _, cap, by go_num, HK', by omega, HR'⟩
          case measure => simp [intOf]; omega
    · have hkq := HK.out
      have hqn : q = hi + 1 - lo := by omega
      clear hkq
      have R := HR.out
      rw [hqn] at R
      have HRR := Lib.hid R
      obtain ⟨ps, hps⟩ : ∃ ps, ps = (keysFrom lo (hi + 1 - lo)).filterMap (s.pairOf t) := ⟨_, rfl⟩
      have B1 := R.box1
      have B0 := R.box0
      have RW := R.row
      rw [← hps] at B1 RW
      have HP := Lib.hid hps
      have a0 : wr.cell? ⟨n1, 0, none⟩ = some (.int .i64 0) := B1.cell 0
      have a1 : wr.cell? ⟨n1, 1, none⟩ = some (.int .i64 0) := B1.cell 1
      have a2 : wr.cell? ⟨n1, 2, none⟩ = some (.slice ra ps.length rc) := B1.cell 2
      have a3 : wr.cell? ⟨n1, 3, none⟩ = some (.int .i64 0) := B1.cell 3
      have a4 : wr.cell? ⟨n1, 4, none⟩ = some (.int .i64 0) := B1.cell 4
      have b0 : wr.cell? ⟨n0, 0, none⟩ = some (.int .i64 0) := B0.cell 0
      have b1 : wr.cell? ⟨n0, 1, none⟩ = some (.int .i64 0) := B0.cell 1
      have b2 : wr.cell? ⟨n0, 2, none⟩ = some (.slice none 0 0) := B0.cell 2
      have b3 : wr.cell? ⟨n0, 3, none⟩ = some (.int .i64 0) := B0.cell 3
      have b4 : wr.cell? ⟨n0, 4, none⟩ = some (.int .i64 0) := B0.cell 4
      have bf := fun i => B0.free i
      have HB0 := Lib.hid B0
      have HRW := Lib.hid RW
      clear hps R B0 B1 RW hqn HR HK
      go_wp2_with fail
      obtain ⟨B9, o9⟩ := set5 HB0.out (.int .i64 0) (.int .i64 0) (.slice ra ps.length rc) (.int .i64 0) (.int .i64 0)
      refine bodyPost_ret (v := .agg #[.int .i64 0, .int .i64 0, .slice ra ps.length rc, .int .i64 0, .int .i64 0]) (results_cell_row Try.results53 _ _ n0 _ _ _ _ rfl B9 Try.underlying27 rfl info_res) rfl ?_
      have ep : (s.scan j t lo (hi + 1 - lo)).1.pairs = ps := HP.out.symm
      have hra : ∀ x, ra = some x → W.heap.size ≤ x.block := fun x hx => by
        subst hx
        rcases HRW.out.2 with ⟨h0, _⟩ | ⟨g, c1, c2, hv, hg, _⟩
        · cases h0
        · injection hv with h1 h2 h3; injection h1 with h1; subst h1; exact hg
      refine ⟨A, P, ra, rc, by rw [ep]; rfl, HRR.out.mod.only o9 (fun b hb e => by subst e; exact HS.out.2.2.2.1 hb), rfl, rfl, HRR.out.only.grewTrans (P2 := fun b => P b ∨ b = n0) (fun b hb => hb.imp id (fun e => by have := HS.out.2.2.2.2.2.2.1; omega)) (o9.toward (fun b hb => .inr hb)), Grew.refl _ _, ?_, fun x hx => ?_⟩
      · rw [ep]
        exact (PairsIn.of_own HRW.out).only o9 (fun x hx e => by have := hra x hx; have := HS.out.1; omega)
      · have h1 := hra x hx
        exact ⟨by have := HS.out.2.2.2.2.2.2.2.2.1; omega, fun hp => by have := HS.out.2.2.2.2.2.1 _ hp; omega⟩
end Go.Proofs.Ytcbhafddehipdaa
namespace Go.Proofs.Ytcbhafddehipdaa
structure RVer where
  key : Int
  value : Int
  by_ : Int
  ended : Int
  beg : Int
  fin : Int
  dead : Bool
instance : Inhabited RVer := ⟨⟨0, 0, 0, 0, 0, 0, false⟩⟩
structure RRd where
  lo : Int
  hi : Int
  found : Bool
  scan : Bool
structure RTx where
  id : Int
  level : Int
  ops : Int
  beg : Int
  wrote : List Int
  reads : List RRd
def RTx.zero : RTx := ⟨0, 0, 0, 0, [], []⟩
structure RSt where
  slots : Int
  limit : Int
  v : List RVer
  s : Nat → RTx
  time : Int
  made : Int
def rOwnB (id key : Int) (v : RVer) : Bool := decide (v.key = key) && !v.dead && !decide (v.ended = id) && decide (v.by_ = id)
def rVisB (id beg key : Int) (v : RVer) : Bool := decide (v.key = key) && !v.dead && !decide (v.ended = id) && decide (v.by_ = 0) && decide (v.beg ≤ beg) && (!decide (v.ended = 0) || decide (v.fin = 0) || decide (beg < v.fin))
def RSt.sees (s : RSt) (id beg key : Int) : Option Nat := match s.v.findIdx? (rOwnB id key) with
  | some i => some i
  | none => s.v.findIdx? (rVisB id beg key)
/-- An index, or -1. -/
def idxV : Option Nat → Int
  | some i => i
  | none => -1
def rLaterB (key at_ : Int) (v : RVer) : Bool := decide (v.key = key) && !v.dead && ((decide (v.by_ = 0) && decide (at_ < v.beg)) || decide (at_ < v.fin))
def RSt.later (s : RSt) (key at_ : Int) : Bool := s.v.any (rLaterB key at_)
def rOwn2B (id key : Int) (v : RVer) : Bool := decide (v.key = key) && decide (v.by_ = id) && !v.dead
def RSt.own (s : RSt) (id key : Int) : Option Nat := s.v.findIdx? (rOwn2B id key)
def rThereB (key at_ : Int) (v : RVer) : Bool := decide (v.key = key) && !v.dead && decide (v.by_ = 0) && decide (v.beg ≤ at_) && (decide (v.fin = 0) || decide (at_ < v.fin))
def RSt.there (s : RSt) (key at_ : Int) : Option Nat := s.v.findIdx? (rThereB key at_)
def hasB (l : List Int) (n : Int) : Bool := l.any fun x => decide (x = n)
def RSt.taken (s : RSt) (id beg key : Int) : Bool := ((List.range 8).any fun i => !decide ((s.s i).id = 0) && !decide ((s.s i).id = id) && hasB (s.s i).wrote key) || s.later key beg
def RSt.setS (s : RSt) (j : Nat) (t : RTx) : RSt := { s with s := upd s.s j t }
def rOverV (id : Int) (v : RVer) : RVer := { v with ended := if v.ended = id then 0 else v.ended, dead := if v.by_ = id then true else v.dead }
def RSt.over (s : RSt) (j : Nat) : RSt := { s with v := s.v.map (rOverV (s.s j).id), s := upd s.s j RTx.zero }
def RSt.setV (s : RSt) (i : Nat) (f : RVer → RVer) : RSt := { s with v := s.v.set i (f (s.v.getD i default)) }
def RTx.read (t : RTx) (r : RRd) : RTx := { t with reads := t.reads ++ [r] }
def RTx.write (t : RTx) (key : Int) : RTx := { t with wrote := t.wrote ++ [key] }
def RSt.put1 (s : RSt) (j : Nat) (key : Int) : RSt := if hasB (s.s j).wrote key then s else s.setS j ((s.s j).write key)
def RSt.put2 (s : RSt) (at_ k : Option Nat) (id : Int) : RSt := match at_ with
  | some i => if k = some i then s else s.setV i fun v => { v with ended := id }
  | none => s
def RSt.put3 (s : RSt) (k : Option Nat) (id kind key x : Int) : RSt := match k with
  | some i => if kind = 4 then s.setV i (fun v => { v with ended := id }) else s.setV i (fun v => { v with ended := 0, value := x })
  | none => if kind = 4 then s else { s with v := s.v ++ [⟨key, x, id, 0, 0, 0, false⟩] }
def RSt.write (s : RSt) (j : Nat) (kind key x : Int) : Res × RSt :=
  if (s.sees (s.s j).id (s.s j).beg key).isSome = decide (kind = 2) then
    (.err (if (s.sees (s.s j).id (s.s j).beg key).isSome then 12 else 11), if hasB (s.s j).wrote key then s else s.setS j ((s.s j).read ⟨key, key, false, false⟩))
  else if !hasB (s.s j).wrote key && s.taken (s.s j).id (s.s j).beg key then (abortRes 14 2, s.over j)
  else if !decide (kind = 4) && (s.own (s.s j).id key).isNone && decide (s.slots ≤ s.v.length) then (abortRes 14 5, s.over j)
  else (.zero, ((s.put1 j key).put2 (s.sees (s.s j).id (s.s j).beg key) (s.own (s.s j).id key) (s.s j).id).put3 (s.own (s.s j).id key) (s.s j).id kind key x)
def RSt.pairOf (s : RSt) (id beg : Int) (k : Nat) : Option (Int × Int) := (s.sees id beg k).map fun i => ((k : Int), (s.v.getD i default).value)
/-- The keys from lo to hi. -/
def rKeys (lo hi : Int) : List Nat := keysFrom lo.toNat (hi + 1 - lo).toNat
def RSt.holdsR (s : RSt) (beg : Int) (r : RRd) : Bool := (rKeys r.lo r.hi).all fun k => decide (s.there k beg = s.there k s.time)
def RSt.holds (s : RSt) (t : RTx) : Bool := t.reads.all fun r => (decide (t.level = 2) && !r.found) || s.holdsR t.beg r
def rDoneV (id now : Int) (v : RVer) : RVer := { v with by_ := if v.by_ = id then 0 else v.by_, beg := if v.by_ = id then now else v.beg, ended := if v.ended = id then 0 else v.ended, fin := if v.ended = id then now else v.fin }
def RSt.tick (s : RSt) : RSt := { s with time := s.time + 1 }
def RSt.done (s : RSt) (j : Nat) : RSt := { s with v := s.v.map (rDoneV (s.s j).id s.time), s := upd s.s j RTx.zero }
def RSt.commit (s : RSt) (j : Nat) : Res × RSt :=
  if s.limit ≤ s.time then (abortRes 14 6, s.over j)
  else if !decide ((s.s j).level = 1) && !s.tick.holds (s.s j) then (abortRes 14 3, s.tick.over j)
  else (⟨0, 0, [], 3, 0⟩, s.tick.done j)
def RTx.op (t : RTx) : RTx := { t with ops := t.ops + 1 }
def RSt.get (s : RSt) (j : Nat) (key : Int) : Res × RSt :=
  match s.sees (s.s j).id (s.s j).beg key with
  | none => (.err 11, if hasB (s.s j).wrote key then s else s.setS j ((s.s j).read ⟨key, key, false, false⟩))
  | some i => (⟨0, (s.v.getD i default).value, [], 0, 0⟩, if hasB (s.s j).wrote key then s else s.setS j ((s.s j).read ⟨key, key, true, false⟩))
def RSt.scan (s : RSt) (j : Nat) (lo hi : Int) : Res × RSt :=
  (⟨0, 0, (rKeys lo hi).filterMap (s.pairOf (s.s j).id (s.s j).beg), 0, 0⟩, s.setS j ((s.s j).read ⟨lo, hi, false, true⟩))
def RSt.do_ (s : RSt) (j : Int) (o : MOp) : Res × Int × RSt :=
  if sessB j then
    if (s.s j.toNat).id = 0 then (.zero, 9, s)
    else if opOkB o then
      if o.kind = 7 then (abortRes 0 1, 0, s.over j.toNat)
      else if o.kind = 6 then ((s.commit j.toNat).1, 0, (s.commit j.toNat).2)
      else if 12 ≤ (s.s j.toNat).ops then (.zero, 65, s)
      else if o.kind = 1 then (((s.setS j.toNat (s.s j.toNat).op).get j.toNat o.key).1, 0, ((s.setS j.toNat (s.s j.toNat).op).get j.toNat o.key).2)
      else if o.kind = 5 then (((s.setS j.toNat (s.s j.toNat).op).scan j.toNat o.key o.hi).1, 0, ((s.setS j.toNat (s.s j.toNat).op).scan j.toNat o.key o.hi).2)
      else (((s.setS j.toNat (s.s j.toNat).op).write j.toNat o.kind o.key o.value).1, 0, ((s.setS j.toNat (s.s j.toNat).op).write j.toNat o.kind o.key o.value).2)
    else (.zero, 9, s)
  else (.zero, 1, s)
def RSt.begin (s : RSt) (j level : Int) : Int × Int × RSt :=
  if sessB j && levelB level then
    if !decide ((s.s j.toNat).id = 0) then (0, 9, s)
    else if 2000 ≤ s.made then (0, 65, s)
    else if s.limit ≤ s.time then (0, 16, s)
    else (s.made + 1, 0, { s with made := s.made + 1, time := s.time + 1, s := upd s.s j.toNat ⟨s.made + 1, level, 0, s.time + 1, [], []⟩ })
  else (0, 1, s)
def newRSt (slots limit : Int) : RSt := ⟨slots, limit, [], fun _ => RTx.zero, 0, 0⟩
/-- What holds of every such Model. -/
structure ROk (s : RSt) : Prop where
  slots : 1 ≤ s.slots ∧ s.slots ≤ 256
  limit : 1 ≤ s.limit ∧ s.limit ≤ 1099511627776
  time : 0 ≤ s.time ∧ s.time ≤ s.limit
  made : 0 ≤ s.made ∧ s.made ≤ 2000
  few : s.v.length ≤ s.slots
  ops : ∀ j, 0 ≤ (s.s j).ops ∧ (s.s j).ops ≤ 12
  wrote : ∀ j, (s.s j).wrote.length ≤ (s.s j).ops
  reads : ∀ j, (s.s j).reads.length ≤ (s.s j).ops
  span : ∀ j r, r ∈ (s.s j).reads → 0 ≤ r.lo ∧ r.lo ≤ 63 ∧ 0 ≤ r.hi ∧ r.hi ≤ 63
end Go.Proofs.Ytcbhafddehipdaa
namespace Go.Proofs.Ytcbhafddehipdaa
open Go.RowKit
set_option linter.unusedVariables false
set_option linter.unusedSimpArgs false
structure RAd where
  va : Option Addr
  vc : Nat
  wa : Nat → Option Addr
  wc : Nat → Nat
  ra : Nat → Option Addr
  rc : Nat → Nat
def rvCell (v : RVer) : List Value := [.int .i64 v.key, .int .i64 v.value, .int .i64 v.by_, .int .i64 v.ended, .int .u64 v.beg, .int .u64 v.fin, .bool v.dead]
def rvCells (l : List RVer) : List Value := l.flatMap rvCell
def rrCell (r : RRd) : List Value := [.int .i64 r.lo, .int .i64 r.hi, .bool r.found, .bool r.scan]
def rrCells (l : List RRd) : List Value := l.flatMap rrCell
def wrCells (l : List Int) : List Value := l.map (.int .i64)
/-- Six cells of a session. -/
def rtCells (A : RAd) (j : Nat) (t : RTx) : List Value := [.int .i64 t.id, .int .i64 t.level, .int .i64 t.ops, .int .u64 t.beg, .slice (A.wa j) t.wrote.length (A.wc j), .slice (A.ra j) t.reads.length (A.rc j)]
def rmList (A : RAd) (s : RSt) : List Value := [.int .i64 s.slots, .int .u64 s.limit, .slice A.va s.v.length A.vc] ++ (rtCells A 0 (s.s 0) ++ (rtCells A 1 (s.s 1) ++ (rtCells A 2 (s.s 2) ++ (rtCells A 3 (s.s 3) ++ (rtCells A 4 (s.s 4) ++ (rtCells A 5 (s.s 5) ++ (rtCells A 6 (s.s 6) ++ (rtCells A 7 (s.s 7) ++ [.int .u64 s.time, .int .i64 s.made]))))))))
def rmCells (A : RAd) (s : RSt) : Array Value := (rmList A s).toArray
/-- A cell of session j. -/
theorem rm_tx (A : RAd) (s : RSt) {j : Nat} (hj : j < 8) (f : Nat) (hf : f < 6) : (rmCells A s)[3 + j * 6 + f]? = (rtCells A j (s.s j))[f]? := by
  match j, hj with
  | 0, _ => (match f, hf with | 0, _ => rfl | 1, _ => rfl | 2, _ => rfl | 3, _ => rfl | 4, _ => rfl | 5, _ => rfl)
  | 1, _ => (match f, hf with | 0, _ => rfl | 1, _ => rfl | 2, _ => rfl | 3, _ => rfl | 4, _ => rfl | 5, _ => rfl)
  | 2, _ => (match f, hf with | 0, _ => rfl | 1, _ => rfl | 2, _ => rfl | 3, _ => rfl | 4, _ => rfl | 5, _ => rfl)
  | 3, _ => (match f, hf with | 0, _ => rfl | 1, _ => rfl | 2, _ => rfl | 3, _ => rfl | 4, _ => rfl | 5, _ => rfl)
  | 4, _ => (match f, hf with | 0, _ => rfl | 1, _ => rfl | 2, _ => rfl | 3, _ => rfl | 4, _ => rfl | 5, _ => rfl)
  | 5, _ => (match f, hf with | 0, _ => rfl | 1, _ => rfl | 2, _ => rfl | 3, _ => rfl | 4, _ => rfl | 5, _ => rfl)
  | 6, _ => (match f, hf with | 0, _ => rfl | 1, _ => rfl | 2, _ => rfl | 3, _ => rfl | 4, _ => rfl | 5, _ => rfl)
  | 7, _ => (match f, hf with | 0, _ => rfl | 1, _ => rfl | 2, _ => rfl | 3, _ => rfl | 4, _ => rfl | 5, _ => rfl)
theorem rvCells_get (l : List RVer) : ∀ i f, i < l.length → f < 7 → (rvCells l)[i * 7 + f]? = (rvCell (l.getD i default))[f]? := by
  induction l with
  | nil => intro i f hi; simp at hi
  | cons a l ih =>
    intro i f hi hf
    unfold rvCells
    rw [List.flatMap_cons]
    cases i with
    | zero =>
      rw [Nat.zero_mul, Nat.zero_add, List.getElem?_append_left (by simp [rvCell]; exact hf)]
      rfl
    | succ i =>
      have e : (i + 1) * 7 + f = i * 7 + f + 7 := by omega
      rw [List.getElem?_append_right (by simp [rvCell]; omega), e]
      have := ih i f (by simpa using hi) hf
      unfold rvCells at this
      simpa [rvCell] using this
instance : Inhabited RRd := ⟨⟨0, 0, false, false⟩⟩
theorem rrCells_get (l : List RRd) : ∀ i f, i < l.length → f < 4 → (rrCells l)[i * 4 + f]? = (rrCell (l.getD i default))[f]? := by
  induction l with
  | nil => intro i f hi; simp at hi
  | cons a l ih =>
    intro i f hi hf
    unfold rrCells
    rw [List.flatMap_cons]
    cases i with
    | zero =>
      rw [Nat.zero_mul, Nat.zero_add, List.getElem?_append_left (by simp [rrCell]; exact hf)]
      rfl
    | succ i =>
      have e : (i + 1) * 4 + f = i * 4 + f + 4 := by omega
      rw [List.getElem?_append_right (by simp [rrCell]; omega), e]
      have := ih i f (by simpa using hi) hf
      unfold rrCells at this
      simpa [rrCell] using this
/-- A document's Model lies at m. -/
structure RIn (B : Nat) (w : World) (P : Nat → Prop) (m : Nat) (s : RSt) (A : RAd) : Prop where
  mod : Blk w m 65 (rmCells A s)
  row : w.ownsRow B 112 7 (.slice A.va s.v.length A.vc) s.v.length (rvCells s.v)
  ws : ∀ j, j < 8 → w.ownsRow B 3 1 (.slice (A.wa j) (s.s j).wrote.length (A.wc j)) (s.s j).wrote.length (wrCells (s.s j).wrote)
  rs : ∀ j, j < 8 → w.ownsRow B 110 4 (.slice (A.ra j) (s.s j).reads.length (A.rc j)) (s.s j).reads.length (rrCells (s.s j).reads)
  winj : ∀ i j, i < 8 → j < 8 → i ≠ j → Apart (rowOf (.slice (A.wa i) (s.s i).wrote.length (A.wc i))) (rowOf (.slice (A.wa j) (s.s j).wrote.length (A.wc j)))
  rinj : ∀ i j, i < 8 → j < 8 → i ≠ j → Apart (rowOf (.slice (A.ra i) (s.s i).reads.length (A.rc i))) (rowOf (.slice (A.ra j) (s.s j).reads.length (A.rc j)))
  ok : ROk s
  pm : P m
  pr : ∀ b, rowOf (.slice A.va s.v.length A.vc) b → P b
  pw : ∀ j, j < 8 → ∀ b, rowOf (.slice (A.wa j) (s.s j).wrote.length (A.wc j)) b → P b
  pd : ∀ j, j < 8 → ∀ b, rowOf (.slice (A.ra j) (s.s j).reads.length (A.rc j)) b → P b
  under : Under P w.heap.size
  above : Above P B
abbrev RAt (B : Nat) (w : World) (P : Nat → Prop) (m : Nat) (s : RSt) : Prop := ∃ A, RIn B w P m s A
theorem RIn.only {B m : Nat} {w w' : World} {P S : Nat → Prop} {s : RSt} {A : RAd} (h : RIn B w P m s A) (o : Only S w w') (ap : Apart P S) : RIn B w' P m s A :=
  ⟨o.blk h.mod (ap m h.pm), rows_only h.row o (fun b hb => ap b (h.pr b hb)), fun j hj => rows_only (h.ws j hj) o (fun b hb => ap b (h.pw j hj b hb)), fun j hj => rows_only (h.rs j hj) o (fun b hb => ap b (h.pd j hj b hb)), h.winj, h.rinj, h.ok, h.pm, h.pr, h.pw, h.pd, h.under.mono o.size, h.above⟩
theorem RIn.only0 {B m : Nat} {w w' : World} {P : Nat → Prop} {s : RSt} {A : RAd} (h : RIn B w P m s A) (o : Only0 w w') : RIn B w' P m s A := h.only (S := fun _ => False) o (fun _ _ hf => hf)
/-- The row of versions: nothing, or a block. -/
theorem RIn.rowAt {B m : Nat} {w : World} {P : Nat → Prop} {s : RSt} {A : RAd} (h : RIn B w P m s A) : (A.va = none ∧ s.v.length = 0 ∧ A.vc = 0) ∨ ∃ g, A.va = some ⟨g, 0, none⟩ ∧ P g ∧ ∀ k f, k < s.v.length → f < 7 → w.cell? ⟨g, k * 7 + f, none⟩ = (rvCell (s.v.getD k default))[f]? := by
  have hr := h.row
  rcases hr.2 with ⟨e, h0⟩ | ⟨g, cap, cur, hv, _⟩
  · injection e with e1 e2 e3
    exact .inl ⟨e1, h0, e3⟩
  · have ha : A.va = some ⟨g, 0, none⟩ := by injection hv
    have hp := h.pr g (by rw [ha]; exact rowOf_some.2 rfl)
    rw [ha] at hr
    refine .inr ⟨g, ha, hp, fun k f hk hf => ?_⟩
    rw [World.ownsRow.cellAt hr (k * 7 + f) (by omega), rvCells_get _ _ _ hk hf]
theorem RIn.free {B m : Nat} {w : World} {P : Nat → Prop} {s : RSt} {A : RAd} (h : RIn B w P m s A) (i : Nat) : w.frozen? ⟨m, i, none⟩ = false := h.mod.free i
/-- The cells of session j. -/
theorem RIn.txCells {B m : Nat} {w : World} {P : Nat → Prop} {s : RSt} {A : RAd} (h : RIn B w P m s A) {j : Nat} (hj : j < 8) :
    w.cell? ⟨m, 3 + j * 6, none⟩ = some (.int .i64 (s.s j).id) ∧ w.cell? ⟨m, 3 + j * 6 + 1, none⟩ = some (.int .i64 (s.s j).level) ∧ w.cell? ⟨m, 3 + j * 6 + 2, none⟩ = some (.int .i64 (s.s j).ops) ∧ w.cell? ⟨m, 3 + j * 6 + 3, none⟩ = some (.int .u64 (s.s j).beg) ∧
      w.cell? ⟨m, 3 + j * 6 + 4, none⟩ = some (.slice (A.wa j) (s.s j).wrote.length (A.wc j)) ∧ w.cell? ⟨m, 3 + j * 6 + 5, none⟩ = some (.slice (A.ra j) (s.s j).reads.length (A.rc j)) := by
  have c : ∀ f, f < 6 → w.cell? ⟨m, 3 + j * 6 + f, none⟩ = (rtCells A j (s.s j))[f]? := fun f hf => by rw [h.mod.cell, rm_tx A s hj f hf]
  exact ⟨c 0 (by omega), c 1 (by omega), c 2 (by omega), c 3 (by omega), c 4 (by omega), c 5 (by omega)⟩
theorem RIn.head {B m : Nat} {w : World} {P : Nat → Prop} {s : RSt} {A : RAd} (h : RIn B w P m s A) :
    w.cell? ⟨m, 0, none⟩ = some (.int .i64 s.slots) ∧ w.cell? ⟨m, 1, none⟩ = some (.int .u64 s.limit) ∧ w.cell? ⟨m, 2, none⟩ = some (.slice A.va s.v.length A.vc) ∧ w.cell? ⟨m, 51, none⟩ = some (.int .u64 s.time) ∧ w.cell? ⟨m, 52, none⟩ = some (.int .i64 s.made) := by
  have c : ∀ i, w.cell? ⟨m, i, none⟩ = (rmCells A s)[i]? := fun i => h.mod.cell i
  exact ⟨c 0, c 1, c 2, c 51, c 52⟩
end Go.Proofs.Ytcbhafddehipdaa
namespace Go.Proofs.Ytcbhafddehipdaa
open Go.RowKit
set_option linter.unusedVariables false
set_option linter.unusedSimpArgs false
set_option maxHeartbeats 2000000 in
theorem md_sess (j : Int) (w : World) : Calls Try.prog 47 #[.int .i64 j] w fun e w' => e = .returned (.bool (sessB j)) ∧ w = w' := by
  by_cases h0 : 0 ≤ j
  · go_enter Try.func47, Try.ntmps47
    go_wp2_with fail
    go_ret; exact ⟨ret_bool (by simp [sessB, h0]), rfl⟩
  · go_enter Try.func47, Try.ntmps47
    go_wp2_with fail
    go_ret; exact ⟨ret_bool (by simp [sessB]; omega), rfl⟩
set_option maxHeartbeats 2000000 in
theorem md_level (n : Int) (w : World) : Calls Try.prog 56 #[.int .i64 n] w fun e w' => e = .returned (.bool (levelB n)) ∧ w = w' := by
  by_cases h0 : 1 ≤ n
  · go_enter Try.func56, Try.ntmps56
    go_wp2_with fail
    go_ret; exact ⟨ret_bool (by simp [levelB, h0]), rfl⟩
  · go_enter Try.func56, Try.ntmps56
    go_wp2_with fail
    go_ret; exact ⟨ret_bool (by simp [levelB]; omega), rfl⟩
set_option maxHeartbeats 4000000 in
theorem md_conf (slots limit : Int) (w : World) : Calls Try.prog 55 #[.agg #[.int .i64 slots, .int .u64 limit]] w fun e w' => e = .returned (.bool (confB slots limit)) ∧ Only0 w w' := by
  have hd : slots < 1 ∨ (1 ≤ slots ∧ 256 < slots) ∨ (1 ≤ slots ∧ slots ≤ 256 ∧ limit < 1) ∨ (1 ≤ slots ∧ slots ≤ 256 ∧ 1 ≤ limit ∧ 1099511627776 < limit) ∨ (1 ≤ slots ∧ slots ≤ 256 ∧ 1 ≤ limit ∧ limit ≤ 1099511627776) := by omega
  have HC : Hid (confB slots limit = (decide (1 ≤ slots) && decide (slots ≤ 256) && decide (1 ≤ limit) && decide (limit ≤ 1099511627776))) := Lib.hid rfl
  rcases hd with h1 | ⟨h1, h2⟩ | ⟨h1, h2, h3⟩ | ⟨h1, h2, h3, h4⟩ | ⟨h1, h2, h3, h4⟩
  all_goals
    go_enter Try.func55, Try.ntmps55
    go_wp2_with fail
    go_ret; exact ⟨ret_bool (by rw [HC.out]; simp; omega), (Only0.refl w).alloc _⟩
set_option maxHeartbeats 4000000 in
theorem md_ends (kind key hi value : Int) (w : World) : Calls Try.prog 49 #[.agg #[.int .i64 kind, .int .i64 key, .int .i64 hi, .int .i64 value]] w fun e w' => e = .returned (.bool (endsB ⟨kind, key, hi, value⟩)) ∧ Only0 w w' := by
  by_cases h6 : kind = 6
  · subst h6
    go_enter Try.func49, Try.ntmps49
    go_wp2_with fail
    go_ret; exact ⟨ret_bool (by simp [endsB]), (Only0.refl w).alloc _⟩
  · by_cases h7 : kind = 7
    · subst h7
      go_enter Try.func49, Try.ntmps49
      go_wp2_with fail
      go_ret; exact ⟨ret_bool (by simp [endsB]), (Only0.refl w).alloc _⟩
    · have b6 : (kind == 6) = false := by simpa using h6
      have b7 : (kind == 7) = false := by simpa using h7
      have HE := Lib.hid (show endsB ⟨kind, key, hi, value⟩ = false by simp [endsB, h6, h7])
      clear h6 h7
      go_enter Try.func49, Try.ntmps49
      go_wp2_with fail
      go_ret; exact ⟨ret_bool (by rw [HE.out]), (Only0.refl w).alloc _⟩
set_option maxHeartbeats 4000000 in
theorem opOk_1_a (key hi value : Int) (w : World) (a1 : key < 0) : Calls Try.prog 48 #[.agg #[.int .i64 1, .int .i64 key, .int .i64 hi, .int .i64 value]] w fun e w' => e = .returned (.bool false) ∧ Only0 w w' := by
  go_enter Try.func48, Try.ntmps48
  go_wp2_with fail
  go_ret; first | exact ⟨rfl, (Only0.refl w).alloc _⟩ | exact ⟨ret_bool (by simp; omega), (Only0.refl w).alloc _⟩
set_option maxHeartbeats 4000000 in
theorem opOk_1_b (key hi value : Int) (w : World) (a1 : 0 ≤ key) (a2 : 63 < key) : Calls Try.prog 48 #[.agg #[.int .i64 1, .int .i64 key, .int .i64 hi, .int .i64 value]] w fun e w' => e = .returned (.bool false) ∧ Only0 w w' := by
  go_enter Try.func48, Try.ntmps48
  go_wp2_with fail
  go_ret; first | exact ⟨rfl, (Only0.refl w).alloc _⟩ | exact ⟨ret_bool (by simp; omega), (Only0.refl w).alloc _⟩
set_option maxHeartbeats 4000000 in
theorem opOk_1_c (key hi value : Int) (w : World) (a1 : 0 ≤ key) (a2 : key ≤ 63) (a3 : (hi == 0) = false) : Calls Try.prog 48 #[.agg #[.int .i64 1, .int .i64 key, .int .i64 hi, .int .i64 value]] w fun e w' => e = .returned (.bool false) ∧ Only0 w w' := by
  go_enter Try.func48, Try.ntmps48
  go_wp2_with fail
  go_ret; first | exact ⟨rfl, (Only0.refl w).alloc _⟩ | exact ⟨ret_bool (by simp; omega), (Only0.refl w).alloc _⟩
set_option maxHeartbeats 4000000 in
theorem opOk_1_d (key value : Int) (w : World) (a1 : 0 ≤ key) (a2 : key ≤ 63) (a3 : (value == 0) = false) : Calls Try.prog 48 #[.agg #[.int .i64 1, .int .i64 key, .int .i64 0, .int .i64 value]] w fun e w' => e = .returned (.bool false) ∧ Only0 w w' := by
  go_enter Try.func48, Try.ntmps48
  go_wp2_with fail
  go_ret; first | exact ⟨rfl, (Only0.refl w).alloc _⟩ | exact ⟨ret_bool (by simp; omega), (Only0.refl w).alloc _⟩
set_option maxHeartbeats 4000000 in
theorem opOk_1_e (key : Int) (w : World) (a1 : 0 ≤ key) (a2 : key ≤ 63) : Calls Try.prog 48 #[.agg #[.int .i64 1, .int .i64 key, .int .i64 0, .int .i64 0]] w fun e w' => e = .returned (.bool true) ∧ Only0 w w' := by
  go_enter Try.func48, Try.ntmps48
  go_wp2_with fail
  go_ret; first | exact ⟨rfl, (Only0.refl w).alloc _⟩ | exact ⟨ret_bool (by simp; omega), (Only0.refl w).alloc _⟩
set_option maxHeartbeats 4000000 in
theorem opOk_4_a (key hi value : Int) (w : World) (a1 : key < 0) : Calls Try.prog 48 #[.agg #[.int .i64 4, .int .i64 key, .int .i64 hi, .int .i64 value]] w fun e w' => e = .returned (.bool false) ∧ Only0 w w' := by
  go_enter Try.func48, Try.ntmps48
  go_wp2_with fail
  go_ret; first | exact ⟨rfl, (Only0.refl w).alloc _⟩ | exact ⟨ret_bool (by simp; omega), (Only0.refl w).alloc _⟩
set_option maxHeartbeats 4000000 in
theorem opOk_4_b (key hi value : Int) (w : World) (a1 : 0 ≤ key) (a2 : 63 < key) : Calls Try.prog 48 #[.agg #[.int .i64 4, .int .i64 key, .int .i64 hi, .int .i64 value]] w fun e w' => e = .returned (.bool false) ∧ Only0 w w' := by
  go_enter Try.func48, Try.ntmps48
  go_wp2_with fail
  go_ret; first | exact ⟨rfl, (Only0.refl w).alloc _⟩ | exact ⟨ret_bool (by simp; omega), (Only0.refl w).alloc _⟩
set_option maxHeartbeats 4000000 in
theorem opOk_4_c (key hi value : Int) (w : World) (a1 : 0 ≤ key) (a2 : key ≤ 63) (a3 : (hi == 0) = false) : Calls Try.prog 48 #[.agg #[.int .i64 4, .int .i64 key, .int .i64 hi, .int .i64 value]] w fun e w' => e = .returned (.bool false) ∧ Only0 w w' := by
  go_enter Try.func48, Try.ntmps48
  go_wp2_with fail
  go_ret; first | exact ⟨rfl, (Only0.refl w).alloc _⟩ | exact ⟨ret_bool (by simp; omega), (Only0.refl w).alloc _⟩
set_option maxHeartbeats 4000000 in
theorem opOk_4_d (key value : Int) (w : World) (a1 : 0 ≤ key) (a2 : key ≤ 63) (a3 : (value == 0) = false) : Calls Try.prog 48 #[.agg #[.int .i64 4, .int .i64 key, .int .i64 0, .int .i64 value]] w fun e w' => e = .returned (.bool false) ∧ Only0 w w' := by
  go_enter Try.func48, Try.ntmps48
  go_wp2_with fail
  go_ret; first | exact ⟨rfl, (Only0.refl w).alloc _⟩ | exact ⟨ret_bool (by simp; omega), (Only0.refl w).alloc _⟩
set_option maxHeartbeats 4000000 in
theorem opOk_4_e (key : Int) (w : World) (a1 : 0 ≤ key) (a2 : key ≤ 63) : Calls Try.prog 48 #[.agg #[.int .i64 4, .int .i64 key, .int .i64 0, .int .i64 0]] w fun e w' => e = .returned (.bool true) ∧ Only0 w w' := by
  go_enter Try.func48, Try.ntmps48
  go_wp2_with fail
  go_ret; first | exact ⟨rfl, (Only0.refl w).alloc _⟩ | exact ⟨ret_bool (by simp; omega), (Only0.refl w).alloc _⟩
set_option maxHeartbeats 4000000 in
theorem opOk_2_a (key hi value : Int) (w : World) (a1 : key < 0) : Calls Try.prog 48 #[.agg #[.int .i64 2, .int .i64 key, .int .i64 hi, .int .i64 value]] w fun e w' => e = .returned (.bool false) ∧ Only0 w w' := by
  go_enter Try.func48, Try.ntmps48
  go_wp2_with fail
  go_ret; first | exact ⟨rfl, (Only0.refl w).alloc _⟩ | exact ⟨ret_bool (by simp; omega), (Only0.refl w).alloc _⟩
set_option maxHeartbeats 4000000 in
theorem opOk_2_b (key hi value : Int) (w : World) (a1 : 0 ≤ key) (a2 : 63 < key) : Calls Try.prog 48 #[.agg #[.int .i64 2, .int .i64 key, .int .i64 hi, .int .i64 value]] w fun e w' => e = .returned (.bool false) ∧ Only0 w w' := by
  go_enter Try.func48, Try.ntmps48
  go_wp2_with fail
  go_ret; first | exact ⟨rfl, (Only0.refl w).alloc _⟩ | exact ⟨ret_bool (by simp; omega), (Only0.refl w).alloc _⟩
set_option maxHeartbeats 4000000 in
theorem opOk_2_c (key hi value : Int) (w : World) (a1 : 0 ≤ key) (a2 : key ≤ 63) (a3 : (hi == 0) = false) : Calls Try.prog 48 #[.agg #[.int .i64 2, .int .i64 key, .int .i64 hi, .int .i64 value]] w fun e w' => e = .returned (.bool false) ∧ Only0 w w' := by
  go_enter Try.func48, Try.ntmps48
  go_wp2_with fail
  go_ret; first | exact ⟨rfl, (Only0.refl w).alloc _⟩ | exact ⟨ret_bool (by simp; omega), (Only0.refl w).alloc _⟩
set_option maxHeartbeats 4000000 in
theorem opOk_2_d (key value : Int) (w : World) (a1 : 0 ≤ key) (a2 : key ≤ 63) (a3 : value < 0) : Calls Try.prog 48 #[.agg #[.int .i64 2, .int .i64 key, .int .i64 0, .int .i64 value]] w fun e w' => e = .returned (.bool false) ∧ Only0 w w' := by
  go_enter Try.func48, Try.ntmps48
  go_wp2_with fail
  go_ret; first | exact ⟨rfl, (Only0.refl w).alloc _⟩ | exact ⟨ret_bool (by simp; omega), (Only0.refl w).alloc _⟩
set_option maxHeartbeats 4000000 in
theorem opOk_2_e (key value : Int) (w : World) (a1 : 0 ≤ key) (a2 : key ≤ 63) (a3 : 0 ≤ value) (a4 : 65535 < value) : Calls Try.prog 48 #[.agg #[.int .i64 2, .int .i64 key, .int .i64 0, .int .i64 value]] w fun e w' => e = .returned (.bool false) ∧ Only0 w w' := by
  go_enter Try.func48, Try.ntmps48
  go_wp2_with fail
  go_ret; first | exact ⟨rfl, (Only0.refl w).alloc _⟩ | exact ⟨ret_bool (by simp; omega), (Only0.refl w).alloc _⟩
set_option maxHeartbeats 4000000 in
theorem opOk_2_f (key value : Int) (w : World) (a1 : 0 ≤ key) (a2 : key ≤ 63) (a3 : 0 ≤ value) (a4 : value ≤ 65535) : Calls Try.prog 48 #[.agg #[.int .i64 2, .int .i64 key, .int .i64 0, .int .i64 value]] w fun e w' => e = .returned (.bool true) ∧ Only0 w w' := by
  go_enter Try.func48, Try.ntmps48
  go_wp2_with fail
  go_ret; first | exact ⟨rfl, (Only0.refl w).alloc _⟩ | exact ⟨ret_bool (by simp; omega), (Only0.refl w).alloc _⟩
set_option maxHeartbeats 4000000 in
theorem opOk_3_a (key hi value : Int) (w : World) (a1 : key < 0) : Calls Try.prog 48 #[.agg #[.int .i64 3, .int .i64 key, .int .i64 hi, .int .i64 value]] w fun e w' => e = .returned (.bool false) ∧ Only0 w w' := by
  go_enter Try.func48, Try.ntmps48
  go_wp2_with fail
  go_ret; first | exact ⟨rfl, (Only0.refl w).alloc _⟩ | exact ⟨ret_bool (by simp; omega), (Only0.refl w).alloc _⟩
set_option maxHeartbeats 4000000 in
theorem opOk_3_b (key hi value : Int) (w : World) (a1 : 0 ≤ key) (a2 : 63 < key) : Calls Try.prog 48 #[.agg #[.int .i64 3, .int .i64 key, .int .i64 hi, .int .i64 value]] w fun e w' => e = .returned (.bool false) ∧ Only0 w w' := by
  go_enter Try.func48, Try.ntmps48
  go_wp2_with fail
  go_ret; first | exact ⟨rfl, (Only0.refl w).alloc _⟩ | exact ⟨ret_bool (by simp; omega), (Only0.refl w).alloc _⟩
set_option maxHeartbeats 4000000 in
theorem opOk_3_c (key hi value : Int) (w : World) (a1 : 0 ≤ key) (a2 : key ≤ 63) (a3 : (hi == 0) = false) : Calls Try.prog 48 #[.agg #[.int .i64 3, .int .i64 key, .int .i64 hi, .int .i64 value]] w fun e w' => e = .returned (.bool false) ∧ Only0 w w' := by
  go_enter Try.func48, Try.ntmps48
  go_wp2_with fail
  go_ret; first | exact ⟨rfl, (Only0.refl w).alloc _⟩ | exact ⟨ret_bool (by simp; omega), (Only0.refl w).alloc _⟩
set_option maxHeartbeats 4000000 in
theorem opOk_3_d (key value : Int) (w : World) (a1 : 0 ≤ key) (a2 : key ≤ 63) (a3 : value < 0) : Calls Try.prog 48 #[.agg #[.int .i64 3, .int .i64 key, .int .i64 0, .int .i64 value]] w fun e w' => e = .returned (.bool false) ∧ Only0 w w' := by
  go_enter Try.func48, Try.ntmps48
  go_wp2_with fail
  go_ret; first | exact ⟨rfl, (Only0.refl w).alloc _⟩ | exact ⟨ret_bool (by simp; omega), (Only0.refl w).alloc _⟩
set_option maxHeartbeats 4000000 in
theorem opOk_3_e (key value : Int) (w : World) (a1 : 0 ≤ key) (a2 : key ≤ 63) (a3 : 0 ≤ value) (a4 : 65535 < value) : Calls Try.prog 48 #[.agg #[.int .i64 3, .int .i64 key, .int .i64 0, .int .i64 value]] w fun e w' => e = .returned (.bool false) ∧ Only0 w w' := by
  go_enter Try.func48, Try.ntmps48
  go_wp2_with fail
  go_ret; first | exact ⟨rfl, (Only0.refl w).alloc _⟩ | exact ⟨ret_bool (by simp; omega), (Only0.refl w).alloc _⟩
set_option maxHeartbeats 4000000 in
theorem opOk_3_f (key value : Int) (w : World) (a1 : 0 ≤ key) (a2 : key ≤ 63) (a3 : 0 ≤ value) (a4 : value ≤ 65535) : Calls Try.prog 48 #[.agg #[.int .i64 3, .int .i64 key, .int .i64 0, .int .i64 value]] w fun e w' => e = .returned (.bool true) ∧ Only0 w w' := by
  go_enter Try.func48, Try.ntmps48
  go_wp2_with fail
  go_ret; first | exact ⟨rfl, (Only0.refl w).alloc _⟩ | exact ⟨ret_bool (by simp; omega), (Only0.refl w).alloc _⟩
set_option maxHeartbeats 4000000 in
theorem opOk_5_a (key hi value : Int) (w : World) (a1 : key < 0) : Calls Try.prog 48 #[.agg #[.int .i64 5, .int .i64 key, .int .i64 hi, .int .i64 value]] w fun e w' => e = .returned (.bool false) ∧ Only0 w w' := by
  go_enter Try.func48, Try.ntmps48
  go_wp2_with fail
  go_ret; first | exact ⟨rfl, (Only0.refl w).alloc _⟩ | exact ⟨ret_bool (by simp; omega), (Only0.refl w).alloc _⟩
set_option maxHeartbeats 4000000 in
theorem opOk_5_b (key hi value : Int) (w : World) (a1 : 0 ≤ key) (a2 : 63 < key) : Calls Try.prog 48 #[.agg #[.int .i64 5, .int .i64 key, .int .i64 hi, .int .i64 value]] w fun e w' => e = .returned (.bool false) ∧ Only0 w w' := by
  go_enter Try.func48, Try.ntmps48
  go_wp2_with fail
  go_ret; first | exact ⟨rfl, (Only0.refl w).alloc _⟩ | exact ⟨ret_bool (by simp; omega), (Only0.refl w).alloc _⟩
set_option maxHeartbeats 4000000 in
theorem opOk_5_c (key hi value : Int) (w : World) (a1 : 0 ≤ key) (a2 : key ≤ 63) (a3 : hi < key) : Calls Try.prog 48 #[.agg #[.int .i64 5, .int .i64 key, .int .i64 hi, .int .i64 value]] w fun e w' => e = .returned (.bool false) ∧ Only0 w w' := by
  go_enter Try.func48, Try.ntmps48
  go_wp2_with fail
  go_ret; first | exact ⟨rfl, (Only0.refl w).alloc _⟩ | exact ⟨ret_bool (by simp; omega), (Only0.refl w).alloc _⟩
set_option maxHeartbeats 4000000 in
theorem opOk_5_d (key hi value : Int) (w : World) (a1 : 0 ≤ key) (a2 : key ≤ 63) (a3 : key ≤ hi) (a4 : 63 < hi) : Calls Try.prog 48 #[.agg #[.int .i64 5, .int .i64 key, .int .i64 hi, .int .i64 value]] w fun e w' => e = .returned (.bool false) ∧ Only0 w w' := by
  go_enter Try.func48, Try.ntmps48
  go_wp2_with fail
  go_ret; first | exact ⟨rfl, (Only0.refl w).alloc _⟩ | exact ⟨ret_bool (by simp; omega), (Only0.refl w).alloc _⟩
set_option maxHeartbeats 4000000 in
theorem opOk_5_e (key hi value : Int) (w : World) (a1 : 0 ≤ key) (a2 : key ≤ 63) (a3 : key ≤ hi) (a4 : hi ≤ 63) (a5 : (value == 0) = false) : Calls Try.prog 48 #[.agg #[.int .i64 5, .int .i64 key, .int .i64 hi, .int .i64 value]] w fun e w' => e = .returned (.bool false) ∧ Only0 w w' := by
  go_enter Try.func48, Try.ntmps48
  go_wp2_with fail
  go_ret; first | exact ⟨rfl, (Only0.refl w).alloc _⟩ | exact ⟨ret_bool (by simp; omega), (Only0.refl w).alloc _⟩
set_option maxHeartbeats 4000000 in
theorem opOk_5_f (key hi : Int) (w : World) (a1 : 0 ≤ key) (a2 : key ≤ 63) (a3 : key ≤ hi) (a4 : hi ≤ 63) : Calls Try.prog 48 #[.agg #[.int .i64 5, .int .i64 key, .int .i64 hi, .int .i64 0]] w fun e w' => e = .returned (.bool true) ∧ Only0 w w' := by
  go_enter Try.func48, Try.ntmps48
  go_wp2_with fail
  go_ret; first | exact ⟨rfl, (Only0.refl w).alloc _⟩ | exact ⟨ret_bool (by simp; omega), (Only0.refl w).alloc _⟩
set_option maxHeartbeats 4000000 in
theorem opOk_6_a (key hi value : Int) (w : World) (a1 : key < 0) (a3 : (key == 0) = false) : Calls Try.prog 48 #[.agg #[.int .i64 6, .int .i64 key, .int .i64 hi, .int .i64 value]] w fun e w' => e = .returned (.bool false) ∧ Only0 w w' := by
  go_enter Try.func48, Try.ntmps48
  go_wp2_with fail
  go_ret; first | exact ⟨rfl, (Only0.refl w).alloc _⟩ | exact ⟨ret_bool (by simp; omega), (Only0.refl w).alloc _⟩
set_option maxHeartbeats 4000000 in
theorem opOk_6_b (key hi value : Int) (w : World) (a1 : 0 ≤ key) (a2 : 63 < key) (a3 : (key == 0) = false) : Calls Try.prog 48 #[.agg #[.int .i64 6, .int .i64 key, .int .i64 hi, .int .i64 value]] w fun e w' => e = .returned (.bool false) ∧ Only0 w w' := by
  go_enter Try.func48, Try.ntmps48
  go_wp2_with fail
  go_ret; first | exact ⟨rfl, (Only0.refl w).alloc _⟩ | exact ⟨ret_bool (by simp; omega), (Only0.refl w).alloc _⟩
set_option maxHeartbeats 4000000 in
theorem opOk_6_c (key hi value : Int) (w : World) (a1 : 0 ≤ key) (a2 : key ≤ 63) (a3 : (key == 0) = false) : Calls Try.prog 48 #[.agg #[.int .i64 6, .int .i64 key, .int .i64 hi, .int .i64 value]] w fun e w' => e = .returned (.bool false) ∧ Only0 w w' := by
  go_enter Try.func48, Try.ntmps48
  go_wp2_with fail
  go_ret; first | exact ⟨rfl, (Only0.refl w).alloc _⟩ | exact ⟨ret_bool (by simp; omega), (Only0.refl w).alloc _⟩
set_option maxHeartbeats 4000000 in
theorem opOk_6_d (hi value : Int) (w : World) (a3 : (hi == 0) = false) : Calls Try.prog 48 #[.agg #[.int .i64 6, .int .i64 0, .int .i64 hi, .int .i64 value]] w fun e w' => e = .returned (.bool false) ∧ Only0 w w' := by
  go_enter Try.func48, Try.ntmps48
  go_wp2_with fail
  go_ret; first | exact ⟨rfl, (Only0.refl w).alloc _⟩ | exact ⟨ret_bool (by simp; omega), (Only0.refl w).alloc _⟩
set_option maxHeartbeats 4000000 in
theorem opOk_6_e (value : Int) (w : World) (a3 : (value == 0) = false) : Calls Try.prog 48 #[.agg #[.int .i64 6, .int .i64 0, .int .i64 0, .int .i64 value]] w fun e w' => e = .returned (.bool false) ∧ Only0 w w' := by
  go_enter Try.func48, Try.ntmps48
  go_wp2_with fail
  go_ret; first | exact ⟨rfl, (Only0.refl w).alloc _⟩ | exact ⟨ret_bool (by simp; omega), (Only0.refl w).alloc _⟩
set_option maxHeartbeats 4000000 in
theorem opOk_6_f  (w : World)  : Calls Try.prog 48 #[.agg #[.int .i64 6, .int .i64 0, .int .i64 0, .int .i64 0]] w fun e w' => e = .returned (.bool true) ∧ Only0 w w' := by
  go_enter Try.func48, Try.ntmps48
  go_wp2_with fail
  go_ret; first | exact ⟨rfl, (Only0.refl w).alloc _⟩ | exact ⟨ret_bool (by simp; omega), (Only0.refl w).alloc _⟩
set_option maxHeartbeats 4000000 in
theorem opOk_7_a (key hi value : Int) (w : World) (a1 : key < 0) (a3 : (key == 0) = false) : Calls Try.prog 48 #[.agg #[.int .i64 7, .int .i64 key, .int .i64 hi, .int .i64 value]] w fun e w' => e = .returned (.bool false) ∧ Only0 w w' := by
  go_enter Try.func48, Try.ntmps48
  go_wp2_with fail
  go_ret; first | exact ⟨rfl, (Only0.refl w).alloc _⟩ | exact ⟨ret_bool (by simp; omega), (Only0.refl w).alloc _⟩
set_option maxHeartbeats 4000000 in
theorem opOk_7_b (key hi value : Int) (w : World) (a1 : 0 ≤ key) (a2 : 63 < key) (a3 : (key == 0) = false) : Calls Try.prog 48 #[.agg #[.int .i64 7, .int .i64 key, .int .i64 hi, .int .i64 value]] w fun e w' => e = .returned (.bool false) ∧ Only0 w w' := by
  go_enter Try.func48, Try.ntmps48
  go_wp2_with fail
  go_ret; first | exact ⟨rfl, (Only0.refl w).alloc _⟩ | exact ⟨ret_bool (by simp; omega), (Only0.refl w).alloc _⟩
set_option maxHeartbeats 4000000 in
theorem opOk_7_c (key hi value : Int) (w : World) (a1 : 0 ≤ key) (a2 : key ≤ 63) (a3 : (key == 0) = false) : Calls Try.prog 48 #[.agg #[.int .i64 7, .int .i64 key, .int .i64 hi, .int .i64 value]] w fun e w' => e = .returned (.bool false) ∧ Only0 w w' := by
  go_enter Try.func48, Try.ntmps48
  go_wp2_with fail
  go_ret; first | exact ⟨rfl, (Only0.refl w).alloc _⟩ | exact ⟨ret_bool (by simp; omega), (Only0.refl w).alloc _⟩
set_option maxHeartbeats 4000000 in
theorem opOk_7_d (hi value : Int) (w : World) (a3 : (hi == 0) = false) : Calls Try.prog 48 #[.agg #[.int .i64 7, .int .i64 0, .int .i64 hi, .int .i64 value]] w fun e w' => e = .returned (.bool false) ∧ Only0 w w' := by
  go_enter Try.func48, Try.ntmps48
  go_wp2_with fail
  go_ret; first | exact ⟨rfl, (Only0.refl w).alloc _⟩ | exact ⟨ret_bool (by simp; omega), (Only0.refl w).alloc _⟩
set_option maxHeartbeats 4000000 in
theorem opOk_7_e (value : Int) (w : World) (a3 : (value == 0) = false) : Calls Try.prog 48 #[.agg #[.int .i64 7, .int .i64 0, .int .i64 0, .int .i64 value]] w fun e w' => e = .returned (.bool false) ∧ Only0 w w' := by
  go_enter Try.func48, Try.ntmps48
  go_wp2_with fail
  go_ret; first | exact ⟨rfl, (Only0.refl w).alloc _⟩ | exact ⟨ret_bool (by simp; omega), (Only0.refl w).alloc _⟩
set_option maxHeartbeats 4000000 in
theorem opOk_7_f  (w : World)  : Calls Try.prog 48 #[.agg #[.int .i64 7, .int .i64 0, .int .i64 0, .int .i64 0]] w fun e w' => e = .returned (.bool true) ∧ Only0 w w' := by
  go_enter Try.func48, Try.ntmps48
  go_wp2_with fail
  go_ret; first | exact ⟨rfl, (Only0.refl w).alloc _⟩ | exact ⟨ret_bool (by simp; omega), (Only0.refl w).alloc _⟩
set_option maxHeartbeats 4000000 in
theorem opOk_x_a (kind key hi value : Int) (w : World) (b1 : (kind == 1) = false) (b2 : (kind == 2) = false) (b3 : (kind == 3) = false) (b4 : (kind == 4) = false) (b5 : (kind == 5) = false) (b6 : (kind == 6) = false) (b7 : (kind == 7) = false) (a1 : key < 0) : Calls Try.prog 48 #[.agg #[.int .i64 kind, .int .i64 key, .int .i64 hi, .int .i64 value]] w fun e w' => e = .returned (.bool false) ∧ Only0 w w' := by
  go_enter Try.func48, Try.ntmps48
  go_wp2_with fail
  go_ret; first | exact ⟨rfl, (Only0.refl w).alloc _⟩ | exact ⟨ret_bool (by simp; omega), (Only0.refl w).alloc _⟩
set_option maxHeartbeats 4000000 in
theorem opOk_x_b (kind key hi value : Int) (w : World) (b1 : (kind == 1) = false) (b2 : (kind == 2) = false) (b3 : (kind == 3) = false) (b4 : (kind == 4) = false) (b5 : (kind == 5) = false) (b6 : (kind == 6) = false) (b7 : (kind == 7) = false) (a1 : 0 ≤ key) (a2 : 63 < key) : Calls Try.prog 48 #[.agg #[.int .i64 kind, .int .i64 key, .int .i64 hi, .int .i64 value]] w fun e w' => e = .returned (.bool false) ∧ Only0 w w' := by
  go_enter Try.func48, Try.ntmps48
  go_wp2_with fail
  go_ret; first | exact ⟨rfl, (Only0.refl w).alloc _⟩ | exact ⟨ret_bool (by simp; omega), (Only0.refl w).alloc _⟩
set_option maxHeartbeats 4000000 in
theorem opOk_x_c (kind key hi value : Int) (w : World) (b1 : (kind == 1) = false) (b2 : (kind == 2) = false) (b3 : (kind == 3) = false) (b4 : (kind == 4) = false) (b5 : (kind == 5) = false) (b6 : (kind == 6) = false) (b7 : (kind == 7) = false) (a1 : 0 ≤ key) (a2 : key ≤ 63) : Calls Try.prog 48 #[.agg #[.int .i64 kind, .int .i64 key, .int .i64 hi, .int .i64 value]] w fun e w' => e = .returned (.bool false) ∧ Only0 w w' := by
  go_enter Try.func48, Try.ntmps48
  go_wp2_with fail
  go_ret; first | exact ⟨rfl, (Only0.refl w).alloc _⟩ | exact ⟨ret_bool (by simp; omega), (Only0.refl w).alloc _⟩
theorem md_opOk (kind key hi value : Int) (w : World) : Calls Try.prog 48 #[.agg #[.int .i64 kind, .int .i64 key, .int .i64 hi, .int .i64 value]] w fun e w' => e = .returned (.bool (opOkB ⟨kind, key, hi, value⟩)) ∧ Only0 w w' := by
  have hk : key < 0 ∨ (0 ≤ key ∧ 63 < key) ∨ (0 ≤ key ∧ key ≤ 63) := by omega
  have fin : ∀ b : Bool, opOkB ⟨kind, key, hi, value⟩ = b → (Calls Try.prog 48 #[.agg #[.int .i64 kind, .int .i64 key, .int .i64 hi, .int .i64 value]] w fun e w' => e = .returned (.bool b) ∧ Only0 w w') → Calls Try.prog 48 #[.agg #[.int .i64 kind, .int .i64 key, .int .i64 hi, .int .i64 value]] w fun e w' => e = .returned (.bool (opOkB ⟨kind, key, hi, value⟩)) ∧ Only0 w w' := fun b hb h => by rw [hb]; exact h
  by_cases h1 : kind = 1
  · subst h1
    rcases hk with a1 | ⟨a1, a2⟩ | ⟨a1, a2⟩
    · exact fin false (by simp [opOkB, keyOkB]; omega) (opOk_1_a _ _ _ w a1)
    · exact fin false (by simp [opOkB, keyOkB]; omega) (opOk_1_b _ _ _ w a1 a2)
    · by_cases e1 : hi = 0
      · subst e1
        by_cases e2 : value = 0
        · subst e2; exact fin true (by simp [opOkB, keyOkB]; omega) (opOk_1_e _ w a1 a2)
        · exact fin false (by simp [opOkB, keyOkB, e2]) (opOk_1_d _ _ w a1 a2 (by simpa using e2))
      · exact fin false (by simp [opOkB, keyOkB, e1]) (opOk_1_c _ _ _ w a1 a2 (by simpa using e1))
  by_cases h2 : kind = 2
  · subst h2
    rcases hk with a1 | ⟨a1, a2⟩ | ⟨a1, a2⟩
    · exact fin false (by simp [opOkB, keyOkB]; omega) (opOk_2_a _ _ _ w a1)
    · exact fin false (by simp [opOkB, keyOkB]; omega) (opOk_2_b _ _ _ w a1 a2)
    · by_cases e1 : hi = 0
      · subst e1
        by_cases e2 : value < 0
        · exact fin false (by simp [opOkB, keyOkB]; omega) (opOk_2_d _ _ w a1 a2 e2)
        · by_cases e3 : 65535 < value
          · exact fin false (by simp [opOkB, keyOkB]; omega) (opOk_2_e _ _ w a1 a2 (by omega) e3)
          · exact fin true (by simp [opOkB, keyOkB]; omega) (opOk_2_f _ _ w a1 a2 (by omega) (by omega))
      · exact fin false (by simp [opOkB, keyOkB, e1]) (opOk_2_c _ _ _ w a1 a2 (by simpa using e1))
  by_cases h3 : kind = 3
  · subst h3
    rcases hk with a1 | ⟨a1, a2⟩ | ⟨a1, a2⟩
    · exact fin false (by simp [opOkB, keyOkB]; omega) (opOk_3_a _ _ _ w a1)
    · exact fin false (by simp [opOkB, keyOkB]; omega) (opOk_3_b _ _ _ w a1 a2)
    · by_cases e1 : hi = 0
      · subst e1
        by_cases e2 : value < 0
        · exact fin false (by simp [opOkB, keyOkB]; omega) (opOk_3_d _ _ w a1 a2 e2)
        · by_cases e3 : 65535 < value
          · exact fin false (by simp [opOkB, keyOkB]; omega) (opOk_3_e _ _ w a1 a2 (by omega) e3)
          · exact fin true (by simp [opOkB, keyOkB]; omega) (opOk_3_f _ _ w a1 a2 (by omega) (by omega))
      · exact fin false (by simp [opOkB, keyOkB, e1]) (opOk_3_c _ _ _ w a1 a2 (by simpa using e1))
  by_cases h4 : kind = 4
  · subst h4
    rcases hk with a1 | ⟨a1, a2⟩ | ⟨a1, a2⟩
    · exact fin false (by simp [opOkB, keyOkB]; omega) (opOk_4_a _ _ _ w a1)
    · exact fin false (by simp [opOkB, keyOkB]; omega) (opOk_4_b _ _ _ w a1 a2)
    · by_cases e1 : hi = 0
      · subst e1
        by_cases e2 : value = 0
        · subst e2; exact fin true (by simp [opOkB, keyOkB]; omega) (opOk_4_e _ w a1 a2)
        · exact fin false (by simp [opOkB, keyOkB, e2]) (opOk_4_d _ _ w a1 a2 (by simpa using e2))
      · exact fin false (by simp [opOkB, keyOkB, e1]) (opOk_4_c _ _ _ w a1 a2 (by simpa using e1))
  by_cases h5 : kind = 5
  · subst h5
    rcases hk with a1 | ⟨a1, a2⟩ | ⟨a1, a2⟩
    · exact fin false (by simp [opOkB, keyOkB]; omega) (opOk_5_a _ _ _ w a1)
    · exact fin false (by simp [opOkB, keyOkB]; omega) (opOk_5_b _ _ _ w a1 a2)
    · by_cases e1 : hi < key
      · exact fin false (by simp [opOkB, keyOkB]; omega) (opOk_5_c _ _ _ w a1 a2 e1)
      · by_cases e2 : 63 < hi
        · exact fin false (by simp [opOkB, keyOkB]; omega) (opOk_5_d _ _ _ w a1 a2 (by omega) e2)
        · by_cases e3 : value = 0
          · subst e3; exact fin true (by simp [opOkB, keyOkB]; omega) (opOk_5_f _ _ w a1 a2 (by omega) (by omega))
          · exact fin false (by simp [opOkB, keyOkB, e3]) (opOk_5_e _ _ _ w a1 a2 (by omega) (by omega) (by simpa using e3))
  by_cases h6 : kind = 6
  · subst h6
    by_cases e0 : key = 0
    · subst e0
      by_cases e1 : hi = 0
      · subst e1
        by_cases e2 : value = 0
        · subst e2; exact fin true (by simp [opOkB]) (opOk_6_f w)
        · exact fin false (by simp [opOkB, e2]) (opOk_6_e _ w (by simpa using e2))
      · exact fin false (by simp [opOkB, e1]) (opOk_6_d _ _ w (by simpa using e1))
    · have e0' : (key == 0) = false := by simpa using e0
      rcases hk with a1 | ⟨a1, a2⟩ | ⟨a1, a2⟩
      · exact fin false (by simp [opOkB, e0]) (opOk_6_a _ _ _ w a1 e0')
      · exact fin false (by simp [opOkB, e0]) (opOk_6_b _ _ _ w a1 a2 e0')
      · exact fin false (by simp [opOkB, e0]) (opOk_6_c _ _ _ w a1 a2 e0')
  by_cases h7 : kind = 7
  · subst h7
    by_cases e0 : key = 0
    · subst e0
      by_cases e1 : hi = 0
      · subst e1
        by_cases e2 : value = 0
        · subst e2; exact fin true (by simp [opOkB]) (opOk_7_f w)
        · exact fin false (by simp [opOkB, e2]) (opOk_7_e _ w (by simpa using e2))
      · exact fin false (by simp [opOkB, e1]) (opOk_7_d _ _ w (by simpa using e1))
    · have e0' : (key == 0) = false := by simpa using e0
      rcases hk with a1 | ⟨a1, a2⟩ | ⟨a1, a2⟩
      · exact fin false (by simp [opOkB, e0]) (opOk_7_a _ _ _ w a1 e0')
      · exact fin false (by simp [opOkB, e0]) (opOk_7_b _ _ _ w a1 a2 e0')
      · exact fin false (by simp [opOkB, e0]) (opOk_7_c _ _ _ w a1 a2 e0')
  have no : opOkB ⟨kind, key, hi, value⟩ = false := by simp [opOkB, h1, h2, h3, h4, h5, h6, h7]
  rcases hk with a1 | ⟨a1, a2⟩ | ⟨a1, a2⟩
  · exact fin false no (opOk_x_a _ _ _ _ w (by simpa using h1) (by simpa using h2) (by simpa using h3) (by simpa using h4) (by simpa using h5) (by simpa using h6) (by simpa using h7) a1)
  · exact fin false no (opOk_x_b _ _ _ _ w (by simpa using h1) (by simpa using h2) (by simpa using h3) (by simpa using h4) (by simpa using h5) (by simpa using h6) (by simpa using h7) a1 a2)
  · exact fin false no (opOk_x_c _ _ _ _ w (by simpa using h1) (by simpa using h2) (by simpa using h3) (by simpa using h4) (by simpa using h5) (by simpa using h6) (by simpa using h7) a1 a2)
end Go.Proofs.Ytcbhafddehipdaa

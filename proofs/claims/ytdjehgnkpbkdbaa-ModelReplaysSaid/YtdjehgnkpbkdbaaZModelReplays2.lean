/-
  ModelReplays: what its proof rests on, part 2.
-/
import Derived.Deep.QuietTactic
import Derived.BigQuiet
import Derived.Deep.Cut
import Derived.Lib.SliceRun
import Derived.Test.YtdjehgnkpbkdbaaProg
import Derived.Test.YtdjehgnkpbkdbaaZModelReplays1
namespace Go.Proofs.Ytdjehgnkpbkdbaa
open Go.RowKit
set_option linter.unusedVariables false
set_option linter.unusedSimpArgs false
theorem write_tx {s : St} {j k : Nat} {t : Tx} {kind value : Int} (ht : s.tx j = some t) : ∃ t1, (s.write j t kind k value).2.tx j = some t1 := by
  unfold St.write
  split
  · exact ⟨t, ht⟩
  · split
    · exact ⟨_, upd_same _ _ _⟩
    · split
      · split
        · exact ⟨_, upd_same _ _ _⟩
        · exact ⟨_, upd_same _ _ _⟩
      · exact ⟨_, upd_same _ _ _⟩
theorem write_r {s : St} {j k : Nat} {t : Tx} {kind value : Int} : (s.write j t kind k value).1 = 0 ∨ (s.write j t kind k value).1 = 2 ∨ (s.write j t kind k value).1 = 5 := by
  unfold St.write
  split
  · exact .inr (.inl rfl)
  · split
    · exact .inl rfl
    · split
      · split
        · exact .inr (.inr rfl)
        · exact .inl rfl
      · exact .inl rfl
set_option maxRecDepth 100000 in
set_option maxHeartbeats 16000000 in
theorem md_change {B m : Nat} {w : World} {P : Nat → Prop} {s : St} {A : Ad} (h : MIn B w P m s A) {j : Nat} {t : Tx} (ht : s.tx j = some t) (k : Nat) (hk : k < 64) (kind hi value : Int) :
    Calls Try.prog 38 #[.pointer (some ⟨m, 0, none⟩), .int .i64 j, .agg #[.int .i64 kind, .int .i64 k, .int .i64 hi, .int .i64 value]] w (StRes B m w P A (resV (s.change j t kind k value).1) (s.change j t kind k value).2) := by
  obtain ⟨W, hW⟩ : ∃ W, W = (w.alloc (.cells #[.int .i64 kind, .int .i64 k, .int .i64 hi, .int .i64 value] 31)).alloc (.cells #[.int .i64 0, .int .i64 0, .slice none 0 0, .int .i64 0, .int .i64 0] 65) := ⟨_, rfl⟩
  have oW : Only0 w W := by rw [hW]; exact ((Only0.refl w).alloc _).alloc _
  have M0 := h.only0 oW
  have BO : Blk W w.heap.size 31 #[.int .i64 kind, .int .i64 k, .int .i64 hi, .int .i64 value] := by rw [hW]; exact (Blk.new _ _ _).alloc _
  have BX : Blk W (w.heap.size + 1) 65 #[.int .i64 0, .int .i64 0, .slice none 0 0, .int .i64 0, .int .i64 0] := by rw [hW]; exact Blk.new' _ _ _ _ (by simp)
  have hn0 : ¬ P w.heap.size := fun hp => by have := h.under _ hp; omega
  have hn1 : ¬ P (w.heap.size + 1) := fun hp => by have := h.under _ hp; omega
  have hj := (M0.txs.one j t ht).1
  have j8 : (j : Int) < 8 := by omega
  have j0 : (0 : Int) ≤ (j : Int) := by omega
  have cj : W.cell? ⟨m, 5 + j, none⟩ = some (.pointer (some ⟨A.tb j, 0, none⟩)) := by rw [M0.sess j hj]; simp [txPtr, ht]
  have C := md_sees M0 ht k hk
  have o0 : W.cell? ⟨w.heap.size, 0, none⟩ = some (.int .i64 kind) := BO.cell 0
  have o1 : W.cell? ⟨w.heap.size, 1, none⟩ = some (.int .i64 k) := BO.cell 1
  have HM0 := Lib.hid M0
  have HT := Lib.hid ht
  have HO := Lib.hid oW
  have HB := Lib.hid BX
  have HBO := Lib.hid BO
  have H0 := Lib.hid hn0
  have H1 := Lib.hid hn1
  have hWs : w.heap.size + 1 < W.heap.size := BX.lt
  obtain ⟨n0, hn0'⟩ : ∃ n0, n0 = w.heap.size := ⟨_, rfl⟩
  have HN := Lib.hid hn0'
  rw [← hn0'] at HB HBO H0 H1 o0 o1
  obtain ⟨n1, hn1'⟩ : ∃ n1, n1 = n0 + 1 := ⟨_, rfl⟩
  have HN1 := Lib.hid hn1'
  rw [← hn1'] at HB H1
  clear h M0 BX BO oW ht hn0 hn1 hn0' hn1'
  by_cases hb : (s.sees t k).isSome = decide (kind = 2)
  · rw [show s.change j t kind k value = (.err (if (s.sees t k).isSome then 12 else 11), s.setTx j (some (t.look k))) by simp [St.change, hb]]
    have C2 := md_look HM0.out HT.out k hk
    cases hs : s.sees t k with
    | none =>
      rw [hs] at hb C C2
      have hk2 : (kind == 2) = false := by simpa using hb.symm
      rw [show ptrOf A.va none = .pointer none from rfl] at C C2
      clear hb
      go_enter Try.func38, Try.ntmps38
      go_upto_region 1 with (fail)
      rw [← hW, ← HN.out, ← HN1.out]
      clear hW
      go_wp2_with fail
      refine C.mono ?_
      rintro e w1 ⟨rfl, rfl⟩
      go_wp2_with fail
      refine C2.mono ?_
      rintro e w2 ⟨rfl, M2, o2⟩
      have B2 := o2.blk HB.out H1.out
      have HM := Lib.hid M2
      have HO2 := Lib.hid o2
      have b0 : w2.cell? ⟨n1, 0, none⟩ = some (.int .i64 0) := B2.cell 0
      have b1 : w2.cell? ⟨n1, 1, none⟩ = some (.int .i64 0) := B2.cell 1
      have b2 : w2.cell? ⟨n1, 2, none⟩ = some (.slice none 0 0) := B2.cell 2
      have b3 : w2.cell? ⟨n1, 3, none⟩ = some (.int .i64 0) := B2.cell 3
      have b4 : w2.cell? ⟨n1, 4, none⟩ = some (.int .i64 0) := B2.cell 4
      have bf := fun i => B2.free i
      have HB2 := Lib.hid B2
      clear C C2 M2 o2 B2 hs
      go_wp2_with fail
      obtain ⟨B9, o9⟩ := set5 HB2.out (.int .i64 11) (.int .i64 0) (.slice none 0 0) (.int .i64 0) (.int .i64 0)
      exact bodyPost_ret (v := .agg #[.int .i64 11, .int .i64 0, .slice none 0 0, .int .i64 0, .int .i64 0]) (results_cell_row Try.results38 _ _ n1 _ _ _ _ rfl B9 Try.underlying65 rfl info_res) rfl
        (StRes.box (by have := HN.out; have := HN1.out; omega) H1.out HM.out rfl rfl ((HO.out.any P).trans HO2.out) (Grew.refl _ _) o9)
    | some i =>
      rw [hs] at hb C C2
      have hk2 : kind = 2 := by simpa using hb.symm
      subst hk2
      rw [show ptrOf A.va (some i) = .pointer (some ⟨A.va i, 0, none⟩) from rfl] at C C2
      clear hb
      go_enter Try.func38, Try.ntmps38
      go_upto_region 1 with (fail)
      rw [← hW, ← HN.out, ← HN1.out]
      clear hW
      go_wp2_with fail
      refine C.mono ?_
      rintro e w1 ⟨rfl, rfl⟩
      go_wp2_with fail
      refine C2.mono ?_
      rintro e w2 ⟨rfl, M2, o2⟩
      have B2 := o2.blk HB.out H1.out
      have HM := Lib.hid M2
      have HO2 := Lib.hid o2
      have b0 : w2.cell? ⟨n1, 0, none⟩ = some (.int .i64 0) := B2.cell 0
      have b1 : w2.cell? ⟨n1, 1, none⟩ = some (.int .i64 0) := B2.cell 1
      have b2 : w2.cell? ⟨n1, 2, none⟩ = some (.slice none 0 0) := B2.cell 2
      have b3 : w2.cell? ⟨n1, 3, none⟩ = some (.int .i64 0) := B2.cell 3
      have b4 : w2.cell? ⟨n1, 4, none⟩ = some (.int .i64 0) := B2.cell 4
      have bf := fun i => B2.free i
      have HB2 := Lib.hid B2
      clear C C2 M2 o2 B2 hs
      go_wp2_with fail
      obtain ⟨B9, o9⟩ := set5 HB2.out (.int .i64 12) (.int .i64 0) (.slice none 0 0) (.int .i64 0) (.int .i64 0)
      exact bodyPost_ret (v := .agg #[.int .i64 12, .int .i64 0, .slice none 0 0, .int .i64 0, .int .i64 0]) (results_cell_row Try.results38 _ _ n1 _ _ _ _ rfl B9 Try.underlying65 rfl info_res) rfl
        (StRes.box (by have := HN.out; have := HN1.out; omega) H1.out HM.out rfl rfl ((HO.out.any P).trans HO2.out) (Grew.refl _ _) o9)
  · have C2 := md_write HM0.out HT.out k hk kind hi value
    obtain ⟨t1, ht1⟩ := write_tx (s := s) (j := j) (k := k) (t := t) (kind := kind) (value := value) HT.out
    have hr := write_r (s := s) (j := j) (k := k) (t := t) (kind := kind) (value := value)
    have e0 : s.change j t kind k value = if (s.write j t kind k value).1 = 0 then (.zero, (s.write j t kind k value).2) else (abortRes 14 (s.write j t kind k value).1, (s.write j t kind k value).2.kill j t1) := by
      simp only [St.change, if_neg hb, ht1]
    rw [e0]
    clear e0
    have o2 : W.cell? ⟨n0, 2, none⟩ = some (.int .i64 hi) := HBO.out.cell 2
    have o3 : W.cell? ⟨n0, 3, none⟩ = some (.int .i64 value) := HBO.out.cell 3
    -- the test's own words, whichever way
    obtain ⟨p, hp, hcmp⟩ : ∃ p : Option Addr, ptrOf A.va (s.sees t k) = .pointer p ∧ ((p = none ∧ kind = 2) ∨ ((∃ a, p = some a) ∧ (kind == 2) = false)) := by
      cases hs : s.sees t k with
      | none => exact ⟨none, rfl, .inl ⟨rfl, by rw [hs] at hb; simpa using hb⟩⟩
      | some i => exact ⟨_, rfl, .inr ⟨⟨_, rfl⟩, by rw [hs] at hb; simpa using hb⟩⟩
    rw [hp] at C
    generalize s.write j t kind k value = r at *
    obtain ⟨r, s1⟩ := r
    dsimp only at *
    have HT1 := Lib.hid ht1
    clear ht1 hb hp
    rcases hr with rfl | hr
    · rw [if_pos rfl]
      rcases hcmp with ⟨rfl, rfl⟩ | ⟨⟨a, rfl⟩, hk2⟩
      all_goals
        go_enter Try.func38, Try.ntmps38
        go_upto_region 1 with (fail)
        rw [← hW, ← HN.out, ← HN1.out]
        clear hW
        go_wp2_with fail
        refine C.mono ?_
        rintro e w1 ⟨rfl, rfl⟩
        go_wp2_with fail
        refine C2.mono ?_
        rintro e w2 ⟨A', P', rfl, M2, a1, a2, o4, g4⟩
        have nP' : ¬ P' n1 := fun hp => by
          rcases g4 n1 hp with h1 | h1
          · exact H1.out h1
          · have := HN.out; have := HN1.out; omega
        have B2 := o4.blk HB.out H1.out
        have HM := Lib.hid (show MIn B w2 P' m s1 A' ∧ A'.tb = A.tb ∧ A'.mb = A.mb ∧ Only P W w2 ∧ Grew W.heap.size P P' ∧ ¬ P' n1 from ⟨M2, a1, a2, o4, g4, nP'⟩)
        have b0 : w2.cell? ⟨n1, 0, none⟩ = some (.int .i64 0) := B2.cell 0
        have b1 : w2.cell? ⟨n1, 1, none⟩ = some (.int .i64 0) := B2.cell 1
        have b2 : w2.cell? ⟨n1, 2, none⟩ = some (.slice none 0 0) := B2.cell 2
        have b3 : w2.cell? ⟨n1, 3, none⟩ = some (.int .i64 0) := B2.cell 3
        have b4 : w2.cell? ⟨n1, 4, none⟩ = some (.int .i64 0) := B2.cell 4
        have bf := fun i => B2.free i
        have HB2 := Lib.hid B2
        clear C C2 M2 o4 B2 a1 a2 g4 nP'
        go_wp2_with fail
        obtain ⟨B9, o9⟩ := set5 HB2.out (.int .i64 0) (.int .i64 0) (.slice none 0 0) (.int .i64 0) (.int .i64 0)
        exact bodyPost_ret (v := .agg #[.int .i64 0, .int .i64 0, .slice none 0 0, .int .i64 0, .int .i64 0]) (results_cell_row Try.results38 _ _ n1 _ _ _ _ rfl B9 Try.underlying65 rfl info_res) rfl
          (StRes.box (by have := HN.out; have := HN1.out; omega) HM.out.2.2.2.2.2 HM.out.1 HM.out.2.1 HM.out.2.2.1 ((HO.out.any P).trans HM.out.2.2.2.1) (HM.out.2.2.2.2.1.base HO.out.size) o9)
    · have hr0 : r ≠ 0 := by omega
      rw [if_neg hr0]
      have hrb : (r != 0) = true := by simpa using hr0
      clear hr hr0
      rcases hcmp with ⟨rfl, rfl⟩ | ⟨⟨a, rfl⟩, hk2⟩
      all_goals
        go_enter Try.func38, Try.ntmps38
        go_upto_region 1 with (fail)
        rw [← hW, ← HN.out, ← HN1.out]
        clear hW
        go_wp2_with fail
        refine C.mono ?_
        rintro e w1 ⟨rfl, rfl⟩
        go_wp2_with fail
        refine C2.mono ?_
        rintro e w2 ⟨A', P', rfl, M2, a1, a2, o4, g4⟩
        have nP' : ¬ P' n1 := fun hp => by
          rcases g4 n1 hp with h1 | h1
          · exact H1.out h1
          · have := HN.out; have := HN1.out; omega
        have B2 := o4.blk HB.out H1.out
        have C3 := md_abort M2 HT1.out 14 r
        have HM := Lib.hid (show A'.tb = A.tb ∧ A'.mb = A.mb ∧ Only P W w2 ∧ Grew W.heap.size P P' ∧ ¬ P' n1 from ⟨a1, a2, o4, g4, nP'⟩)
        have HB2 := Lib.hid B2
        clear C C2 M2 o4 B2 a1 a2 g4 nP'
        go_wp2_with fail
        refine C3.mono ?_
        rintro e w3 ⟨A2, P2, rfl, M3, a1, a2, o5, g5⟩
        have nP2 : ¬ P2 n1 := fun hp => by
          rcases g5 n1 hp with h1 | h1
          · exact HM.out.2.2.2.2 h1
          · have := HN.out; have := HN1.out; have := HM.out.2.2.1.size; omega
        have B3 := o5.blk HB2.out HM.out.2.2.2.2
        have HM3 := Lib.hid (show MIn B w3 P2 m (s1.kill j t1) A2 ∧ A2.tb = A.tb ∧ A2.mb = A.mb ∧ Only P W w3 ∧ Grew W.heap.size P P2 ∧ ¬ P2 n1 from ⟨M3, a1.trans HM.out.1, a2.trans HM.out.2.1, HM.out.2.2.1.grewTrans HM.out.2.2.2.1 o5, HM.out.2.2.2.1.trans g5 HM.out.2.2.1.size, nP2⟩)
        have b0 : w3.cell? ⟨n1, 0, none⟩ = some (.int .i64 0) := B3.cell 0
        have b1 : w3.cell? ⟨n1, 1, none⟩ = some (.int .i64 0) := B3.cell 1
        have b2 : w3.cell? ⟨n1, 2, none⟩ = some (.slice none 0 0) := B3.cell 2
        have b3 : w3.cell? ⟨n1, 3, none⟩ = some (.int .i64 0) := B3.cell 3
        have b4 : w3.cell? ⟨n1, 4, none⟩ = some (.int .i64 0) := B3.cell 4
        have bf := fun i => B3.free i
        have HB3 := Lib.hid B3
        clear C3 M3 o5 B3 a1 a2 g5 nP2
        go_wp2_with fail
        obtain ⟨B9, o9⟩ := set5 HB3.out (.int .i64 14) (.int .i64 0) (.slice none 0 0) (.int .i64 4) (.int .i64 r)
        exact bodyPost_ret (v := .agg #[.int .i64 14, .int .i64 0, .slice none 0 0, .int .i64 4, .int .i64 r]) (results_cell_row Try.results38 _ _ n1 _ _ _ _ rfl B9 Try.underlying65 rfl info_res) rfl
          (StRes.box (by have := HN.out; have := HN1.out; omega) HM3.out.2.2.2.2.2 HM3.out.1 HM3.out.2.1 HM3.out.2.2.1 ((HO.out.any P).trans HM3.out.2.2.2.1) (HM3.out.2.2.2.2.1.base HO.out.size) o9)
end Go.Proofs.Ytdjehgnkpbkdbaa
namespace Go.Proofs.Ytdjehgnkpbkdbaa
open Go.RowKit
set_option linter.unusedVariables false
set_option linter.unusedSimpArgs false
def pairCells : List (Int × Int) → List Value
  | [] => []
  | p :: l => .int .i64 p.1 :: .int .i64 p.2 :: pairCells l
theorem pairCells_len (l : List (Int × Int)) : (pairCells l).length = l.length * 2 := by
  induction l with
  | nil => rfl
  | cons a l ih => simp only [pairCells, List.length_cons, ih]; omega
theorem pairCells_snoc (l : List (Int × Int)) (p : Int × Int) : pairCells (l ++ [p]) = pairCells l ++ [.int .i64 p.1, .int .i64 p.2] := by
  induction l with
  | nil => rfl
  | cons a l ih => simp only [List.cons_append, pairCells, ih]
theorem pairCells_get (l : List (Int × Int)) : ∀ i, i < l.length → (pairCells l)[i * 2]? = some (.int .i64 (l.getD i (0, 0)).1) ∧ (pairCells l)[i * 2 + 1]? = some (.int .i64 (l.getD i (0, 0)).2) := by
  induction l with
  | nil => intro i hi; simp at hi
  | cons a l ih =>
    intro i hi
    cases i with
    | zero => exact ⟨rfl, rfl⟩
    | succ i =>
      have := ih i (by simpa using hi)
      have e1 : (i + 1) * 2 = i * 2 + 2 := by omega
      have e2 : (i + 1) * 2 + 1 = i * 2 + 1 + 2 := by omega
      simp only [pairCells, e1, e2, List.getElem?_cons_succ, List.getD_cons_succ]
      exact this
/-- At an address lie pairs. -/
def PairsIn (w : World) (a : Option Addr) (ps : List (Int × Int)) : Prop :=
  ps = [] ∨ ∃ b off, a = some ⟨b, off, none⟩ ∧ ∀ i, i < ps.length → w.cell? ⟨b, off + i * 2, none⟩ = some (.int .i64 (ps.getD i (0, 0)).1) ∧ w.cell? ⟨b, off + (i * 2 + 1), none⟩ = some (.int .i64 (ps.getD i (0, 0)).2)
theorem PairsIn.only {w w' : World} {a : Option Addr} {ps : List (Int × Int)} {S : Nat → Prop} (h : PairsIn w a ps) (o : Only S w w') (hs : ∀ x, a = some x → ¬ S x.block) : PairsIn w' a ps := by
  rcases h with rfl | ⟨b, off, rfl, hc⟩
  · exact .inl rfl
  · refine .inr ⟨b, off, rfl, fun i hi => ?_⟩
    have hlt := block_lt_of_cell (hc i hi).1
    have e := o.block b hlt (hs _ rfl)
    exact ⟨(World.cell?_of_block e).trans (hc i hi).1, (World.cell?_of_block e).trans (hc i hi).2⟩
theorem PairsIn.of_own {B n c : Nat} {w : World} {a : Option Addr} {ps : List (Int × Int)} (h : w.ownsRow B 73 2 (.slice a n c) ps.length (pairCells ps)) : PairsIn w a ps := by
  rcases h.2 with ⟨_, h0⟩ | ⟨g, cap, cur, hv, _⟩
  · exact .inl (List.eq_nil_of_length_eq_zero h0)
  · injection hv with h1 h2 h3
    subst h1 h2 h3
    refine .inr ⟨g, 0, rfl, fun i hi => ?_⟩
    have G := pairCells_get ps i hi
    have e0 := h.cellAt (i * 2) (by omega)
    have e1 := h.cellAt (i * 2 + 1) (by omega)
    rw [Nat.zero_add, Nat.zero_add]
    exact ⟨e0.trans G.1, e1.trans G.2⟩
/-- What a call leaves that answers a result. -/
def ReRes (B m : Nat) (w : World) (P : Nat → Prop) (A : Ad) (r : Res) (s' : St) (e : Ending) (w' : World) : Prop :=
  ∃ (A' : Ad) (P' : Nat → Prop) (a : Option Addr) (c : Nat), e = .returned (.agg #[.int .i64 r.e, .int .i64 r.value, .slice a r.pairs.length c, .int .i64 r.over, .int .i64 r.reason]) ∧ MIn B w' P' m s' A' ∧ A'.tb = A.tb ∧ A'.mb = A.mb ∧ Only P w w' ∧ Grew w.heap.size P P' ∧
    PairsIn w' a r.pairs ∧ ∀ x, a = some x → w.heap.size ≤ x.block ∧ ¬ P' x.block
theorem StRes.re {B m : Nat} {w : World} {P : Nat → Prop} {A : Ad} {r : Res} {s' : St} {e : Ending} {w' : World} (hp : r.pairs = []) (h : StRes B m w P A (resV r) s' e w') : ReRes B m w P A r s' e w' := by
  obtain ⟨A', P', he, M, a1, a2, o, g⟩ := h
  refine ⟨A', P', none, 0, by rw [he, hp]; rfl, M, a1, a2, o, g, .inl hp, fun x hx => by cases hx⟩
/-- The loop of scan, under way: q keys are done. -/
structure ScRel (B m : Nat) (w W : World) (P : Nat → Prop) (s : St) (A : Ad) (j : Nat) (t : Tx) (lo n0 n1 q : Nat) (wr : World) (ra : Option Addr) (rc : Nat) : Prop where
  mod : MIn B wr P m (s.setTx j (some (t.lookAll lo q))) A
  box0 : Blk wr n0 65 #[.int .i64 0, .int .i64 0, .slice none 0 0, .int .i64 0, .int .i64 0]
  box1 : Blk wr n1 65 #[.int .i64 0, .int .i64 0, .slice ra ((keysFrom lo q).filterMap (s.pairOf t)).length rc, .int .i64 0, .int .i64 0]
  row : wr.ownsRow W.heap.size 73 2 (.slice ra ((keysFrom lo q).filterMap (s.pairOf t)).length rc) ((keysFrom lo q).filterMap (s.pairOf t)).length (pairCells ((keysFrom lo q).filterMap (s.pairOf t)))
  only : Only P w wr
theorem keysFrom_succ (lo q : Nat) : keysFrom lo (q + 1) = keysFrom lo q ++ [lo + q] := by unfold keysFrom; rw [List.range_succ, List.map_append]; rfl
theorem pairs_none {s : St} {t : Tx} {lo q : Nat} (h : s.sees t (lo + q) = none) : (keysFrom lo (q + 1)).filterMap (s.pairOf t) = (keysFrom lo q).filterMap (s.pairOf t) := by
  rw [keysFrom_succ, List.filterMap_append]; simp [St.pairOf, h]
theorem pairs_some {s : St} {t : Tx} {lo q i : Nat} (h : s.sees t (lo + q) = some i) : (keysFrom lo (q + 1)).filterMap (s.pairOf t) = (keysFrom lo q).filterMap (s.pairOf t) ++ [(((lo + q : Nat) : Int), (s.ver i).value)] := by
  rw [keysFrom_succ, List.filterMap_append]; simp [St.pairOf, h]
theorem pairs_few (s : St) (t : Tx) (lo q : Nat) : ((keysFrom lo q).filterMap (s.pairOf t)).length ≤ q := by
  refine Nat.le_trans (List.length_filterMap_le _ _) ?_
  simp [keysFrom]
theorem lookAll_zero (t : Tx) (lo : Nat) : t.lookAll lo 0 = t := by
  unfold Tx.lookAll
  have : (fun k => t.looked k || (decide (lo ≤ k) && decide (k < lo + 0))) = t.looked := by funext k; simp; intro h1 h2; omega
  rw [this]
theorem lookAll_succ (t : Tx) (lo q : Nat) : ({ (t.lookAll lo q).look (lo + q) with looked := upd ((t.lookAll lo q).look (lo + q)).looked (lo + q) true } : Tx) = t.lookAll lo (q + 1) := by
  unfold Tx.lookAll Tx.look
  have e : ∀ f g : Nat → Bool, (∀ k, f k = g k) → ({ t with looked := f } : Tx) = { t with looked := g } := fun f g h => by rw [show f = g from funext h]
  split
  · refine e _ _ (fun k => ?_)
    by_cases h : k = lo + q
    · subst h; simp [upd]
    · simp only [upd, h, if_false]
      congr 2
      rw [Bool.eq_iff_iff]; simp; omega
  · refine e _ _ (fun k => ?_)
    by_cases h : k = lo + q
    · subst h; simp [upd]
    · simp only [upd, h, if_false]
      congr 2
      rw [Bool.eq_iff_iff]; simp; omega
set_option maxRecDepth 100000 in
theorem info_pair : (Try.prog.info? 73).map (fun i => (i.zero, i.size, i.bytes)) = some (some (.agg #[.int .i64 0, .int .i64 0]), 2, 16) := by kernel_rfl
/-- A pair is put into the row. -/
theorem scan_app {B m : Nat} {w W w2 w1 : World} {P : Nat → Prop} {s2 : St} {A : Ad} {n0 n1 gg cap : Nat} {ra : Option Addr} {rc : Nat} {ps : List (Int × Int)} {p : Int × Int} (M : MIn B w2 P m s2 A) (hn0 : n0 < W.heap.size) (hn1 : n1 < W.heap.size) (h01 : n0 ≠ n1) (hP1 : ¬ P n1) (hPW : ∀ b, P b → b < W.heap.size)
    (hww : w.heap.size ≤ n1) (B0 : Blk w2 n0 65 #[.int .i64 0, .int .i64 0, .slice none 0 0, .int .i64 0, .int .i64 0]) (B1 : Blk w2 n1 65 #[.int .i64 0, .int .i64 0, .slice ra ps.length rc, .int .i64 0, .int .i64 0])
    (hrow : w2.ownsRow W.heap.size 73 2 (.slice ra ps.length rc) ps.length (pairCells ps)) (O : Only P w w2) (hWs : w.heap.size ≤ W.heap.size) (hW2 : W.heap.size ≤ w2.heap.size)
    (hown2 : w1.ownsRow W.heap.size 73 2 (.slice (some ⟨gg, 0, none⟩) (ps.length + 1) cap) (ps.length + 1) (pairCells ps ++ [.int .i64 p.1, .int .i64 p.2]))
    (hgrow : ((w2.alloc (.cells #[.int .i64 p.1, .int .i64 p.2] 73)).drew).grownBy w1 (Value.slice ra ps.length rc).ownBlock) (hlt : gg < w1.heap.size) :
    MIn B (w1.setCell ⟨n1, 2, none⟩ (.slice (some ⟨gg, 0, none⟩) (ps.length + 1) cap)) P m s2 A ∧ Blk (w1.setCell ⟨n1, 2, none⟩ (.slice (some ⟨gg, 0, none⟩) (ps.length + 1) cap)) n0 65 #[.int .i64 0, .int .i64 0, .slice none 0 0, .int .i64 0, .int .i64 0] ∧
      Blk (w1.setCell ⟨n1, 2, none⟩ (.slice (some ⟨gg, 0, none⟩) (ps.length + 1) cap)) n1 65 #[.int .i64 0, .int .i64 0, .slice (some ⟨gg, 0, none⟩) (ps ++ [p]).length cap, .int .i64 0, .int .i64 0] ∧
      (w1.setCell ⟨n1, 2, none⟩ (.slice (some ⟨gg, 0, none⟩) (ps.length + 1) cap)).ownsRow W.heap.size 73 2 (.slice (some ⟨gg, 0, none⟩) (ps ++ [p]).length cap) (ps ++ [p]).length (pairCells (ps ++ [p])) ∧ Only P w (w1.setCell ⟨n1, 2, none⟩ (.slice (some ⟨gg, 0, none⟩) (ps.length + 1) cap)) := by
  obtain ⟨W6, hW6⟩ : ∃ W6, W6 = (w2.alloc (.cells #[.int .i64 p.1, .int .i64 p.2] 73)).drew := ⟨_, rfl⟩
  rw [← hW6] at hgrow
  have o6 : Only0 w2 W6 := by rw [hW6]; exact ((Only0.refl _).alloc _).drew
  have hab : ∀ b, rowOf (.slice ra ps.length rc) b → W.heap.size ≤ b := fun b hb => rows_above hrow b hb
  have oR : Only (rowOf (.slice ra ps.length rc)) W6 w1 := ⟨hgrow.os, hgrow.tape, hgrow.output, hgrow.size, fun b hb hn => hgrow.block b hb (fun e => hn e.symm)⟩
  have O2 : Only (fun b => b = n1 ∨ rowOf (.slice ra ps.length rc) b) w2 (w1.setCell ⟨n1, 2, none⟩ (.slice (some ⟨gg, 0, none⟩) (ps.length + 1) cap)) := ((o6.any _).trans (oR.toward (fun b hb => .inr hb))).setCell (fun _ => .inl rfl) _
  have C1 : Blk w1 n1 65 #[.int .i64 0, .int .i64 0, .slice ra ps.length rc, .int .i64 0, .int .i64 0] := oR.blk (o6.blk B1 (fun h => h)) (fun hb => by have := hab _ hb; omega)
  have hgn : gg ≠ n1 := by
    rintro rfl
    exact rows_ne hown2 C1 (by decide) (rowOf_some.2 rfl)
  refine ⟨M.only O2 (fun b hb hS => ?_), O2.blk B0 (fun hS => ?_), ?_, ?_, O.grewTrans (P2 := fun b => P b ∨ w.heap.size ≤ b) (fun b hb => hb) (O2.toward (fun b hS => ?_))⟩
  · rcases hS with rfl | hS
    · exact hP1 hb
    · have := hab _ hS; have := hPW b hb; omega
  · rcases hS with e | hS
    · exact h01 e
    · have := hab _ hS; omega
  · have := C1.set 2 (.slice (some ⟨gg, 0, none⟩) (ps.length + 1) cap)
    simpa using this
  · have := ownsRow_setCell_other hown2 (a := ⟨n1, 2, none⟩) (fun e => hgn (by simpa [Value.ownBlock] using e)) (.slice (some ⟨gg, 0, none⟩) (ps.length + 1) cap)
    rw [pairCells_snoc]
    simpa using this
  · rcases hS with rfl | hS
    · exact .inr hww
    · exact .inr (by have := hab _ hS; omega)
set_option maxRecDepth 100000 in
set_option maxHeartbeats 16000000 in
theorem md_scan {B m : Nat} {w : World} {P : Nat → Prop} {s : St} {A : Ad} (h : MIn B w P m s A) {j : Nat} {t : Tx} (ht : s.tx j = some t) (lo hi : Nat) (hlo : lo ≤ hi) (hhi : hi < 64) :
    Calls Try.prog 37 #[.pointer (some ⟨m, 0, none⟩), .pointer (some ⟨A.tb j, 0, none⟩), .int .i64 lo, .int .i64 hi] w (ReRes B m w P A (s.scan j t lo (hi + 1 - lo)).1 (s.scan j t lo (hi + 1 - lo)).2) := by
  obtain ⟨W, hW⟩ : ∃ W, W = (w.alloc (.cells #[.int .i64 0, .int .i64 0, .slice none 0 0, .int .i64 0, .int .i64 0] 65)).alloc (.cells #[.int .i64 0, .int .i64 0, .slice none 0 0, .int .i64 0, .int .i64 0] 65) := ⟨_, rfl⟩
  have oW : Only0 w W := by rw [hW]; exact ((Only0.refl w).alloc _).alloc _
  have M0 := h.only0 oW
  have B0 : Blk W w.heap.size 65 #[.int .i64 0, .int .i64 0, .slice none 0 0, .int .i64 0, .int .i64 0] := by rw [hW]; exact (Blk.new _ _ _).alloc _
  have B1 : Blk W (w.heap.size + 1) 65 #[.int .i64 0, .int .i64 0, .slice none 0 0, .int .i64 0, .int .i64 0] := by rw [hW]; exact Blk.new' _ _ _ _ (by simp)
  have hu := h.under
  have hWs : W.heap.size = w.heap.size + 2 := by rw [hW]; simp
  obtain ⟨n0, hn0⟩ : ∃ n0, n0 = w.heap.size := ⟨_, rfl⟩
  obtain ⟨n1, hn1⟩ : ∃ n1, n1 = n0 + 1 := ⟨_, rfl⟩
  have R0 : ScRel B m w W P s A j t lo n0 n1 0 W none 0 := ⟨by rw [lookAll_zero, setTx_self ht]; exact M0, by rw [hn0]; exact B0, by rw [hn1, hn0]; exact B1, World.ownsRow_nil _ _ _ _, oW.any P⟩
  have HS := Lib.hid (show n0 < W.heap.size ∧ n1 < W.heap.size ∧ n0 ≠ n1 ∧ ¬ P n0 ∧ ¬ P n1 ∧ (∀ b, P b → b < W.heap.size) ∧ w.heap.size ≤ n0 ∧ w.heap.size ≤ n1 ∧ w.heap.size ≤ W.heap.size ∧ W.heap.size ≤ n1 + 1 from
    ⟨by omega, by omega, by omega, fun hp => by have := hu _ hp; omega, fun hp => by have := hu _ hp; omega, fun b hb => by have := hu _ hb; omega, by omega, by omega, by omega, by omega⟩)
  have HN := Lib.hid hn0
  have HN1 := Lib.hid hn1
  have HR0 := Lib.hid R0
  have HT := Lib.hid ht
  obtain ⟨i0, hi0, hz0, hz1, hz2⟩ := info_parts info_pair
  clear h M0 B0 B1 hu hWs hn0 hn1 R0 ht oW
  go_enter Try.func37, Try.ntmps37
  go_upto_region 2 with (fail)
  rw [← hW, ← HN.out, ← HN1.out]
  clear hW
  go_wp2_with fail
  go_loopw [10] (fun s10 wr => ∃ (q kk : Nat) (ra : Option Addr) (rc : Nat), s10 = .int .i64 kk ∧ Hid (kk = lo + q ∧ q ≤ hi + 1 - lo) ∧ kk ≤ hi + 1 ∧ Hid (ScRel B m w W P s A j t lo n0 n1 q wr ra rc)) (fun s10 _ => hi + 1 - (intOf s10).toNat)
  case atStart => exact ⟨0, lo, none, 0, rfl, Lib.hid ⟨rfl, by omega⟩, by omega, HR0⟩
  case round =>
    obtain ⟨q, kk, ra, rc, rfl, HK, hkb, HR⟩ := hrel
    by_cases hlt : kk ≤ hi
    · have hk64 : kk < 64 := by omega
      have T1 : (s.setTx j (some (t.lookAll lo q))).tx j = some (t.lookAll lo q) := by simp [St.setTx, upd_same]
      have HT1 := Lib.hid T1
      have C := md_look HR.out.mod T1 kk hk64
      rw [show (s.setTx j (some (t.lookAll lo q))).sees (t.lookAll lo q) kk = s.sees t kk from rfl, setTx_setTx] at C
      have hlen := pairs_few s t lo q
      have hq64 : q ≤ 64 := by have := HK.out.2; omega
      have NEXT : ∀ (w3 : World) (ra' : Option Addr) (rc' : Nat), MIn B w3 P m (s.setTx j (some ((t.lookAll lo q).look kk))) A → Blk w3 n0 65 #[.int .i64 0, .int .i64 0, .slice none 0 0, .int .i64 0, .int .i64 0] → Blk w3 n1 65 #[.int .i64 0, .int .i64 0, .slice ra' ((keysFrom lo (q + 1)).filterMap (s.pairOf t)).length rc', .int .i64 0, .int .i64 0] →
          w3.ownsRow W.heap.size 73 2 (.slice ra' ((keysFrom lo (q + 1)).filterMap (s.pairOf t)).length rc') ((keysFrom lo (q + 1)).filterMap (s.pairOf t)).length (pairCells ((keysFrom lo (q + 1)).filterMap (s.pairOf t))) → Only P w w3 →
          w3.cell? ⟨A.tb j, 6, none⟩ = some (.map (some (A.mb j 2))) ∧ ∃ w', (Instr.mapUpdate 83 (.map (some (A.mb j 2))) (.int .i64 kk) (.bool true)).run Try.prog w3 = .ok () w' ∧ Hid (ScRel B m w W P s A j t lo n0 n1 (q + 1) w' ra' rc') := by
        intro w3 ra' rc' M3 b0 b1 r3 o3
        have T3 : (s.setTx j (some ((t.lookAll lo q).look kk))).tx j = some ((t.lookAll lo q).look kk) := by simp [St.setTx, upd_same]
        have X3 := (M3.txs.one j _ T3).2
        obtain ⟨w', hst, hb, ho⟩ := X3.km.store kk hk64
        have M4 := M3.setLooked T3 ho hb
        have hkq := HK.out.1
        rw [setTx_setTx, hkq, lookAll_succ] at M4
        have hpm := X3.pm 2 (by omega)
        have oP : Only P w3 w' := ho.toward (fun b hb => by subst hb; exact hpm)
        refine ⟨X3.cells.2.2.2, w', hst, Lib.hid ⟨M4, oP.blk b0 HS.out.2.2.2.1, oP.blk b1 HS.out.2.2.2.2.1, rows_only r3 oP (fun b hb hp => ?_), o3.trans oP⟩⟩
        have := rows_above r3 b hb; have := HS.out.2.2.2.2.2.1 b hp; omega
      have HNEXT := Lib.hid NEXT
      cases hs : s.sees t kk with
      | none =>
        rw [hs, show ptrOf A.va none = .pointer none from rfl] at C
        have HE := Lib.hid (pairs_none (s := s) (t := t) (lo := lo) (q := q) (by rw [← HK.out.1]; exact hs))
        clear NEXT T1 hs
        go_wp2_with fail
        refine C.mono ?_
        rintro e w2 ⟨rfl, M2, o2⟩
        obtain ⟨c6, w', hst, HR'⟩ := HNEXT.out w2 ra rc M2 (o2.blk HR.out.box0 HS.out.2.2.2.1) (by rw [HE.out]; exact o2.blk HR.out.box1 HS.out.2.2.2.2.1) (by
          rw [HE.out]
          exact rows_only HR.out.row o2 (fun b hb hp => by have := rows_above HR.out.row b hb; have := HS.out.2.2.2.2.2.1 b hp; omega)) (HR.out.only.trans o2)
        have HK' := Lib.hid (show kk + 1 = lo + (q + 1) ∧ q + 1 ≤ hi + 1 - lo by have := HK.out; omega)
        clear C M2 o2 HK hq64 hlen
        go_wp2_with fail
        go_roundw
        case rel => exact ⟨q + 1, kk + 1, ra, rc, by go_num, HK', by omega, HR'⟩
        case measure => simp [intOf]; omega
      | some i =>
        rw [hs, show ptrOf A.va (some i) = .pointer (some ⟨A.va i, 0, none⟩) from rfl] at C
        have HE := Lib.hid (pairs_some (s := s) (t := t) (lo := lo) (q := q) (i := i) (by rw [← HK.out.1]; exact hs))
        have hi' : i < s.vs.length := by
          unfold St.sees at hs
          cases hc : t.cells kk with
          | none => rw [hc] at hs; exact at_lt HR.out.mod (key := kk) (at_ := t.beg) i hs
          | some c =>
            rw [hc] at hs
            simp only at hs
            split at hs
            · exact (HR.out.mod.ok.refs j _ kk c T1 hc).1 i hs
            · cases hs
        clear NEXT T1 hs
        obtain ⟨ps, hps⟩ : ∃ ps, ps = (keysFrom lo q).filterMap (s.pairOf t) := ⟨_, rfl⟩
        have B1 := HR.out.box1
        have RW := HR.out.row
        rw [← hps] at B1 RW hlen
        rw [← hps] at HE
        clear hps
        go_wp2_with fail
        refine C.mono ?_
        rintro e w2 ⟨rfl, M2, o2⟩
        have b0 := o2.blk HR.out.box0 HS.out.2.2.2.1
        have b1 := o2.blk B1 HS.out.2.2.2.2.1
        have r2 := rows_only RW o2 (fun b hb hp => by have := rows_above RW b hb; have := HS.out.2.2.2.2.2.1 b hp; omega)
        have o3 := HR.out.only.trans o2
        have hW2 : W.heap.size ≤ w2.heap.size := by have := b1.lt; have := HS.out.2.2.2.2.2.2.2.2.2; omega
        have v1 : w2.cell? ⟨A.va i, 1, none⟩ = some (.int .i64 (s.ver i).value) := (M2.vers.blk i hi').1.cell 1
        generalize (s.ver i).value = x at *
        rw [← HK.out.1] at HE
        have nrow : ¬ rowOf (.slice ra ps.length rc) n1 := fun hb => by have := rows_above r2 _ hb; have := HS.out.2.1; omega
        have APP := fun gg cap w1 h1 h2 h3 => scan_app (p := ((kk : Int), x)) (gg := gg) (cap := cap) (w1 := w1) M2 HS.out.1 HS.out.2.1 HS.out.2.2.1 HS.out.2.2.2.2.1 HS.out.2.2.2.2.2.1 HS.out.2.2.2.2.2.2.2.1 b0 b1 r2 o3 HS.out.2.2.2.2.2.2.2.2.1 hW2 h1 h2 h3
        have HAPP := Lib.hid APP
        have d2 : w2.cell? ⟨n1, 2, none⟩ = some (.slice ra ps.length rc) := b1.cell 2
        obtain ⟨W6, hW6⟩ : ∃ W6, W6 = (w2.alloc (.cells #[.int .i64 kk, .int .i64 x] 73)).drew := ⟨_, rfl⟩
        have o6 : Only0 w2 W6 := by rw [hW6]; exact ((Only0.refl _).alloc _).drew
        have m6 : W6.cell? ⟨n1, 2, none⟩ = some (.slice ra ps.length rc) := (o6.blk b1 (fun h => h)).cell 2
        have f6 := (o6.blk b1 (fun h => h)).free 2
        have R6 := rows_only r2 o6 (fun _ _ hf => hf)
        have hn6 : n1 < W6.heap.size := Nat.lt_of_lt_of_le b1.lt o6.size
        rw [hW6] at m6 f6 R6 hn6
        clear C M2 o2 B1 RW b0 b1 r2 o3 hi' APP hW6 o6
        go_wp2_with fail
        go_region_law
          ((refine step_append_lies _ (by rfl) _ _ _ (by rfl) W.heap.size 73 i0 _ 2 16 Try.underlying44 hi0 hz0 hz1 hz2 rfl (by omega) (.slice ra ps.length rc) ps.length (pairCells ps) (by rfl) R6
              ⟨w2.heap.size, 0, none⟩ 1 1 [.int .i64 kk, .int .i64 x] (by rfl) (by rfl) (World.news_of_block (cs := #[.int .i64 kk, .int .i64 x]) (t := 73) (fr := (0, 0)) (heap_alloc_new w2 _)) (by simp [Value.oneCell'])
              (by omega) (by unfold maxLen; omega) (by omega) (by simp; omega) (w2.heap.size + 1) (by simp) ?_; intro gg cap w1 hown2 hgrow hat hlt2
            have cz : w1.cell? ⟨n1, 2, none⟩ = some (.slice ra ps.length rc) := (hgrow.cell_far ⟨n1, 2, none⟩ hn6 (fun e => nrow e.symm)).trans m6
            have fz1 : w1.frozen? ⟨n1, 2, none⟩ = false := (hgrow.frozen_far ⟨n1, 2, none⟩ hn6 (fun e => nrow e.symm)).trans f6))
        all_goals
          obtain ⟨M5, b0, b1, r5, o5⟩ := HAPP.out gg cap w1 hown2 hgrow hlt2
          rw [← HE.out] at b1 r5
          generalize hW7 : World.setCell w1 _ _ = W7 at *
          obtain ⟨c6, w', hst, HR'⟩ := HNEXT.out W7 _ cap M5 b0 b1 r5 o5
          have HK' := Lib.hid (show kk + 1 = lo + (q + 1) ∧ q + 1 ≤ hi + 1 - lo by have := HK.out; omega)
          clear M5 b0 b1 r5 o5 hown2 hgrow hat hlt2 cz fz1 HK hq64 hlen hW7
          go_wp2_with fail
          go_roundw
          case rel => exact ⟨q + 1, kk + 1, _, cap, by go_num, HK', by omega, HR'⟩
          case measure => simp [intOf]; omega
    · have hkq := HK.out
      have hqn : q = hi + 1 - lo := by omega
      clear hkq
      have R := HR.out
      rw [hqn] at R
      have HRR := Lib.hid R
      obtain ⟨ps, hps⟩ : ∃ ps, ps = (keysFrom lo (hi + 1 - lo)).filterMap (s.pairOf t) := ⟨_, rfl⟩
      have B1 := R.box1
      have B0 := R.box0
      have RW := R.row
      rw [← hps] at B1 RW
      have HP := Lib.hid hps
      have a0 : wr.cell? ⟨n1, 0, none⟩ = some (.int .i64 0) := B1.cell 0
      have a1 : wr.cell? ⟨n1, 1, none⟩ = some (.int .i64 0) := B1.cell 1
      have a2 : wr.cell? ⟨n1, 2, none⟩ = some (.slice ra ps.length rc) := B1.cell 2
      have a3 : wr.cell? ⟨n1, 3, none⟩ = some (.int .i64 0) := B1.cell 3
      have a4 : wr.cell? ⟨n1, 4, none⟩ = some (.int .i64 0) := B1.cell 4
      have b0 : wr.cell? ⟨n0, 0, none⟩ = some (.int .i64 0) := B0.cell 0
      have b1 : wr.cell? ⟨n0, 1, none⟩ = some (.int .i64 0) := B0.cell 1
      have b2 : wr.cell? ⟨n0, 2, none⟩ = some (.slice none 0 0) := B0.cell 2
      have b3 : wr.cell? ⟨n0, 3, none⟩ = some (.int .i64 0) := B0.cell 3
      have b4 : wr.cell? ⟨n0, 4, none⟩ = some (.int .i64 0) := B0.cell 4
      have bf := fun i => B0.free i
      have HB0 := Lib.hid B0
      have HRW := Lib.hid RW
      clear hps R B0 B1 RW hqn HR HK
      go_wp2_with fail
      obtain ⟨B9, o9⟩ := set5 HB0.out (.int .i64 0) (.int .i64 0) (.slice ra ps.length rc) (.int .i64 0) (.int .i64 0)
      refine bodyPost_ret (v := .agg #[.int .i64 0, .int .i64 0, .slice ra ps.length rc, .int .i64 0, .int .i64 0]) (results_cell_row Try.results37 _ _ n0 _ _ _ _ rfl B9 Try.underlying65 rfl info_res) rfl ?_
      have ep : (s.scan j t lo (hi + 1 - lo)).1.pairs = ps := HP.out.symm
      have hra : ∀ x, ra = some x → W.heap.size ≤ x.block := fun x hx => by
        subst hx
        rcases HRW.out.2 with ⟨h0, _⟩ | ⟨g, c1, c2, hv, hg, _⟩
        · cases h0
        · injection hv with h1 h2 h3; injection h1 with h1; subst h1; exact hg
      refine ⟨A, P, ra, rc, by rw [ep]; rfl, HRR.out.mod.only o9 (fun b hb e => by subst e; exact HS.out.2.2.2.1 hb), rfl, rfl, HRR.out.only.grewTrans (P2 := fun b => P b ∨ b = n0) (fun b hb => hb.imp id (fun e => by have := HS.out.2.2.2.2.2.2.1; omega)) (o9.toward (fun b hb => .inr hb)), Grew.refl _ _, ?_, fun x hx => ?_⟩
      · rw [ep]
        exact (PairsIn.of_own HRW.out).only o9 (fun x hx e => by have := hra x hx; have := HS.out.1; omega)
      · have h1 := hra x hx
        exact ⟨by have := HS.out.2.2.2.2.2.2.2.2.1; omega, fun hp => by have := HS.out.2.2.2.2.2.1 _ hp; omega⟩
end Go.Proofs.Ytdjehgnkpbkdbaa
namespace Go.Proofs.Ytdjehgnkpbkdbaa
open Go.RowKit
set_option linter.unusedVariables false
set_option linter.unusedSimpArgs false
set_option maxHeartbeats 2000000 in
theorem md_sess (j : Int) (w : World) : Calls Try.prog 28 #[.int .i64 j] w fun e w' => e = .returned (.bool (sessB j)) ∧ w = w' := by
  by_cases h0 : 0 ≤ j
  · go_enter Try.func28, Try.ntmps28
    go_wp2_with fail
    go_ret; exact ⟨ret_bool (by simp [sessB, h0]), rfl⟩
  · go_enter Try.func28, Try.ntmps28
    go_wp2_with fail
    go_ret; exact ⟨ret_bool (by simp [sessB]; omega), rfl⟩
set_option maxHeartbeats 2000000 in
theorem md_level (n : Int) (w : World) : Calls Try.prog 29 #[.int .i64 n] w fun e w' => e = .returned (.bool (levelB n)) ∧ w = w' := by
  by_cases h0 : 1 ≤ n
  · go_enter Try.func29, Try.ntmps29
    go_wp2_with fail
    go_ret; exact ⟨ret_bool (by simp [levelB, h0]), rfl⟩
  · go_enter Try.func29, Try.ntmps29
    go_wp2_with fail
    go_ret; exact ⟨ret_bool (by simp [levelB]; omega), rfl⟩
set_option maxHeartbeats 4000000 in
theorem md_conf (slots limit : Int) (w : World) : Calls Try.prog 16 #[.agg #[.int .i64 slots, .int .u64 limit]] w fun e w' => e = .returned (.bool (confB slots limit)) ∧ Only0 w w' := by
  have hd : slots < 1 ∨ (1 ≤ slots ∧ 256 < slots) ∨ (1 ≤ slots ∧ slots ≤ 256 ∧ limit < 1) ∨ (1 ≤ slots ∧ slots ≤ 256 ∧ 1 ≤ limit ∧ 1099511627776 < limit) ∨ (1 ≤ slots ∧ slots ≤ 256 ∧ 1 ≤ limit ∧ limit ≤ 1099511627776) := by omega
  have HC : Hid (confB slots limit = (decide (1 ≤ slots) && decide (slots ≤ 256) && decide (1 ≤ limit) && decide (limit ≤ 1099511627776))) := Lib.hid rfl
  rcases hd with h1 | ⟨h1, h2⟩ | ⟨h1, h2, h3⟩ | ⟨h1, h2, h3, h4⟩ | ⟨h1, h2, h3, h4⟩
  all_goals
    go_enter Try.func16, Try.ntmps16
    go_wp2_with fail
    go_ret; exact ⟨ret_bool (by rw [HC.out]; simp; omega), (Only0.refl w).alloc _⟩
set_option maxHeartbeats 4000000 in
theorem md_ends (kind key hi value : Int) (w : World) : Calls Try.prog 33 #[.agg #[.int .i64 kind, .int .i64 key, .int .i64 hi, .int .i64 value]] w fun e w' => e = .returned (.bool (endsB ⟨kind, key, hi, value⟩)) ∧ Only0 w w' := by
  by_cases h6 : kind = 6
  · subst h6
    go_enter Try.func33, Try.ntmps33
    go_wp2_with fail
    go_ret; exact ⟨ret_bool (by simp [endsB]), (Only0.refl w).alloc _⟩
  · by_cases h7 : kind = 7
    · subst h7
      go_enter Try.func33, Try.ntmps33
      go_wp2_with fail
      go_ret; exact ⟨ret_bool (by simp [endsB]), (Only0.refl w).alloc _⟩
    · have b6 : (kind == 6) = false := by simpa using h6
      have b7 : (kind == 7) = false := by simpa using h7
      have HE := Lib.hid (show endsB ⟨kind, key, hi, value⟩ = false by simp [endsB, h6, h7])
      clear h6 h7
      go_enter Try.func33, Try.ntmps33
      go_wp2_with fail
      go_ret; exact ⟨ret_bool (by rw [HE.out]), (Only0.refl w).alloc _⟩
set_option maxHeartbeats 4000000 in
theorem opOk_1_a (key hi value : Int) (w : World) (a1 : key < 0) : Calls Try.prog 32 #[.agg #[.int .i64 1, .int .i64 key, .int .i64 hi, .int .i64 value]] w fun e w' => e = .returned (.bool false) ∧ Only0 w w' := by
  go_enter Try.func32, Try.ntmps32
  go_wp2_with fail
  go_ret; first | exact ⟨rfl, (Only0.refl w).alloc _⟩ | exact ⟨ret_bool (by simp; omega), (Only0.refl w).alloc _⟩
set_option maxHeartbeats 4000000 in
theorem opOk_1_b (key hi value : Int) (w : World) (a1 : 0 ≤ key) (a2 : 63 < key) : Calls Try.prog 32 #[.agg #[.int .i64 1, .int .i64 key, .int .i64 hi, .int .i64 value]] w fun e w' => e = .returned (.bool false) ∧ Only0 w w' := by
  go_enter Try.func32, Try.ntmps32
  go_wp2_with fail
  go_ret; first | exact ⟨rfl, (Only0.refl w).alloc _⟩ | exact ⟨ret_bool (by simp; omega), (Only0.refl w).alloc _⟩
set_option maxHeartbeats 4000000 in
theorem opOk_1_c (key hi value : Int) (w : World) (a1 : 0 ≤ key) (a2 : key ≤ 63) (a3 : (hi == 0) = false) : Calls Try.prog 32 #[.agg #[.int .i64 1, .int .i64 key, .int .i64 hi, .int .i64 value]] w fun e w' => e = .returned (.bool false) ∧ Only0 w w' := by
  go_enter Try.func32, Try.ntmps32
  go_wp2_with fail
  go_ret; first | exact ⟨rfl, (Only0.refl w).alloc _⟩ | exact ⟨ret_bool (by simp; omega), (Only0.refl w).alloc _⟩
set_option maxHeartbeats 4000000 in
theorem opOk_1_d (key value : Int) (w : World) (a1 : 0 ≤ key) (a2 : key ≤ 63) (a3 : (value == 0) = false) : Calls Try.prog 32 #[.agg #[.int .i64 1, .int .i64 key, .int .i64 0, .int .i64 value]] w fun e w' => e = .returned (.bool false) ∧ Only0 w w' := by
  go_enter Try.func32, Try.ntmps32
  go_wp2_with fail
  go_ret; first | exact ⟨rfl, (Only0.refl w).alloc _⟩ | exact ⟨ret_bool (by simp; omega), (Only0.refl w).alloc _⟩
set_option maxHeartbeats 4000000 in
theorem opOk_1_e (key : Int) (w : World) (a1 : 0 ≤ key) (a2 : key ≤ 63) : Calls Try.prog 32 #[.agg #[.int .i64 1, .int .i64 key, .int .i64 0, .int .i64 0]] w fun e w' => e = .returned (.bool true) ∧ Only0 w w' := by
  go_enter Try.func32, Try.ntmps32
  go_wp2_with fail
  go_ret; first | exact ⟨rfl, (Only0.refl w).alloc _⟩ | exact ⟨ret_bool (by simp; omega), (Only0.refl w).alloc _⟩
set_option maxHeartbeats 4000000 in
theorem opOk_4_a (key hi value : Int) (w : World) (a1 : key < 0) : Calls Try.prog 32 #[.agg #[.int .i64 4, .int .i64 key, .int .i64 hi, .int .i64 value]] w fun e w' => e = .returned (.bool false) ∧ Only0 w w' := by
  go_enter Try.func32, Try.ntmps32
  go_wp2_with fail
  go_ret; first | exact ⟨rfl, (Only0.refl w).alloc _⟩ | exact ⟨ret_bool (by simp; omega), (Only0.refl w).alloc _⟩
set_option maxHeartbeats 4000000 in
theorem opOk_4_b (key hi value : Int) (w : World) (a1 : 0 ≤ key) (a2 : 63 < key) : Calls Try.prog 32 #[.agg #[.int .i64 4, .int .i64 key, .int .i64 hi, .int .i64 value]] w fun e w' => e = .returned (.bool false) ∧ Only0 w w' := by
  go_enter Try.func32, Try.ntmps32
  go_wp2_with fail
  go_ret; first | exact ⟨rfl, (Only0.refl w).alloc _⟩ | exact ⟨ret_bool (by simp; omega), (Only0.refl w).alloc _⟩
set_option maxHeartbeats 4000000 in
theorem opOk_4_c (key hi value : Int) (w : World) (a1 : 0 ≤ key) (a2 : key ≤ 63) (a3 : (hi == 0) = false) : Calls Try.prog 32 #[.agg #[.int .i64 4, .int .i64 key, .int .i64 hi, .int .i64 value]] w fun e w' => e = .returned (.bool false) ∧ Only0 w w' := by
  go_enter Try.func32, Try.ntmps32
  go_wp2_with fail
  go_ret; first | exact ⟨rfl, (Only0.refl w).alloc _⟩ | exact ⟨ret_bool (by simp; omega), (Only0.refl w).alloc _⟩
set_option maxHeartbeats 4000000 in
theorem opOk_4_d (key value : Int) (w : World) (a1 : 0 ≤ key) (a2 : key ≤ 63) (a3 : (value == 0) = false) : Calls Try.prog 32 #[.agg #[.int .i64 4, .int .i64 key, .int .i64 0, .int .i64 value]] w fun e w' => e = .returned (.bool false) ∧ Only0 w w' := by
  go_enter Try.func32, Try.ntmps32
  go_wp2_with fail
  go_ret; first | exact ⟨rfl, (Only0.refl w).alloc _⟩ | exact ⟨ret_bool (by simp; omega), (Only0.refl w).alloc _⟩
set_option maxHeartbeats 4000000 in
theorem opOk_4_e (key : Int) (w : World) (a1 : 0 ≤ key) (a2 : key ≤ 63) : Calls Try.prog 32 #[.agg #[.int .i64 4, .int .i64 key, .int .i64 0, .int .i64 0]] w fun e w' => e = .returned (.bool true) ∧ Only0 w w' := by
  go_enter Try.func32, Try.ntmps32
  go_wp2_with fail
  go_ret; first | exact ⟨rfl, (Only0.refl w).alloc _⟩ | exact ⟨ret_bool (by simp; omega), (Only0.refl w).alloc _⟩
set_option maxHeartbeats 4000000 in
theorem opOk_2_a (key hi value : Int) (w : World) (a1 : key < 0) : Calls Try.prog 32 #[.agg #[.int .i64 2, .int .i64 key, .int .i64 hi, .int .i64 value]] w fun e w' => e = .returned (.bool false) ∧ Only0 w w' := by
  go_enter Try.func32, Try.ntmps32
  go_wp2_with fail
  go_ret; first | exact ⟨rfl, (Only0.refl w).alloc _⟩ | exact ⟨ret_bool (by simp; omega), (Only0.refl w).alloc _⟩
set_option maxHeartbeats 4000000 in
theorem opOk_2_b (key hi value : Int) (w : World) (a1 : 0 ≤ key) (a2 : 63 < key) : Calls Try.prog 32 #[.agg #[.int .i64 2, .int .i64 key, .int .i64 hi, .int .i64 value]] w fun e w' => e = .returned (.bool false) ∧ Only0 w w' := by
  go_enter Try.func32, Try.ntmps32
  go_wp2_with fail
  go_ret; first | exact ⟨rfl, (Only0.refl w).alloc _⟩ | exact ⟨ret_bool (by simp; omega), (Only0.refl w).alloc _⟩
set_option maxHeartbeats 4000000 in
theorem opOk_2_c (key hi value : Int) (w : World) (a1 : 0 ≤ key) (a2 : key ≤ 63) (a3 : (hi == 0) = false) : Calls Try.prog 32 #[.agg #[.int .i64 2, .int .i64 key, .int .i64 hi, .int .i64 value]] w fun e w' => e = .returned (.bool false) ∧ Only0 w w' := by
  go_enter Try.func32, Try.ntmps32
  go_wp2_with fail
  go_ret; first | exact ⟨rfl, (Only0.refl w).alloc _⟩ | exact ⟨ret_bool (by simp; omega), (Only0.refl w).alloc _⟩
set_option maxHeartbeats 4000000 in
theorem opOk_2_d (key value : Int) (w : World) (a1 : 0 ≤ key) (a2 : key ≤ 63) (a3 : value < 0) : Calls Try.prog 32 #[.agg #[.int .i64 2, .int .i64 key, .int .i64 0, .int .i64 value]] w fun e w' => e = .returned (.bool false) ∧ Only0 w w' := by
  go_enter Try.func32, Try.ntmps32
  go_wp2_with fail
  go_ret; first | exact ⟨rfl, (Only0.refl w).alloc _⟩ | exact ⟨ret_bool (by simp; omega), (Only0.refl w).alloc _⟩
set_option maxHeartbeats 4000000 in
theorem opOk_2_e (key value : Int) (w : World) (a1 : 0 ≤ key) (a2 : key ≤ 63) (a3 : 0 ≤ value) (a4 : 65535 < value) : Calls Try.prog 32 #[.agg #[.int .i64 2, .int .i64 key, .int .i64 0, .int .i64 value]] w fun e w' => e = .returned (.bool false) ∧ Only0 w w' := by
  go_enter Try.func32, Try.ntmps32
  go_wp2_with fail
  go_ret; first | exact ⟨rfl, (Only0.refl w).alloc _⟩ | exact ⟨ret_bool (by simp; omega), (Only0.refl w).alloc _⟩
set_option maxHeartbeats 4000000 in
theorem opOk_2_f (key value : Int) (w : World) (a1 : 0 ≤ key) (a2 : key ≤ 63) (a3 : 0 ≤ value) (a4 : value ≤ 65535) : Calls Try.prog 32 #[.agg #[.int .i64 2, .int .i64 key, .int .i64 0, .int .i64 value]] w fun e w' => e = .returned (.bool true) ∧ Only0 w w' := by
  go_enter Try.func32, Try.ntmps32
  go_wp2_with fail
  go_ret; first | exact ⟨rfl, (Only0.refl w).alloc _⟩ | exact ⟨ret_bool (by simp; omega), (Only0.refl w).alloc _⟩
set_option maxHeartbeats 4000000 in
theorem opOk_3_a (key hi value : Int) (w : World) (a1 : key < 0) : Calls Try.prog 32 #[.agg #[.int .i64 3, .int .i64 key, .int .i64 hi, .int .i64 value]] w fun e w' => e = .returned (.bool false) ∧ Only0 w w' := by
  go_enter Try.func32, Try.ntmps32
  go_wp2_with fail
  go_ret; first | exact ⟨rfl, (Only0.refl w).alloc _⟩ | exact ⟨ret_bool (by simp; omega), (Only0.refl w).alloc _⟩
set_option maxHeartbeats 4000000 in
theorem opOk_3_b (key hi value : Int) (w : World) (a1 : 0 ≤ key) (a2 : 63 < key) : Calls Try.prog 32 #[.agg #[.int .i64 3, .int .i64 key, .int .i64 hi, .int .i64 value]] w fun e w' => e = .returned (.bool false) ∧ Only0 w w' := by
  go_enter Try.func32, Try.ntmps32
  go_wp2_with fail
  go_ret; first | exact ⟨rfl, (Only0.refl w).alloc _⟩ | exact ⟨ret_bool (by simp; omega), (Only0.refl w).alloc _⟩
set_option maxHeartbeats 4000000 in
theorem opOk_3_c (key hi value : Int) (w : World) (a1 : 0 ≤ key) (a2 : key ≤ 63) (a3 : (hi == 0) = false) : Calls Try.prog 32 #[.agg #[.int .i64 3, .int .i64 key, .int .i64 hi, .int .i64 value]] w fun e w' => e = .returned (.bool false) ∧ Only0 w w' := by
  go_enter Try.func32, Try.ntmps32
  go_wp2_with fail
  go_ret; first | exact ⟨rfl, (Only0.refl w).alloc _⟩ | exact ⟨ret_bool (by simp; omega), (Only0.refl w).alloc _⟩
set_option maxHeartbeats 4000000 in
theorem opOk_3_d (key value : Int) (w : World) (a1 : 0 ≤ key) (a2 : key ≤ 63) (a3 : value < 0) : Calls Try.prog 32 #[.agg #[.int .i64 3, .int .i64 key, .int .i64 0, .int .i64 value]] w fun e w' => e = .returned (.bool false) ∧ Only0 w w' := by
  go_enter Try.func32, Try.ntmps32
  go_wp2_with fail
  go_ret; first | exact ⟨rfl, (Only0.refl w).alloc _⟩ | exact ⟨ret_bool (by simp; omega), (Only0.refl w).alloc _⟩
set_option maxHeartbeats 4000000 in
theorem opOk_3_e (key value : Int) (w : World) (a1 : 0 ≤ key) (a2 : key ≤ 63) (a3 : 0 ≤ value) (a4 : 65535 < value) : Calls Try.prog 32 #[.agg #[.int .i64 3, .int .i64 key, .int .i64 0, .int .i64 value]] w fun e w' => e = .returned (.bool false) ∧ Only0 w w' := by
  go_enter Try.func32, Try.ntmps32
  go_wp2_with fail
  go_ret; first | exact ⟨rfl, (Only0.refl w).alloc _⟩ | exact ⟨ret_bool (by simp; omega), (Only0.refl w).alloc _⟩
set_option maxHeartbeats 4000000 in
theorem opOk_3_f (key value : Int) (w : World) (a1 : 0 ≤ key) (a2 : key ≤ 63) (a3 : 0 ≤ value) (a4 : value ≤ 65535) : Calls Try.prog 32 #[.agg #[.int .i64 3, .int .i64 key, .int .i64 0, .int .i64 value]] w fun e w' => e = .returned (.bool true) ∧ Only0 w w' := by
  go_enter Try.func32, Try.ntmps32
  go_wp2_with fail
  go_ret; first | exact ⟨rfl, (Only0.refl w).alloc _⟩ | exact ⟨ret_bool (by simp; omega), (Only0.refl w).alloc _⟩
set_option maxHeartbeats 4000000 in
theorem opOk_5_a (key hi value : Int) (w : World) (a1 : key < 0) : Calls Try.prog 32 #[.agg #[.int .i64 5, .int .i64 key, .int .i64 hi, .int .i64 value]] w fun e w' => e = .returned (.bool false) ∧ Only0 w w' := by
  go_enter Try.func32, Try.ntmps32
  go_wp2_with fail
  go_ret; first | exact ⟨rfl, (Only0.refl w).alloc _⟩ | exact ⟨ret_bool (by simp; omega), (Only0.refl w).alloc _⟩
set_option maxHeartbeats 4000000 in
theorem opOk_5_b (key hi value : Int) (w : World) (a1 : 0 ≤ key) (a2 : 63 < key) : Calls Try.prog 32 #[.agg #[.int .i64 5, .int .i64 key, .int .i64 hi, .int .i64 value]] w fun e w' => e = .returned (.bool false) ∧ Only0 w w' := by
  go_enter Try.func32, Try.ntmps32
  go_wp2_with fail
  go_ret; first | exact ⟨rfl, (Only0.refl w).alloc _⟩ | exact ⟨ret_bool (by simp; omega), (Only0.refl w).alloc _⟩
set_option maxHeartbeats 4000000 in
theorem opOk_5_c (key hi value : Int) (w : World) (a1 : 0 ≤ key) (a2 : key ≤ 63) (a3 : hi < key) : Calls Try.prog 32 #[.agg #[.int .i64 5, .int .i64 key, .int .i64 hi, .int .i64 value]] w fun e w' => e = .returned (.bool false) ∧ Only0 w w' := by
  go_enter Try.func32, Try.ntmps32
  go_wp2_with fail
  go_ret; first | exact ⟨rfl, (Only0.refl w).alloc _⟩ | exact ⟨ret_bool (by simp; omega), (Only0.refl w).alloc _⟩
set_option maxHeartbeats 4000000 in
theorem opOk_5_d (key hi value : Int) (w : World) (a1 : 0 ≤ key) (a2 : key ≤ 63) (a3 : key ≤ hi) (a4 : 63 < hi) : Calls Try.prog 32 #[.agg #[.int .i64 5, .int .i64 key, .int .i64 hi, .int .i64 value]] w fun e w' => e = .returned (.bool false) ∧ Only0 w w' := by
  go_enter Try.func32, Try.ntmps32
  go_wp2_with fail
  go_ret; first | exact ⟨rfl, (Only0.refl w).alloc _⟩ | exact ⟨ret_bool (by simp; omega), (Only0.refl w).alloc _⟩
set_option maxHeartbeats 4000000 in
theorem opOk_5_e (key hi value : Int) (w : World) (a1 : 0 ≤ key) (a2 : key ≤ 63) (a3 : key ≤ hi) (a4 : hi ≤ 63) (a5 : (value == 0) = false) : Calls Try.prog 32 #[.agg #[.int .i64 5, .int .i64 key, .int .i64 hi, .int .i64 value]] w fun e w' => e = .returned (.bool false) ∧ Only0 w w' := by
  go_enter Try.func32, Try.ntmps32
  go_wp2_with fail
  go_ret; first | exact ⟨rfl, (Only0.refl w).alloc _⟩ | exact ⟨ret_bool (by simp; omega), (Only0.refl w).alloc _⟩
set_option maxHeartbeats 4000000 in
theorem opOk_5_f (key hi : Int) (w : World) (a1 : 0 ≤ key) (a2 : key ≤ 63) (a3 : key ≤ hi) (a4 : hi ≤ 63) : Calls Try.prog 32 #[.agg #[.int .i64 5, .int .i64 key, .int .i64 hi, .int .i64 0]] w fun e w' => e = .returned (.bool true) ∧ Only0 w w' := by
  go_enter Try.func32, Try.ntmps32
  go_wp2_with fail
  go_ret; first | exact ⟨rfl, (Only0.refl w).alloc _⟩ | exact ⟨ret_bool (by simp; omega), (Only0.refl w).alloc _⟩
set_option maxHeartbeats 4000000 in
theorem opOk_6_a (key hi value : Int) (w : World) (a1 : key < 0) (a3 : (key == 0) = false) : Calls Try.prog 32 #[.agg #[.int .i64 6, .int .i64 key, .int .i64 hi, .int .i64 value]] w fun e w' => e = .returned (.bool false) ∧ Only0 w w' := by
  go_enter Try.func32, Try.ntmps32
  go_wp2_with fail
  go_ret; first | exact ⟨rfl, (Only0.refl w).alloc _⟩ | exact ⟨ret_bool (by simp; omega), (Only0.refl w).alloc _⟩
set_option maxHeartbeats 4000000 in
theorem opOk_6_b (key hi value : Int) (w : World) (a1 : 0 ≤ key) (a2 : 63 < key) (a3 : (key == 0) = false) : Calls Try.prog 32 #[.agg #[.int .i64 6, .int .i64 key, .int .i64 hi, .int .i64 value]] w fun e w' => e = .returned (.bool false) ∧ Only0 w w' := by
  go_enter Try.func32, Try.ntmps32
  go_wp2_with fail
  go_ret; first | exact ⟨rfl, (Only0.refl w).alloc _⟩ | exact ⟨ret_bool (by simp; omega), (Only0.refl w).alloc _⟩
set_option maxHeartbeats 4000000 in
theorem opOk_6_c (key hi value : Int) (w : World) (a1 : 0 ≤ key) (a2 : key ≤ 63) (a3 : (key == 0) = false) : Calls Try.prog 32 #[.agg #[.int .i64 6, .int .i64 key, .int .i64 hi, .int .i64 value]] w fun e w' => e = .returned (.bool false) ∧ Only0 w w' := by
  go_enter Try.func32, Try.ntmps32
  go_wp2_with fail
  go_ret; first | exact ⟨rfl, (Only0.refl w).alloc _⟩ | exact ⟨ret_bool (by simp; omega), (Only0.refl w).alloc _⟩
set_option maxHeartbeats 4000000 in
theorem opOk_6_d (hi value : Int) (w : World) (a3 : (hi == 0) = false) : Calls Try.prog 32 #[.agg #[.int .i64 6, .int .i64 0, .int .i64 hi, .int .i64 value]] w fun e w' => e = .returned (.bool false) ∧ Only0 w w' := by
  go_enter Try.func32, Try.ntmps32
  go_wp2_with fail
  go_ret; first | exact ⟨rfl, (Only0.refl w).alloc _⟩ | exact ⟨ret_bool (by simp; omega), (Only0.refl w).alloc _⟩
set_option maxHeartbeats 4000000 in
theorem opOk_6_e (value : Int) (w : World) (a3 : (value == 0) = false) : Calls Try.prog 32 #[.agg #[.int .i64 6, .int .i64 0, .int .i64 0, .int .i64 value]] w fun e w' => e = .returned (.bool false) ∧ Only0 w w' := by
  go_enter Try.func32, Try.ntmps32
  go_wp2_with fail
  go_ret; first | exact ⟨rfl, (Only0.refl w).alloc _⟩ | exact ⟨ret_bool (by simp; omega), (Only0.refl w).alloc _⟩
set_option maxHeartbeats 4000000 in
theorem opOk_6_f  (w : World)  : Calls Try.prog 32 #[.agg #[.int .i64 6, .int .i64 0, .int .i64 0, .int .i64 0]] w fun e w' => e = .returned (.bool true) ∧ Only0 w w' := by
  go_enter Try.func32, Try.ntmps32
  go_wp2_with fail
  go_ret; first | exact ⟨rfl, (Only0.refl w).alloc _⟩ | exact ⟨ret_bool (by simp; omega), (Only0.refl w).alloc _⟩
set_option maxHeartbeats 4000000 in
theorem opOk_7_a (key hi value : Int) (w : World) (a1 : key < 0) (a3 : (key == 0) = false) : Calls Try.prog 32 #[.agg #[.int .i64 7, .int .i64 key, .int .i64 hi, .int .i64 value]] w fun e w' => e = .returned (.bool false) ∧ Only0 w w' := by
  go_enter Try.func32, Try.ntmps32
  go_wp2_with fail
  go_ret; first | exact ⟨rfl, (Only0.refl w).alloc _⟩ | exact ⟨ret_bool (by simp; omega), (Only0.refl w).alloc _⟩
set_option maxHeartbeats 4000000 in
theorem opOk_7_b (key hi value : Int) (w : World) (a1 : 0 ≤ key) (a2 : 63 < key) (a3 : (key == 0) = false) : Calls Try.prog 32 #[.agg #[.int .i64 7, .int .i64 key, .int .i64 hi, .int .i64 value]] w fun e w' => e = .returned (.bool false) ∧ Only0 w w' := by
  go_enter Try.func32, Try.ntmps32
  go_wp2_with fail
  go_ret; first | exact ⟨rfl, (Only0.refl w).alloc _⟩ | exact ⟨ret_bool (by simp; omega), (Only0.refl w).alloc _⟩
set_option maxHeartbeats 4000000 in
theorem opOk_7_c (key hi value : Int) (w : World) (a1 : 0 ≤ key) (a2 : key ≤ 63) (a3 : (key == 0) = false) : Calls Try.prog 32 #[.agg #[.int .i64 7, .int .i64 key, .int .i64 hi, .int .i64 value]] w fun e w' => e = .returned (.bool false) ∧ Only0 w w' := by
  go_enter Try.func32, Try.ntmps32
  go_wp2_with fail
  go_ret; first | exact ⟨rfl, (Only0.refl w).alloc _⟩ | exact ⟨ret_bool (by simp; omega), (Only0.refl w).alloc _⟩
set_option maxHeartbeats 4000000 in
theorem opOk_7_d (hi value : Int) (w : World) (a3 : (hi == 0) = false) : Calls Try.prog 32 #[.agg #[.int .i64 7, .int .i64 0, .int .i64 hi, .int .i64 value]] w fun e w' => e = .returned (.bool false) ∧ Only0 w w' := by
  go_enter Try.func32, Try.ntmps32
  go_wp2_with fail
  go_ret; first | exact ⟨rfl, (Only0.refl w).alloc _⟩ | exact ⟨ret_bool (by simp; omega), (Only0.refl w).alloc _⟩
set_option maxHeartbeats 4000000 in
theorem opOk_7_e (value : Int) (w : World) (a3 : (value == 0) = false) : Calls Try.prog 32 #[.agg #[.int .i64 7, .int .i64 0, .int .i64 0, .int .i64 value]] w fun e w' => e = .returned (.bool false) ∧ Only0 w w' := by
  go_enter Try.func32, Try.ntmps32
  go_wp2_with fail
  go_ret; first | exact ⟨rfl, (Only0.refl w).alloc _⟩ | exact ⟨ret_bool (by simp; omega), (Only0.refl w).alloc _⟩
set_option maxHeartbeats 4000000 in
theorem opOk_7_f  (w : World)  : Calls Try.prog 32 #[.agg #[.int .i64 7, .int .i64 0, .int .i64 0, .int .i64 0]] w fun e w' => e = .returned (.bool true) ∧ Only0 w w' := by
  go_enter Try.func32, Try.ntmps32
  go_wp2_with fail
  go_ret; first | exact ⟨rfl, (Only0.refl w).alloc _⟩ | exact ⟨ret_bool (by simp; omega), (Only0.refl w).alloc _⟩
set_option maxHeartbeats 4000000 in
theorem opOk_x_a (kind key hi value : Int) (w : World) (b1 : (kind == 1) = false) (b2 : (kind == 2) = false) (b3 : (kind == 3) = false) (b4 : (kind == 4) = false) (b5 : (kind == 5) = false) (b6 : (kind == 6) = false) (b7 : (kind == 7) = false) (a1 : key < 0) : Calls Try.prog 32 #[.agg #[.int .i64 kind, .int .i64 key, .int .i64 hi, .int .i64 value]] w fun e w' => e = .returned (.bool false) ∧ Only0 w w' := by
  go_enter Try.func32, Try.ntmps32
  go_wp2_with fail
  go_ret; first | exact ⟨rfl, (Only0.refl w).alloc _⟩ | exact ⟨ret_bool (by simp; omega), (Only0.refl w).alloc _⟩
set_option maxHeartbeats 4000000 in
theorem opOk_x_b (kind key hi value : Int) (w : World) (b1 : (kind == 1) = false) (b2 : (kind == 2) = false) (b3 : (kind == 3) = false) (b4 : (kind == 4) = false) (b5 : (kind == 5) = false) (b6 : (kind == 6) = false) (b7 : (kind == 7) = false) (a1 : 0 ≤ key) (a2 : 63 < key) : Calls Try.prog 32 #[.agg #[.int .i64 kind, .int .i64 key, .int .i64 hi, .int .i64 value]] w fun e w' => e = .returned (.bool false) ∧ Only0 w w' := by
  go_enter Try.func32, Try.ntmps32
  go_wp2_with fail
  go_ret; first | exact ⟨rfl, (Only0.refl w).alloc _⟩ | exact ⟨ret_bool (by simp; omega), (Only0.refl w).alloc _⟩
set_option maxHeartbeats 4000000 in
theorem opOk_x_c (kind key hi value : Int) (w : World) (b1 : (kind == 1) = false) (b2 : (kind == 2) = false) (b3 : (kind == 3) = false) (b4 : (kind == 4) = false) (b5 : (kind == 5) = false) (b6 : (kind == 6) = false) (b7 : (kind == 7) = false) (a1 : 0 ≤ key) (a2 : key ≤ 63) : Calls Try.prog 32 #[.agg #[.int .i64 kind, .int .i64 key, .int .i64 hi, .int .i64 value]] w fun e w' => e = .returned (.bool false) ∧ Only0 w w' := by
  go_enter Try.func32, Try.ntmps32
  go_wp2_with fail
  go_ret; first | exact ⟨rfl, (Only0.refl w).alloc _⟩ | exact ⟨ret_bool (by simp; omega), (Only0.refl w).alloc _⟩
theorem md_opOk (kind key hi value : Int) (w : World) : Calls Try.prog 32 #[.agg #[.int .i64 kind, .int .i64 key, .int .i64 hi, .int .i64 value]] w fun e w' => e = .returned (.bool (opOkB ⟨kind, key, hi, value⟩)) ∧ Only0 w w' := by
  have hk : key < 0 ∨ (0 ≤ key ∧ 63 < key) ∨ (0 ≤ key ∧ key ≤ 63) := by omega
  have fin : ∀ b : Bool, opOkB ⟨kind, key, hi, value⟩ = b → (Calls Try.prog 32 #[.agg #[.int .i64 kind, .int .i64 key, .int .i64 hi, .int .i64 value]] w fun e w' => e = .returned (.bool b) ∧ Only0 w w') → Calls Try.prog 32 #[.agg #[.int .i64 kind, .int .i64 key, .int .i64 hi, .int .i64 value]] w fun e w' => e = .returned (.bool (opOkB ⟨kind, key, hi, value⟩)) ∧ Only0 w w' := fun b hb h => by rw [hb]; exact h
  by_cases h1 : kind = 1
  · subst h1
    rcases hk with a1 | ⟨a1, a2⟩ | ⟨a1, a2⟩
    · exact fin false (by simp [opOkB, keyOkB]; omega) (opOk_1_a _ _ _ w a1)
    · exact fin false (by simp [opOkB, keyOkB]; omega) (opOk_1_b _ _ _ w a1 a2)
    · by_cases e1 : hi = 0
      · subst e1
        by_cases e2 : value = 0
        · subst e2; exact fin true (by simp [opOkB, keyOkB]; omega) (opOk_1_e _ w a1 a2)
        · exact fin false (by simp [opOkB, keyOkB, e2]) (opOk_1_d _ _ w a1 a2 (by simpa using e2))
      · exact fin false (by simp [opOkB, keyOkB, e1]) (opOk_1_c _ _ _ w a1 a2 (by simpa using e1))
  by_cases h2 : kind = 2
  · subst h2
    rcases hk with a1 | ⟨a1, a2⟩ | ⟨a1, a2⟩
    · exact fin false (by simp [opOkB, keyOkB]; omega) (opOk_2_a _ _ _ w a1)
    · exact fin false (by simp [opOkB, keyOkB]; omega) (opOk_2_b _ _ _ w a1 a2)
    · by_cases e1 : hi = 0
      · subst e1
        by_cases e2 : value < 0
        · exact fin false (by simp [opOkB, keyOkB]; omega) (opOk_2_d _ _ w a1 a2 e2)
        · by_cases e3 : 65535 < value
          · exact fin false (by simp [opOkB, keyOkB]; omega) (opOk_2_e _ _ w a1 a2 (by omega) e3)
          · exact fin true (by simp [opOkB, keyOkB]; omega) (opOk_2_f _ _ w a1 a2 (by omega) (by omega))
      · exact fin false (by simp [opOkB, keyOkB, e1]) (opOk_2_c _ _ _ w a1 a2 (by simpa using e1))
  by_cases h3 : kind = 3
  · subst h3
    rcases hk with a1 | ⟨a1, a2⟩ | ⟨a1, a2⟩
    · exact fin false (by simp [opOkB, keyOkB]; omega) (opOk_3_a _ _ _ w a1)
    · exact fin false (by simp [opOkB, keyOkB]; omega) (opOk_3_b _ _ _ w a1 a2)
    · by_cases e1 : hi = 0
      · subst e1
        by_cases e2 : value < 0
        · exact fin false (by simp [opOkB, keyOkB]; omega) (opOk_3_d _ _ w a1 a2 e2)
        · by_cases e3 : 65535 < value
          · exact fin false (by simp [opOkB, keyOkB]; omega) (opOk_3_e _ _ w a1 a2 (by omega) e3)
          · exact fin true (by simp [opOkB, keyOkB]; omega) (opOk_3_f _ _ w a1 a2 (by omega) (by omega))
      · exact fin false (by simp [opOkB, keyOkB, e1]) (opOk_3_c _ _ _ w a1 a2 (by simpa using e1))
  by_cases h4 : kind = 4
  · subst h4
    rcases hk with a1 | ⟨a1, a2⟩ | ⟨a1, a2⟩
    · exact fin false (by simp [opOkB, keyOkB]; omega) (opOk_4_a _ _ _ w a1)
    · exact fin false (by simp [opOkB, keyOkB]; omega) (opOk_4_b _ _ _ w a1 a2)
    · by_cases e1 : hi = 0
      · subst e1
        by_cases e2 : value = 0
        · subst e2; exact fin true (by simp [opOkB, keyOkB]; omega) (opOk_4_e _ w a1 a2)
        · exact fin false (by simp [opOkB, keyOkB, e2]) (opOk_4_d _ _ w a1 a2 (by simpa using e2))
      · exact fin false (by simp [opOkB, keyOkB, e1]) (opOk_4_c _ _ _ w a1 a2 (by simpa using e1))
  by_cases h5 : kind = 5
  · subst h5
    rcases hk with a1 | ⟨a1, a2⟩ | ⟨a1, a2⟩
    · exact fin false (by simp [opOkB, keyOkB]; omega) (opOk_5_a _ _ _ w a1)
    · exact fin false (by simp [opOkB, keyOkB]; omega) (opOk_5_b _ _ _ w a1 a2)
    · by_cases e1 : hi < key
      · exact fin false (by simp [opOkB, keyOkB]; omega) (opOk_5_c _ _ _ w a1 a2 e1)
      · by_cases e2 : 63 < hi
        · exact fin false (by simp [opOkB, keyOkB]; omega) (opOk_5_d _ _ _ w a1 a2 (by omega) e2)
        · by_cases e3 : value = 0
          · subst e3; exact fin true (by simp [opOkB, keyOkB]; omega) (opOk_5_f _ _ w a1 a2 (by omega) (by omega))
          · exact fin false (by simp [opOkB, keyOkB, e3]) (opOk_5_e _ _ _ w a1 a2 (by omega) (by omega) (by simpa using e3))
  by_cases h6 : kind = 6
  · subst h6
    by_cases e0 : key = 0
    · subst e0
      by_cases e1 : hi = 0
      · subst e1
        by_cases e2 : value = 0
        · subst e2; exact fin true (by simp [opOkB]) (opOk_6_f w)
        · exact fin false (by simp [opOkB, e2]) (opOk_6_e _ w (by simpa using e2))
      · exact fin false (by simp [opOkB, e1]) (opOk_6_d _ _ w (by simpa using e1))
    · have e0' : (key == 0) = false := by simpa using e0
      rcases hk with a1 | ⟨a1, a2⟩ | ⟨a1, a2⟩
      · exact fin false (by simp [opOkB, e0]) (opOk_6_a _ _ _ w a1 e0')
      · exact fin false (by simp [opOkB, e0]) (opOk_6_b _ _ _ w a1 a2 e0')
      · exact fin false (by simp [opOkB, e0]) (opOk_6_c _ _ _ w a1 a2 e0')
  by_cases h7 : kind = 7
  · subst h7
    by_cases e0 : key = 0
    · subst e0
      by_cases e1 : hi = 0
      · subst e1
        by_cases e2 : value = 0
        · subst e2; exact fin true (by simp [opOkB]) (opOk_7_f w)
        · exact fin false (by simp [opOkB, e2]) (opOk_7_e _ w (by simpa using e2))
      · exact fin false (by simp [opOkB, e1]) (opOk_7_d _ _ w (by simpa using e1))
    · have e0' : (key == 0) = false := by simpa using e0
      rcases hk with a1 | ⟨a1, a2⟩ | ⟨a1, a2⟩
      · exact fin false (by simp [opOkB, e0]) (opOk_7_a _ _ _ w a1 e0')
      · exact fin false (by simp [opOkB, e0]) (opOk_7_b _ _ _ w a1 a2 e0')
      · exact fin false (by simp [opOkB, e0]) (opOk_7_c _ _ _ w a1 a2 e0')
  have no : opOkB ⟨kind, key, hi, value⟩ = false := by simp [opOkB, h1, h2, h3, h4, h5, h6, h7]
  rcases hk with a1 | ⟨a1, a2⟩ | ⟨a1, a2⟩
  · exact fin false no (opOk_x_a _ _ _ _ w (by simpa using h1) (by simpa using h2) (by simpa using h3) (by simpa using h4) (by simpa using h5) (by simpa using h6) (by simpa using h7) a1)
  · exact fin false no (opOk_x_b _ _ _ _ w (by simpa using h1) (by simpa using h2) (by simpa using h3) (by simpa using h4) (by simpa using h5) (by simpa using h6) (by simpa using h7) a1 a2)
  · exact fin false no (opOk_x_c _ _ _ _ w (by simpa using h1) (by simpa using h2) (by simpa using h3) (by simpa using h4) (by simpa using h5) (by simpa using h6) (by simpa using h7) a1 a2)
end Go.Proofs.Ytdjehgnkpbkdbaa
namespace Go.Proofs.Ytdjehgnkpbkdbaa
open Go.RowKit
set_option linter.unusedVariables false
set_option linter.unusedSimpArgs false
theorem results_cell_tmp {P : Program} {fn : Func} {p q : Tmp} {ty : TypeId} (h : fn.results = #[.cell p ty, .tmp q]) (tmps : Array Value) (w : World) (g : Nat) (t : TypeId) (cs : Array Value) (fr : Nat × Nat) (d : TypeDesc) (v : Value)
    (hp : tmps.getD p undef = .pointer (some ⟨g, 0, none⟩)) (hq : tmps.getD q undef = v) (hg : w.heap[g]? = some (.cells cs t fr))
    (hu : P.underlying ty = some d) (hd : (match d with | .struct _ | .array _ _ => true | _ => false) = true) (hi : (P.info? ty).map (·.size) = some cs.size) :
    (results fn tmps).run P w = .ok (.tuple #[.agg cs, v]) w := by
  have hp' : tmps[p]?.getD undef = .pointer (some ⟨g, 0, none⟩) := by simpa using hp
  have hq' : tmps[q]?.getD undef = v := by simpa using hq
  simp [results, h, hp', hq', asAddr, run_loadVar_row w g t ty cs fr d hg hu hd hi]
/-- The Model lies at m, in the blocks of P, all of them from B on. -/
def MAt (B : Nat) (w : World) (P : Nat → Prop) (m : Nat) (s : St) : Prop := ∃ A, MIn B w P m s A
def resAgg (r : Res) (a : Option Addr) (c : Nat) : Value := .agg #[.int .i64 r.e, .int .i64 r.value, .slice a r.pairs.length c, .int .i64 r.over, .int .i64 r.reason]
/-- What Do leaves. -/
def DoRes (B m : Nat) (w : World) (P : Nat → Prop) (x : Res × Int × St) (e : Ending) (w' : World) : Prop :=
  ∃ (P' : Nat → Prop) (a : Option Addr) (c : Nat), e = .returned (.tuple #[resAgg x.1 a c, .int .i64 x.2.1]) ∧ MAt B w' P' m x.2.2 ∧ Only P w w' ∧ Grew w.heap.size P P' ∧ PairsIn w' a x.1.pairs ∧ ∀ y, a = some y → w.heap.size ≤ y.block ∧ ¬ P' y.block
theorem DoRes.same {B m : Nat} {w w9 : World} {P : Nat → Prop} {s : St} {A : Ad} {n1 : Nat} {W : World} {er : Int} (M : MIn B W P m s A) (hn : w.heap.size ≤ n1) (hP : ¬ P n1) (o : Only P w W) (o9 : Only (fun c => c = n1) W w9) : DoRes B m w P (.zero, er, s) (.returned (.tuple #[.agg #[.int .i64 0, .int .i64 0, .slice none 0 0, .int .i64 0, .int .i64 0], .int .i64 er])) w9 :=
  ⟨P, none, 0, rfl, ⟨A, M.only o9 (fun b hb e => by subst e; exact hP hb)⟩, o.grewTrans (P2 := fun b => P b ∨ b = n1) (fun b hb => hb.imp id (fun e => by omega)) (o9.toward (fun b hb => .inr hb)), Grew.refl _ _, .inl rfl, fun y hy => by cases hy⟩
theorem DoRes.re {B m : Nat} {w W w2 w9 : World} {P : Nat → Prop} {A : Ad} {r : Res} {s' : St} {n1 : Nat} {e : Ending} (h : ReRes B m W P A r s' e w2) (oW : Only P w W) (hn : w.heap.size ≤ n1) (hnW : n1 < W.heap.size) (hP : ¬ P n1) (o9 : Only (fun c => c = n1) w2 w9) {a : Option Addr} {c : Nat} (he : e = .returned (resAgg r a c)) :
    DoRes B m w P (r, 0, s') (.returned (.tuple #[resAgg r a c, .int .i64 0])) w9 := by
  obtain ⟨A', P', a', c', he', M, _, _, o2, g2, hp, ha⟩ := h
  rw [he] at he'
  have hac : a = a' ∧ c = c' := by
    unfold resAgg at he'
    injection he' with h1; injection h1 with h1
    simp at h1; exact h1
  obtain ⟨rfl, rfl⟩ := hac
  have hP' : ¬ P' n1 := fun hp1 => by
    rcases g2 n1 hp1 with h1 | h1
    · exact hP h1
    · omega
  refine ⟨P', a, c, rfl, ⟨A', M.only o9 (fun b hb e => by subst e; exact hP' hb)⟩, (oW.trans o2).grewTrans (P2 := fun b => P b ∨ b = n1) (fun b hb => hb.imp id (fun e => by omega)) (o9.toward (fun b hb => .inr hb)), g2.base oW.size, hp.only o9 (fun y hy e => ?_), fun y hy => ⟨Nat.le_trans oW.size (ha y hy).1, (ha y hy).2⟩⟩
  have := (ha y hy).1; omega
theorem opOk_key {o : MOp} (h : opOkB o = true) : 0 ≤ o.key ∧ o.key ≤ 63 := by
  unfold opOkB at h
  split at h
  · simp [keyOkB] at h; omega
  · split at h
    · simp [keyOkB] at h; omega
    · split at h
      · simp [keyOkB] at h; omega
      · split at h
        · simp at h; omega
        · cases h
theorem opOk_scan {o : MOp} (h : opOkB o = true) (hk : o.kind = 5) : o.key ≤ o.hi ∧ o.hi ≤ 63 := by
  unfold opOkB at h
  simp [hk, keyOkB] at h; omega
theorem opOk_kind {o : MOp} (h : opOkB o = true) : 1 ≤ o.kind ∧ o.kind ≤ 7 := by
  unfold opOkB at h
  split at h
  · omega
  · split at h
    · omega
    · split at h
      · omega
      · split at h
        · omega
        · cases h
theorem MIn.op {B m : Nat} {w : World} {P : Nat → Prop} {s : St} {A : Ad} (h : MIn B w P m s A) {j : Nat} {t : Tx} (ht : s.tx j = some t) (h12 : t.ops < 12) : MIn B (w.setCell ⟨A.tb j, 3, none⟩ (.int .i64 (t.ops + 1))) P m (s.setTx j (some t.op)) A ∧ Only P w (w.setCell ⟨A.tb j, 3, none⟩ (.int .i64 (t.ops + 1))) := by
  have X := (h.txs.one j t ht).2
  have hop := h.ok.ops j t ht
  have o := Only.set1 w (A.tb j) 3 (.int .i64 (t.ops + 1))
  have mapNe : ∀ i u, s.tx i = some u → ∀ q, q < 3 → A.mb i q ≠ A.tb j := fun i u hu q hq => by
    have Y := (h.txs.one i u hu).2
    match q, hq with
    | 0, _ => exact Y.cm.ne X.blk
    | 1, _ => exact Y.gm.ne X.blk
    | 2, _ => exact Y.km.ne X.blk
  refine ⟨h.turnTx ht (fun k => rfl) o (h.mod.ne X.blk (by decide)) (fun b hb e => by subst e; exact rows_ne h.row X.blk (by decide) hb) (h.vers.blkNe X.blk (by decide))
    (fun i u hi hu => ⟨fun e => hi (h.txs.tinj i j u t hu ht e), mapNe i u hu, fun k c hk => ((h.txs.one i u hu).2.cel k c hk).2.1.ne X.blk (by decide)⟩) ?_ (h.ok.setTx (by simp [Tx.op]; omega) (fun k c hc => h.ok.refs j t k c ht hc)), o.toward (fun b hb => by subst hb; exact X.pt)⟩
  refine ⟨?_, X.cm.only o (mapNe j t ht 0 (by omega)), X.gm.only o (mapNe j t ht 1 (by omega)), X.km.only o (mapNe j t ht 2 (by omega)), fun k c hk => ⟨(X.cel k c hk).1, o.blk (X.cel k c hk).2.1 ((X.cel k c hk).2.1.ne X.blk (by decide)), (X.cel k c hk).2.2⟩, X.pt, X.pm⟩
  have := X.blk.set 3 (.int .i64 (t.ops + 1))
  have e : (txCells A j t).setIfInBounds 3 (.int .i64 (t.ops + 1)) = txCells A j t.op := by simp [txCells, Tx.op]
  rw [← e]; exact this
theorem commit_pairs (s : St) (j : Nat) (t : Tx) : (s.commit j t).1.pairs = [] := by
  unfold St.commit
  split
  · rfl
  · split <;> rfl
theorem get_pairs (s : St) (j : Nat) (t : Tx) (k : Nat) : (s.get j t k).1.pairs = [] := by
  unfold St.get
  split <;> rfl
theorem change_pairs (s : St) (j : Nat) (t : Tx) (kind : Int) (k : Nat) (value : Int) : (s.change j t kind k value).1.pairs = [] := by
  unfold St.change
  split
  · rfl
  · split
    split <;> rfl
theorem call_get (s : St) (j : Nat) (t : Tx) (k : Nat) (hi value : Int) : s.call j t ⟨1, (k : Int), hi, value⟩ = (s.setTx j (some t.op)).get j t.op k := by
  have : s.call j t ⟨1, (k : Int), hi, value⟩ = s.get j t.op k := by simp [St.call]
  rw [this]
  unfold St.get
  have e : (s.setTx j (some t.op)).sees t.op k = s.sees t.op k := rfl
  rw [e]
  cases s.sees t.op k <;> simp only [setTx_setTx] <;> rfl
theorem call_scan (s : St) (j : Nat) (t : Tx) (k hn : Nat) (value : Int) : s.call j t ⟨5, (k : Int), (hn : Int), value⟩ = (s.setTx j (some t.op)).scan j t.op k (hn + 1 - k) := by
  have e1 : ((hn : Int) + 1 - (k : Int)).toNat = hn + 1 - k := by omega
  have : s.call j t ⟨5, (k : Int), (hn : Int), value⟩ = s.scan j t.op k (hn + 1 - k) := by simp [St.call, e1]
  rw [this]
  unfold St.scan
  rw [setTx_setTx]; rfl
theorem call_change (s : St) (j : Nat) (t : Tx) (k : Nat) (kind hi value : Int) (h : kind ≠ 6 ∧ kind ≠ 7 ∧ kind ≠ 1 ∧ kind ≠ 5) : s.call j t ⟨kind, (k : Int), hi, value⟩ = (s.setTx j (some t.op)).change j t.op kind k value := by
  simp [St.call, h.1, h.2.1, h.2.2.1, h.2.2.2]
set_option maxRecDepth 100000 in
set_option maxHeartbeats 16000000 in
theorem md_do {B m : Nat} {w : World} {P : Nat → Prop} {s : St} (h : MAt B w P m s) (j kind key hi value : Int) :
    Calls Try.prog 20 #[.pointer (some ⟨m, 0, none⟩), .int .i64 j, .agg #[.int .i64 kind, .int .i64 key, .int .i64 hi, .int .i64 value]] w (DoRes B m w P (s.do_ j ⟨kind, key, hi, value⟩)) := by
  obtain ⟨A, h⟩ := h
  obtain ⟨W, hW⟩ : ∃ W, W = (w.alloc (.cells #[.int .i64 kind, .int .i64 key, .int .i64 hi, .int .i64 value] 31)).alloc (.cells #[.int .i64 0, .int .i64 0, .slice none 0 0, .int .i64 0, .int .i64 0] 65) := ⟨_, rfl⟩
  have oW : Only0 w W := by rw [hW]; exact ((Only0.refl w).alloc _).alloc _
  have M0 := h.only0 oW
  have BO : Blk W w.heap.size 31 #[.int .i64 kind, .int .i64 key, .int .i64 hi, .int .i64 value] := by rw [hW]; exact (Blk.new _ _ _).alloc _
  have BX : Blk W (w.heap.size + 1) 65 #[.int .i64 0, .int .i64 0, .slice none 0 0, .int .i64 0, .int .i64 0] := by rw [hW]; exact Blk.new' _ _ _ _ (by simp)
  have hu := h.under
  obtain ⟨n0, hn0⟩ : ∃ n0, n0 = w.heap.size := ⟨_, rfl⟩
  obtain ⟨n1, hn1⟩ : ∃ n1, n1 = n0 + 1 := ⟨_, rfl⟩
  have HN := Lib.hid hn0
  have HN1 := Lib.hid hn1
  have HS := Lib.hid (show ¬ P n0 ∧ ¬ P n1 ∧ w.heap.size ≤ n1 ∧ n1 < W.heap.size from ⟨fun hp => by have := hu _ hp; omega, fun hp => by have := hu _ hp; omega, by omega, by have := BX.lt; omega⟩)
  have HM0 := Lib.hid M0
  have HO := Lib.hid oW
  have HBO := Lib.hid (show Blk W n0 31 #[.int .i64 kind, .int .i64 key, .int .i64 hi, .int .i64 value] by rw [hn0]; exact BO)
  have HB := Lib.hid (show Blk W n1 65 #[.int .i64 0, .int .i64 0, .slice none 0 0, .int .i64 0, .int .i64 0] by rw [hn1, hn0]; exact BX)
  clear h M0 BO BX hu hn0 hn1 oW
  have CS := md_sess j W
  cases hs : sessB j with
  | false =>
    rw [show s.do_ j ⟨kind, key, hi, value⟩ = (.zero, 1, s) by simp [St.do_, hs]]
    rw [hs] at CS
    clear hs
    go_enter Try.func20, Try.ntmps20
    go_upto_region 1 with (fail)
    rw [← hW, ← HN.out, ← HN1.out]
    clear hW
    go_wp2_with fail
    refine CS.mono ?_
    rintro e w1 ⟨rfl, rfl⟩
    have B1 := (HB.out)
    have b0 : W.cell? ⟨n1, 0, none⟩ = some (.int .i64 0) := B1.cell 0
    have b1 : W.cell? ⟨n1, 1, none⟩ = some (.int .i64 0) := B1.cell 1
    have b2 : W.cell? ⟨n1, 2, none⟩ = some (.slice none 0 0) := B1.cell 2
    have b3 : W.cell? ⟨n1, 3, none⟩ = some (.int .i64 0) := B1.cell 3
    have b4 : W.cell? ⟨n1, 4, none⟩ = some (.int .i64 0) := B1.cell 4
    have bf := fun i => B1.free i
    have HB1 := Lib.hid B1
    clear B1
    go_wp2_with fail
    obtain ⟨B9, o9⟩ := set5 HB1.out (.int .i64 0) (.int .i64 0) (.slice none 0 0) (.int .i64 0) (.int .i64 0)
    exact bodyPost_ret (results_cell_tmp Try.results20 _ _ n1 _ _ _ _ (.int .i64 1) rfl rfl B9 Try.underlying65 rfl info_res) rfl (DoRes.same HM0.out HS.out.2.2.1 HS.out.2.1 (HO.out.any P) o9)
  | true =>
    obtain ⟨jn, rfl, hjn⟩ : ∃ jn : Nat, j = (jn : Int) ∧ jn < 8 := by
      simp [sessB] at hs; exact ⟨j.toNat, by omega, by omega⟩
    rw [hs] at CS
    have j8 : (jn : Int) < 8 := by omega
    have j0 : (0 : Int) ≤ (jn : Int) := by omega
    have cj0 := HM0.out.sess jn hjn
    cases htx : s.tx jn with
    | none =>
      rw [show s.do_ (jn : Int) ⟨kind, key, hi, value⟩ = (.zero, 9, s) by simp [St.do_, hs, htx]]
      rw [show txPtr A s.tx jn = .pointer none by simp [txPtr, htx]] at cj0
      clear hs htx
      go_enter Try.func20, Try.ntmps20
      go_upto_region 1 with (fail)
      rw [← hW, ← HN.out, ← HN1.out]
      clear hW
      go_wp2_with fail
      refine CS.mono ?_
      rintro e w1 ⟨rfl, rfl⟩
      have B1 := (HB.out)
      have b0 : W.cell? ⟨n1, 0, none⟩ = some (.int .i64 0) := B1.cell 0
      have b1 : W.cell? ⟨n1, 1, none⟩ = some (.int .i64 0) := B1.cell 1
      have b2 : W.cell? ⟨n1, 2, none⟩ = some (.slice none 0 0) := B1.cell 2
      have b3 : W.cell? ⟨n1, 3, none⟩ = some (.int .i64 0) := B1.cell 3
      have b4 : W.cell? ⟨n1, 4, none⟩ = some (.int .i64 0) := B1.cell 4
      have bf := fun i => B1.free i
      have HB1 := Lib.hid B1
      clear B1
      go_wp2_with fail
      obtain ⟨B9, o9⟩ := set5 HB1.out (.int .i64 0) (.int .i64 0) (.slice none 0 0) (.int .i64 0) (.int .i64 0)
      exact bodyPost_ret (results_cell_tmp Try.results20 _ _ n1 _ _ _ _ (.int .i64 9) rfl rfl B9 Try.underlying65 rfl info_res) rfl (DoRes.same HM0.out HS.out.2.2.1 HS.out.2.1 (HO.out.any P) o9)
    | some t =>
      rw [show txPtr A s.tx jn = .pointer (some ⟨A.tb jn, 0, none⟩) by simp [txPtr, htx]] at cj0
      have HT := Lib.hid htx
      have o00 : W.cell? ⟨n0, 0, none⟩ = some (.int .i64 kind) := HBO.out.cell 0
      have o01 : W.cell? ⟨n0, 1, none⟩ = some (.int .i64 key) := HBO.out.cell 1
      have o02 : W.cell? ⟨n0, 2, none⟩ = some (.int .i64 hi) := HBO.out.cell 2
      have o03 : W.cell? ⟨n0, 3, none⟩ = some (.int .i64 value) := HBO.out.cell 3
      have FACT : ∀ w', Only0 W w' → w'.cell? ⟨m, 5 + jn, none⟩ = some (.pointer (some ⟨A.tb jn, 0, none⟩)) ∧ w'.cell? ⟨A.tb jn, 3, none⟩ = some (.int .i64 t.ops) ∧ w'.frozen? ⟨A.tb jn, 3, none⟩ = false ∧ w'.cell? ⟨n0, 0, none⟩ = some (.int .i64 kind) ∧ w'.cell? ⟨n0, 1, none⟩ = some (.int .i64 key) ∧ w'.cell? ⟨n0, 2, none⟩ = some (.int .i64 hi) ∧ w'.cell? ⟨n0, 3, none⟩ = some (.int .i64 value) := fun w' o => by
        have M := HM0.out.only0 o
        have X := (M.txs.one jn t HT.out).2
        have b := o.blk HBO.out (fun h => h)
        exact ⟨by rw [M.sess jn hjn]; simp [txPtr, HT.out], X.blk.cell 3, X.blk.free 3, b.cell 0, b.cell 1, b.cell 2, b.cell 3⟩
      have HF := Lib.hid FACT
      have hops := HM0.out.ok.ops jn t HT.out
      obtain ⟨hop0, hop1⟩ := hops
      have CO := md_opOk kind key hi value W
      clear FACT
      cases hok : opOkB ⟨kind, key, hi, value⟩ with
      | false =>
        rw [show s.do_ (jn : Int) ⟨kind, key, hi, value⟩ = (.zero, 9, s) by simp [St.do_, hs, htx, hok]]
        rw [hok] at CO
        clear hs htx hok
        go_enter Try.func20, Try.ntmps20
        go_upto_region 1 with (fail)
        rw [← hW, ← HN.out, ← HN1.out]
        clear hW
        go_wp2_with fail
        refine CS.mono ?_
        rintro e w1 ⟨rfl, rfl⟩
        go_wp2_with fail
        refine CO.mono ?_
        rintro e w3 ⟨rfl, o3⟩
        have HO3 := Lib.hid o3
        clear CO CS cj0 o00 o01 o02 o03 o3
        have B1 := (HO3.out.blk HB.out (fun h => h))
        have b0 : w3.cell? ⟨n1, 0, none⟩ = some (.int .i64 0) := B1.cell 0
        have b1 : w3.cell? ⟨n1, 1, none⟩ = some (.int .i64 0) := B1.cell 1
        have b2 : w3.cell? ⟨n1, 2, none⟩ = some (.slice none 0 0) := B1.cell 2
        have b3 : w3.cell? ⟨n1, 3, none⟩ = some (.int .i64 0) := B1.cell 3
        have b4 : w3.cell? ⟨n1, 4, none⟩ = some (.int .i64 0) := B1.cell 4
        have bf := fun i => B1.free i
        have HB1 := Lib.hid B1
        clear B1
        go_wp2_with fail
        obtain ⟨B9, o9⟩ := set5 HB1.out (.int .i64 0) (.int .i64 0) (.slice none 0 0) (.int .i64 0) (.int .i64 0)
        exact bodyPost_ret (results_cell_tmp Try.results20 _ _ n1 _ _ _ _ (.int .i64 9) rfl rfl B9 Try.underlying65 rfl info_res) rfl (DoRes.same (HM0.out.only0 HO3.out) HS.out.2.2.1 HS.out.2.1 ((HO.out.any P).trans (HO3.out.any P)) o9)
      | true =>
        rw [hok] at CO
        have hkey := opOk_key hok
        have hkk := opOk_kind hok
        obtain ⟨k, rfl, hk⟩ : ∃ k : Nat, key = (k : Int) ∧ k < 64 := ⟨key.toNat, by simp at hkey; omega, by simp at hkey; omega⟩
        have HOK := Lib.hid hok
        simp only at hkk
        by_cases h12 : t.ops < 12
        · have hov : (decide (12 ≤ t.ops) && !endsB ⟨kind, (k : Int), hi, value⟩) = false := by simp; omega
          rw [show s.do_ (jn : Int) ⟨kind, (k : Int), hi, value⟩ = ((s.call jn t ⟨kind, (k : Int), hi, value⟩).1, 0, (s.call jn t ⟨kind, (k : Int), hi, value⟩).2) by simp only [St.do_, hs, if_true, Int.toNat_natCast, htx, hok, hov]; rfl]
          clear hs htx hok hov hkey
          by_cases h6 : kind = 6
          · subst h6
            rw [show s.call jn t ⟨6, (k : Int), hi, value⟩ = s.commit jn t from rfl]
            go_enter Try.func20, Try.ntmps20
            go_upto_region 1 with (fail)
            rw [← hW, ← HN.out, ← HN1.out]
            clear hW
            go_wp2_with fail
            refine CS.mono ?_
            rintro e w1 ⟨rfl, rfl⟩
            go_wp2_with fail
            refine CO.mono ?_
            rintro e w3 ⟨rfl, o3⟩
            obtain ⟨f1, f2, f2f, f3, f4, f5, f6⟩ := HF.out w3 o3
            have HO3 := Lib.hid o3
            clear CO CS cj0 o00 o01 o02 o03 o3
            go_wp2_with fail
            have M3 := HM0.out.only0 HO3.out
            have C := (md_commit M3 HT.out).mono (fun e w4 h4 => StRes.re (r := (s.commit jn t).1) (commit_pairs s jn t) h4)
            have HOW := Lib.hid ((HO.out.any P).trans (HO3.out.any P))
            have HB3 := Lib.hid (HO3.out.blk HB.out (fun h => h))
            clear M3
            refine C.mono ?_
            intro e w4 h4
            obtain ⟨a, c, he⟩ : ∃ a c, e = .returned (resAgg (s.commit jn t).1 a c) := by obtain ⟨_, _, a, c, he, _⟩ := h4; exact ⟨a, c, he⟩
            subst he
            have B4 : Blk w4 n1 65 #[.int .i64 0, .int .i64 0, .slice none 0 0, .int .i64 0, .int .i64 0] := by
              obtain ⟨_, _, _, _, _, _, _, _, o4, _⟩ := h4
              exact o4.blk HB3.out HS.out.2.1
            have b0 : w4.cell? ⟨n1, 0, none⟩ = some (.int .i64 0) := B4.cell 0
            have b1 : w4.cell? ⟨n1, 1, none⟩ = some (.int .i64 0) := B4.cell 1
            have b2 : w4.cell? ⟨n1, 2, none⟩ = some (.slice none 0 0) := B4.cell 2
            have b3 : w4.cell? ⟨n1, 3, none⟩ = some (.int .i64 0) := B4.cell 3
            have b4 : w4.cell? ⟨n1, 4, none⟩ = some (.int .i64 0) := B4.cell 4
            have bf := fun i => B4.free i
            have HB4 := Lib.hid B4
            have R := fun w9 (o9 : Only (fun c => c = n1) w4 w9) => DoRes.re h4 HOW.out HS.out.2.2.1 HB3.out.lt HS.out.2.1 o9 rfl
            have HR := Lib.hid R
            clear R h4 B4 C
            unfold resAgg
            go_wp2_with fail
            obtain ⟨B9, o9⟩ := set5 HB4.out _ _ _ _ _
            exact bodyPost_ret (results_cell_tmp Try.results20 _ _ n1 _ _ _ _ (.int .i64 0) rfl rfl B9 Try.underlying65 rfl info_res) rfl (HR.out _ o9)
          by_cases h7 : kind = 7
          · subst h7
            rw [show s.call jn t ⟨7, (k : Int), hi, value⟩ = (abortRes 0 1, s.kill jn t) from rfl]
            go_enter Try.func20, Try.ntmps20
            go_upto_region 1 with (fail)
            rw [← hW, ← HN.out, ← HN1.out]
            clear hW
            go_wp2_with fail
            refine CS.mono ?_
            rintro e w1 ⟨rfl, rfl⟩
            go_wp2_with fail
            refine CO.mono ?_
            rintro e w3 ⟨rfl, o3⟩
            obtain ⟨f1, f2, f2f, f3, f4, f5, f6⟩ := HF.out w3 o3
            have HO3 := Lib.hid o3
            clear CO CS cj0 o00 o01 o02 o03 o3
            go_wp2_with fail
            have M3 := HM0.out.only0 HO3.out
            have C := (md_abort M3 HT.out 0 1).mono (fun e w4 h4 => StRes.re (r := abortRes 0 1) rfl h4)
            have HOW := Lib.hid ((HO.out.any P).trans (HO3.out.any P))
            have HB3 := Lib.hid (HO3.out.blk HB.out (fun h => h))
            clear M3
            refine C.mono ?_
            intro e w4 h4
            obtain ⟨a, c, he⟩ : ∃ a c, e = .returned (resAgg (abortRes 0 1) a c) := by obtain ⟨_, _, a, c, he, _⟩ := h4; exact ⟨a, c, he⟩
            subst he
            have B4 : Blk w4 n1 65 #[.int .i64 0, .int .i64 0, .slice none 0 0, .int .i64 0, .int .i64 0] := by
              obtain ⟨_, _, _, _, _, _, _, _, o4, _⟩ := h4
              exact o4.blk HB3.out HS.out.2.1
            have b0 : w4.cell? ⟨n1, 0, none⟩ = some (.int .i64 0) := B4.cell 0
            have b1 : w4.cell? ⟨n1, 1, none⟩ = some (.int .i64 0) := B4.cell 1
            have b2 : w4.cell? ⟨n1, 2, none⟩ = some (.slice none 0 0) := B4.cell 2
            have b3 : w4.cell? ⟨n1, 3, none⟩ = some (.int .i64 0) := B4.cell 3
            have b4 : w4.cell? ⟨n1, 4, none⟩ = some (.int .i64 0) := B4.cell 4
            have bf := fun i => B4.free i
            have HB4 := Lib.hid B4
            have R := fun w9 (o9 : Only (fun c => c = n1) w4 w9) => DoRes.re h4 HOW.out HS.out.2.2.1 HB3.out.lt HS.out.2.1 o9 rfl
            have HR := Lib.hid R
            clear R h4 B4 C
            unfold resAgg
            go_wp2_with fail
            obtain ⟨B9, o9⟩ := set5 HB4.out _ _ _ _ _
            exact bodyPost_ret (results_cell_tmp Try.results20 _ _ n1 _ _ _ _ (.int .i64 0) rfl rfl B9 Try.underlying65 rfl info_res) rfl (HR.out _ o9)
          by_cases h1 : kind = 1
          · subst h1
            rw [show s.call jn t ⟨1, (k : Int), hi, value⟩ = (s.setTx jn (some t.op)).get jn t.op k from call_get s jn t k hi value]
            go_enter Try.func20, Try.ntmps20
            go_upto_region 1 with (fail)
            rw [← hW, ← HN.out, ← HN1.out]
            clear hW
            go_wp2_with fail
            refine CS.mono ?_
            rintro e w1 ⟨rfl, rfl⟩
            go_wp2_with fail
            refine CO.mono ?_
            rintro e w3 ⟨rfl, o3⟩
            obtain ⟨f1, f2, f2f, f3, f4, f5, f6⟩ := HF.out w3 o3
            have HO3 := Lib.hid o3
            clear CO CS cj0 o00 o01 o02 o03 o3
            have M4 := HM0.out.only0 HO3.out
            obtain ⟨M5, o5⟩ := M4.op HT.out h12
            obtain ⟨W5, hW5⟩ : ∃ W5, W5 = w3.setCell ⟨A.tb jn, 3, none⟩ (.int .i64 (t.ops + 1)) := ⟨_, rfl⟩
            rw [← hW5] at M5 o5
            have T5 : (s.setTx jn (some t.op)).tx jn = some t.op := by simp [St.setTx, upd_same]
            have C0 := md_get M5 T5 k hk
            have C := C0.mono (fun e w4 h4 => StRes.re (r := ((s.setTx jn (some t.op)).get jn t.op k).1) (get_pairs _ _ _ _) h4)
            have o35 := (HO3.out.any P).trans o5
            have HOW := Lib.hid ((HO.out.any P).trans o35)
            have HB3 := Lib.hid (o35.blk HB.out HS.out.2.1)
            have bo := o35.blk HBO.out HS.out.1
            have g0 : W5.cell? ⟨n0, 0, none⟩ = some (.int .i64 1) := bo.cell 0
            have g1 : W5.cell? ⟨n0, 1, none⟩ = some (.int .i64 k) := bo.cell 1
            have g2 : W5.cell? ⟨n0, 2, none⟩ = some (.int .i64 hi) := bo.cell 2
            have g3 : W5.cell? ⟨n0, 3, none⟩ = some (.int .i64 value) := bo.cell 3
            clear M4 M5 o5 T5 C0 o35 bo
            go_upto_region 14 with (fail)
            rw [← hW5]
            clear hW5 f1 f2 f2f f3 f4 f5 f6
            go_wp2_with fail
            refine C.mono ?_
            intro e w4 h4
            obtain ⟨a, c, he⟩ : ∃ a c, e = .returned (resAgg ((s.setTx jn (some t.op)).get jn t.op k).1 a c) := by obtain ⟨_, _, a, c, he, _⟩ := h4; exact ⟨a, c, he⟩
            subst he
            have B4 : Blk w4 n1 65 #[.int .i64 0, .int .i64 0, .slice none 0 0, .int .i64 0, .int .i64 0] := by
              obtain ⟨_, _, _, _, _, _, _, _, o4, _⟩ := h4
              exact o4.blk HB3.out HS.out.2.1
            have b0 : w4.cell? ⟨n1, 0, none⟩ = some (.int .i64 0) := B4.cell 0
            have b1 : w4.cell? ⟨n1, 1, none⟩ = some (.int .i64 0) := B4.cell 1
            have b2 : w4.cell? ⟨n1, 2, none⟩ = some (.slice none 0 0) := B4.cell 2
            have b3 : w4.cell? ⟨n1, 3, none⟩ = some (.int .i64 0) := B4.cell 3
            have b4 : w4.cell? ⟨n1, 4, none⟩ = some (.int .i64 0) := B4.cell 4
            have bf := fun i => B4.free i
            have HB4 := Lib.hid B4
            have R := fun w9 (o9 : Only (fun c => c = n1) w4 w9) => DoRes.re h4 HOW.out HS.out.2.2.1 HB3.out.lt HS.out.2.1 o9 rfl
            have HR := Lib.hid R
            clear R h4 B4 C
            unfold resAgg
            go_wp2_with fail
            obtain ⟨B9, o9⟩ := set5 HB4.out _ _ _ _ _
            exact bodyPost_ret (results_cell_tmp Try.results20 _ _ n1 _ _ _ _ (.int .i64 0) rfl rfl B9 Try.underlying65 rfl info_res) rfl (HR.out _ o9)
          by_cases h5 : kind = 5
          · subst h5
            have hsc := opOk_scan HOK.out rfl
            obtain ⟨hn, rfl, hlo, hhi⟩ : ∃ hn : Nat, hi = (hn : Int) ∧ k ≤ hn ∧ hn < 64 := ⟨hi.toNat, by simp at hsc; omega, by simp at hsc; omega, by simp at hsc; omega⟩
            clear hsc
            rw [show s.call jn t ⟨5, (k : Int), (hn : Int), value⟩ = (s.setTx jn (some t.op)).scan jn t.op k (hn + 1 - k) from call_scan s jn t k hn value]
            go_enter Try.func20, Try.ntmps20
            go_upto_region 1 with (fail)
            rw [← hW, ← HN.out, ← HN1.out]
            clear hW
            go_wp2_with fail
            refine CS.mono ?_
            rintro e w1 ⟨rfl, rfl⟩
            go_wp2_with fail
            refine CO.mono ?_
            rintro e w3 ⟨rfl, o3⟩
            obtain ⟨f1, f2, f2f, f3, f4, f5, f6⟩ := HF.out w3 o3
            have HO3 := Lib.hid o3
            clear CO CS cj0 o00 o01 o02 o03 o3
            have M4 := HM0.out.only0 HO3.out
            obtain ⟨M5, o5⟩ := M4.op HT.out h12
            obtain ⟨W5, hW5⟩ : ∃ W5, W5 = w3.setCell ⟨A.tb jn, 3, none⟩ (.int .i64 (t.ops + 1)) := ⟨_, rfl⟩
            rw [← hW5] at M5 o5
            have T5 : (s.setTx jn (some t.op)).tx jn = some t.op := by simp [St.setTx, upd_same]
            have C0 := md_scan M5 T5 k hn hlo hhi
            have C := C0
            have o35 := (HO3.out.any P).trans o5
            have HOW := Lib.hid ((HO.out.any P).trans o35)
            have HB3 := Lib.hid (o35.blk HB.out HS.out.2.1)
            have bo := o35.blk HBO.out HS.out.1
            have g0 : W5.cell? ⟨n0, 0, none⟩ = some (.int .i64 5) := bo.cell 0
            have g1 : W5.cell? ⟨n0, 1, none⟩ = some (.int .i64 k) := bo.cell 1
            have g2 : W5.cell? ⟨n0, 2, none⟩ = some (.int .i64 hn) := bo.cell 2
            have g3 : W5.cell? ⟨n0, 3, none⟩ = some (.int .i64 value) := bo.cell 3
            clear M4 M5 o5 T5 C0 o35 bo
            go_upto_region 14 with (fail)
            rw [← hW5]
            clear hW5 f1 f2 f2f f3 f4 f5 f6
            go_wp2_with fail
            refine C.mono ?_
            intro e w4 h4
            obtain ⟨a, c, he⟩ : ∃ a c, e = .returned (resAgg ((s.setTx jn (some t.op)).scan jn t.op k (hn + 1 - k)).1 a c) := by obtain ⟨_, _, a, c, he, _⟩ := h4; exact ⟨a, c, he⟩
            subst he
            have B4 : Blk w4 n1 65 #[.int .i64 0, .int .i64 0, .slice none 0 0, .int .i64 0, .int .i64 0] := by
              obtain ⟨_, _, _, _, _, _, _, _, o4, _⟩ := h4
              exact o4.blk HB3.out HS.out.2.1
            have b0 : w4.cell? ⟨n1, 0, none⟩ = some (.int .i64 0) := B4.cell 0
            have b1 : w4.cell? ⟨n1, 1, none⟩ = some (.int .i64 0) := B4.cell 1
            have b2 : w4.cell? ⟨n1, 2, none⟩ = some (.slice none 0 0) := B4.cell 2
            have b3 : w4.cell? ⟨n1, 3, none⟩ = some (.int .i64 0) := B4.cell 3
            have b4 : w4.cell? ⟨n1, 4, none⟩ = some (.int .i64 0) := B4.cell 4
            have bf := fun i => B4.free i
            have HB4 := Lib.hid B4
            have R := fun w9 (o9 : Only (fun c => c = n1) w4 w9) => DoRes.re h4 HOW.out HS.out.2.2.1 HB3.out.lt HS.out.2.1 o9 rfl
            have HR := Lib.hid R
            clear R h4 B4 C
            unfold resAgg
            go_wp2_with fail
            obtain ⟨B9, o9⟩ := set5 HB4.out _ _ _ _ _
            exact bodyPost_ret (results_cell_tmp Try.results20 _ _ n1 _ _ _ _ (.int .i64 0) rfl rfl B9 Try.underlying65 rfl info_res) rfl (HR.out _ o9)
          rw [show s.call jn t ⟨kind, (k : Int), hi, value⟩ = (s.setTx jn (some t.op)).change jn t.op kind k value from call_change s jn t k kind hi value (by omega)]
          have q6 : (kind == 6) = false := by simpa using h6
          have q7 : (kind == 7) = false := by simpa using h7
          have q1 : (kind == 1) = false := by simpa using h1
          have q5 : (kind == 5) = false := by simpa using h5
          clear h1 h5 h6 h7
          go_enter Try.func20, Try.ntmps20
          go_upto_region 1 with (fail)
          rw [← hW, ← HN.out, ← HN1.out]
          clear hW
          go_wp2_with fail
          refine CS.mono ?_
          rintro e w1 ⟨rfl, rfl⟩
          go_wp2_with fail
          refine CO.mono ?_
          rintro e w3 ⟨rfl, o3⟩
          obtain ⟨f1, f2, f2f, f3, f4, f5, f6⟩ := HF.out w3 o3
          have HO3 := Lib.hid o3
          clear CO CS cj0 o00 o01 o02 o03 o3
          have M4 := HM0.out.only0 HO3.out
          obtain ⟨M5, o5⟩ := M4.op HT.out h12
          obtain ⟨W5, hW5⟩ : ∃ W5, W5 = w3.setCell ⟨A.tb jn, 3, none⟩ (.int .i64 (t.ops + 1)) := ⟨_, rfl⟩
          rw [← hW5] at M5 o5
          have T5 : (s.setTx jn (some t.op)).tx jn = some t.op := by simp [St.setTx, upd_same]
          have C0 := md_change M5 T5 k hk kind hi value
          have C := C0.mono (fun e w4 h4 => StRes.re (r := ((s.setTx jn (some t.op)).change jn t.op kind k value).1) (change_pairs _ _ _ _ _ _) h4)
          have o35 := (HO3.out.any P).trans o5
          have HOW := Lib.hid ((HO.out.any P).trans o35)
          have HB3 := Lib.hid (o35.blk HB.out HS.out.2.1)
          have bo := o35.blk HBO.out HS.out.1
          have g0 : W5.cell? ⟨n0, 0, none⟩ = some (.int .i64 kind) := bo.cell 0
          have g1 : W5.cell? ⟨n0, 1, none⟩ = some (.int .i64 k) := bo.cell 1
          have g2 : W5.cell? ⟨n0, 2, none⟩ = some (.int .i64 hi) := bo.cell 2
          have g3 : W5.cell? ⟨n0, 3, none⟩ = some (.int .i64 value) := bo.cell 3
          clear M4 M5 o5 T5 C0 o35 bo
          go_upto_region 14 with (fail)
          rw [← hW5]
          clear hW5 f1 f2 f2f f3 f4 f5 f6
          go_wp2_with fail
          refine C.mono ?_
          intro e w4 h4
          obtain ⟨a, c, he⟩ : ∃ a c, e = .returned (resAgg ((s.setTx jn (some t.op)).change jn t.op kind k value).1 a c) := by obtain ⟨_, _, a, c, he, _⟩ := h4; exact ⟨a, c, he⟩
          subst he
          have B4 : Blk w4 n1 65 #[.int .i64 0, .int .i64 0, .slice none 0 0, .int .i64 0, .int .i64 0] := by
            obtain ⟨_, _, _, _, _, _, _, _, o4, _⟩ := h4
            exact o4.blk HB3.out HS.out.2.1
          have b0 : w4.cell? ⟨n1, 0, none⟩ = some (.int .i64 0) := B4.cell 0
          have b1 : w4.cell? ⟨n1, 1, none⟩ = some (.int .i64 0) := B4.cell 1
          have b2 : w4.cell? ⟨n1, 2, none⟩ = some (.slice none 0 0) := B4.cell 2
          have b3 : w4.cell? ⟨n1, 3, none⟩ = some (.int .i64 0) := B4.cell 3
          have b4 : w4.cell? ⟨n1, 4, none⟩ = some (.int .i64 0) := B4.cell 4
          have bf := fun i => B4.free i
          have HB4 := Lib.hid B4
          have R := fun w9 (o9 : Only (fun c => c = n1) w4 w9) => DoRes.re h4 HOW.out HS.out.2.2.1 HB3.out.lt HS.out.2.1 o9 rfl
          have HR := Lib.hid R
          clear R h4 B4 C
          unfold resAgg
          go_wp2_with fail
          obtain ⟨B9, o9⟩ := set5 HB4.out _ _ _ _ _
          exact bodyPost_ret (results_cell_tmp Try.results20 _ _ n1 _ _ _ _ (.int .i64 0) rfl rfl B9 Try.underlying65 rfl info_res) rfl (HR.out _ o9)
        · have h12' : t.ops = 12 := by omega
          have HEN := md_ends kind (k : Int) hi value
          cases hen : endsB ⟨kind, (k : Int), hi, value⟩ with
          | false =>
            rw [show s.do_ (jn : Int) ⟨kind, (k : Int), hi, value⟩ = (.zero, 65, s) by simp [St.do_, hs, htx, hok, hen, h12']]
            rw [hen] at HEN
            have HEN' := Lib.hid HEN
            clear hs htx hok hkey hen HEN h12
            rw [h12'] at HF
            clear h12' hop0 hop1
            go_enter Try.func20, Try.ntmps20
            go_upto_region 1 with (fail)
            rw [← hW, ← HN.out, ← HN1.out]
            clear hW
            go_wp2_with fail
            refine CS.mono ?_
            rintro e w1 ⟨rfl, rfl⟩
            go_wp2_with fail
            refine CO.mono ?_
            rintro e w3 ⟨rfl, o3⟩
            obtain ⟨f1, f2, f2f, f3, f4, f5, f6⟩ := HF.out w3 o3
            have HO3 := Lib.hid o3
            clear CO CS cj0 o00 o01 o02 o03 o3
            go_wp2_with fail
            refine (HEN'.out w3).mono ?_
            rintro e w4 ⟨rfl, o4⟩
            have HO4 := Lib.hid (HO3.out.trans o4)
            clear f1 f2 f2f f3 f4 f5 f6 o4 HO3
            have B1 := (HO4.out.blk HB.out (fun h => h))
            have b0 : w4.cell? ⟨n1, 0, none⟩ = some (.int .i64 0) := B1.cell 0
            have b1 : w4.cell? ⟨n1, 1, none⟩ = some (.int .i64 0) := B1.cell 1
            have b2 : w4.cell? ⟨n1, 2, none⟩ = some (.slice none 0 0) := B1.cell 2
            have b3 : w4.cell? ⟨n1, 3, none⟩ = some (.int .i64 0) := B1.cell 3
            have b4 : w4.cell? ⟨n1, 4, none⟩ = some (.int .i64 0) := B1.cell 4
            have bf := fun i => B1.free i
            have HB1 := Lib.hid B1
            clear B1
            go_wp2_with fail
            obtain ⟨B9, o9⟩ := set5 HB1.out (.int .i64 0) (.int .i64 0) (.slice none 0 0) (.int .i64 0) (.int .i64 0)
            exact bodyPost_ret (results_cell_tmp Try.results20 _ _ n1 _ _ _ _ (.int .i64 65) rfl rfl B9 Try.underlying65 rfl info_res) rfl (DoRes.same (HM0.out.only0 HO4.out) HS.out.2.2.1 HS.out.2.1 ((HO.out.any P).trans (HO4.out.any P)) o9)
          | true =>
            have hk67 : kind = 6 ∨ kind = 7 := by simpa [endsB] using hen
            rw [show s.do_ (jn : Int) ⟨kind, (k : Int), hi, value⟩ = ((s.call jn t ⟨kind, (k : Int), hi, value⟩).1, 0, (s.call jn t ⟨kind, (k : Int), hi, value⟩).2) by simp only [St.do_, hs, if_true, Int.toNat_natCast, htx, hok, hen, Bool.not_true, Bool.and_false]; rfl]
            rw [hen] at HEN
            have HEN' := Lib.hid HEN
            clear hs htx hok hkey hen HEN h12 hkk
            rw [h12'] at HF
            clear h12' hop0 hop1
            rcases hk67 with h6 | h7
            · subst h6
              rw [show s.call jn t ⟨6, (k : Int), hi, value⟩ = s.commit jn t from rfl]
              go_enter Try.func20, Try.ntmps20
              go_upto_region 1 with (fail)
              rw [← hW, ← HN.out, ← HN1.out]
              clear hW
              go_wp2_with fail
              refine CS.mono ?_
              rintro e w1 ⟨rfl, rfl⟩
              go_wp2_with fail
              refine CO.mono ?_
              rintro e w3 ⟨rfl, o3⟩
              obtain ⟨f1, f2, f2f, f3, f4, f5, f6⟩ := HF.out w3 o3
              have HO3 := Lib.hid o3
              clear CO CS cj0 o00 o01 o02 o03 o3
              go_wp2_with fail
              refine (HEN'.out w3).mono ?_
              rintro e w5 ⟨rfl, o5⟩
              have HO5 := Lib.hid (HO3.out.trans o5)
              obtain ⟨f1, f2, f2f, f3, f4, f5, f6⟩ := HF.out w5 HO5.out
              clear o5 HO3
              go_wp2_with fail
              have M3 := HM0.out.only0 HO5.out
              have C := (md_commit M3 HT.out).mono (fun e w4 h4 => StRes.re (r := (s.commit jn t).1) (commit_pairs s jn t) h4)
              have HOW := Lib.hid ((HO.out.any P).trans (HO5.out.any P))
              have HB3 := Lib.hid (HO5.out.blk HB.out (fun h => h))
              clear M3
              refine C.mono ?_
              intro e w4 h4
              obtain ⟨a, c, he⟩ : ∃ a c, e = .returned (resAgg (s.commit jn t).1 a c) := by obtain ⟨_, _, a, c, he, _⟩ := h4; exact ⟨a, c, he⟩
              subst he
              have B4 : Blk w4 n1 65 #[.int .i64 0, .int .i64 0, .slice none 0 0, .int .i64 0, .int .i64 0] := by
                obtain ⟨_, _, _, _, _, _, _, _, o4, _⟩ := h4
                exact o4.blk HB3.out HS.out.2.1
              have b0 : w4.cell? ⟨n1, 0, none⟩ = some (.int .i64 0) := B4.cell 0
              have b1 : w4.cell? ⟨n1, 1, none⟩ = some (.int .i64 0) := B4.cell 1
              have b2 : w4.cell? ⟨n1, 2, none⟩ = some (.slice none 0 0) := B4.cell 2
              have b3 : w4.cell? ⟨n1, 3, none⟩ = some (.int .i64 0) := B4.cell 3
              have b4 : w4.cell? ⟨n1, 4, none⟩ = some (.int .i64 0) := B4.cell 4
              have bf := fun i => B4.free i
              have HB4 := Lib.hid B4
              have R := fun w9 (o9 : Only (fun c => c = n1) w4 w9) => DoRes.re h4 HOW.out HS.out.2.2.1 HB3.out.lt HS.out.2.1 o9 rfl
              have HR := Lib.hid R
              clear R h4 B4 C
              unfold resAgg
              go_wp2_with fail
              obtain ⟨B9, o9⟩ := set5 HB4.out _ _ _ _ _
              exact bodyPost_ret (results_cell_tmp Try.results20 _ _ n1 _ _ _ _ (.int .i64 0) rfl rfl B9 Try.underlying65 rfl info_res) rfl (HR.out _ o9)
            · subst h7
              rw [show s.call jn t ⟨7, (k : Int), hi, value⟩ = (abortRes 0 1, s.kill jn t) from rfl]
              go_enter Try.func20, Try.ntmps20
              go_upto_region 1 with (fail)
              rw [← hW, ← HN.out, ← HN1.out]
              clear hW
              go_wp2_with fail
              refine CS.mono ?_
              rintro e w1 ⟨rfl, rfl⟩
              go_wp2_with fail
              refine CO.mono ?_
              rintro e w3 ⟨rfl, o3⟩
              obtain ⟨f1, f2, f2f, f3, f4, f5, f6⟩ := HF.out w3 o3
              have HO3 := Lib.hid o3
              clear CO CS cj0 o00 o01 o02 o03 o3
              go_wp2_with fail
              refine (HEN'.out w3).mono ?_
              rintro e w5 ⟨rfl, o5⟩
              have HO5 := Lib.hid (HO3.out.trans o5)
              obtain ⟨f1, f2, f2f, f3, f4, f5, f6⟩ := HF.out w5 HO5.out
              clear o5 HO3
              go_wp2_with fail
              have M3 := HM0.out.only0 HO5.out
              have C := (md_abort M3 HT.out 0 1).mono (fun e w4 h4 => StRes.re (r := abortRes 0 1) rfl h4)
              have HOW := Lib.hid ((HO.out.any P).trans (HO5.out.any P))
              have HB3 := Lib.hid (HO5.out.blk HB.out (fun h => h))
              clear M3
              refine C.mono ?_
              intro e w4 h4
              obtain ⟨a, c, he⟩ : ∃ a c, e = .returned (resAgg (abortRes 0 1) a c) := by obtain ⟨_, _, a, c, he, _⟩ := h4; exact ⟨a, c, he⟩
              subst he
              have B4 : Blk w4 n1 65 #[.int .i64 0, .int .i64 0, .slice none 0 0, .int .i64 0, .int .i64 0] := by
                obtain ⟨_, _, _, _, _, _, _, _, o4, _⟩ := h4
                exact o4.blk HB3.out HS.out.2.1
              have b0 : w4.cell? ⟨n1, 0, none⟩ = some (.int .i64 0) := B4.cell 0
              have b1 : w4.cell? ⟨n1, 1, none⟩ = some (.int .i64 0) := B4.cell 1
              have b2 : w4.cell? ⟨n1, 2, none⟩ = some (.slice none 0 0) := B4.cell 2
              have b3 : w4.cell? ⟨n1, 3, none⟩ = some (.int .i64 0) := B4.cell 3
              have b4 : w4.cell? ⟨n1, 4, none⟩ = some (.int .i64 0) := B4.cell 4
              have bf := fun i => B4.free i
              have HB4 := Lib.hid B4
              have R := fun w9 (o9 : Only (fun c => c = n1) w4 w9) => DoRes.re h4 HOW.out HS.out.2.2.1 HB3.out.lt HS.out.2.1 o9 rfl
              have HR := Lib.hid R
              clear R h4 B4 C
              unfold resAgg
              go_wp2_with fail
              obtain ⟨B9, o9⟩ := set5 HB4.out _ _ _ _ _
              exact bodyPost_ret (results_cell_tmp Try.results20 _ _ n1 _ _ _ _ (.int .i64 0) rfl rfl B9 Try.underlying65 rfl info_res) rfl (HR.out _ o9)
end Go.Proofs.Ytdjehgnkpbkdbaa
namespace Go.Proofs.Ytdjehgnkpbkdbaa
open Go.RowKit
set_option linter.unusedVariables false
set_option linter.unusedSimpArgs false
theorem MAt.only {B m : Nat} {w w' : World} {P S : Nat → Prop} {s : St} (h : MAt B w P m s) (o : Only S w w') (ap : Apart P S) : MAt B w' P m s := by obtain ⟨A, h⟩ := h; exact ⟨A, h.only o ap⟩
theorem MAt.only0 {B m : Nat} {w w' : World} {P : Nat → Prop} {s : St} (h : MAt B w P m s) (o : Only0 w w') : MAt B w' P m s := by obtain ⟨A, h⟩ := h; exact ⟨A, h.only0 o⟩
theorem MAt.under {B m : Nat} {w : World} {P : Nat → Prop} {s : St} (h : MAt B w P m s) : Under P w.heap.size := by obtain ⟨A, h⟩ := h; exact h.under
theorem MAt.above {B m : Nat} {w : World} {P : Nat → Prop} {s : St} (h : MAt B w P m s) : Above P B := by obtain ⟨A, h⟩ := h; exact h.above
theorem MAt.ok {B m : Nat} {w : World} {P : Nat → Prop} {s : St} (h : MAt B w P m s) : Ok s := by obtain ⟨A, h⟩ := h; exact h.ok
theorem IMap.empty {P : Program} {K : TypeId} {R : MR} {w : World} {b : Nat} (h : w.heap[b]? = some (.map #[] 0)) : IMap P K R w b (fun _ => none) (.map []) :=
  ⟨⟨#[], 0, h, ⟨by simp, MapKept.stamped_empty 0, by simp⟩, by simp, rfl⟩, fun l hl => by simp [Maps.has] at hl, fun k _ z => rfl⟩
theorem CMap.empty {w : World} {b : Nat} (h : w.heap[b]? = some (.map #[] 0)) (ca : Nat → Nat) : CMap w b ca (fun _ => none) := ⟨.map [], IMap.empty h⟩
theorem BMap.empty {w : World} {b : Nat} (h : w.heap[b]? = some (.map #[] 0)) : BMap w b (fun _ => false) := ⟨.map [], IMap.empty h⟩
theorem newSt_ok {slots limit : Int} (h : confB slots limit = true) : Ok (newSt slots limit) := by
  simp [confB] at h
  exact ⟨by simp [newSt]; omega, by simp [newSt]; omega, by simp [newSt]; omega, by simp [newSt], by simp [newSt]; omega, by simp [newSt], fun j t ht => by simp [newSt] at ht, fun j t k c ht => by simp [newSt] at ht⟩
set_option maxRecDepth 100000 in
set_option maxHeartbeats 4000000 in
theorem md_new (slots limit : Int) (w : World) (h : confB slots limit = true) :
    Calls Try.prog 5 #[.agg #[.int .i64 slots, .int .u64 limit]] w fun e w' => ∃ m, e = .returned (.tuple #[.pointer (some ⟨m, 0, none⟩), .int .i64 0]) ∧ MAt w.heap.size w' (fun b => b = m) m (newSt slots limit) ∧ Only0 w w' ∧ w.heap.size ≤ m := by
  obtain ⟨W, hW⟩ : ∃ W, W = w.alloc (.cells #[.int .i64 slots, .int .u64 limit] 29) := ⟨_, rfl⟩
  have oW : Only0 w W := by rw [hW]; exact (Only0.refl w).alloc _
  have BX : Blk W w.heap.size 29 #[.int .i64 slots, .int .u64 limit] := by rw [hW]; exact Blk.new _ _ _
  have C := md_conf slots limit W
  rw [h] at C
  have HO := Lib.hid oW
  have HB := Lib.hid BX
  have c0 : W.cell? ⟨w.heap.size, 0, none⟩ = some (.int .i64 slots) := BX.cell 0
  have c1 : W.cell? ⟨w.heap.size, 1, none⟩ = some (.int .u64 limit) := BX.cell 1
  have HH := Lib.hid h
  clear oW BX h
  go_enter Try.func5, Try.ntmps5
  go_upto_region 1 with (fail)
  rw [← hW]
  clear hW
  go_wp2_with fail
  refine C.mono ?_
  rintro e w1 ⟨rfl, o1⟩
  have B1 := o1.blk HB.out (fun h => h)
  have d0 : w1.cell? ⟨w.heap.size, 0, none⟩ = some (.int .i64 slots) := B1.cell 0
  have d1 : w1.cell? ⟨w.heap.size, 1, none⟩ = some (.int .u64 limit) := B1.cell 1
  have HO1 := Lib.hid (HO.out.trans o1)
  clear C c0 c1 o1 B1
  go_wp2_with fail
  go_ret2
  have o2 : Only0 w (w1.alloc (.cells (modCells ⟨none, 0, fun _ => 0, fun _ => 0, fun _ _ => 0, fun _ _ => 0⟩ (newSt slots limit)) 54)) := HO1.out.alloc _
  have hs := HO1.out.size
  refine ⟨w1.heap.size, rfl, ⟨⟨none, 0, fun _ => 0, fun _ => 0, fun _ _ => 0, fun _ _ => 0⟩, Blk.new w1 _ _, World.ownsRow_nil _ _ _ _, ⟨fun i hi => by simp [newSt] at hi, fun i j hi => by simp [newSt] at hi⟩, ⟨fun j t ht => by simp [newSt] at ht, fun i j t u ht => by simp [newSt] at ht, fun i j t u p q ht => by simp [newSt] at ht, fun i j t u k l c d ht => by simp [newSt] at ht⟩, newSt_ok HH.out, rfl, fun b hb => (rowOf_none _ _ _ hb).elim, fun b hb => by subst hb; simp, fun b hb => by subst hb; exact hs⟩, o2, hs⟩
theorem modCells_new (A : Ad) (s : St) (j n : Nat) (mj : Nat → Nat) (t : Tx) (hj : j < 8) : modCells { A with tb := upd A.tb j n, mb := upd A.mb j mj } (s.setTx j (some t)) = (modCells A s).setIfInBounds (5 + j) (.pointer (some ⟨n, 0, none⟩)) := by
  have e : ∀ i, txPtr { A with tb := upd A.tb j n, mb := upd A.mb j mj } (upd s.tx j (some t)) i = if i = j then .pointer (some ⟨n, 0, none⟩) else txPtr A s.tx i := fun i => by
    unfold txPtr
    by_cases e : i = j
    · subst e; simp [upd_same]
    · simp [upd_other _ _ _ e, e]
  unfold modCells St.setTx
  simp only [e]
  match j, hj with
  | 0, _ => rfl
  | 1, _ => rfl
  | 2, _ => rfl
  | 3, _ => rfl
  | 4, _ => rfl
  | 5, _ => rfl
  | 6, _ => rfl
  | 7, _ => rfl
/-- A transaction that is new. -/
theorem MIn.beginTx {B m : Nat} {w w' : World} {P : Nat → Prop} {s : St} {A : Ad} (h : MIn B w P m s A) {j n : Nat} {mj : Nat → Nat} (hj : j < 8) (id level beg : Int) (o : Only (fun b => b = m) w w') (hn : w.heap.size ≤ n) (hn' : n < w'.heap.size) (hm : ∀ q, q < 3 → w.heap.size ≤ mj q ∧ w'.heap[mj q]? = some (.map #[] 0)) (hinj : ∀ p q, p < 3 → q < 3 → mj p = mj q → p = q)
    (hb : Blk w' n 85 #[.int .i64 id, .int .i64 level, .int .u64 beg, .int .i64 0, .map (some (mj 0)), .map (some (mj 1)), .map (some (mj 2))]) (hmod : Blk w' m 54 ((modCells A s).setIfInBounds (5 + j) (.pointer (some ⟨n, 0, none⟩)))) :
    MIn B w' (fun b => P b ∨ b = n ∨ ∃ q, q < 3 ∧ b = mj q) m (s.setTx j (some (newTx id level beg))) { A with tb := upd A.tb j n, mb := upd A.mb j mj } := by
  have hB : B ≤ w.heap.size := by have := h.above m h.pm; have := h.mod.lt; omega
  have T := h.txs.only o (h.txs.blkNe h.mod (by decide) (by decide))
  have hcase : ∀ i u, (s.setTx j (some (newTx id level beg))).tx i = some u → (i = j ∧ u = newTx id level beg) ∨ (i ≠ j ∧ s.tx i = some u) := fun i u hu => by
    by_cases e : i = j
    · subst e; simp only [St.setTx, upd_same] at hu; cases hu; exact .inl ⟨rfl, rfl⟩
    · simp only [St.setTx, upd_other _ _ _ e] at hu; exact .inr ⟨e, hu⟩
  have oldT : ∀ i u, s.tx i = some u → A.tb i < w.heap.size ∧ (∀ q, q < 3 → A.mb i q < w.heap.size) := fun i u hu => ⟨h.under _ (h.txs.one i u hu).2.pt, fun q hq => h.under _ ((h.txs.one i u hu).2.pm q hq)⟩
  refine ⟨by rw [modCells_new A s j n mj _ hj]; exact hmod, rows_only h.row o (fun b hb' e => by subst e; exact rows_ne h.row h.mod (by decide) hb'), (h.vers.only o (h.vers.blkNe h.mod (by decide))).toward (fun b hb => .inl hb), ?_, ?_, .inl h.pm, fun b hb => .inl (h.pr b hb), ?_, ?_⟩
  · refine ⟨fun i u hu => ?_, fun i k a b ha hb e => ?_, fun i k a b p q ha hb hp hq e => ?_, fun i k a b p q c d ha hb hc hd e => ?_⟩
    · rcases hcase i u hu with ⟨rfl, rfl⟩ | ⟨e, hu'⟩
      · refine ⟨hj, ?_, ?_, ?_, ?_, fun k c hk => by simp [newTx] at hk, .inr (.inl ?_), fun q hq => .inr (.inr ⟨q, hq, ?_⟩)⟩
        · show Blk w' (upd A.tb i n i) _ #[.int .i64 id, .int .i64 level, .int .u64 beg, .int .i64 0, .map (some (upd A.mb i mj i 0)), .map (some (upd A.mb i mj i 1)), .map (some (upd A.mb i mj i 2))]
          rw [upd_same, upd_same]; exact hb
        · show CMap w' (upd A.mb i mj i 0) _ _
          rw [upd_same]; exact CMap.empty (hm 0 (by omega)).2 _
        · show BMap w' (upd A.mb i mj i 1) _
          rw [upd_same]; exact BMap.empty (hm 1 (by omega)).2
        · show BMap w' (upd A.mb i mj i 2) _
          rw [upd_same]; exact BMap.empty (hm 2 (by omega)).2
        · exact upd_same _ _ _
        · show upd A.mb i mj i q = mj q
          rw [upd_same]
      · exact ⟨(T.one i u hu').1, ((T.one i u hu').2.toward (fun b hb => .inl hb)).congrA (upd_other _ _ _ e) (upd_other _ _ _ e) rfl⟩
    · change upd A.tb j n i = upd A.tb j n k at e
      rcases hcase i a ha with ⟨rfl, _⟩ | ⟨e1, ha'⟩
      · rcases hcase k b hb with ⟨rfl, _⟩ | ⟨e2, hb'⟩
        · rfl
        · rw [upd_same, upd_other _ _ _ e2] at e
          have := (oldT k b hb').1; omega
      · rcases hcase k b hb with ⟨rfl, _⟩ | ⟨e2, hb'⟩
        · rw [upd_same, upd_other _ _ _ e1] at e
          have := (oldT i a ha').1; omega
        · rw [upd_other _ _ _ e1, upd_other _ _ _ e2] at e
          exact h.txs.tinj i k a b ha' hb' e
    · change upd A.mb j mj i p = upd A.mb j mj k q at e
      rcases hcase i a ha with ⟨rfl, _⟩ | ⟨e1, ha'⟩
      · rcases hcase k b hb with ⟨rfl, _⟩ | ⟨e2, hb'⟩
        · rw [upd_same] at e; exact ⟨rfl, hinj p q hp hq e⟩
        · rw [upd_same, upd_other _ _ _ e2] at e
          have := (oldT k b hb').2 q hq; have := (hm p hp).1; omega
      · rcases hcase k b hb with ⟨rfl, _⟩ | ⟨e2, hb'⟩
        · rw [upd_same, upd_other _ _ _ e1] at e
          have := (oldT i a ha').2 p hp; have := (hm q hq).1; omega
        · rw [upd_other _ _ _ e1, upd_other _ _ _ e2] at e
          exact h.txs.minj i k a b p q ha' hb' hp hq e
    · rcases hcase i a ha with ⟨rfl, rfl⟩ | ⟨e1, ha'⟩
      · simp [newTx] at hc
      · rcases hcase k b hb with ⟨rfl, rfl⟩ | ⟨e2, hb'⟩
        · simp [newTx] at hd
        · exact h.txs.cinj i k a b p q c d ha' hb' hc hd e
  · exact h.ok.setTx (by simp [newTx]) (fun k c hc => by simp [newTx] at hc)
  · rintro b (hb | rfl | ⟨q, hq, rfl⟩)
    · exact Nat.lt_of_lt_of_le (h.under b hb) o.size
    · exact hn'
    · exact (Array.getElem?_eq_some_iff.1 (hm q hq).2).1
  · rintro b (hb | rfl | ⟨q, hq, rfl⟩)
    · exact h.above b hb
    · omega
    · have := (hm q hq).1; omega
/-- What Begin leaves. -/
def BeRes (B m : Nat) (w : World) (P : Nat → Prop) (x : Int × Int × St) (e : Ending) (w' : World) : Prop :=
  ∃ P' : Nat → Prop, e = .returned (.tuple #[.int .i64 x.1, .int .i64 x.2.1]) ∧ MAt B w' P' m x.2.2 ∧ Only P w w' ∧ Grew w.heap.size P P'
end Go.Proofs.Ytdjehgnkpbkdbaa
namespace Go.Proofs.Ytdjehgnkpbkdbaa
open Go.RowKit
set_option linter.unusedVariables false
set_option linter.unusedSimpArgs false
theorem heap3 (W : World) (o : Obj) (x : Nat) (h1 : W.heap.size ≤ x) (h2 : x < W.heap.size + 3) : (((W.alloc o).alloc o).alloc o).heap[x]? = some o := by
  show (((W.heap.push o).push o).push o)[x]? = some o
  rw [Array.getElem?_push]
  split
  · rfl
  · rename_i e1
    rw [Array.getElem?_push]
    split
    · rfl
    · rename_i e2
      rw [Array.getElem?_push]
      split
      · rfl
      · rename_i e3
        simp at e1 e2 e3; omega
set_option maxRecDepth 100000 in
set_option maxHeartbeats 16000000 in
theorem md_begin_ok {B m : Nat} {w : World} {P : Nat → Prop} {s : St} {A : Ad} (h : MIn B w P m s A) (j : Nat) (level : Int) (hj : j < 8) (hl : levelB level = true) (htx : s.tx j = none) (hmade : s.made < 2000) (hnow : s.now < s.limit) :
    Calls Try.prog 17 #[.pointer (some ⟨m, 0, none⟩), .int .i64 j, .int .i64 level] w (BeRes B m w P (s.made + 1, 0, { s with made := s.made + 1, now := s.now + 1, tx := upd s.tx j (some (newTx (s.made + 1) level (s.now + 1))) })) := by
  have CS := md_sess j w
  rw [show sessB (j : Int) = true by simp [sessB]; omega] at CS
  have CL := md_level level w
  rw [hl] at CL
  have cj := h.sess j hj
  rw [show txPtr A s.tx j = .pointer none by simp [txPtr, htx]] at cj
  have m1 : w.cell? ⟨m, 1, none⟩ = some (.int .u64 s.limit) := h.mod.cell 1
  have m2 : w.cell? ⟨m, 2, none⟩ = some (.int .u64 s.now) := h.mod.cell 2
  have m3 : w.cell? ⟨m, 3, none⟩ = some (.int .i64 s.made) := h.mod.cell 3
  obtain ⟨n1, n2⟩ := h.ok.now
  obtain ⟨l1, l2⟩ := h.ok.limit
  obtain ⟨d1, d2⟩ := h.ok.made
  have j8 : (j : Int) < 8 := by omega
  have j0 : (0 : Int) ≤ (j : Int) := by omega
  have HH := Lib.hid h
  have hmm := @run_makeMap Try.prog
  clear h htx hl
  go_enter Try.func17, Try.ntmps17
  go_wp2_with fail
  refine CS.mono ?_
  rintro e w1 ⟨rfl, rfl⟩
  go_wp2_with fail
  refine CL.mono ?_
  rintro e w1 ⟨rfl, rfl⟩
  clear CS CL
  go_wp2_with fail
  go_quiet (fail)
  have M1 := HH.out.drewN nq
  have O1 : Only P w (w.drewN nq) := (Only.refl P w).drewN nq
  have z1 : w.heap.size ≤ (w.drewN nq).heap.size := Nat.le_refl _
  replace m2 : (w.drewN nq).cell? ⟨m, 2, none⟩ = some (.int .u64 s.now) := m2
  replace m3 : (w.drewN nq).cell? ⟨m, 3, none⟩ = some (.int .i64 s.made) := m3
  clear m1 cj
  generalize w.drewN nq = W1 at *
  have f2 := M1.mod.free 2
  have f3 := M1.mod.free 3
  obtain ⟨s2, hs2⟩ : ∃ s2 : St, s2 = { s with slots := s.slots, limit := s.limit, now := s.now + 1, made := s.made + 1 } := ⟨_, rfl⟩
  obtain ⟨W2, hW2⟩ : ∃ W2, W2 = (W1.setCell ⟨m, 3, none⟩ (.int .i64 (s.made + 1))).setCell ⟨m, 2, none⟩ (.int .u64 (s.now + 1)) := ⟨_, rfl⟩
  have o12 : Only (fun b => b = m) W1 W2 := by rw [hW2]; exact (Only.set1 W1 m 3 _).trans (Only.set1 _ m 2 _)
  have M2 : MIn B W2 P m s2 A := by
    rw [hs2]
    refine M1.setMod o12 ?_ ⟨M1.ok.slots, M1.ok.limit, by simp; omega, by simp; omega, M1.ok.few, M1.ok.lin, M1.ok.ops, M1.ok.refs⟩
    have := (M1.mod.set 3 (.int .i64 (s.made + 1))).set 2 (.int .u64 (s.now + 1))
    rw [hW2]
    have e : ((modCells A s).setIfInBounds 3 (.int .i64 (s.made + 1))).setIfInBounds 2 (.int .u64 (s.now + 1)) = modCells A { s with slots := s.slots, limit := s.limit, now := s.now + 1, made := s.made + 1 } := by simp [modCells]
    rw [← e]; exact this
  have p2 : W2.cell? ⟨m, 2, none⟩ = some (.int .u64 (s.now + 1)) := by rw [M2.mod.cell 2, hs2]; rfl
  have p3 : W2.cell? ⟨m, 3, none⟩ = some (.int .i64 (s.made + 1)) := by rw [M2.mod.cell 3, hs2]; rfl
  have HM2 := Lib.hid M2
  have HO2' := O1.trans (o12.toward (fun b hb => by subst hb; exact M1.pm))
  have HZ' := Nat.le_trans z1 o12.size
  have pj : ∀ o1 o2 o3 o4, ((((W2.alloc o1).alloc o2).alloc o3).alloc o4).cell? ⟨m, 5 + j, none⟩ = some (txPtr A s2.tx j) := fun o1 o2 o3 o4 => by
    rw [Blk.cell ((((M2.mod.alloc o1).alloc o2).alloc o3).alloc o4), modCells_tx A s2 j hj]
  have pf : ∀ o1 o2 o3 o4, ((((W2.alloc o1).alloc o2).alloc o3).alloc o4).frozen? ⟨m, 5 + j, none⟩ = false := fun o1 o2 o3 o4 => Blk.free ((((M2.mod.alloc o1).alloc o2).alloc o3).alloc o4) _
  have q21 : ∀ o1, (W2.alloc o1).cell? ⟨m, 2, none⟩ = some (.int .u64 (s.now + 1)) := fun o1 => by rw [Blk.cell (M2.mod.alloc o1), hs2]; rfl
  have q22 : ∀ o1 o2, ((W2.alloc o1).alloc o2).cell? ⟨m, 2, none⟩ = some (.int .u64 (s.now + 1)) := fun o1 o2 => by rw [Blk.cell ((M2.mod.alloc o1).alloc o2), hs2]; rfl
  have q23 : ∀ o1 o2 o3, (((W2.alloc o1).alloc o2).alloc o3).cell? ⟨m, 2, none⟩ = some (.int .u64 (s.now + 1)) := fun o1 o2 o3 => by rw [Blk.cell (((M2.mod.alloc o1).alloc o2).alloc o3), hs2]; rfl
  have q31 : ∀ o1, (W2.alloc o1).cell? ⟨m, 3, none⟩ = some (.int .i64 (s.made + 1)) := fun o1 => by rw [Blk.cell (M2.mod.alloc o1), hs2]; rfl
  have q32 : ∀ o1 o2, ((W2.alloc o1).alloc o2).cell? ⟨m, 3, none⟩ = some (.int .i64 (s.made + 1)) := fun o1 o2 => by rw [Blk.cell ((M2.mod.alloc o1).alloc o2), hs2]; rfl
  have q33 : ∀ o1 o2 o3, (((W2.alloc o1).alloc o2).alloc o3).cell? ⟨m, 3, none⟩ = some (.int .i64 (s.made + 1)) := fun o1 o2 o3 => by rw [Blk.cell (((M2.mod.alloc o1).alloc o2).alloc o3), hs2]; rfl
  have q34 : ∀ o1 o2 o3 o4, ((((W2.alloc o1).alloc o2).alloc o3).alloc o4).cell? ⟨m, 3, none⟩ = some (.int .i64 (s.made + 1)) := fun o1 o2 o3 o4 => by rw [Blk.cell ((((M2.mod.alloc o1).alloc o2).alloc o3).alloc o4), hs2]; rfl
  have FIN : ∀ x0 x1 x2 : Nat, (W2.heap.size ≤ x0 ∧ x0 < W2.heap.size + 3) ∧ (W2.heap.size ≤ x1 ∧ x1 < W2.heap.size + 3) ∧ (W2.heap.size ≤ x2 ∧ x2 < W2.heap.size + 3) ∧ x0 ≠ x1 ∧ x0 ≠ x2 ∧ x1 ≠ x2 →
      BeRes B m w P (s.made + 1, 0, { s with made := s.made + 1, now := s.now + 1, tx := upd s.tx j (some (newTx (s.made + 1) level (s.now + 1))) }) (.returned (.tuple #[.int .i64 (s.made + 1), .int .i64 0]))
        (((((W2.alloc (.map #[] 0)).alloc (.map #[] 0)).alloc (.map #[] 0)).alloc (.cells #[.int .i64 (s.made + 1), .int .i64 level, .int .u64 (s.now + 1), .int .i64 0, .map (some x0), .map (some x1), .map (some x2)] 85)).setCell ⟨m, 5 + j, none⟩ (.pointer (some ⟨W2.heap.size + 1 + 1 + 1, 0, none⟩))).drew := by
    rintro x0 x1 x2 ⟨a0, a1, a2, e01, e02, e12⟩
    have hmlt := M2.mod.lt
    obtain ⟨Wb, hWb⟩ : ∃ Wb, Wb = ((W2.alloc (.map #[] 0)).alloc (.map #[] 0)).alloc (.map #[] 0) := ⟨_, rfl⟩
    have zb : Wb.heap.size = W2.heap.size + 3 := by rw [hWb]; simp
    have hmap : ∀ x, W2.heap.size ≤ x → x < W2.heap.size + 3 → Wb.heap[x]? = some (.map #[] 0) := fun x h1 h2 => by
      rw [hWb]; exact heap3 W2 _ x h1 h2
    have ob : Only0 W2 Wb := by rw [hWb]; exact (((Only0.refl _).alloc _).alloc _).alloc _
    rw [← hWb]
    obtain ⟨Wc, hWc⟩ : ∃ Wc, Wc = Wb.alloc (.cells #[.int .i64 (s.made + 1), .int .i64 level, .int .u64 (s.now + 1), .int .i64 0, .map (some x0), .map (some x1), .map (some x2)] 85) := ⟨_, rfl⟩
    rw [← hWc]
    have zc : Wc.heap.size = W2.heap.size + 4 := by rw [hWc]; simp [zb]
    have oc : Only0 W2 Wc := by rw [hWc]; exact ob.alloc _
    have bc : Blk Wc (W2.heap.size + 3) 85 #[.int .i64 (s.made + 1), .int .i64 level, .int .u64 (s.now + 1), .int .i64 0, .map (some x0), .map (some x1), .map (some x2)] := by rw [hWc]; exact Blk.new' _ _ _ _ zb.symm
    have hmc : ∀ x, W2.heap.size ≤ x → x < W2.heap.size + 3 → Wc.heap[x]? = some (.map #[] 0) := fun x h1 h2 => by
      rw [hWc]
      exact (RowKit.Below.heap_alloc _ _ _ (by omega)).trans (hmap x h1 h2)
    obtain ⟨Wd, hWd⟩ : ∃ Wd, Wd = Wc.setCell ⟨m, 5 + j, none⟩ (.pointer (some ⟨W2.heap.size + 1 + 1 + 1, 0, none⟩)) := ⟨_, rfl⟩
    rw [← hWd]
    have od : Only (fun b => b = m) W2 Wd := by rw [hWd]; exact (oc.any _).trans (Only.set1 Wc m (5 + j) _)
    have MN := M2.beginTx (w' := Wd) (n := W2.heap.size + 3) (mj := fun q => if q = 0 then x0 else if q = 1 then x1 else x2) hj (s.made + 1) level (s.now + 1) od (by omega) (by rw [hWd]; simp [zc]) (fun q hq => by
        have hx : W2.heap.size ≤ (if q = 0 then x0 else if q = 1 then x1 else x2) ∧ (if q = 0 then x0 else if q = 1 then x1 else x2) < W2.heap.size + 3 := by split; omega; split <;> omega
        refine ⟨hx.1, ?_⟩
        rw [hWd, heap_setCell_other _ _ _ _ (by show _ ≠ m; omega)]
        exact hmc _ hx.1 hx.2) (fun p q hp hq e => by
        have hp3 : p = 0 ∨ p = 1 ∨ p = 2 := by omega
        have hq3 : q = 0 ∨ q = 1 ∨ q = 2 := by omega
        rcases hp3 with rfl | rfl | rfl <;> rcases hq3 with rfl | rfl | rfl <;> simp at e <;> first | rfl | (exfalso; omega)) (by
        rw [hWd]; exact bc.other ⟨m, 5 + j, none⟩ _ (by show _ ≠ m; omega)) (by
        rw [hWd]; exact (oc.blk M2.mod (fun h => h)).set _ _)
    have MN' := MN.drewN 1
    rw [hs2] at MN'
    refine ⟨_, rfl, ⟨_, MN'⟩, (HO2'.trans (od.toward (fun b hb => by subst hb; exact M2.pm))).drew, fun b hb => ?_⟩
    rcases hb with hb | hb | ⟨q, hq, hb⟩
    · exact .inl hb
    · exact .inr (by have := HZ'; omega)
    · refine .inr ?_
      have := HZ'
      rw [hb]
      show w.heap.size ≤ (if q = 0 then x0 else if q = 1 then x1 else x2)
      split; omega; split <;> omega
  have HFIN := Lib.hid FIN
  clear FIN HO2' HZ'
  clear M1 M2 O1 o12 z1
  go_upto_region 11 with (fail)
  rw [← hW2]
  clear hW2 m2 m3 f2 f3
  go_region
  all_goals
    go_wp2_with fail
    go_ret2
    exact HFIN.out _ _ _ (by omega)
end Go.Proofs.Ytdjehgnkpbkdbaa
namespace Go.Proofs.Ytdjehgnkpbkdbaa
open Go.RowKit
set_option linter.unusedVariables false
set_option linter.unusedSimpArgs false
theorem BeRes.no {B m : Nat} {w w' : World} {P : Nat → Prop} {s : St} {A : Ad} (h : MIn B w P m s A) (er : Int) (o : Only0 w w') : BeRes B m w P (0, er, s) (.returned (.tuple #[.int .i64 0, .int .i64 er])) w' := ⟨P, rfl, ⟨A, h.only0 o⟩, o.any _, Grew.refl _ _⟩
set_option maxRecDepth 100000 in
set_option maxHeartbeats 16000000 in
theorem md_begin {B m : Nat} {w : World} {P : Nat → Prop} {s : St} (h : MAt B w P m s) (j level : Int) :
    Calls Try.prog 17 #[.pointer (some ⟨m, 0, none⟩), .int .i64 j, .int .i64 level] w (BeRes B m w P (s.begin j level)) := by
  obtain ⟨A, h⟩ := h
  have CS := md_sess j w
  have CL := md_level level w
  have m1 : w.cell? ⟨m, 1, none⟩ = some (.int .u64 s.limit) := h.mod.cell 1
  have m2 : w.cell? ⟨m, 2, none⟩ = some (.int .u64 s.now) := h.mod.cell 2
  have m3 : w.cell? ⟨m, 3, none⟩ = some (.int .i64 s.made) := h.mod.cell 3
  have HH := Lib.hid h
  cases hs : sessB j with
  | false =>
    rw [show s.begin j level = (0, 1, s) by simp [St.begin, hs]]
    rw [hs] at CS
    clear hs h CL
    go_enter Try.func17, Try.ntmps17
    go_wp2_with fail
    refine CS.mono ?_
    rintro e w1 ⟨rfl, rfl⟩
    go_wp2_with fail
    go_ret2
    exact BeRes.no HH.out 1 (Only0.refl _)
  | true =>
    cases hl : levelB level with
    | false =>
      rw [show s.begin j level = (0, 1, s) by simp [St.begin, hs, hl]]
      rw [hs] at CS
      rw [hl] at CL
      clear hs h hl
      go_enter Try.func17, Try.ntmps17
      go_wp2_with fail
      refine CS.mono ?_
      rintro e w1 ⟨rfl, rfl⟩
      go_wp2_with fail
      refine CL.mono ?_
      rintro e w1 ⟨rfl, rfl⟩
      go_wp2_with fail
      go_ret2
      exact BeRes.no HH.out 1 (Only0.refl _)
    | true =>
      obtain ⟨jn, rfl, hjn⟩ : ∃ jn : Nat, j = (jn : Int) ∧ jn < 8 := by
        simp [sessB] at hs; exact ⟨j.toNat, by omega, by omega⟩
      have j8 : (jn : Int) < 8 := by omega
      have j0 : (0 : Int) ≤ (jn : Int) := by omega
      have cj := h.sess jn hjn
      cases htx : s.tx jn with
      | some t =>
        rw [show s.begin (jn : Int) level = (0, 9, s) by simp [St.begin, hs, hl, htx]]
        rw [show txPtr A s.tx jn = .pointer (some ⟨A.tb jn, 0, none⟩) by simp [txPtr, htx]] at cj
        rw [hs] at CS
        rw [hl] at CL
        clear hs h hl htx
        go_enter Try.func17, Try.ntmps17
        go_wp2_with fail
        refine CS.mono ?_
        rintro e w1 ⟨rfl, rfl⟩
        go_wp2_with fail
        refine CL.mono ?_
        rintro e w1 ⟨rfl, rfl⟩
        go_wp2_with fail
        go_ret2
        exact BeRes.no HH.out 9 (Only0.refl _)
      | none =>
        by_cases hm : 2000 ≤ s.made
        · rw [show s.begin (jn : Int) level = (0, 65, s) by simp [St.begin, hs, hl, htx, hm]]
          rw [show txPtr A s.tx jn = .pointer none by simp [txPtr, htx]] at cj
          rw [hs] at CS
          rw [hl] at CL
          clear hs h hl htx
          go_enter Try.func17, Try.ntmps17
          go_wp2_with fail
          refine CS.mono ?_
          rintro e w1 ⟨rfl, rfl⟩
          go_wp2_with fail
          refine CL.mono ?_
          rintro e w1 ⟨rfl, rfl⟩
          go_wp2_with fail
          go_ret2
          exact BeRes.no HH.out 65 (Only0.refl _)
        · by_cases hn : s.limit ≤ s.now
          · rw [show s.begin (jn : Int) level = (0, 16, s) by simp [St.begin, hs, hl, htx, hm, hn]]
            rw [show txPtr A s.tx jn = .pointer none by simp [txPtr, htx]] at cj
            rw [hs] at CS
            rw [hl] at CL
            clear hs h hl htx
            have hm' : s.made < 2000 := by omega
            clear hm
            go_enter Try.func17, Try.ntmps17
            go_wp2_with fail
            refine CS.mono ?_
            rintro e w1 ⟨rfl, rfl⟩
            go_wp2_with fail
            refine CL.mono ?_
            rintro e w1 ⟨rfl, rfl⟩
            go_wp2_with fail
            go_quiet (fail)
            go_wp2_with fail
            go_ret2
            exact BeRes.no HH.out 16 ((Only0.refl _).drewN _)
          · have := md_begin_ok h jn level hjn hl htx (by omega) (by omega)
            rw [show s.begin (jn : Int) level = (s.made + 1, 0, { s with made := s.made + 1, now := s.now + 1, tx := upd s.tx jn (some (newTx (s.made + 1) level (s.now + 1))) }) by simp [St.begin, hs, hl, htx, hm, hn]]
            exact this
set_option maxRecDepth 100000 in
set_option maxHeartbeats 4000000 in
theorem md_now {B m : Nat} {w : World} {P : Nat → Prop} {s : St} (h : MAt B w P m s) : Calls Try.prog 14 #[.pointer (some ⟨m, 0, none⟩)] w fun e w' => e = .returned (.int .u64 s.now) ∧ w = w' := by
  obtain ⟨A, h⟩ := h
  have m2 : w.cell? ⟨m, 2, none⟩ = some (.int .u64 s.now) := h.mod.cell 2
  clear h
  go_enter Try.func14, Try.ntmps14
  go_wp2_with fail
  go_ret
  exact ⟨rfl, rfl⟩
end Go.Proofs.Ytdjehgnkpbkdbaa
namespace Go.Proofs.Ytdjehgnkpbkdbaa
open Go.RowKit
set_option linter.unusedVariables false
set_option linter.unusedSimpArgs false
def St.pairAt (s : St) (at_ : Int) (k : Nat) : Option (Int × Int) := (s.at k at_).map fun i => ((k : Int), (s.ver i).value)
theorem pairs_eq (s : St) (at_ : Int) : s.pairs at_ = (List.range 64).filterMap (s.pairAt at_) := rfl
theorem pairsTo_none {s : St} {at_ : Int} {q : Nat} (h : s.at q at_ = none) : (List.range (q + 1)).filterMap (s.pairAt at_) = (List.range q).filterMap (s.pairAt at_) := by
  rw [List.range_succ, List.filterMap_append]; simp [St.pairAt, h]
theorem pairsTo_some {s : St} {at_ : Int} {q i : Nat} (h : s.at q at_ = some i) : (List.range (q + 1)).filterMap (s.pairAt at_) = (List.range q).filterMap (s.pairAt at_) ++ [((q : Int), (s.ver i).value)] := by
  rw [List.range_succ, List.filterMap_append]; simp [St.pairAt, h]
theorem pairsTo_few (s : St) (at_ : Int) (q : Nat) : ((List.range q).filterMap (s.pairAt at_)).length ≤ q := by
  refine Nat.le_trans (List.length_filterMap_le _ _) ?_
  simp
set_option maxRecDepth 100000 in
set_option maxHeartbeats 8000000 in
theorem md_pairs {B m : Nat} {w : World} {P : Nat → Prop} {s : St} (h : MAt B w P m s) (at_ : Int) :
    Calls Try.prog 13 #[.pointer (some ⟨m, 0, none⟩), .int .u64 at_] w fun e w' => (∃ a c, e = .returned (.slice a (s.pairs at_).length c) ∧ PairsIn w' a (s.pairs at_) ∧ ∀ x, a = some x → w.heap.size ≤ x.block) ∧ Only0 w w' := by
  obtain ⟨A, h⟩ := h
  have HH := Lib.hid h
  obtain ⟨i0, hi0, hz0, hz1, hz2⟩ := info_parts info_pair
  clear h
  go_enter Try.func13, Try.ntmps13
  go_wp2_with fail
  go_loopw [5, 8] (fun s5 s8 wr => ∃ (q len : Nat) (ra : Option Addr) (rc : Nat), s8 = .int .i64 q ∧ q ≤ 64 ∧ s5 = .slice ra len rc ∧ len ≤ 64 ∧ Hid (len = ((List.range q).filterMap (s.pairAt at_)).length ∧ Only0 w wr ∧ wr.ownsRow w.heap.size 73 2 (.slice ra len rc) len (pairCells ((List.range q).filterMap (s.pairAt at_))))) (fun _ s8 _ => 64 - (intOf s8).toNat)
  case atStart => exact ⟨0, 0, none, 0, rfl, by omega, rfl, by omega, Lib.hid ⟨rfl, Only0.refl _, World.ownsRow_nil _ _ _ _⟩⟩
  case round =>
    obtain ⟨q, len, ra, rc, rfl, hq, rfl, hl, HR⟩ := hrel
    by_cases hlt : q < 64
    · have M := HH.out.only0 HR.out.2.1
      have C := md_at M q at_
      have few := pairsTo_few s at_ (q + 1)
      cases hs : s.at q at_ with
      | none =>
        rw [hs, show ptrOf A.va none = .pointer none from rfl] at C
        have R := Lib.hid (show len = ((List.range (q + 1)).filterMap (s.pairAt at_)).length ∧ Only0 w wr ∧ wr.ownsRow w.heap.size 73 2 (.slice ra len rc) len (pairCells ((List.range (q + 1)).filterMap (s.pairAt at_))) by rw [pairsTo_none hs]; exact HR.out)
        clear hs M few HR
        go_wp2_with fail
        refine C.mono ?_
        rintro e w1 ⟨rfl, rfl⟩
        go_wp2_with fail
        go_roundw
        case rel => exact ⟨q + 1, len, ra, rc, by go_num, by omega, rfl, hl, R⟩
        case measure => simp [intOf]; omega
      | some i =>
        rw [hs, show ptrOf A.va (some i) = .pointer (some ⟨A.va i, 0, none⟩) from rfl] at C
        have v1 : wr.cell? ⟨A.va i, 1, none⟩ = some (.int .i64 (s.ver i).value) := (M.vers.blk i (at_lt M i hs)).1.cell 1
        have e1 := pairsTo_some hs
        have len1 := HR.out.1
        have hown := HR.out.2.2
        have hwr := HR.out.2.1.size
        have hl2 : len + 1 ≤ 64 := by rw [e1] at few; simp at few; omega
        have NEXT : ∀ (g cap : Nat) (w2 : World), w2.ownsRow w.heap.size 73 2 (.slice (some ⟨g, 0, none⟩) (len + 1) cap) (len + 1) (pairCells ((List.range q).filterMap (s.pairAt at_)) ++ [.int .i64 q, .int .i64 (s.ver i).value]) → (wr.alloc (.cells #[.int .i64 q, .int .i64 (s.ver i).value] 73)).grownBy w2 (Value.slice ra len rc).ownBlock →
            len + 1 = ((List.range (q + 1)).filterMap (s.pairAt at_)).length ∧ Only0 w w2 ∧ w2.ownsRow w.heap.size 73 2 (.slice (some ⟨g, 0, none⟩) (len + 1) cap) (len + 1) (pairCells ((List.range (q + 1)).filterMap (s.pairAt at_))) := by
          intro g cap w2 h2 hg
          rw [e1, pairCells_snoc]
          refine ⟨by simp [len1], (HR.out.2.1.alloc _).grown hg (fun b hb => (hown.lt b hb).1), h2⟩
        have HNX := Lib.hid NEXT
        clear hs M few HR NEXT e1 len1
        generalize (s.ver i).value = x at *
        go_wp2_with fail
        refine C.mono ?_
        rintro e w1 ⟨rfl, rfl⟩
        clear C
        go_wp2_with (at_builtin; refine wpList_append_lies _ rfl _ _ 44 rfl w.heap.size 73 i0 _ 2 16 Try.underlying44 hi0 hz0 hz1 hz2 rfl (by decide) (.slice ra len rc) len (pairCells ((List.range q).filterMap (s.pairAt at_))) rfl (hown.alloc _) ⟨wr.heap.size, 0, none⟩ 1 1 [.int .i64 q, .int .i64 x] rfl rfl ?c1 ?c2 (by decide) ?c3 ?c4 ?c5 (wr.heap.size + 1) ?c6 ?_)
        case c1 => exact World.news_of_block (cs := #[.int .i64 q, .int .i64 x]) (t := 73) (fr := (0, 0)) (heap_alloc_new wr _)
        case c2 => intro u hu; simp at hu; rcases hu with rfl | rfl <;> rfl
        case c3 => unfold maxLen; omega
        case c4 => omega
        case c5 => simp; omega
        case c6 => simp
        intro g cap w2 hown2 hgrow hat hlt2
        have R := Lib.hid (HNX.out g cap w2 hown2 hgrow)
        clear HNX hown hown2 hgrow hat hlt2
        go_wp2_with fail
        go_roundw
        case rel => exact ⟨q + 1, len + 1, _, cap, by go_num, by omega, rfl, by omega, R⟩
        case measure => simp [intOf]; omega
    · obtain rfl : q = 64 := by omega
      have R := Lib.hid HR.out
      clear HR
      go_wp2_with fail
      go_ret
      obtain ⟨e1, o1, r1⟩ := R.out
      rw [← pairs_eq] at e1 r1
      subst e1
      exact ⟨⟨ra, rc, rfl, PairsIn.of_own r1, fun x hx => by
        subst hx
        rcases r1.2 with ⟨h0, _⟩ | ⟨g, c1, c2, hv, hg, _⟩
        · cases h0
        · injection hv with h1 h2 h3; injection h1 with h1; subst h1; exact hg⟩, o1⟩
end Go.Proofs.Ytdjehgnkpbkdbaa
namespace Go.Proofs.Ytdjehgnkpbkdbaa
open Go.RowKit
set_option linter.unusedVariables false
set_option linter.unusedSimpArgs false
set_option maxRecDepth 100000 in
theorem part0 (a b : Int) (w : World) : (part 3 #[.int .i64 a, .int .i64 b] 0).run Try.prog w = .ok (.int .i64 a) w := by kernel_rfl
set_option maxRecDepth 100000 in
theorem part1 (a b : Int) (w : World) : (part 3 #[.int .i64 a, .int .i64 b] 1).run Try.prog w = .ok (.int .i64 b) w := by kernel_rfl
set_option maxRecDepth 100000 in
theorem stood_pair : Try.prog.stoodInHeld 73 = false := by kernel_rfl
set_option maxRecDepth 100000 in
theorem fields_pair : Try.prog.underlying 73 = some (.struct (Try.prog.fieldsOf 73)) := by kernel_rfl
set_option maxRecDepth 100000 in
theorem guardt_pair : Try.prog.eqGuardType Try.prog.depth 73 = false := by kernel_rfl
set_option maxRecDepth 100000 in
set_option maxHeartbeats 1000000 in
theorem pair_neq (a b c d : Int) (w : World) : (binOp .neq 73 (.agg #[.int .i64 a, .int .i64 b]) (.agg #[.int .i64 c, .int .i64 d])).run Try.prog w = .ok (.bool (!(decide (a = c) && decide (b = d)))) w := by
  rw [run_neq_struct, run_equalIn_agg w 9999 _ _ _ fields_pair stood_pair]
  have e : ∀ (x y : Int), (Op.equalIn 9999 3 (.int .i64 x) (.int .i64 y)).run Try.prog w = .ok (x == y) w := fun x y => run_equalIn_int w 9998 _ _ _ x y Try.underlying3
  unfold Program.fieldsOf
  rw [Try.underlying73]
  by_cases e1 : a = c <;> by_cases e2 : b = d <;> simp [Op.eqFields, part0, part1, e, e1, e2, Result.andThen]
set_option maxRecDepth 100000 in
set_option maxHeartbeats 1000000 in
theorem pair_equalIn (a b c d : Int) (w : World) : (Op.equalIn 10000 73 (.agg #[.int .i64 a, .int .i64 b]) (.agg #[.int .i64 c, .int .i64 d])).run Try.prog w = .ok (decide (a = c) && decide (b = d)) w := by
  rw [run_equalIn_agg w 9999 _ _ _ fields_pair stood_pair]
  have e : ∀ (x y : Int), (Op.equalIn 9999 3 (.int .i64 x) (.int .i64 y)).run Try.prog w = .ok (x == y) w := fun x y => run_equalIn_int w 9998 _ _ _ x y Try.underlying3
  unfold Program.fieldsOf
  rw [Try.underlying73]
  by_cases e1 : a = c <;> by_cases e2 : b = d <;> simp [Op.eqFields, part0, part1, e, e1, e2, Result.andThen]
theorem PairsIn.at {w : World} {a : Option Addr} {ps : List (Int × Int)} (h : PairsIn w a ps) (hn : 0 < ps.length) :
    ∃ b off, a = some ⟨b, off, none⟩ ∧ ∀ i, i < ps.length → w.cell? ⟨b, off + i * 2, none⟩ = some (.int .i64 (ps.getD i (0, 0)).1) ∧ w.cell? ⟨b, off + (i * 2 + 1), none⟩ = some (.int .i64 (ps.getD i (0, 0)).2) := by
  rcases h with rfl | h
  · simp at hn
  · exact h
def uptoP (xs ys : List (Int × Int)) (k : Nat) : Prop := ∀ j, j < k → xs.getD j (0, 0) = ys.getD j (0, 0)
theorem uptoP_all {xs ys : List (Int × Int)} (h : xs.length = ys.length) (hu : uptoP xs ys xs.length) : xs = ys := by
  apply List.ext_getElem h
  intro i h1 h2
  have := hu i h1
  simpa [List.getD_eq_getElem?_getD, h1, h2] using this
theorem uptoP_succ {xs ys : List (Int × Int)} {k : Nat} (h : uptoP xs ys k) (h1 : xs.getD k (0, 0) = ys.getD k (0, 0)) : uptoP xs ys (k + 1) := by
  intro j hj
  rcases Nat.lt_or_ge j k with h2 | h2
  · exact h j h2
  · obtain rfl : j = k := by omega
    exact h1
set_option maxRecDepth 100000 in
set_option maxHeartbeats 4000000 in
theorem samePairs_any (a a' : Option Addr) (c c' : Nat) (xs ys : List (Int × Int)) (w : World) (hx : PairsIn w a xs) (hy : PairsIn w a' ys) (lx : xs.length ≤ 1000000) (ly : ys.length ≤ 1000000) :
    Calls Try.prog 12 #[.slice a xs.length c, .slice a' ys.length c'] w fun e w' => e = .returned (.bool (decide (xs = ys))) ∧ ∃ n, w' = w.drewN n := by
  by_cases hl : xs.length = ys.length
  · have hl1 : ((xs.length : Int) != (ys.length : Int)) = false := by simp [hl]
    have H := Lib.hid hl
    clear hl
    go_enter Try.func12, Try.ntmps12
    go_wp2_with fail
    go_loopw [5] (fun i wr => ∃ k m : Nat, k ≤ xs.length ∧ i = .int .i64 k ∧ wr = w.drewN m ∧ Hid (uptoP xs ys k)) (fun i _ => xs.length - (intOf i).toNat)
    case atStart => exact ⟨0, 0, Nat.zero_le _, rfl, rfl, Lib.hid (fun j hj => by omega)⟩
    case round =>
      obtain ⟨k, m, hk, rfl, rfl, HU⟩ := hrel
      by_cases hlt : k < xs.length
      · have hly : k < ys.length := by have := H.out; omega
        obtain ⟨b, off, rfl, hc⟩ := hx.at (by omega)
        obtain ⟨b', off', rfl, hc'⟩ := hy.at (by omega)
        obtain ⟨h1, h1'⟩ := hc k hlt
        obtain ⟨h2, h2'⟩ := hc' k hly
        have U1 := Lib.hid (show xs.getD k (0, 0) = ys.getD k (0, 0) → uptoP xs ys (k + 1) from fun e => uptoP_succ HU.out e)
        have U2 := Lib.hid (show xs.getD k (0, 0) ≠ ys.getD k (0, 0) → decide (xs = ys) = false from fun e => decide_eq_false (fun e' => e (by rw [e'])))
        generalize xs.getD k (0, 0) = x at h1 h1' U1 U2
        generalize ys.getD k (0, 0) = y at h2 h2' U1 U2
        obtain ⟨x1, x2⟩ := x
        obtain ⟨y1, y2⟩ := y
        have hq : ∀ n, (binOp .neq 73 (.agg #[.int .i64 x1, .int .i64 x2]) (.agg #[.int .i64 y1, .int .i64 y2])).run Try.prog ((w.drewN m).drewN n) = .ok (.bool (!(decide (x1 = y1) && decide (x2 = y2)))) ((w.drewN m).drewN n) := fun n => pair_neq _ _ _ _ _
        have hq2 : ∀ n, (Op.equalIn 10000 73 (.agg #[.int .i64 x1, .int .i64 x2]) (.agg #[.int .i64 y1, .int .i64 y2])).run Try.prog ((w.drewN m).drewN n) = .ok (decide (x1 = y1) && decide (x2 = y2)) ((w.drewN m).drewN n) := fun n => pair_equalIn _ _ _ _ _
        have hg := guardt_pair
        clear hc hc'
        dsimp only at h1 h1' h2 h2'
        rw [← Nat.add_assoc] at h1' h2'
        by_cases exy : x1 = y1 ∧ x2 = y2
        · obtain ⟨rfl, rfl⟩ := exy
          have U4 := Lib.hid (U1.out rfl)
          simp only [decide_true, Bool.and_self, Bool.not_true] at hq hq2
          clear U1 U2 HU
          go_wp2_with fail
          go_quiet (fail)
          go_wp2_with fail
          go_roundw
          case rel => exact ⟨k + 1, _, by omega, by go_num, rfl, U4⟩
          case measure => simp [intOf]; omega
        · have U4 := Lib.hid (U2.out (fun e => exy (by injection e with e1 e2; exact ⟨e1, e2⟩)))
          have eb : (decide (x1 = y1) && decide (x2 = y2)) = false := by simpa using exy
          rw [eb] at hq hq2
          have hd : (x1 == y1) = false ∨ (x1 = y1 ∧ (x2 == y2) = false) := by
            by_cases e1 : x1 = y1
            · exact .inr ⟨e1, by simpa using fun e2 => exy ⟨e1, e2⟩⟩
            · exact .inl (by simpa using e1)
          clear U1 U2 HU exy eb
          rcases hd with hd | ⟨rfl, hd⟩
          all_goals
            go_wp2_with fail
            go_quiet (fail)
            go_wp2_with fail
            go_ret
            exact ⟨ret_bool (by rw [U4.out]), _, World.drewN_drewN _ _ _⟩
      · obtain rfl : k = xs.length := by omega
        have U3 := Lib.hid (show decide (xs = ys) = true from decide_eq_true (uptoP_all H.out HU.out))
        go_wp2_with fail
        go_ret
        exact ⟨ret_bool (by rw [U3.out]), _, rfl⟩
  · have hl1 : ((xs.length : Int) != (ys.length : Int)) = true := by simp; omega
    have U3 := Lib.hid (show decide (xs = ys) = false from decide_eq_false (fun e => hl (by rw [e])))
    clear hl
    go_enter Try.func12, Try.ntmps12
    go_wp2_with fail
    go_ret
    exact ⟨ret_bool (by rw [U3.out]), 0, rfl⟩
end Go.Proofs.Ytdjehgnkpbkdbaa
namespace Go.Proofs.Ytdjehgnkpbkdbaa
open Go.RowKit
set_option linter.unusedVariables false
set_option linter.unusedSimpArgs false
theorem MIn.base {B B' m : Nat} {w : World} {P : Nat → Prop} {s : St} {A : Ad} (h : MIn B w P m s A) (hB : B' ≤ B) : MIn B' w P m s A :=
  ⟨h.mod, rows_base h.row hB, h.vers, h.txs, h.ok, h.pm, h.pr, h.under, fun b hb => Nat.le_trans hB (h.above b hb)⟩
/-- A law's Model, all of it in memory of its own. -/
structure LW (w0 w : World) (P : Nat → Prop) (m : Nat) (s : St) : Prop where
  mat : MAt w0.heap.size w P m s
  o : Only0 w0 w
theorem LW.made {w0 w w' : World} {m : Nat} {s : St} (o : Only0 w0 w) (h : MAt w.heap.size w' (fun b => b = m) m s) (o' : Only0 w w') : LW w0 w' (fun b => b = m) m s := by
  obtain ⟨A, h⟩ := h
  exact ⟨⟨A, h.base o.size⟩, o.trans o'⟩
theorem LW.step {w0 w w' : World} {P P' : Nat → Prop} {m : Nat} {s s' : St} (h : LW w0 w P m s) (h' : MAt w0.heap.size w' P' m s') (o : Only P w w') : LW w0 w' P' m s' := by
  refine ⟨h', ⟨o.os.trans h.o.os, o.tape.trans h.o.tape, o.output.trans h.o.output, Nat.le_trans h.o.size o.size, fun k hk hn => ?_⟩⟩
  rw [o.block k (Nat.lt_of_lt_of_le hk h.o.size) (fun hp => by have := h.mat.above k hp; omega)]
  exact h.o.block k hk hn
theorem LW.only0 {w0 w w' : World} {P : Nat → Prop} {m : Nat} {s : St} (h : LW w0 w P m s) (o : Only0 w w') : LW w0 w' P m s := ⟨h.mat.only0 o, h.o.trans o⟩
theorem LW.alloc {w0 w : World} {P : Nat → Prop} {m : Nat} {s : St} (h : LW w0 w P m s) (o : Obj) : LW w0 (w.alloc o) P m s := h.only0 ((Only0.refl _).alloc _)
/-- A box of the law's own, beside the Model. -/
def Bx (w : World) (P : Nat → Prop) (b : Nat) (t : TypeId) (cs : Array Value) : Prop := Blk w b t cs ∧ ¬ P b
theorem Bx.step {w w' : World} {P P' : Nat → Prop} {b : Nat} {t : TypeId} {cs : Array Value} (h : Bx w P b t cs) (o : Only P w w') (g : Grew w.heap.size P P') : Bx w' P' b t cs :=
  ⟨o.blk h.1 h.2, fun hp => by
    rcases g b hp with h1 | h1
    · exact h.2 h1
    · have := h.1.lt; omega⟩
theorem Bx.alloc {w : World} {P : Nat → Prop} {b : Nat} {t : TypeId} {cs : Array Value} (h : Bx w P b t cs) (o : Obj) : Bx (w.alloc o) P b t cs := ⟨h.1.alloc o, h.2⟩
theorem LW.box {w0 w : World} {P : Nat → Prop} {m : Nat} {s : St} (h : LW w0 w P m s) (t : TypeId) (cs : Array Value) : Bx (w.alloc (.cells cs t)) P w.heap.size t cs := ⟨Blk.new _ _ _, fun hp => by have := h.mat.under _ hp; omega⟩
/-- Begin, Do, in a law. -/
theorem lw_begin {w0 w : World} {P : Nat → Prop} {m : Nat} {s : St} (h : LW w0 w P m s) (j level : Int) {id er : Int} {s' : St} (hs : s.begin j level = (id, er, s')) :
    Calls Try.prog 17 #[.pointer (some ⟨m, 0, none⟩), .int .i64 j, .int .i64 level] w fun e w' => ∃ P' : Nat → Prop, e = .returned (.tuple #[.int .i64 id, .int .i64 er]) ∧ LW w0 w' P' m s' ∧ Only P w w' ∧ Grew w.heap.size P P' := by
  refine (md_begin h.mat j level).mono ?_
  rintro e w' ⟨P', he, h', o, g⟩
  rw [hs] at he h'
  exact ⟨P', he, h.step h' o, o, g⟩
theorem lw_do {w0 w : World} {P : Nat → Prop} {m : Nat} {s : St} (h : LW w0 w P m s) (j kind key hi value : Int) {re rv ro rr er : Int} {s' : St} (hs : s.do_ j ⟨kind, key, hi, value⟩ = (⟨re, rv, [], ro, rr⟩, er, s')) :
    Calls Try.prog 20 #[.pointer (some ⟨m, 0, none⟩), .int .i64 j, .agg #[.int .i64 kind, .int .i64 key, .int .i64 hi, .int .i64 value]] w fun e w' => ∃ (P' : Nat → Prop) (a : Option Addr) (c : Nat), e = .returned (.tuple #[.agg #[.int .i64 re, .int .i64 rv, .slice a 0 c, .int .i64 ro, .int .i64 rr], .int .i64 er]) ∧ LW w0 w' P' m s' ∧ Only P w w' ∧ Grew w.heap.size P P' := by
  refine (md_do h.mat j kind key hi value).mono ?_
  rintro e w' ⟨P', a, c, he, h', o, g, _, _⟩
  rw [hs] at he h'
  exact ⟨P', a, c, he, h.step h' o, o, g⟩
theorem PairsIn.lit (w : World) (ps : List (Int × Int)) : PairsIn (w.alloc (.cells (pairCells ps).toArray 73)) (some ⟨w.heap.size, 0, none⟩) ps := by
  by_cases h : ps = []
  · exact .inl h
  · refine .inr ⟨w.heap.size, 0, rfl, fun i hi => ?_⟩
    have G := pairCells_get ps i hi
    rw [Nat.zero_add, Nat.zero_add, (Blk.new w 73 _).cell, (Blk.new w 73 _).cell]
    simpa using G
def aw1 : St := ((newSt 4 100).begin 0 3).2.2
theorem aw1_eq : (newSt 4 100).begin 0 3 = (1, 0, aw1) := rfl
def aw2 : St := (aw1.do_ 0 ⟨2, 5, 0, 7⟩).2.2
theorem aw2_eq : aw1.do_ 0 ⟨2, 5, 0, 7⟩ = (⟨0, 0, [], 0, 0⟩, 0, aw2) := by rfl
def aw3 : St := (aw2.do_ 0 ⟨6, 0, 0, 0⟩).2.2
theorem aw3_eq : aw2.do_ 0 ⟨6, 0, 0, 0⟩ = (⟨0, 0, [], 3, 0⟩, 0, aw3) := by rfl
theorem aw3_pairs : aw3.pairs 9 = [(5, 7)] := by rfl
theorem aw3_now : aw3.now = 2 := by rfl
set_option maxRecDepth 100000 in
set_option maxHeartbeats 8000000 in
theorem awake19_any (w : World) : Calls Try.prog 8 #[] w fun e w' => e = .returned (.bool true) ∧ Only0 w w' := by
  have hp9 := aw3_pairs
  have hn9 := aw3_now
  go_enter Try.func8, Try.ntmps8
  go_wp2_with fail
  refine (md_new 4 100 _ (by decide)).mono ?_
  rintro e w1 ⟨m, rfl, h1, o1, -⟩
  have L1 := LW.made (Only0.refl w) h1 o1
  clear h1 o1
  go_wp2_with fail
  refine (lw_begin L1 0 3 aw1_eq).mono ?_
  rintro e w2 ⟨P2, rfl, L2, -, -⟩
  clear L1
  go_wp2_with fail
  refine (lw_do L2 0 2 5 0 7 aw2_eq).mono ?_
  rintro e w3 ⟨P3, a3, c3, rfl, L3, -, -⟩
  clear L2
  have X5 := L3.box 65 #[.int .i64 0, .int .i64 0, .slice a3 0 c3, .int .i64 0, .int .i64 0]
  have L3' := L3.alloc (.cells #[.int .i64 0, .int .i64 0, .slice a3 0 c3, .int .i64 0, .int .i64 0] 65)
  obtain ⟨b5, hb5⟩ : ∃ b, b = w3.heap.size := ⟨_, rfl⟩
  rw [← hb5] at X5
  go_wp2_with fail
  refine (lw_do L3' 0 6 0 0 0 aw3_eq).mono ?_
  rintro e w4 ⟨P4, a4, c4, rfl, L4, o4, g4⟩
  have X5' := (X5.step o4 g4).alloc (.cells #[.int .i64 0, .int .i64 0, .slice a4 0 c4, .int .i64 3, .int .i64 0] 65)
  have r0 : (w4.alloc (.cells #[.int .i64 0, .int .i64 0, .slice a4 0 c4, .int .i64 3, .int .i64 0] 65)).cell? ⟨b5, 0, none⟩ = some (.int .i64 0) := X5'.1.cell 0
  have L4' := L4.alloc (.cells #[.int .i64 0, .int .i64 0, .slice a4 0 c4, .int .i64 3, .int .i64 0] 65)
  rw [← hb5]
  have HP9 := Lib.hid hp9
  have HN9 := Lib.hid hn9
  clear L3 L3' X5 X5' o4 g4 hb5 L4 hp9 hn9
  go_wp2_with fail
  refine (md_pairs L4'.mat 9).mono ?_
  rintro e w5 ⟨⟨a5, c5, rfl, hp5, -⟩, o5⟩
  rw [HP9.out] at hp5 ⊢
  have L5 := L4'.only0 o5
  clear L4' r0 o5
  go_wp2_with fail
  refine (samePairs_any a5 (some ⟨w5.heap.size, 0, none⟩) c5 1 [(5, 7)] [(5, 7)] _ (hp5.only (S := fun _ => False) ((Only0.refl w5).alloc _) (fun _ _ h => h)) (PairsIn.lit w5 _) (by decide) (by decide)).mono ?_
  rintro e w6 ⟨rfl, n6, rfl⟩
  have L6 := (L5.alloc (.cells #[.int .i64 5, .int .i64 7] 73)).only0 ((Only0.refl _).drewN n6)
  clear L5 hp5
  go_wp2_with fail
  refine (md_now L6.mat).mono ?_
  rintro e w7 ⟨rfl, rfl⟩
  rw [HN9.out]
  have HO := Lib.hid L6.o
  go_wp2_with fail
  go_ret
  exact ⟨rfl, HO.out⟩
end Go.Proofs.Ytdjehgnkpbkdbaa
namespace Go.Proofs.Ytdjehgnkpbkdbaa
theorem mask_nat (x : Int) (i : Nat) (hi : i ≤ 63) : ((BitVec.ofInt 64 x &&& BitVec.ofInt 64 (2 ^ i - 1)).toNat : Int) = x % 2 ^ i := by
  have hpos : 0 < 2 ^ i := Nat.two_pow_pos i
  have hlt : 2 ^ i - 1 < 2 ^ 64 := Nat.lt_of_lt_of_le (Nat.sub_lt hpos (by decide)) (Nat.pow_le_pow_right (by decide) (by omega))
  have hc : ((2 : Int) ^ i - 1) = ((2 ^ i - 1 : Nat) : Int) := by rw [Int.natCast_sub hpos]; simp
  rw [hc, BitVec.toNat_and, BitVec.ofInt_natCast, BitVec.toNat_ofNat, Nat.mod_eq_of_lt hlt, Nat.and_two_pow_sub_one_eq_mod, BitVec.toNat_ofInt]
  have hm : (2 : Int) ^ i ∣ 2 ^ 64 := by
    refine ⟨2 ^ (64 - i), ?_⟩
    rw [← Int.pow_add]; congr 1; omega
  rw [Int.natCast_emod, Int.toNat_of_nonneg (Int.emod_nonneg _ (by decide))]
  simp only [Int.natCast_pow]
  exact Int.emod_emod_of_dvd x hm
theorem and_mask_i64 (x : Int) (i : Nat) (hi : i ≤ 62) : bits .and .i64 x (2 ^ i - 1) = x % 2 ^ i := by
  have h := mask_nat x i (by omega)
  have h0 : 0 ≤ x % (2 : Int) ^ i := Int.emod_nonneg _ (Int.pow_ne_zero (by decide))
  have h1 : x % (2 : Int) ^ i < 2 ^ i := Int.emod_lt_of_pos _ (Int.pow_pos (by decide))
  have h2 : (2 : Int) ^ i ≤ 2 ^ 62 := by exact_mod_cast Nat.pow_le_pow_right (by decide) hi
  show IntKind.i64.wrap ((BitVec.ofInt 64 x &&& BitVec.ofInt 64 (2 ^ i - 1)).toNat : Int) = _
  rw [h, IntKind.wrap_i64]
  generalize x % (2 : Int) ^ i = y at *
  omega
theorem i64_and255 (x : Int) : bits .and .i64 x 255 = x % 256 := and_mask_i64 x 8 (by decide)
end Go.Proofs.Ytdjehgnkpbkdbaa
namespace Go.Proofs.Ytdjehgnkpbkdbaa
open Go.RowKit
set_option linter.unusedVariables false
set_option linter.unusedSimpArgs false
def statV : Option Tx → Array Value
  | none => #[.bool false, .bool false, .bool false, .int .i64 0, .int .i64 0, .int .i64 0, .int .u64 0, .int .u64 0, .int .i64 0]
  | some t => #[.bool true, .bool false, .bool false, .int .i64 t.id, .int .i64 t.level, .int .i64 1, .int .u64 t.beg, .int .u64 0, .int .i64 t.ops]
theorem info_stat : (Try.prog.info? 62).map (·.size) = some 9 := by kernel_rfl
theorem set9 {w : World} {n : Nat} {t : TypeId} {a b c d e f g h i : Value} (B : Blk w n t #[a, b, c, d, e, f, g, h, i]) (a' b' c' d' e' f' g' h' i' : Value) :
    Blk (((((((((w.setCell ⟨n, 0, none⟩ a').setCell ⟨n, 1, none⟩ b').setCell ⟨n, 2, none⟩ c').setCell ⟨n, 3, none⟩ d').setCell ⟨n, 4, none⟩ e').setCell ⟨n, 5, none⟩ f').setCell ⟨n, 6, none⟩ g').setCell ⟨n, 7, none⟩ h').setCell ⟨n, 8, none⟩ i') n t #[a', b', c', d', e', f', g', h', i'] ∧ Only (fun c => c = n) w (((((((((w.setCell ⟨n, 0, none⟩ a').setCell ⟨n, 1, none⟩ b').setCell ⟨n, 2, none⟩ c').setCell ⟨n, 3, none⟩ d').setCell ⟨n, 4, none⟩ e').setCell ⟨n, 5, none⟩ f').setCell ⟨n, 6, none⟩ g').setCell ⟨n, 7, none⟩ h').setCell ⟨n, 8, none⟩ i') := by
  have B0 : Blk _ n t #[a', b, c, d, e, f, g, h, i] := B.set 0 a'
  have B1 : Blk _ n t #[a', b', c, d, e, f, g, h, i] := B0.set 1 b'
  have B2 : Blk _ n t #[a', b', c', d, e, f, g, h, i] := B1.set 2 c'
  have B3 : Blk _ n t #[a', b', c', d', e, f, g, h, i] := B2.set 3 d'
  have B4 : Blk _ n t #[a', b', c', d', e', f, g, h, i] := B3.set 4 e'
  have B5 : Blk _ n t #[a', b', c', d', e', f', g, h, i] := B4.set 5 f'
  have B6 : Blk _ n t #[a', b', c', d', e', f', g', h, i] := B5.set 6 g'
  have B7 : Blk _ n t #[a', b', c', d', e', f', g', h', i] := B6.set 7 h'
  have B8 : Blk _ n t #[a', b', c', d', e', f', g', h', i'] := B7.set 8 i'
  exact ⟨B8, ((((((((Only.set1 w n 0 a').trans (Only.set1 _ n 1 b')).trans (Only.set1 _ n 2 c')).trans (Only.set1 _ n 3 d')).trans (Only.set1 _ n 4 e')).trans (Only.set1 _ n 5 f')).trans (Only.set1 _ n 6 g')).trans (Only.set1 _ n 7 h')).trans (Only.set1 _ n 8 i')⟩
theorem Only0.box {w W w9 : World} {n0 : Nat} (oW : Only0 w W) (hn : w.heap.size ≤ n0) (o9 : Only (fun c => c = n0) W w9) : Only0 w w9 :=
  ⟨o9.os.trans oW.os, o9.tape.trans oW.tape, o9.output.trans oW.output, Nat.le_trans oW.size o9.size, fun k hk hk' => by
    rw [o9.block k (Nat.lt_of_lt_of_le hk oW.size) (fun e => by omega)]
    exact oW.block k hk hk'⟩
set_option maxRecDepth 100000 in
set_option maxHeartbeats 8000000 in
theorem md_status {B m : Nat} {w : World} {P : Nat → Prop} {s : St} (h : MAt B w P m s) (j : Nat) (hj : j < 8) :
    Calls Try.prog 19 #[.pointer (some ⟨m, 0, none⟩), .int .i64 j] w fun e w' => e = .returned (.agg (statV (s.tx j))) ∧ Only0 w w' := by
  obtain ⟨A, h⟩ := h
  obtain ⟨W, hW⟩ : ∃ W, W = w.alloc (.cells #[.bool false, .bool false, .bool false, .int .i64 0, .int .i64 0, .int .i64 0, .int .u64 0, .int .u64 0, .int .i64 0] 62) := ⟨_, rfl⟩
  have oW : Only0 w W := by rw [hW]; exact (Only0.refl w).alloc _
  have M0 := h.only0 oW
  have BX : Blk W w.heap.size 62 #[.bool false, .bool false, .bool false, .int .i64 0, .int .i64 0, .int .i64 0, .int .u64 0, .int .u64 0, .int .i64 0] := by rw [hW]; exact Blk.new _ _ _
  obtain ⟨n0, hn0⟩ : ∃ n0, n0 = w.heap.size := ⟨_, rfl⟩
  have HN := Lib.hid hn0
  have HO := Lib.hid oW
  rw [← hn0] at BX
  have CS := md_sess (j : Int) W
  rw [show sessB (j : Int) = true by simp [sessB]; omega] at CS
  have j8 : (j : Int) < 8 := by omega
  have j0 : (0 : Int) ≤ (j : Int) := by omega
  have cj := M0.sess j hj
  have b0 : W.cell? ⟨n0, 0, none⟩ = some (.bool false) := BX.cell 0
  have b1 : W.cell? ⟨n0, 1, none⟩ = some (.bool false) := BX.cell 1
  have b2 : W.cell? ⟨n0, 2, none⟩ = some (.bool false) := BX.cell 2
  have b3 : W.cell? ⟨n0, 3, none⟩ = some (.int .i64 0) := BX.cell 3
  have b4 : W.cell? ⟨n0, 4, none⟩ = some (.int .i64 0) := BX.cell 4
  have b5 : W.cell? ⟨n0, 5, none⟩ = some (.int .i64 0) := BX.cell 5
  have b6 : W.cell? ⟨n0, 6, none⟩ = some (.int .u64 0) := BX.cell 6
  have b7 : W.cell? ⟨n0, 7, none⟩ = some (.int .u64 0) := BX.cell 7
  have b8 : W.cell? ⟨n0, 8, none⟩ = some (.int .i64 0) := BX.cell 8
  have bf := fun i => BX.free i
  have HBX := Lib.hid BX
  clear BX hn0
  cases hu : s.tx j with
  | none =>
    rw [show txPtr A s.tx j = .pointer none by simp [txPtr, hu]] at cj
    clear hu h M0 oW
    go_enter Try.func19, Try.ntmps19
    go_upto_region 1 with (fail)
    rw [← hW, ← HN.out]
    clear hW
    go_wp2_with fail
    refine CS.mono ?_
    rintro e w1 ⟨rfl, rfl⟩
    go_wp2_with fail
    obtain ⟨B9, o9⟩ := set9 HBX.out (.bool false) (.bool false) (.bool false) (.int .i64 0) (.int .i64 0) (.int .i64 0) (.int .u64 0) (.int .u64 0) (.int .i64 0)
    exact bodyPost_ret (v := .agg (statV none)) (results_cell_row Try.results19 _ _ n0 _ _ _ _ rfl B9 Try.underlying62 rfl info_stat) rfl ⟨rfl, HO.out.box (by rw [HN.out]; exact Nat.le_refl _) o9⟩
  | some t =>
    have X0 := (M0.txs.one j t hu).2.blk
    have t0 : W.cell? ⟨A.tb j, 0, none⟩ = some (.int .i64 t.id) := X0.cell 0
    have t1 : W.cell? ⟨A.tb j, 1, none⟩ = some (.int .i64 t.level) := X0.cell 1
    have t2 : W.cell? ⟨A.tb j, 2, none⟩ = some (.int .u64 t.beg) := X0.cell 2
    have t3 : W.cell? ⟨A.tb j, 3, none⟩ = some (.int .i64 t.ops) := X0.cell 3
    rw [show txPtr A s.tx j = .pointer (some ⟨A.tb j, 0, none⟩) by simp [txPtr, hu]] at cj
    clear hu h M0 oW X0
    go_enter Try.func19, Try.ntmps19
    go_upto_region 1 with (fail)
    rw [← hW, ← HN.out]
    clear hW
    go_wp2_with fail
    refine CS.mono ?_
    rintro e w1 ⟨rfl, rfl⟩
    go_wp2_with fail
    go_region
    go_wp2_with fail
    obtain ⟨B9, o9⟩ := set9 HBX.out (.bool true) (.bool false) (.bool false) (.int .i64 t.id) (.int .i64 t.level) (.int .i64 1) (.int .u64 t.beg) (.int .u64 0) (.int .i64 t.ops)
    exact bodyPost_ret (v := .agg (statV (some t))) (results_cell_row Try.results19 _ _ n0 _ _ _ _ rfl B9.drew Try.underlying62 rfl info_stat) rfl ⟨rfl, (HO.out.box (by rw [HN.out]; exact Nat.le_refl _) o9).drew⟩
end Go.Proofs.Ytdjehgnkpbkdbaa
namespace Go.Proofs.Ytdjehgnkpbkdbaa
open Go.RowKit
set_option linter.unusedVariables false
set_option linter.unusedSimpArgs false
set_option maxRecDepth 100000 in
set_option maxHeartbeats 8000000 in
theorem md_goneV (w : World) (b bx : Nat) (v : Ver) (low : Int) (h : Blk w b 79 (verCells v)) (hx : w.cell? ⟨bx, 0, none⟩ = some (.int .u64 low)) :
    Calls Try.prog 31 #[.pointer (some ⟨b, 0, none⟩), .pointer (some ⟨bx, 0, none⟩)] w fun e w' => e = .returned (.bool (goneB v low)) ∧ ∃ n, w' = w.drewN n := by
  have v4 : w.cell? ⟨b, 4, none⟩ = some (.int .u64 v.fin) := h.cell 4
  have v5 : w.cell? ⟨b, 5, none⟩ = some (.bool v.dead) := h.cell 5
  cases hd : v.dead with
  | true =>
    rw [hd] at v5
    have HR := Lib.hid (show goneB v low = true by simp [goneB, hd])
    clear h hd
    go_enter Try.func31, Try.ntmps31
    go_wp2_with fail
    go_quiet (fail)
    go_wp2_with fail
    go_ret
    exact ⟨by rw [HR.out]; try rfl, _, rfl⟩
  | false =>
    rw [hd] at v5
    by_cases h1 : 0 < v.fin
    · by_cases h2 : v.fin ≤ low
      · have HR := Lib.hid (show goneB v low = true by simp [goneB, hd, h1, h2])
        clear h hd
        generalize v.fin = f at *
        go_enter Try.func31, Try.ntmps31
        go_wp2_with fail
        go_quiet (fail)
        go_wp2_with fail
        go_ret
        exact ⟨by rw [HR.out]; try rfl, _, rfl⟩
      · have HR := Lib.hid (show goneB v low = false by simp [goneB, hd, h1, h2])
        clear h hd
        generalize v.fin = f at *
        have d2 : decide (f ≤ low) = false := decide_eq_false h2
        clear h2
        go_enter Try.func31, Try.ntmps31
        go_wp2_with fail
        go_quiet (fail)
        go_wp2_with fail
        go_ret
        exact ⟨by rw [HR.out]; try rfl, _, rfl⟩
    · have HR := Lib.hid (show goneB v low = false by simp [goneB, hd, h1])
      clear h hd
      generalize v.fin = f at *
      have d1 : decide (0 < f) = false := decide_eq_false h1
      clear h1
      go_enter Try.func31, Try.ntmps31
      go_wp2_with fail
      go_quiet (fail)
      go_wp2_with fail
      go_ret
      exact ⟨by rw [HR.out]; try rfl, _, rfl⟩
/-- What the predicate is asked: its answer on the numbers of a list, in whatever world that differs in block g alone. -/
def Asks (w : World) (g bx : Nat) (va : Nat → Nat) (l : List Nat) (p : Nat → Bool) : Prop :=
  ∀ w1, Only (fun b => b = g) w w1 → ∀ i, i ∈ l → Calls Try.prog 31 #[.pointer (some ⟨va i, 0, none⟩), .pointer (some ⟨bx, 0, none⟩)] w1 fun e w' => e = .returned (.bool (p i)) ∧ ∃ n, w' = w1.drewN n
/-- The first place where p holds, or none. -/
def HitAt (p : Nat → Bool) (l : List Nat) (r : Int) : Prop := (r = -1 ∧ ∀ k, k < l.length → p (l.getD k 0) = false) ∨ ∃ k, k < l.length ∧ r = (k : Int) ∧ p (l.getD k 0) = true ∧ ∀ j, j < k → p (l.getD j 0) = false
set_option maxRecDepth 100000 in
set_option maxHeartbeats 8000000 in
theorem idx_vers (w : World) (g c bx : Nat) (va : Nat → Nat) (l : List Nat) (p : Nat → Bool) (hlen : l.length ≤ 256) (hrow : ∀ k, k < l.length → w.cell? ⟨g, k, none⟩ = some (.pointer (some ⟨va (l.getD k 0), 0, none⟩))) (ha : Asks w g bx va l p) :
    Calls Try.prog 44 #[.slice (some ⟨g, 0, none⟩) l.length c, .func (.func 31) #[] #[.pointer (some ⟨bx, 0, none⟩)]] w fun e w' => ∃ r : Int, e = .returned (.int .i64 r) ∧ HitAt p l r ∧ ∃ n, w' = w.drewN n := by
  have HA := Lib.hid ha
  have HR := Lib.hid hrow
  clear ha hrow
  go_enter Try.func44, Try.ntmps44
  go_wp2_with fail
  go_loopw [8] (fun i wr => ∃ (q n : Nat), i = .int .i64 q ∧ q ≤ l.length ∧ wr = w.drewN n ∧ Hid (∀ j, j < q → p (l.getD j 0) = false)) (fun i _ => l.length - (intOf i).toNat)
  case atStart => exact ⟨0, 0, rfl, by omega, rfl, Lib.hid (fun j hj => by omega)⟩
  case round =>
    obtain ⟨q, n, rfl, hq, rfl, HN⟩ := hrel
    by_cases hlt : q < l.length
    · have cq : (w.drewN n).cell? ⟨g, q, none⟩ = some (.pointer (some ⟨va (l.getD q 0), 0, none⟩)) := HR.out q hlt
      have hmem : l.getD q 0 ∈ l := by rw [List.getD_eq_getElem?_getD, List.getElem?_eq_getElem hlt]; exact List.getElem_mem hlt
      have C := HA.out (w.drewN n) ((Only.refl _ w).drewN n) _ hmem
      have HQ := Lib.hid (fun (h : p (l.getD q 0) = false) j (hj : j < q + 1) => if e : j = q then e ▸ h else HN.out j (by omega))
      cases hp : p (l.getD q 0) with
      | true =>
        rw [hp] at C
        have R := Lib.hid (show HitAt p l (q : Int) from .inr ⟨q, hlt, rfl, hp, HN.out⟩)
        clear hp HQ hmem
        generalize va (l.getD q 0) = vq at *
        go_wp2_with fail
        refine C.mono ?_
        rintro e w1 ⟨rfl, n1, rfl⟩
        go_wp2_with fail
        exact bodyPost_ret (results_tmp rfl _ _ _) rfl ⟨_, rfl, R.out, n + n1, rfl⟩
      | false =>
        rw [hp] at C
        have R := Lib.hid (HQ.out hp)
        clear hp HQ hmem
        generalize va (l.getD q 0) = vq at *
        go_wp2_with fail
        refine C.mono ?_
        rintro e w1 ⟨rfl, n1, rfl⟩
        go_wp2_with fail
        go_roundw
        case rel => exact ⟨q + 1, n + n1, by go_num, by omega, rfl, R⟩
        case measure => simp [intOf]; omega
    · obtain rfl : q = l.length := by omega
      have R := Lib.hid (show HitAt p l (-1) from .inl ⟨rfl, HN.out⟩)
      clear HN
      go_wp2_with fail
      go_ret
      exact ⟨_, rfl, R.out, n, rfl⟩
end Go.Proofs.Ytdjehgnkpbkdbaa
namespace Go.Proofs.Ytdjehgnkpbkdbaa
open Go.RowKit
set_option linter.unusedVariables false
set_option linter.unusedSimpArgs false
def keptTo (p : Nat → Bool) (l : List Nat) (j : Nat) : List Nat := (l.take j).filter fun i => !p i
theorem keptTo_drop {p : Nat → Bool} {l : List Nat} {j : Nat} (hj : j < l.length) (h : p (l.getD j 0) = true) : keptTo p l (j + 1) = keptTo p l j := by
  have e : l[j] = l.getD j 0 := by simp [hj]
  unfold keptTo
  rw [List.take_succ_eq_append_getElem hj, List.filter_append, e]
  simp only [List.filter_cons, h, List.filter_nil]
  simp
theorem keptTo_keep {p : Nat → Bool} {l : List Nat} {j : Nat} (hj : j < l.length) (h : p (l.getD j 0) = false) : keptTo p l (j + 1) = keptTo p l j ++ [l.getD j 0] := by
  have e : l[j] = l.getD j 0 := by simp [hj]
  unfold keptTo
  rw [List.take_succ_eq_append_getElem hj, List.filter_append, e]
  simp only [List.filter_cons, h, List.filter_nil]
  simp
theorem keptTo_none {p : Nat → Bool} {l : List Nat} : ∀ {j : Nat}, j ≤ l.length → (∀ k, k < j → p (l.getD k 0) = false) → keptTo p l j = l.take j
  | 0, _, _ => by simp [keptTo]
  | j + 1, hj, h => by
    rw [keptTo_keep (by omega) (h j (by omega)), keptTo_none (by omega) (fun k hk => h k (by omega)), List.take_succ_eq_append_getElem (by omega)]
    congr 2
    simp [show j < l.length by omega]
theorem keptTo_all (p : Nat → Bool) (l : List Nat) : keptTo p l l.length = l.filter fun i => !p i := by simp [keptTo]
/-- The row while DeleteFunc turns it: i kept, j looked at. -/
structure DelI (w wr : World) (g N : Nat) (va : Nat → Nat) (p : Nat → Bool) (l : List Nat) (i j : Nat) : Prop where
  len : (keptTo p l j).length = i
  lt : i < j
  o : Only (fun b => b = g) w wr
  row : ∃ cs, Blk wr g 76 cs ∧ cs.size = N ∧ (∀ k, k < i → cs[k]? = some (.pointer (some ⟨va ((keptTo p l j).getD k 0), 0, none⟩))) ∧ ∀ k, j ≤ k → k < l.length → cs[k]? = some (.pointer (some ⟨va (l.getD k 0), 0, none⟩))
theorem DelI.start {w : World} {g N n : Nat} {va : Nat → Nat} {p : Nat → Bool} {l : List Nat} {cs : Array Value} (hb : Blk w g 76 cs) (hN : cs.size = N) (hrow : ∀ k, k < l.length → cs[k]? = some (.pointer (some ⟨va (l.getD k 0), 0, none⟩))) {k : Nat} (hk : k < l.length) (hp : p (l.getD k 0) = true) (hn : ∀ j, j < k → p (l.getD j 0) = false) :
    DelI w (w.drewN n) g N va p l k (k + 1) := by
  have e : keptTo p l (k + 1) = l.take k := by rw [keptTo_drop hk hp, keptTo_none (by omega) hn]
  refine ⟨by rw [e]; simp; omega, by omega, (Only.refl _ w).drewN n, cs, hb, hN, fun q hq => ?_, fun q _ hq => hrow q hq⟩
  rw [hrow q (by omega), e]
  simp [List.getD_eq_getElem?_getD, List.getElem?_take, hq]
theorem DelI.drewN {w wr : World} {g N : Nat} {va : Nat → Nat} {p : Nat → Bool} {l : List Nat} {i j : Nat} (h : DelI w wr g N va p l i j) (n : Nat) : DelI w (wr.drewN n) g N va p l i j := ⟨h.len, h.lt, h.o.drewN n, h.row⟩
theorem DelI.skip {w wr : World} {g N : Nat} {va : Nat → Nat} {p : Nat → Bool} {l : List Nat} {i j : Nat} (h : DelI w wr g N va p l i j) (hj : j < l.length) (hp : p (l.getD j 0) = true) : DelI w wr g N va p l i (j + 1) := by
  obtain ⟨cs, h1, h2, h3, h4⟩ := h.row
  exact ⟨by rw [keptTo_drop hj hp]; exact h.len, by have := h.lt; omega, h.o, cs, h1, h2, by rw [keptTo_drop hj hp]; exact h3, fun k hk hk2 => h4 k (by omega) hk2⟩
theorem DelI.keep {w wr : World} {g N : Nat} {va : Nat → Nat} {p : Nat → Bool} {l : List Nat} {i j : Nat} (h : DelI w wr g N va p l i j) (hj : j < l.length) (hN : l.length ≤ N) (hp : p (l.getD j 0) = false) :
    DelI w (wr.setCell ⟨g, i, none⟩ (.pointer (some ⟨va (l.getD j 0), 0, none⟩))) g N va p l (i + 1) (j + 1) := by
  obtain ⟨cs, h1, h2, h3, h4⟩ := h.row
  have hlt := h.lt
  have hlen := h.len
  refine ⟨by rw [keptTo_keep hj hp]; simp [hlen], by omega, h.o.trans (Only.set1 wr g i _), _, h1.set i _, by simpa using h2, fun k hk => ?_, fun k hk hk2 => ?_⟩
  · rw [keptTo_keep hj hp]
    by_cases e : k = i
    · subst e
      rw [Array.getElem?_setIfInBounds_self_of_lt (by omega)]
      simp [List.getD_eq_getElem?_getD, ← hlen]
    · rw [Array.getElem?_setIfInBounds_ne (fun e' => e e'.symm), h3 k (by omega)]
      simp [List.getD_eq_getElem?_getD, List.getElem?_append_left (show k < (keptTo p l j).length by omega)]
  · rw [Array.getElem?_setIfInBounds_ne (by omega)]
    exact h4 k (by omega) hk2
theorem DelI.cellJ {w wr : World} {g N : Nat} {va : Nat → Nat} {p : Nat → Bool} {l : List Nat} {i j : Nat} (h : DelI w wr g N va p l i j) (hj : j < l.length) (hN : l.length ≤ N) :
    wr.cell? ⟨g, j, none⟩ = some (.pointer (some ⟨va (l.getD j 0), 0, none⟩)) ∧ (∃ v, wr.cell? ⟨g, i, none⟩ = some v) ∧ ∀ k, wr.frozen? ⟨g, k, none⟩ = false := by
  obtain ⟨cs, h1, h2, h3, h4⟩ := h.row
  have := h.lt
  refine ⟨by rw [h1.cell]; exact h4 j (by omega) hj, ⟨cs[i]'(by omega), ?_⟩, fun k => h1.free k⟩
  rw [h1.cell]
  simp
theorem Blk.setCells {b : Nat} {t : TypeId} : ∀ (vs : List Value) (o : Nat) {w : World} {cs : Array Value}, Blk w b t cs → ∃ cs' : Array Value, Blk (w.setCells b o vs) b t cs' ∧ cs'.size = cs.size ∧ (∀ k, k < o → cs'[k]? = cs[k]?) ∧ Only (fun c => c = b) w (w.setCells b o vs)
  | [], o, w, cs, h => ⟨cs, h, rfl, fun _ _ => rfl, Only.refl _ w⟩
  | v :: r, o, w, cs, h => by
    obtain ⟨cs', h1, h2, h3, h4⟩ := Blk.setCells r (o + 1) (h.set o v)
    refine ⟨cs', h1, by simpa using h2, fun k hk => ?_, (Only.set1 w b o v).trans h4⟩
    rw [h3 k (by omega), Array.getElem?_setIfInBounds_ne (by omega)]
/-- What DeleteFunc leaves of the row. -/
def DelOut (w w' : World) (g N : Nat) (va : Nat → Nat) (l : List Nat) : Prop :=
  ∃ cs, Blk w' g 76 cs ∧ cs.size = N ∧ (∀ k, k < l.length → cs[k]? = some (.pointer (some ⟨va (l.getD k 0), 0, none⟩))) ∧ Only (fun b => b = g) w w'
theorem DelI.fin {w wr : World} {g N : Nat} {va : Nat → Nat} {p : Nat → Bool} {l : List Nat} {i : Nat} (h : DelI w wr g N va p l i l.length) (vs : List Value) :
    DelOut w (wr.setCells g i vs) g N va (l.filter fun i => !p i) ∧ (l.filter fun i => !p i).length = i := by
  obtain ⟨cs, h1, h2, h3, h4⟩ := h.row
  obtain ⟨cs', k1, k2, k3, k4⟩ := Blk.setCells vs i h1
  have hl := h.len
  rw [keptTo_all] at hl h3
  refine ⟨⟨cs', k1, by omega, fun k hk => ?_, h.o.trans k4⟩, hl⟩
  rw [k3 k (by omega)]
  exact h3 k (by omega)
theorem zero_ptr (w : World) : (zeroValue 76).run Try.prog w = .ok (.pointer none) w := by kernel_rfl
theorem filter_none {p : Nat → Bool} {l : List Nat} (h : ∀ k, k < l.length → p (l.getD k 0) = false) : (l.filter fun i => !p i) = l := by
  rw [← keptTo_all, keptTo_none (Nat.le_refl _) h, List.take_length]
set_option maxRecDepth 100000 in
set_option maxHeartbeats 8000000 in
theorem del_vers (w : World) (g c N bx : Nat) (va : Nat → Nat) (l : List Nat) (p : Nat → Bool) (cs : Array Value) (hlen : l.length ≤ 256) (hlc : l.length ≤ c) (hc : c ≤ 9223372036854775807) (hb : Blk w g 76 cs) (hN : cs.size = N) (hlN : l.length ≤ N) (hrow : ∀ k, k < l.length → cs[k]? = some (.pointer (some ⟨va (l.getD k 0), 0, none⟩))) (ha : Asks w g bx va l p) :
    Calls Try.prog 30 #[.slice (some ⟨g, 0, none⟩) l.length c, .func (.func 31) #[] #[.pointer (some ⟨bx, 0, none⟩)]] w fun e w' => e = .returned (.slice (some ⟨g, 0, none⟩) (l.filter fun i => !p i).length c) ∧ DelOut w w' g N va (l.filter fun i => !p i) := by
  have CI := idx_vers w g c bx va l p hlen (fun k hk => by rw [hb.cell]; exact hrow k hk) ha
  have HA := Lib.hid ha
  have HB := Lib.hid hb
  have HR := Lib.hid hrow
  clear ha hb hrow
  go_enter Try.func30, Try.ntmps30
  go_wp2_with fail
  refine CI.mono ?_
  rintro e w1 ⟨r, rfl, hh, n1, rfl⟩
  clear CI
  rcases hh with ⟨rfl, hn⟩ | ⟨k0, hk0, rfl, hp, hn⟩
  · have R := Lib.hid (show (l.filter fun i => !p i) = l ∧ DelOut w (w.drewN n1) g N va l from ⟨filter_none hn, cs, HB.out, hN, HR.out, (Only.refl _ w).drewN n1⟩)
    clear hn HA HB HR
    go_wp2_with fail
    go_ret
    rw [R.out.1]
    exact ⟨rfl, R.out.2⟩
  · have hD := Lib.hid (DelI.start (n := n1) HB.out hN HR.out hk0 hp hn)
    have hne : ((k0 : Int) == -1) = false := beq_eq_false_iff_ne.2 (by omega)
    have hk6 : k0 < 256 := by omega
    clear hp hn HB HR
    go_wp2_with fail
    go_loopw [5, 6] (fun s5 s6 wr => ∃ (i j : Nat), s5 = .int .i64 i ∧ s6 = .int .i64 j ∧ j ≤ l.length ∧ i < j ∧ Hid (DelI w wr g N va p l i j)) (fun _ s6 _ => l.length - (intOf s6).toNat)
    case atStart => exact ⟨k0, k0 + 1, rfl, by go_num, by omega, by omega, hD⟩
    case round =>
      obtain ⟨i, j, rfl, rfl, hj, hij, HD⟩ := hrel
      by_cases hlt : j < l.length
      · obtain ⟨cj, ⟨old, ci⟩, cf⟩ := HD.out.cellJ hlt hlN
        have fi := cf i
        have hmem : l.getD j 0 ∈ l := by rw [List.getD_eq_getElem?_getD, List.getElem?_eq_getElem hlt]; exact List.getElem_mem hlt
        have C := HA.out wr HD.out.o _ hmem
        have HS := Lib.hid (fun (h : p (l.getD j 0) = true) n => (HD.out.drewN n).skip hlt h)
        have HK := Lib.hid (fun (h : p (l.getD j 0) = false) n => (HD.out.drewN n).keep hlt hlN h)
        clear hD cf hmem
        cases hp : p (l.getD j 0) with
        | true =>
          rw [hp] at C
          have R := Lib.hid (HS.out hp)
          clear HS HK hp
          generalize va (l.getD j 0) = vq at *
          go_wp2_with fail
          refine C.mono ?_
          rintro e w2 ⟨rfl, n2, rfl⟩
          go_wp2_with fail
          go_roundw
          case rel => exact ⟨i, j + 1, rfl, by go_num, by omega, by omega, Lib.hid (R.out n2)⟩
          case measure => simp [intOf]; omega
        | false =>
          rw [hp] at C
          have R := Lib.hid (HK.out hp)
          clear HS HK hp
          generalize va (l.getD j 0) = vq at *
          go_wp2_with fail
          refine C.mono ?_
          rintro e w2 ⟨rfl, n2, rfl⟩
          go_wp2_with fail
          go_roundw
          case rel => exact ⟨i + 1, j + 1, by go_num, by go_num, by omega, by omega, Lib.hid (R.out n2)⟩
          case measure => simp [intOf]; omega
      · obtain rfl : j = l.length := by omega
        have hcl : ∀ ty, (Builtin.clear_ #[50] ty #[.slice (some ⟨g, 0 + i, none⟩) (l.length - i) (c - i)]).run Try.prog wr = .ok (.tuple #[]) (wr.setCells g (0 + i) (List.replicate (l.length - i) (.pointer none))) := fun ty => by
          obtain ⟨cs1, b1, b2, -, -⟩ := HD.out.row
          refine Lib.run_clear_slice wr _ 76 ty _ Try.underlying50 zero_ptr rfl rfl g (0 + i) _ _ (by omega) (fun q hq => ?_) (fun q hq => b1.free _)
          rw [b1.cell]
          simp
          omega
        have R := Lib.hid (HD.out.fin (List.replicate (l.length - i) (.pointer none)))
        rw [Nat.zero_add] at hcl
        clear hD HD HA
        go_wp2_with fail
        go_ret
        obtain ⟨R1, R2⟩ := R.out
        rw [R2]
        exact ⟨rfl, R1⟩
end Go.Proofs.Ytdjehgnkpbkdbaa
namespace Go.Proofs.Ytdjehgnkpbkdbaa
open Go.RowKit
set_option linter.unusedVariables false
set_option linter.unusedSimpArgs false
theorem Ok.collect {s : St} (h : Ok s) : Ok s.collect :=
  ⟨h.slots, h.limit, h.now, h.made, by have := h.few; have h2 : s.kept.length ≤ s.l.length := List.length_filter_le _ _; show (s.kept.length : Int) ≤ s.slots; omega, fun i hi => h.lin i (List.mem_filter.1 hi).1, h.ops, h.refs⟩
theorem MIn.collected {B m : Nat} {w w' : World} {P : Nat → Prop} {s : St} {A : Ad} (h : MIn B w P m s A) {g : Nat} (hg : A.la = some ⟨g, 0, none⟩) {cs0 : Array Value} (h0 : Blk w g 76 cs0) (hB : B ≤ g) (hc : s.l.length ≤ A.lc) (hm : A.lc ≤ maxLen) (o : Only (fun b => b = g ∨ b = m) w w') (hb : Blk w' m 54 (modCells A s.collect)) {cs : Array Value} (hr : Blk w' g 76 cs) (hs : cs.size = A.lc)
    (hrow : ∀ k, k < s.kept.length → cs[k]? = some (.pointer (some ⟨A.va (s.kept.getD k 0), 0, none⟩))) : MIn B w' P m s.collect A := by
  have hkl : s.kept.length ≤ s.l.length := List.length_filter_le _ _
  refine ⟨hb, ⟨by simp [St.collect], .inr ⟨g, A.lc, cs, by rw [hg], hB, hr, by show s.kept.length ≤ _; omega, hm, by omega, ?_⟩⟩, h.vers.only o (fun i hi e => ?_), h.txs.only o (fun j t ht => ?_), h.ok.collect, h.pm, fun b hb' => h.pr b (by rw [hg] at hb' ⊢; exact hb'), h.under.mono o.size, h.above⟩
  · apply List.ext_getElem?
    intro k
    show (cs.toList.take (s.kept.length * 1))[k]? = (s.kept.map _)[k]?
    rw [Nat.mul_one, List.getElem?_take]
    by_cases hk : k < s.kept.length
    · have := hrow k hk
      simp [hk] at this ⊢
      exact this
    · simp [hk]
  · rcases e with e | e
    · exact h.vers.blkNe h0 (by decide) i hi e
    · exact h.vers.blkNe h.mod (by decide) i hi e
  · have X := h.txs.blkNe h0 (by decide) (by decide) j t ht
    have Y := h.txs.blkNe h.mod (by decide) (by decide) j t ht
    exact ⟨fun e => e.elim X.1 Y.1, fun q hq e => e.elim (X.2.1 q hq) (Y.2.1 q hq), fun k c hk e => e.elim (X.2.2 k c hk) (Y.2.2 k c hk)⟩
set_option maxRecDepth 100000 in
set_option maxHeartbeats 8000000 in
theorem idx_nil (w : World) (f : Value) :
    Calls Try.prog 44 #[.slice none 0 0, f] w fun e w' => e = .returned (.int .i64 (-1)) ∧ w' = w := by
  go_enter Try.func44, Try.ntmps44
  go_wp2_with fail
  go_loopw [8] (fun i wr => i = .int .i64 0 ∧ wr = w) (fun _ _ => 0)
  case atStart => exact ⟨rfl, rfl⟩
  case round =>
    obtain ⟨rfl, rfl⟩ := hrel
    go_wp2_with fail
    go_ret
    exact ⟨rfl, rfl⟩
set_option maxRecDepth 100000 in
set_option maxHeartbeats 8000000 in
theorem del_nil (w : World) (f : Value) :
    Calls Try.prog 30 #[.slice none 0 0, f] w fun e w' => e = .returned (.slice none 0 0) ∧ w' = w := by
  go_enter Try.func30, Try.ntmps30
  go_wp2_with fail
  refine (idx_nil w f).mono ?_
  rintro e w1 ⟨rfl, rfl⟩
  go_wp2_with fail
  go_ret
  exact ⟨rfl, rfl⟩
def lowStep (s : St) (a : Int) (j : Nat) : Int := match s.tx j with | some t => if t.beg < a then t.beg else a | none => a
def lowTo (s : St) (q : Nat) : Int := (List.range q).foldl (lowStep s) 18446744073709551615
theorem lowTo_none {s : St} {q : Nat} (h : s.tx q = none) : lowTo s (q + 1) = lowTo s q := by
  unfold lowTo; rw [List.range_succ, List.foldl_append]; simp [lowStep, h]
theorem lowTo_some {s : St} {q : Nat} {t : Tx} (h : s.tx q = some t) : lowTo s (q + 1) = if t.beg < lowTo s q then t.beg else lowTo s q := by
  unfold lowTo; rw [List.range_succ, List.foldl_append]; simp [lowStep, h]
set_option maxRecDepth 100000 in
set_option maxHeartbeats 8000000 in
theorem md_collect {B m : Nat} {w : World} {P : Nat → Prop} {s : St} (h : MAt B w P m s) :
    Calls Try.prog 18 #[.pointer (some ⟨m, 0, none⟩)] w fun e w' => e = .returned (.int .i64 ((s.l.length : Int) - (s.kept.length : Int))) ∧ MAt B w' P m s.collect ∧ Only P w w' := by
  obtain ⟨A, h⟩ := h
  obtain ⟨p0, p1, p2, p3, p4, p5, p6, p7⟩ := (h.only0 ((Only0.refl w).alloc (.cells #[.int .u64 18446744073709551615] 27))).txCell
  have HH := Lib.hid h
  clear h
  go_enter Try.func18, Try.ntmps18
  go_wp2_with fail
  go_loopw [11] (fun s11 wr => ∃ (q : Nat), s11 = .int .i64 q ∧ q ≤ 8 ∧ Hid (Only0 w wr ∧ Blk wr w.heap.size 27 #[.int .u64 (lowTo s q)])) (fun s11 _ => 8 - (intOf s11).toNat)
  case atStart => exact ⟨0, rfl, by omega, Lib.hid ⟨(Only0.refl _).alloc _, Blk.new _ _ _⟩⟩
  case round =>
    obtain ⟨q, rfl, hq, HR⟩ := hrel
    by_cases hlt : q < 8
    · have hix := tx_index A s.tx wr q hlt
      cases hu : s.tx q with
      | none =>
        rw [show txPtr A s.tx q = .pointer none by simp [txPtr, hu]] at hix
        have R := Lib.hid (show Only0 w wr ∧ Blk wr w.heap.size 27 #[.int .u64 (lowTo s (q + 1))] by rw [lowTo_none hu]; exact HR.out)
        clear hu HR
        go_wp2_with fail
        go_roundw
        case rel => exact ⟨q + 1, by go_num, by omega, R⟩
        case measure => simp [intOf]; omega
      | some t =>
        rw [show txPtr A s.tx q = .pointer (some ⟨A.tb q, 0, none⟩) by simp [txPtr, hu]] at hix
        have M := HH.out.only0 HR.out.1
        have t2 : wr.cell? ⟨A.tb q, 2, none⟩ = some (.int .u64 t.beg) := (M.txs.one q t hu).2.blk.cell 2
        have b0 : wr.cell? ⟨w.heap.size, 0, none⟩ = some (.int .u64 (lowTo s q)) := HR.out.2.cell 0
        have bf : wr.frozen? ⟨w.heap.size, 0, none⟩ = false := HR.out.2.free 0
        have hstep := lowTo_some hu
        have R := Lib.hid (show ∀ x, x = lowTo s (q + 1) → Only0 w (wr.setCell ⟨w.heap.size, 0, none⟩ (.int .u64 x)).drew ∧ Blk (wr.setCell ⟨w.heap.size, 0, none⟩ (.int .u64 x)).drew w.heap.size 27 #[.int .u64 (lowTo s (q + 1))] from fun x hx => by
          subst hx
          have o9 := Only.set1 wr w.heap.size 0 (.int .u64 (lowTo s (q + 1)))
          exact ⟨(Only0.box HR.out.1 (Nat.le_refl _) o9).drew, (HR.out.2.set 0 _).drew⟩)
        have HS := Lib.hid hstep
        clear hu HR M hstep
        generalize lowTo s q = a at *
        generalize t.beg = bg at *
        by_cases hlt2 : bg < a
        · go_wp2_with fail
          go_region
          go_wp2_with fail
          go_roundw
          case rel => exact ⟨q + 1, by go_num, by omega, Lib.hid (R.out _ (by rw [HS.out, if_pos (by omega)]))⟩
          case measure => simp [intOf]; omega
        · go_wp2_with fail
          go_region
          go_wp2_with fail
          go_roundw
          case rel => exact ⟨q + 1, by go_num, by omega, Lib.hid (R.out _ (by rw [HS.out, if_neg (by omega)]))⟩
          case measure => simp [intOf]; omega
    · obtain rfl : q = 8 := by omega
      have M := HH.out.only0 HR.out.1
      have m4 : wr.cell? ⟨m, 4, none⟩ = some (.slice A.la s.l.length A.lc) := M.mod.cell 4
      have mf : wr.frozen? ⟨m, 4, none⟩ = false := M.mod.free 4
      have hlen : s.l.length ≤ 256 := by have := M.ok.few; have := M.ok.slots; omega
      rcases M.row.2 with ⟨hv, hl0⟩ | ⟨g, cap, cur, hv, hB, hg, hn, hm, hcs, htk⟩
      · have e1 : A.la = none := by injection hv
        have e3 : A.lc = 0 := by injection hv
        rw [e1, hl0, e3] at m4
        have hk0 : s.kept = s.l := by
          have : s.l = [] := List.length_eq_zero_iff.1 hl0
          simp [St.kept, this]
        have hcol : s.collect = s := by simp [St.collect, hk0]
        have X : MAt B (wr.setCell ⟨m, 4, none⟩ (.slice none 0 0)) P m s.collect ∧ Only P w (wr.setCell ⟨m, 4, none⟩ (.slice none 0 0)) := by
          rw [hcol]
          have o' := Only.set1 wr m 4 (.slice none 0 0)
          have hb9 : Blk (wr.setCell ⟨m, 4, none⟩ (.slice none 0 0)) m 54 (modCells A s) := by
            have h5 := M.mod.set 4 (.slice none 0 0)
            have e : (modCells A s).setIfInBounds 4 (.slice none 0 0) = modCells A s := by unfold modCells; rw [e1, hl0, e3]; rfl
            rwa [e] at h5
          exact ⟨⟨A, M.setMod (slots := s.slots) (limit := s.limit) (now := s.now) (made := s.made) o' hb9 M.ok⟩, (HR.out.1.any P).trans (o'.toward (fun b hb => hb ▸ M.pm))⟩
        have HX := Lib.hid X
        have HK := Lib.hid (show (s.l.length : Int) - (s.kept.length : Int) = 0 by rw [hk0]; omega)
        clear X hcol hk0 hv hl0 M HH HR e1 e3
        go_wp2_with fail
        refine (del_nil wr _).mono ?_
        rintro e w2 ⟨rfl, rfl⟩
        go_wp2_with fail
        go_ret
        exact ⟨by rw [HK.out]; try rfl, HX.out⟩
      · have e1 : A.la = some ⟨g, 0, none⟩ := by injection hv
        have e3 : A.lc = cap := by injection hv
        rw [e1, e3] at m4
        have bx0 : wr.cell? ⟨w.heap.size, 0, none⟩ = some (.int .u64 (lowTo s 8)) := HR.out.2.cell 0
        have bxg : w.heap.size ≠ g := HR.out.2.ne hg (by decide)
        have hrow : ∀ k, k < s.l.length → cur[k]? = some (.pointer (some ⟨A.va (s.l.getD k 0), 0, none⟩)) := fun k hk => by
          have h3 := congrArg (fun z => z[k]?) htk
          rw [Nat.mul_one] at h3
          simp only [List.getElem?_take, hk, if_true, List.getElem?_map] at h3
          simpa [hk] using h3
        have ha : Asks wr g w.heap.size A.va s.l (fun i => goneB (s.ver i) s.low) := fun w1 o1 i hi => by
          have hi2 := M.ok.lin i hi
          refine md_goneV w1 (A.va i) w.heap.size (s.ver i) s.low (o1.blk (M.vers.blk i hi2).1 ((M.vers.blk i hi2).1.ne hg (by decide))) ?_
          rw [(o1.blk HR.out.2 bxg).cell]
          rfl
        have CD : Calls Try.prog 30 #[.slice (some ⟨g, 0, none⟩) s.l.length cap, .func (.func 31) #[] #[.pointer (some ⟨w.heap.size, 0, none⟩)]] wr fun e w' => e = .returned (.slice (some ⟨g, 0, none⟩) s.kept.length cap) ∧ DelOut wr w' g cur.size A.va s.kept :=
          del_vers wr g cap cur.size w.heap.size A.va s.l _ cur hlen hn (by unfold maxLen at hm; omega) hg rfl (by omega) hrow ha
        have hkl : s.kept.length ≤ s.l.length := List.length_filter_le _ _
        have FIN : ∀ w2, DelOut wr w2 g cur.size A.va s.kept → w2.cell? ⟨m, 4, none⟩ = some (.slice (some ⟨g, 0, none⟩) s.l.length cap) ∧ w2.frozen? ⟨m, 4, none⟩ = false ∧ MAt B (w2.setCell ⟨m, 4, none⟩ (.slice (some ⟨g, 0, none⟩) s.kept.length cap)) P m s.collect ∧ Only P w (w2.setCell ⟨m, 4, none⟩ (.slice (some ⟨g, 0, none⟩) s.kept.length cap)) := fun w2 hD => by
          obtain ⟨cs, k1, k2, k3, k4⟩ := hD
          have hmg : m ≠ g := M.mod.ne hg (by decide)
          have bm := k4.blk M.mod hmg
          have o' : Only (fun b => b = g ∨ b = m) wr (w2.setCell ⟨m, 4, none⟩ (.slice (some ⟨g, 0, none⟩) s.kept.length cap)) := (k4.toward (fun b hb => .inl hb)).trans ((Only.set1 w2 m 4 _).toward (fun b hb => .inr hb))
          have hb9 : Blk (w2.setCell ⟨m, 4, none⟩ (.slice (some ⟨g, 0, none⟩) s.kept.length cap)) m 54 (modCells A s.collect) := by
            rw [← e1, ← e3]
            exact bm.set 4 _
          have hr9 := (Only.set1 w2 m 4 (.slice (some ⟨g, 0, none⟩) s.kept.length cap)).blk k1 (Ne.symm hmg)
          have hPg : P g := M.pr g (by rw [e1]; exact rowOf_some.2 rfl)
          refine ⟨by rw [bm.cell, ← e1, ← e3]; rfl, bm.free 4, ⟨A, M.collected e1 hg hB (by omega) (by omega) o' hb9 hr9 (by omega) k3⟩, (HR.out.1.any P).trans (o'.toward (fun b hb => hb.elim (fun e => e ▸ hPg) (fun e => e ▸ M.pm)))⟩
        have HF := Lib.hid FIN
        clear FIN ha hrow htk hg hB hm hv M HH HR bx0 bxg hcs e1 e3
        go_wp2_with fail
        refine CD.mono ?_
        rintro e w2 ⟨rfl, hD⟩
        obtain ⟨c4, f4, X1, X2⟩ := HF.out w2 hD
        have HX := Lib.hid (And.intro X1 X2)
        clear X1 X2 hD HF CD
        go_wp2_with fail
        go_ret
        exact ⟨rfl, HX.out⟩
end Go.Proofs.Ytdjehgnkpbkdbaa
namespace Go.Proofs.Ytdjehgnkpbkdbaa
open Go.RowKit
set_option linter.unusedVariables false
set_option linter.unusedSimpArgs false
theorem setTx_same (s : St) (j : Nat) (t : Option Tx) : (s.setTx j t).tx j = t := by
  show upd s.tx j t j = t
  exact upd_same _ _ _
end Go.Proofs.Ytdjehgnkpbkdbaa
namespace Go.Proofs.Ytdjehgnkpbkdbaa
open Go.RowKit
set_option linter.unusedVariables false
set_option linter.unusedSimpArgs false
theorem anyC_iff {f : Nat → Option Cel} {p : Cel → Bool} : anyC f p = true ↔ ∃ k c, k < 64 ∧ f k = some c ∧ p c = true := by
  unfold anyC
  rw [List.any_eq_true]
  constructor
  · rintro ⟨k, hk, h⟩
    cases hf : f k with
    | none => rw [hf] at h; simp at h
    | some c => rw [hf] at h; exact ⟨k, c, by simpa using hk, hf, h⟩
  · rintro ⟨k, c, hk, hf, h⟩
    exact ⟨k, by simpa using hk, by rw [hf]; exact h⟩
theorem ver_grow {s : St} {v : Ver} {x : Nat} (h : x < s.vs.length) : (s.grow v).ver x = s.ver x := by
  simp [St.ver, St.grow, List.getD_eq_getElem?_getD, List.getElem?_append_left h]
theorem ver_grow_new {s : St} {v : Ver} : (s.grow v).ver s.vs.length = v := by
  simp [St.ver, St.grow, List.getD_eq_getElem?_getD]
theorem ver_setVal {s : St} {i x : Nat} {v : Int} : (s.setVal i v).ver x = if x = i ∧ i < s.vs.length then { s.ver i with value := v } else s.ver x := by
  simp only [St.ver, St.setVal, List.getD_eq_getElem?_getD, List.getElem?_set]
  by_cases h : i = x
  · subst h
    by_cases hl : i < s.vs.length
    · simp [hl]
    · simp [hl]
  · simp [h, Ne.symm h]
theorem put_cells (t : Tx) (k j : Nat) (c : Cel) : (t.put k c).cells j = if j = k then some c else t.cells j := rfl
theorem ver_kill {s : St} {j x : Nat} {t : Tx} (h : x < s.vs.length) : (s.kill j t).ver x = killV t.cells x (s.ver x) := by
  simp [St.ver, St.kill, List.getD_eq_getElem?_getD, List.getElem?_mapIdx, List.getElem?_eq_getElem h]
theorem ver_done {s : St} {j x : Nat} {t : Tx} (h : x < s.vs.length) : (s.done j t).ver x = doneV t.cells s.now x (s.ver x) := by
  simp [St.ver, St.done, List.getD_eq_getElem?_getD, List.getElem?_mapIdx, List.getElem?_eq_getElem h]
end Go.Proofs.Ytdjehgnkpbkdbaa
namespace Go.Proofs.Ytdjehgnkpbkdbaa
open Go.RowKit
set_option linter.unusedVariables false
set_option linter.unusedSimpArgs false
theorem look_beg (t : Tx) (k : Nat) : (t.look k).beg = t.beg ∧ (t.look k).ops = t.ops ∧ (t.look k).cells = t.cells := by
  unfold Tx.look; split <;> exact ⟨rfl, rfl, rfl⟩
theorem mark_beg (t : Tx) (k : Nat) : (t.mark k).beg = t.beg ∧ (t.mark k).ops = t.ops ∧ (t.mark k).cells = t.cells := by
  unfold Tx.mark; split <;> exact ⟨rfl, rfl, rfl⟩
end Go.Proofs.Ytdjehgnkpbkdbaa

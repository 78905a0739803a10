/-
  model.Model: scan.
-/
import Derived.Test.YtcbhafddehipdaaMdChange
namespace Go.Proofs.Ytcbhafddehipdaa
open Go.RowKit
set_option linter.unusedVariables false
set_option linter.unusedSimpArgs false

def pairCells : List (Int × Int) → List Value
  | [] => []
  | p :: l => .int .i64 p.1 :: .int .i64 p.2 :: pairCells l
theorem pairCells_len (l : List (Int × Int)) : (pairCells l).length = l.length * 2 := by
  induction l with
  | nil => rfl
  | cons a l ih => simp only [pairCells, List.length_cons, ih]; omega
theorem pairCells_snoc (l : List (Int × Int)) (p : Int × Int) : pairCells (l ++ [p]) = pairCells l ++ [.int .i64 p.1, .int .i64 p.2] := by
  induction l with
  | nil => rfl
  | cons a l ih => simp only [List.cons_append, pairCells, ih]
theorem pairCells_get (l : List (Int × Int)) : ∀ i, i < l.length → (pairCells l)[i * 2]? = some (.int .i64 (l.getD i (0, 0)).1) ∧ (pairCells l)[i * 2 + 1]? = some (.int .i64 (l.getD i (0, 0)).2) := by
  induction l with
  | nil => intro i hi; simp at hi
  | cons a l ih =>
    intro i hi
    cases i with
    | zero => exact ⟨rfl, rfl⟩
    | succ i =>
      have := ih i (by simpa using hi)
      have e1 : (i + 1) * 2 = i * 2 + 2 := by omega
      have e2 : (i + 1) * 2 + 1 = i * 2 + 1 + 2 := by omega
      simp only [pairCells, e1, e2, List.getElem?_cons_succ, List.getD_cons_succ]
      exact this
/-- At an address lie pairs. -/
def PairsIn (w : World) (a : Option Addr) (ps : List (Int × Int)) : Prop :=
  ps = [] ∨ ∃ b off, a = some ⟨b, off, none⟩ ∧ ∀ i, i < ps.length → w.cell? ⟨b, off + i * 2, none⟩ = some (.int .i64 (ps.getD i (0, 0)).1) ∧ w.cell? ⟨b, off + (i * 2 + 1), none⟩ = some (.int .i64 (ps.getD i (0, 0)).2)
theorem PairsIn.only {w w' : World} {a : Option Addr} {ps : List (Int × Int)} {S : Nat → Prop} (h : PairsIn w a ps) (o : Only S w w') (hs : ∀ x, a = some x → ¬ S x.block) : PairsIn w' a ps := by
  rcases h with rfl | ⟨b, off, rfl, hc⟩
  · exact .inl rfl
  · refine .inr ⟨b, off, rfl, fun i hi => ?_⟩
    have hlt := block_lt_of_cell (hc i hi).1
    have e := o.block b hlt (hs _ rfl)
    exact ⟨(World.cell?_of_block e).trans (hc i hi).1, (World.cell?_of_block e).trans (hc i hi).2⟩
theorem PairsIn.of_own {B n c : Nat} {w : World} {a : Option Addr} {ps : List (Int × Int)} (h : w.ownsRow B 48 2 (.slice a n c) ps.length (pairCells ps)) : PairsIn w a ps := by
  rcases h.2 with ⟨_, h0⟩ | ⟨g, cap, cur, hv, _⟩
  · exact .inl (List.eq_nil_of_length_eq_zero h0)
  · injection hv with h1 h2 h3
    subst h1 h2 h3
    refine .inr ⟨g, 0, rfl, fun i hi => ?_⟩
    have G := pairCells_get ps i hi
    have e0 := h.cellAt (i * 2) (by omega)
    have e1 := h.cellAt (i * 2 + 1) (by omega)
    rw [Nat.zero_add, Nat.zero_add]
    exact ⟨e0.trans G.1, e1.trans G.2⟩
/-- What a call leaves that answers a result. -/
def ReRes (B m : Nat) (w : World) (P : Nat → Prop) (A : Ad) (r : Res) (s' : St) (e : Ending) (w' : World) : Prop :=
  ∃ (A' : Ad) (P' : Nat → Prop) (a : Option Addr) (c : Nat), e = .returned (.agg #[.int .i64 r.e, .int .i64 r.value, .slice a r.pairs.length c, .int .i64 r.over, .int .i64 r.reason]) ∧ MIn B w' P' m s' A' ∧ A'.tb = A.tb ∧ A'.mb = A.mb ∧ Only P w w' ∧ Grew w.heap.size P P' ∧
    PairsIn w' a r.pairs ∧ ∀ x, a = some x → w.heap.size ≤ x.block ∧ ¬ P' x.block
theorem StRes.re {B m : Nat} {w : World} {P : Nat → Prop} {A : Ad} {r : Res} {s' : St} {e : Ending} {w' : World} (hp : r.pairs = []) (h : StRes B m w P A (resV r) s' e w') : ReRes B m w P A r s' e w' := by
  obtain ⟨A', P', he, M, a1, a2, o, g⟩ := h
  refine ⟨A', P', none, 0, by rw [he, hp]; rfl, M, a1, a2, o, g, .inl hp, fun x hx => by cases hx⟩

/-- The loop of scan, under way: q keys are done. -/
structure ScRel (B m : Nat) (w W : World) (P : Nat → Prop) (s : St) (A : Ad) (j : Nat) (t : Tx) (lo n0 n1 q : Nat) (wr : World) (ra : Option Addr) (rc : Nat) : Prop where
  mod : MIn B wr P m (s.setTx j (some (t.lookAll lo q))) A
  box0 : Blk wr n0 27 #[.int .i64 0, .int .i64 0, .slice none 0 0, .int .i64 0, .int .i64 0]
  box1 : Blk wr n1 27 #[.int .i64 0, .int .i64 0, .slice ra ((keysFrom lo q).filterMap (s.pairOf t)).length rc, .int .i64 0, .int .i64 0]
  row : wr.ownsRow W.heap.size 48 2 (.slice ra ((keysFrom lo q).filterMap (s.pairOf t)).length rc) ((keysFrom lo q).filterMap (s.pairOf t)).length (pairCells ((keysFrom lo q).filterMap (s.pairOf t)))
  only : Only P w wr
theorem keysFrom_succ (lo q : Nat) : keysFrom lo (q + 1) = keysFrom lo q ++ [lo + q] := by unfold keysFrom; rw [List.range_succ, List.map_append]; rfl
theorem pairs_none {s : St} {t : Tx} {lo q : Nat} (h : s.sees t (lo + q) = none) : (keysFrom lo (q + 1)).filterMap (s.pairOf t) = (keysFrom lo q).filterMap (s.pairOf t) := by
  rw [keysFrom_succ, List.filterMap_append]; simp [St.pairOf, h]
theorem pairs_some {s : St} {t : Tx} {lo q i : Nat} (h : s.sees t (lo + q) = some i) : (keysFrom lo (q + 1)).filterMap (s.pairOf t) = (keysFrom lo q).filterMap (s.pairOf t) ++ [(((lo + q : Nat) : Int), (s.ver i).value)] := by
  rw [keysFrom_succ, List.filterMap_append]; simp [St.pairOf, h]
theorem pairs_few (s : St) (t : Tx) (lo q : Nat) : ((keysFrom lo q).filterMap (s.pairOf t)).length ≤ q := by
  refine Nat.le_trans (List.length_filterMap_le _ _) ?_
  simp [keysFrom]
theorem lookAll_zero (t : Tx) (lo : Nat) : t.lookAll lo 0 = t := by
  unfold Tx.lookAll
  have : (fun k => t.looked k || (decide (lo ≤ k) && decide (k < lo + 0))) = t.looked := by funext k; simp; intro h1 h2; omega
  rw [this]
theorem lookAll_succ (t : Tx) (lo q : Nat) : ({ (t.lookAll lo q).look (lo + q) with looked := upd ((t.lookAll lo q).look (lo + q)).looked (lo + q) true } : Tx) = t.lookAll lo (q + 1) := by
  unfold Tx.lookAll Tx.look
  have e : ∀ f g : Nat → Bool, (∀ k, f k = g k) → ({ t with looked := f } : Tx) = { t with looked := g } := fun f g h => by rw [show f = g from funext h]
  split
  · refine e _ _ (fun k => ?_)
    by_cases h : k = lo + q
    · subst h; simp [upd]
    · simp only [upd, h, if_false]
      congr 2
      rw [Bool.eq_iff_iff]; simp; omega
  · refine e _ _ (fun k => ?_)
    by_cases h : k = lo + q
    · subst h; simp [upd]
    · simp only [upd, h, if_false]
      congr 2
      rw [Bool.eq_iff_iff]; simp; omega
theorem sees_all (s : St) (j : Nat) (t : Tx) (lo q k : Nat) : (s.setTx j (some (t.lookAll lo q))).sees (t.lookAll lo q) k = s.sees t k := rfl
set_option maxRecDepth 100000 in
theorem info_pair : (Try.prog.info? 48).map (fun i => (i.zero, i.size, i.bytes)) = some (some (.agg #[.int .i64 0, .int .i64 0]), 2, 16) := by kernel_rfl

/-- A pair is put into the row. -/
theorem scan_app {B m : Nat} {w W w2 w1 : World} {P : Nat → Prop} {s2 : St} {A : Ad} {n0 n1 gg cap : Nat} {ra : Option Addr} {rc : Nat} {ps : List (Int × Int)} {p : Int × Int} (M : MIn B w2 P m s2 A) (hn0 : n0 < W.heap.size) (hn1 : n1 < W.heap.size) (h01 : n0 ≠ n1) (hP1 : ¬ P n1) (hPW : ∀ b, P b → b < W.heap.size)
    (hww : w.heap.size ≤ n1) (B0 : Blk w2 n0 27 #[.int .i64 0, .int .i64 0, .slice none 0 0, .int .i64 0, .int .i64 0]) (B1 : Blk w2 n1 27 #[.int .i64 0, .int .i64 0, .slice ra ps.length rc, .int .i64 0, .int .i64 0])
    (hrow : w2.ownsRow W.heap.size 48 2 (.slice ra ps.length rc) ps.length (pairCells ps)) (O : Only P w w2) (hWs : w.heap.size ≤ W.heap.size) (hW2 : W.heap.size ≤ w2.heap.size)
    (hown2 : w1.ownsRow W.heap.size 48 2 (.slice (some ⟨gg, 0, none⟩) (ps.length + 1) cap) (ps.length + 1) (pairCells ps ++ [.int .i64 p.1, .int .i64 p.2]))
    (hgrow : ((w2.alloc (.cells #[.int .i64 p.1, .int .i64 p.2] 48)).drew).grownBy w1 (Value.slice ra ps.length rc).ownBlock) (hlt : gg < w1.heap.size) :
    MIn B (w1.setCell ⟨n1, 2, none⟩ (.slice (some ⟨gg, 0, none⟩) (ps.length + 1) cap)) P m s2 A ∧ Blk (w1.setCell ⟨n1, 2, none⟩ (.slice (some ⟨gg, 0, none⟩) (ps.length + 1) cap)) n0 27 #[.int .i64 0, .int .i64 0, .slice none 0 0, .int .i64 0, .int .i64 0] ∧
      Blk (w1.setCell ⟨n1, 2, none⟩ (.slice (some ⟨gg, 0, none⟩) (ps.length + 1) cap)) n1 27 #[.int .i64 0, .int .i64 0, .slice (some ⟨gg, 0, none⟩) (ps ++ [p]).length cap, .int .i64 0, .int .i64 0] ∧
      (w1.setCell ⟨n1, 2, none⟩ (.slice (some ⟨gg, 0, none⟩) (ps.length + 1) cap)).ownsRow W.heap.size 48 2 (.slice (some ⟨gg, 0, none⟩) (ps ++ [p]).length cap) (ps ++ [p]).length (pairCells (ps ++ [p])) ∧ Only P w (w1.setCell ⟨n1, 2, none⟩ (.slice (some ⟨gg, 0, none⟩) (ps.length + 1) cap)) := by
  obtain ⟨W6, hW6⟩ : ∃ W6, W6 = (w2.alloc (.cells #[.int .i64 p.1, .int .i64 p.2] 48)).drew := ⟨_, rfl⟩
  rw [← hW6] at hgrow
  have o6 : Only0 w2 W6 := by rw [hW6]; exact ((Only0.refl _).alloc _).drew
  have hab : ∀ b, rowOf (.slice ra ps.length rc) b → W.heap.size ≤ b := fun b hb => rows_above hrow b hb
  have oR : Only (rowOf (.slice ra ps.length rc)) W6 w1 := ⟨hgrow.os, hgrow.tape, hgrow.output, hgrow.size, fun b hb hn => hgrow.block b hb (fun e => hn e.symm)⟩
  have O2 : Only (fun b => b = n1 ∨ rowOf (.slice ra ps.length rc) b) w2 (w1.setCell ⟨n1, 2, none⟩ (.slice (some ⟨gg, 0, none⟩) (ps.length + 1) cap)) := ((o6.any _).trans (oR.toward (fun b hb => .inr hb))).setCell (fun _ => .inl rfl) _
  have C1 : Blk w1 n1 27 #[.int .i64 0, .int .i64 0, .slice ra ps.length rc, .int .i64 0, .int .i64 0] := oR.blk (o6.blk B1 (fun h => h)) (fun hb => by have := hab _ hb; omega)
  have hgn : gg ≠ n1 := by
    rintro rfl
    exact rows_ne hown2 C1 (by decide) (rowOf_some.2 rfl)
  refine ⟨M.only O2 (fun b hb hS => ?_), O2.blk B0 (fun hS => ?_), ?_, ?_, O.grewTrans (P2 := fun b => P b ∨ w.heap.size ≤ b) (fun b hb => hb) (O2.toward (fun b hS => ?_))⟩
  · rcases hS with rfl | hS
    · exact hP1 hb
    · have := hab _ hS; have := hPW b hb; omega
  · rcases hS with e | hS
    · exact h01 e
    · have := hab _ hS; omega
  · have := C1.set 2 (.slice (some ⟨gg, 0, none⟩) (ps.length + 1) cap)
    simpa using this
  · have := ownsRow_setCell_other hown2 (a := ⟨n1, 2, none⟩) (fun e => hgn (by simpa [Value.ownBlock] using e)) (.slice (some ⟨gg, 0, none⟩) (ps.length + 1) cap)
    rw [pairCells_snoc]
    simpa using this
  · rcases hS with rfl | hS
    · exact .inr hww
    · exact .inr (by have := hab _ hS; omega)

set_option maxRecDepth 100000 in
set_option maxHeartbeats 16000000 in
theorem md_scan {B m : Nat} {w : World} {P : Nat → Prop} {s : St} {A : Ad} (h : MIn B w P m s A) {j : Nat} {t : Tx} (ht : s.tx j = some t) (lo hi : Nat) (hlo : lo ≤ hi) (hhi : hi < 64) :
    Calls Try.prog 53 #[.pointer (some ⟨m, 0, none⟩), .pointer (some ⟨A.tb j, 0, none⟩), .int .i64 lo, .int .i64 hi] w (ReRes B m w P A (s.scan j t lo (hi + 1 - lo)).1 (s.scan j t lo (hi + 1 - lo)).2) := by
  obtain ⟨W, hW⟩ : ∃ W, W = (w.alloc (.cells #[.int .i64 0, .int .i64 0, .slice none 0 0, .int .i64 0, .int .i64 0] 27)).alloc (.cells #[.int .i64 0, .int .i64 0, .slice none 0 0, .int .i64 0, .int .i64 0] 27) := ⟨_, rfl⟩
  have oW : Only0 w W := by rw [hW]; exact ((Only0.refl w).alloc _).alloc _
  have M0 := h.only0 oW
  have B0 : Blk W w.heap.size 27 #[.int .i64 0, .int .i64 0, .slice none 0 0, .int .i64 0, .int .i64 0] := by rw [hW]; exact (Blk.new _ _ _).alloc _
  have B1 : Blk W (w.heap.size + 1) 27 #[.int .i64 0, .int .i64 0, .slice none 0 0, .int .i64 0, .int .i64 0] := by rw [hW]; exact Blk.new' _ _ _ _ (by simp)
  have hu := h.under
  have hWs : W.heap.size = w.heap.size + 2 := by rw [hW]; simp
  obtain ⟨n0, hn0⟩ : ∃ n0, n0 = w.heap.size := ⟨_, rfl⟩
  obtain ⟨n1, hn1⟩ : ∃ n1, n1 = n0 + 1 := ⟨_, rfl⟩
  have R0 : ScRel B m w W P s A j t lo n0 n1 0 W none 0 := ⟨by rw [lookAll_zero, setTx_self ht]; exact M0, by rw [hn0]; exact B0, by rw [hn1, hn0]; exact B1, World.ownsRow_nil _ _ _ _, oW.any P⟩
  have HS := Lib.hid (show n0 < W.heap.size ∧ n1 < W.heap.size ∧ n0 ≠ n1 ∧ ¬ P n0 ∧ ¬ P n1 ∧ (∀ b, P b → b < W.heap.size) ∧ w.heap.size ≤ n0 ∧ w.heap.size ≤ n1 ∧ w.heap.size ≤ W.heap.size ∧ W.heap.size ≤ n1 + 1 from
    ⟨by omega, by omega, by omega, fun hp => by have := hu _ hp; omega, fun hp => by have := hu _ hp; omega, fun b hb => by have := hu _ hb; omega, by omega, by omega, by omega, by omega⟩)
  have HN := Lib.hid hn0
  have HN1 := Lib.hid hn1
  have HR0 := Lib.hid R0
  have HT := Lib.hid ht
  obtain ⟨i0, hi0, hz0, hz1, hz2⟩ := info_parts info_pair
  clear h M0 B0 B1 hu hWs hn0 hn1 R0 ht oW
  go_enter Try.func53, Try.ntmps53
  go_upto_region 2 with (fail)
  rw [← hW, ← HN.out, ← HN1.out]
  clear hW
  go_wp2_with fail
  go_loopw [10] (fun s10 wr => ∃ (q kk : Nat) (ra : Option Addr) (rc : Nat), s10 = .int .i64 kk ∧ Hid (kk = lo + q ∧ q ≤ hi + 1 - lo) ∧ kk ≤ hi + 1 ∧ Hid (ScRel B m w W P s A j t lo n0 n1 q wr ra rc)) (fun s10 _ => hi + 1 - (intOf s10).toNat)
  case atStart => exact ⟨0, lo, none, 0, rfl, Lib.hid ⟨rfl, by omega⟩, by omega, HR0⟩
  case round =>
    obtain ⟨q, kk, ra, rc, rfl, HK, hkb, HR⟩ := hrel
    by_cases hlt : kk ≤ hi
    · have hk64 : kk < 64 := by omega
      have T1 : (s.setTx j (some (t.lookAll lo q))).tx j = some (t.lookAll lo q) := by simp [St.setTx, upd_same]
      have HT1 := Lib.hid T1
      have C := md_look HR.out.mod T1 kk hk64
      rw [show (s.setTx j (some (t.lookAll lo q))).sees (t.lookAll lo q) kk = s.sees t kk from rfl, setTx_setTx] at C
      have hlen := pairs_few s t lo q
      have hq64 : q ≤ 64 := by have := HK.out.2; omega
      have NEXT : ∀ (w3 : World) (ra' : Option Addr) (rc' : Nat), MIn B w3 P m (s.setTx j (some ((t.lookAll lo q).look kk))) A → Blk w3 n0 27 #[.int .i64 0, .int .i64 0, .slice none 0 0, .int .i64 0, .int .i64 0] → Blk w3 n1 27 #[.int .i64 0, .int .i64 0, .slice ra' ((keysFrom lo (q + 1)).filterMap (s.pairOf t)).length rc', .int .i64 0, .int .i64 0] →
          w3.ownsRow W.heap.size 48 2 (.slice ra' ((keysFrom lo (q + 1)).filterMap (s.pairOf t)).length rc') ((keysFrom lo (q + 1)).filterMap (s.pairOf t)).length (pairCells ((keysFrom lo (q + 1)).filterMap (s.pairOf t))) → Only P w w3 →
          w3.cell? ⟨A.tb j, 6, none⟩ = some (.map (some (A.mb j 2))) ∧ ∃ w', (Instr.mapUpdate 98 (.map (some (A.mb j 2))) (.int .i64 kk) (.bool true)).run Try.prog w3 = .ok () w' ∧ Hid (ScRel B m w W P s A j t lo n0 n1 (q + 1) w' ra' rc') := by
        intro w3 ra' rc' M3 b0 b1 r3 o3
        have T3 : (s.setTx j (some ((t.lookAll lo q).look kk))).tx j = some ((t.lookAll lo q).look kk) := by simp [St.setTx, upd_same]
        have X3 := (M3.txs.one j _ T3).2
        obtain ⟨w', hst, hb, ho⟩ := X3.km.store kk hk64
        have M4 := M3.setLooked T3 ho hb
        have hkq := HK.out.1
        rw [setTx_setTx, hkq, lookAll_succ] at M4
        have hpm := X3.pm 2 (by omega)
        have oP : Only P w3 w' := ho.toward (fun b hb => by subst hb; exact hpm)
        refine ⟨X3.cells.2.2.2, w', hst, Lib.hid ⟨M4, oP.blk b0 HS.out.2.2.2.1, oP.blk b1 HS.out.2.2.2.2.1, rows_only r3 oP (fun b hb hp => ?_), o3.trans oP⟩⟩
        have := rows_above r3 b hb; have := HS.out.2.2.2.2.2.1 b hp; omega
      have HNEXT := Lib.hid NEXT
      cases hs : s.sees t kk with
      | none =>
        rw [hs, show ptrOf A.va none = .pointer none from rfl] at C
        have HE := Lib.hid (pairs_none (s := s) (t := t) (lo := lo) (q := q) (by rw [← HK.out.1]; exact hs))
        clear NEXT T1 hs
        go_wp2_with fail
        refine C.mono ?_
        rintro e w2 ⟨rfl, M2, o2⟩
        obtain ⟨c6, w', hst, HR'⟩ := HNEXT.out w2 ra rc M2 (o2.blk HR.out.box0 HS.out.2.2.2.1) (by rw [HE.out]; exact o2.blk HR.out.box1 HS.out.2.2.2.2.1) (by
          rw [HE.out]
          exact rows_only HR.out.row o2 (fun b hb hp => by have := rows_above HR.out.row b hb; have := HS.out.2.2.2.2.2.1 b hp; omega)) (HR.out.only.trans o2)
        have HK' := Lib.hid (show kk + 1 = lo + (q + 1) ∧ q + 1 ≤ hi + 1 - lo by have := HK.out; omega)
        clear C M2 o2 HK hq64 hlen
        go_wp2_with fail
        go_roundw
        case rel => exact ⟨q + 1, kk + 1, ra, rc, by go_num, HK', by omega, HR'⟩
        case measure => simp [intOf]; omega
      | some i =>
        rw [hs, show ptrOf A.va (some i) = .pointer (some ⟨A.va i, 0, none⟩) from rfl] at C
        have HE := Lib.hid (pairs_some (s := s) (t := t) (lo := lo) (q := q) (i := i) (by rw [← HK.out.1]; exact hs))
        have hi' : i < s.vs.length := by
          unfold St.sees at hs
          cases hc : t.cells kk with
          | none => rw [hc] at hs; exact at_lt HR.out.mod (key := kk) (at_ := t.beg) i hs
          | some c =>
            rw [hc] at hs
            simp only at hs
            split at hs
            · exact (HR.out.mod.ok.refs j _ kk c T1 hc).1 i hs
            · cases hs
        clear NEXT T1 hs
        obtain ⟨ps, hps⟩ : ∃ ps, ps = (keysFrom lo q).filterMap (s.pairOf t) := ⟨_, rfl⟩
        have B1 := HR.out.box1
        have RW := HR.out.row
        rw [← hps] at B1 RW hlen
        rw [← hps] at HE
        clear hps
        go_wp2_with fail
        refine C.mono ?_
        rintro e w2 ⟨rfl, M2, o2⟩
        have b0 := o2.blk HR.out.box0 HS.out.2.2.2.1
        have b1 := o2.blk B1 HS.out.2.2.2.2.1
        have r2 := rows_only RW o2 (fun b hb hp => by have := rows_above RW b hb; have := HS.out.2.2.2.2.2.1 b hp; omega)
        have o3 := HR.out.only.trans o2
        have hW2 : W.heap.size ≤ w2.heap.size := by have := b1.lt; have := HS.out.2.2.2.2.2.2.2.2.2; omega
        have v1 : w2.cell? ⟨A.va i, 1, none⟩ = some (.int .i64 (s.ver i).value) := (M2.vers.blk i hi').1.cell 1
        generalize (s.ver i).value = x at *
        rw [← HK.out.1] at HE
        have nrow : ¬ rowOf (.slice ra ps.length rc) n1 := fun hb => by have := rows_above r2 _ hb; have := HS.out.2.1; omega
        have APP := fun gg cap w1 h1 h2 h3 => scan_app (p := ((kk : Int), x)) (gg := gg) (cap := cap) (w1 := w1) M2 HS.out.1 HS.out.2.1 HS.out.2.2.1 HS.out.2.2.2.2.1 HS.out.2.2.2.2.2.1 HS.out.2.2.2.2.2.2.2.1 b0 b1 r2 o3 HS.out.2.2.2.2.2.2.2.2.1 hW2 h1 h2 h3
        have HAPP := Lib.hid APP
        have d2 : w2.cell? ⟨n1, 2, none⟩ = some (.slice ra ps.length rc) := b1.cell 2
        obtain ⟨W6, hW6⟩ : ∃ W6, W6 = (w2.alloc (.cells #[.int .i64 kk, .int .i64 x] 48)).drew := ⟨_, rfl⟩
        have o6 : Only0 w2 W6 := by rw [hW6]; exact ((Only0.refl _).alloc _).drew
        have m6 : W6.cell? ⟨n1, 2, none⟩ = some (.slice ra ps.length rc) := (o6.blk b1 (fun h => h)).cell 2
        have f6 := (o6.blk b1 (fun h => h)).free 2
        have R6 := rows_only r2 o6 (fun _ _ hf => hf)
        have hn6 : n1 < W6.heap.size := Nat.lt_of_lt_of_le b1.lt o6.size
        rw [hW6] at m6 f6 R6 hn6
        clear C M2 o2 B1 RW b0 b1 r2 o3 hi' APP hW6 o6
        go_wp2_with fail
        go_region_law
          ((refine step_append_lies _ (by rfl) _ _ _ (by rfl) W.heap.size 48 i0 _ 2 16 Try.underlying25 hi0 hz0 hz1 hz2 rfl (by omega) (.slice ra ps.length rc) ps.length (pairCells ps) (by rfl) R6
              ⟨w2.heap.size, 0, none⟩ 1 1 [.int .i64 kk, .int .i64 x] (by rfl) (by rfl) (World.news_of_block (cs := #[.int .i64 kk, .int .i64 x]) (t := 48) (fr := (0, 0)) (heap_alloc_new w2 _)) (by simp [Value.oneCell'])
              (by omega) (by unfold maxLen; omega) (by omega) (by simp; omega) (w2.heap.size + 1) (by simp) ?_; intro gg cap w1 hown2 hgrow hat hlt2
            have cz : w1.cell? ⟨n1, 2, none⟩ = some (.slice ra ps.length rc) := (hgrow.cell_far ⟨n1, 2, none⟩ hn6 (fun e => nrow e.symm)).trans m6
            have fz1 : w1.frozen? ⟨n1, 2, none⟩ = false := (hgrow.frozen_far ⟨n1, 2, none⟩ hn6 (fun e => nrow e.symm)).trans f6))
        all_goals
          obtain ⟨M5, b0, b1, r5, o5⟩ := HAPP.out gg cap w1 hown2 hgrow hlt2
          rw [← HE.out] at b1 r5
          generalize hW7 : World.setCell w1 _ _ = W7 at *
          obtain ⟨c6, w', hst, HR'⟩ := HNEXT.out W7 _ cap M5 b0 b1 r5 o5
          have HK' := Lib.hid (show kk + 1 = lo + (q + 1) ∧ q + 1 ≤ hi + 1 - lo by have := HK.out; omega)
          clear M5 b0 b1 r5 o5 hown2 hgrow hat hlt2 cz fz1 HK hq64 hlen hW7
          go_wp2_with fail
          go_roundw
          case rel => exact ⟨q + 1, kk + 1, _, cap, by go_num, HK', by omega, HR'⟩
          case measure => simp [intOf]; omega
    · have hkq := HK.out
      have hqn : q = hi + 1 - lo := by omega
      clear hkq
      have R := HR.out
      rw [hqn] at R
      have HRR := Lib.hid R
      obtain ⟨ps, hps⟩ : ∃ ps, ps = (keysFrom lo (hi + 1 - lo)).filterMap (s.pairOf t) := ⟨_, rfl⟩
      have B1 := R.box1
      have B0 := R.box0
      have RW := R.row
      rw [← hps] at B1 RW
      have HP := Lib.hid hps
      have a0 : wr.cell? ⟨n1, 0, none⟩ = some (.int .i64 0) := B1.cell 0
      have a1 : wr.cell? ⟨n1, 1, none⟩ = some (.int .i64 0) := B1.cell 1
      have a2 : wr.cell? ⟨n1, 2, none⟩ = some (.slice ra ps.length rc) := B1.cell 2
      have a3 : wr.cell? ⟨n1, 3, none⟩ = some (.int .i64 0) := B1.cell 3
      have a4 : wr.cell? ⟨n1, 4, none⟩ = some (.int .i64 0) := B1.cell 4
      have b0 : wr.cell? ⟨n0, 0, none⟩ = some (.int .i64 0) := B0.cell 0
      have b1 : wr.cell? ⟨n0, 1, none⟩ = some (.int .i64 0) := B0.cell 1
      have b2 : wr.cell? ⟨n0, 2, none⟩ = some (.slice none 0 0) := B0.cell 2
      have b3 : wr.cell? ⟨n0, 3, none⟩ = some (.int .i64 0) := B0.cell 3
      have b4 : wr.cell? ⟨n0, 4, none⟩ = some (.int .i64 0) := B0.cell 4
      have bf := fun i => B0.free i
      have HB0 := Lib.hid B0
      have HRW := Lib.hid RW
      clear hps R B0 B1 RW hqn HR HK
      go_wp2_with fail
      obtain ⟨B9, o9⟩ := set5 HB0.out (.int .i64 0) (.int .i64 0) (.slice ra ps.length rc) (.int .i64 0) (.int .i64 0)
      refine bodyPost_ret (v := .agg #[.int .i64 0, .int .i64 0, .slice ra ps.length rc, .int .i64 0, .int .i64 0]) (results_cell_row Try.results53 _ _ n0 _ _ _ _ rfl B9 Try.underlying27 rfl info_res) rfl ?_
      have ep : (s.scan j t lo (hi + 1 - lo)).1.pairs = ps := HP.out.symm
      have hra : ∀ x, ra = some x → W.heap.size ≤ x.block := fun x hx => by
        subst hx
        rcases HRW.out.2 with ⟨h0, _⟩ | ⟨g, c1, c2, hv, hg, _⟩
        · cases h0
        · injection hv with h1 h2 h3; injection h1 with h1; subst h1; exact hg
      refine ⟨A, P, ra, rc, by rw [ep]; rfl, HRR.out.mod.only o9 (fun b hb e => by subst e; exact HS.out.2.2.2.1 hb), rfl, rfl, HRR.out.only.grewTrans (P2 := fun b => P b ∨ b = n0) (fun b hb => hb.imp id (fun e => by have := HS.out.2.2.2.2.2.2.1; omega)) (o9.toward (fun b hb => .inr hb)), Grew.refl _ _, ?_, fun x hx => ?_⟩
      · rw [ep]
        exact (PairsIn.of_own HRW.out).only o9 (fun x hx e => by have := hra x hx; have := HS.out.1; omega)
      · have h1 := hra x hx
        exact ⟨by have := HS.out.2.2.2.2.2.2.2.2.1; omega, fun hp => by have := HS.out.2.2.2.2.2.1 _ hp; omega⟩
end Go.Proofs.Ytcbhafddehipdaa

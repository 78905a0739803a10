/-
  slices.DeleteFunc over Pairs, by Over's predicate.
-/
import Derived.Test.YtldfkcldfjfohaaWMine
import Derived.Lib.SliceRun
namespace Go.Proofs.Ytldfkcldfjfohaa
open Go.RowKit
attribute [local go_sem ↓] Go.wp_at_zero Go.wp_at_succ
set_option linter.unusedVariables false
set_option linter.unusedSimpArgs false

theorem zero_pair (w : World) : (zeroValue 31).run Try.prog w = .ok (.agg #[.int .i64 0, .int .i64 0]) w := by kernel_rfl
theorem run_clear_pairs (w : World) (ty : TypeId) (b o n c : Nat) (hn : 0 < n)
    (hc : ∀ j, j < n * 2 → (w.cell? ⟨b, o + j, none⟩).isSome = true) (hf : ∀ j, j < n * 2 → w.frozen? ⟨b, o + j, none⟩ = false) :
    ∃ vs, (Builtin.clear_ #[32] ty #[.slice (some ⟨b, o, none⟩) n c]).run Try.prog w = .ok (.tuple #[]) (w.setCells b o vs) := by
  have hst := run_storeCells_cells (P := Try.prog) b o (Builtin.zeroCells #[.int .i64 0, .int .i64 0] n).toList 0 w (by simpa [Builtin.zeroCells] using hc) (by simpa [Builtin.zeroCells] using hf) (by
    intro v hv
    simp [Builtin.zeroCells] at hv
    obtain ⟨i, hi, rfl⟩ := hv
    have : i % 2 = 0 ∨ i % 2 = 1 := by omega
    rcases this with e | e <;> simp [e] <;> rfl)
  simp only [Nat.add_zero] at hst
  obtain ⟨m, rfl⟩ : ∃ m, n = m + 1 := ⟨n - 1, by omega⟩
  refine ⟨(Builtin.zeroCells #[.int .i64 0, .int .i64 0] (m + 1)).toList, ?_⟩
  simp [Builtin.clear_, run_underlying Try.underlying32, zero_pair, hst, Value.cells]

def keptP (p : Int → Bool) (l : PL) (j : Nat) : PL := (l.take j).filter fun x => !p x.1
theorem keptP_drop {p : Int → Bool} {l : PL} {j : Nat} (hj : j < l.length) (h : p (l.getD j (0, 0)).1 = true) : keptP p l (j + 1) = keptP p l j := by
  have e : l[j] = l.getD j (0, 0) := by simp [hj]
  unfold keptP
  rw [List.take_succ_eq_append_getElem hj, List.filter_append, e]
  simp only [List.filter_cons, h, List.filter_nil]
  simp
theorem keptP_keep {p : Int → Bool} {l : PL} {j : Nat} (hj : j < l.length) (h : p (l.getD j (0, 0)).1 = false) : keptP p l (j + 1) = keptP p l j ++ [l.getD j (0, 0)] := by
  have e : l[j] = l.getD j (0, 0) := by simp [hj]
  unfold keptP
  rw [List.take_succ_eq_append_getElem hj, List.filter_append, e]
  simp only [List.filter_cons, h, List.filter_nil]
  simp
theorem keptP_none {p : Int → Bool} {l : PL} : ∀ {j : Nat}, j ≤ l.length → (∀ k, k < j → p (l.getD k (0, 0)).1 = false) → keptP p l j = l.take j
  | 0, _, _ => by simp [keptP]
  | j + 1, hj, h => by
    rw [keptP_keep (by omega) (h j (by omega)), keptP_none (by omega) (fun k hk => h k (by omega)), List.take_succ_eq_append_getElem (by omega)]
    congr 2
    simp [show j < l.length by omega]
theorem keptP_all (p : Int → Bool) (l : PL) : keptP p l l.length = l.filter fun x => !p x.1 := by simp [keptP]

/-- A Pair lies at place k of some cells. -/
def PairAt (cs : Array Value) (k : Nat) (x : Int × Int) : Prop := cs[k * 2]? = some (.int .i64 x.1) ∧ cs[k * 2 + 1]? = some (.int .i64 x.2)
/-- Two stores: a Pair at place i. -/
def putP (cs : Array Value) (i : Nat) (x : Int × Int) : Array Value := (cs.setIfInBounds (i * 2) (.int .i64 x.1)).setIfInBounds (i * 2 + 1) (.int .i64 x.2)
theorem putP_same {cs : Array Value} {i : Nat} {x : Int × Int} (h : i * 2 + 1 < cs.size) : PairAt (putP cs i x) i x := by
  unfold putP
  constructor
  · rw [Array.getElem?_setIfInBounds_ne (by omega), Array.getElem?_setIfInBounds_self_of_lt (by omega)]
  · rw [Array.getElem?_setIfInBounds_self_of_lt (by simpa using h)]
theorem putP_other {cs : Array Value} {i k : Nat} {x y : Int × Int} (hk : k ≠ i) (h : PairAt cs k y) : PairAt (putP cs i x) k y := by
  unfold putP
  constructor
  · rw [Array.getElem?_setIfInBounds_ne (by omega), Array.getElem?_setIfInBounds_ne (by omega)]; exact h.1
  · rw [Array.getElem?_setIfInBounds_ne (by omega), Array.getElem?_setIfInBounds_ne (by omega)]; exact h.2

/-- The row while DeleteFunc turns it: i kept, j looked at. -/
structure DelP (w wr : World) (g N : Nat) (p : Int → Bool) (l : PL) (i j : Nat) : Prop where
  len : (keptP p l j).length = i
  lt : i < j
  o : Only (fun b => b = g) w wr
  row : ∃ cs, Blk wr g 31 cs ∧ cs.size = N ∧ (∀ k, k < i → PairAt cs k ((keptP p l j).getD k (0, 0))) ∧ ∀ k, j ≤ k → k < l.length → PairAt cs k (l.getD k (0, 0))
theorem DelP.start {w w1 : World} {g N : Nat} {p : Int → Bool} {l : PL} {cs : Array Value} (hb : Blk w g 31 cs) (o : Only0 w w1) (hN : cs.size = N) (hrow : ∀ k, k < l.length → PairAt cs k (l.getD k (0, 0))) {k : Nat} (hk : k < l.length) (hp : p (l.getD k (0, 0)).1 = true) (hn : ∀ j, j < k → p (l.getD j (0, 0)).1 = false) :
    DelP w w1 g N p l k (k + 1) := by
  have e : keptP p l (k + 1) = l.take k := by rw [keptP_drop hk hp, keptP_none (by omega) hn]
  refine ⟨by rw [e]; simp; omega, by omega, o.any _, cs, o.blk hb (fun h => h), hN, fun q hq => ?_, fun q _ hq => hrow q hq⟩
  have := hrow q (by omega)
  rw [e]
  simpa [List.getD_eq_getElem?_getD, List.getElem?_take, hq] using this
theorem DelP.only0 {w wr w2 : World} {g N : Nat} {p : Int → Bool} {l : PL} {i j : Nat} (h : DelP w wr g N p l i j) (o : Only0 wr w2) : DelP w w2 g N p l i j := by
  obtain ⟨cs, h1, h2⟩ := h.row
  exact ⟨h.len, h.lt, h.o.trans (o.any _), cs, o.blk h1 (fun h => h), h2⟩
theorem DelP.skip {w wr : World} {g N : Nat} {p : Int → Bool} {l : PL} {i j : Nat} (h : DelP w wr g N p l i j) (hj : j < l.length) (hp : p (l.getD j (0, 0)).1 = true) : DelP w wr g N p l i (j + 1) := by
  obtain ⟨cs, h1, h2, h3, h4⟩ := h.row
  exact ⟨by rw [keptP_drop hj hp]; exact h.len, by have := h.lt; omega, h.o, cs, h1, h2, by rw [keptP_drop hj hp]; exact h3, fun k hk hk2 => h4 k (by omega) hk2⟩
theorem DelP.keep {w wr : World} {g N : Nat} {p : Int → Bool} {l : PL} {i j : Nat} (h : DelP w wr g N p l i j) (hj : j < l.length) (hN : l.length * 2 ≤ N) (hp : p (l.getD j (0, 0)).1 = false) :
    DelP w ((wr.setCell ⟨g, i * 2, none⟩ (.int .i64 (l.getD j (0, 0)).1)).setCell ⟨g, i * 2 + 1, none⟩ (.int .i64 (l.getD j (0, 0)).2)) g N p l (i + 1) (j + 1) := by
  obtain ⟨cs, h1, h2, h3, h4⟩ := h.row
  have hlt := h.lt
  have hlen := h.len
  refine ⟨by rw [keptP_keep hj hp]; simp [hlen], by omega, (h.o.trans (Only.set1 wr g _ _)).trans (Only.set1 _ g _ _), putP cs i (l.getD j (0, 0)), (h1.set _ _).set _ _, by simpa [putP] using h2, fun k hk => ?_, fun k hk hk2 => putP_other (by omega) (h4 k (by omega) hk2)⟩
  rw [keptP_keep hj hp]
  by_cases e : k = i
  · subst e
    have : (keptP p l j ++ [l.getD j (0, 0)]).getD k (0, 0) = l.getD j (0, 0) := by simp [List.getD_eq_getElem?_getD, ← hlen]
    rw [this]
    exact putP_same (by omega)
  · have : (keptP p l j ++ [l.getD j (0, 0)]).getD k (0, 0) = (keptP p l j).getD k (0, 0) := by simp [List.getD_eq_getElem?_getD, List.getElem?_append_left (show k < (keptP p l j).length by omega)]
    rw [this]
    exact putP_other e (h3 k (by omega))
theorem DelP.cellJ {w wr : World} {g N : Nat} {p : Int → Bool} {l : PL} {i j : Nat} (h : DelP w wr g N p l i j) (hj : j < l.length) (hN : l.length * 2 ≤ N) :
    wr.cell? ⟨g, j * 2, none⟩ = some (.int .i64 (l.getD j (0, 0)).1) ∧ wr.cell? ⟨g, j * 2 + 1, none⟩ = some (.int .i64 (l.getD j (0, 0)).2) := by
  obtain ⟨cs, h1, h2, h3, h4⟩ := h.row
  have := h4 j (by omega) hj
  exact ⟨by rw [h1.cell]; exact this.1, by rw [h1.cell]; exact this.2⟩
theorem DelP.cellI {w wr : World} {g N : Nat} {p : Int → Bool} {l : PL} {i j : Nat} (h : DelP w wr g N p l i j) (hj : j < l.length) (hN : l.length * 2 ≤ N) :
    (∃ v, wr.cell? ⟨g, i * 2, none⟩ = some v) ∧ (∃ v, wr.cell? ⟨g, i * 2 + 1, none⟩ = some v) ∧ ∀ k, wr.frozen? ⟨g, k, none⟩ = false := by
  obtain ⟨cs, h1, h2, h3, h4⟩ := h.row
  have := h.lt
  refine ⟨⟨cs[i * 2]'(by omega), ?_⟩, ⟨cs[i * 2 + 1]'(by omega), ?_⟩, fun k => h1.free k⟩
  · rw [h1.cell]; simp
  · rw [h1.cell]; simp
theorem Blk.setCells {b : Nat} {t : TypeId} : ∀ (vs : List Value) (o : Nat) {w : World} {cs : Array Value}, Blk w b t cs → ∃ cs' : Array Value, Blk (w.setCells b o vs) b t cs' ∧ cs'.size = cs.size ∧ (∀ k, k < o → cs'[k]? = cs[k]?) ∧ Only (fun c => c = b) w (w.setCells b o vs)
  | [], o, w, cs, h => ⟨cs, h, rfl, fun _ _ => rfl, Only.refl _ w⟩
  | v :: r, o, w, cs, h => by
    obtain ⟨cs', h1, h2, h3, h4⟩ := Blk.setCells r (o + 1) (h.set o v)
    refine ⟨cs', h1, by simpa using h2, fun k hk => ?_, (Only.set1 w b o v).trans h4⟩
    rw [h3 k (by omega), Array.getElem?_setIfInBounds_ne (by omega)]
theorem pairCells_of {cs : Array Value} : ∀ {l : PL}, (∀ k, k < l.length → PairAt cs k (l.getD k (0, 0))) → cs.toList.take (l.length * 2) = pairCells l := by
  intro l h
  apply List.ext_getElem?
  intro t
  by_cases ht : t < l.length * 2
  · rw [List.getElem?_take_of_lt ht, Array.getElem?_toList]
    have G := pairCells_get l (t / 2) (by omega)
    have H := h (t / 2) (by omega)
    have : t = t / 2 * 2 ∨ t = t / 2 * 2 + 1 := by omega
    rcases this with e | e
    · rw [e]; exact H.1.trans G.1.symm
    · rw [e]; exact H.2.trans G.2.symm
  · rw [List.getElem?_eq_none (by simp; omega), List.getElem?_eq_none (by rw [pairCells_len]; omega)]
theorem PairAt.of_cells {cs : Array Value} {l : PL} (h : cs.toList.take (l.length * 2) = pairCells l) : ∀ k, k < l.length → PairAt cs k (l.getD k (0, 0)) := by
  intro k hk
  have G := pairCells_get l k hk
  rw [← h] at G
  constructor
  · have := G.1; rwa [List.getElem?_take_of_lt (by omega), Array.getElem?_toList] at this
  · have := G.2; rwa [List.getElem?_take_of_lt (by omega), Array.getElem?_toList] at this
theorem DelP.fin {w wr : World} {g N B : Nat} {c : Nat} {p : Int → Bool} {l : PL} {i : Nat} (h : DelP w wr g N p l i l.length) (hB : B ≤ g) (hN : N = c * 2) (hc : l.length ≤ c) (hm : c ≤ maxLen) (vs : List Value) :
    (wr.setCells g (i * 2) vs).ownsRow B 31 2 (.slice (some ⟨g, 0, none⟩) (l.filter fun x => !p x.1).length c) (l.filter fun x => !p x.1).length (pairCells (l.filter fun x => !p x.1)) ∧ (l.filter fun x => !p x.1).length = i ∧ Only (fun b => b = g) w (wr.setCells g (i * 2) vs) := by
  obtain ⟨cs, h1, h2, h3, h4⟩ := h.row
  obtain ⟨cs', k1, k2, k3, k4⟩ := Blk.setCells vs (i * 2) h1
  have hl := h.len
  have hil := h.lt
  rw [keptP_all] at hl h3
  refine ⟨⟨pairCells_len _, .inr ⟨g, c, cs', rfl, hB, k1, by omega, hm, by omega, pairCells_of (fun k hk => ?_)⟩⟩, hl, h.o.trans k4⟩
  have := h3 k (by omega)
  exact ⟨by rw [k3 _ (by omega)]; exact this.1, by rw [k3 _ (by omega)]; exact this.2⟩
theorem filterP_none {p : Int → Bool} {l : PL} (h : ∀ k, k < l.length → p (l.getD k (0, 0)).1 = false) : (l.filter fun x => !p x.1) = l := by
  rw [← keptP_all, keptP_none (Nat.le_refl _) h, List.take_length]

set_option maxRecDepth 100000 in
set_option maxHeartbeats 8000000 in
theorem del_pairs {B BR : Nat} {w : World} {P : Nat → Prop} {b : Nat} {s : Wr} {lo hi : Int} {n0 bm : Nat} (h : OvAt B w P b s lo hi n0) (hb : Blk w bm 71 #[mineV n0]) (hbm : bm < BR) (hn0 : n0 + 3 ≤ BR) (a : Option Addr) (c : Nat) (l : PL) (hown : w.ownsRow BR 31 2 (.slice a l.length c) l.length (pairCells l)) (hlen : l.length ≤ 1000000) :
    Calls Try.prog 21 #[.slice a l.length c, .func (.func 23) #[] #[.pointer (some ⟨bm, 0, none⟩)]] w fun e w' => ∃ a' c', e = .returned (.slice a' (l.filter fun x => !s.mine lo hi x.1).length c') ∧ w'.ownsRow BR 31 2 (.slice a' (l.filter fun x => !s.mine lo hi x.1).length c') (l.filter fun x => !s.mine lo hi x.1).length (pairCells (l.filter fun x => !s.mine lo hi x.1)) ∧ Only (fun x => BR ≤ x) w w' := by
  have CI := idx_pairs h hb a c l (PairsIn.of_own hown) hlen
  have HA := Lib.hid h
  have HB := Lib.hid hb
  have HO := Lib.hid hown
  clear h hb hown
  go_enter Try.func21, Try.ntmps21
  go_wp2_with fail
  refine CI.mono ?_
  rintro e w1 ⟨r, rfl, hh, o1⟩
  clear CI
  rcases hh with ⟨rfl, hn⟩ | ⟨k0, hk0, rfl, hp, hn⟩
  · have R := Lib.hid (show (l.filter fun x => !s.mine lo hi x.1) = l ∧ w1.ownsRow BR 31 2 (.slice a l.length c) l.length (pairCells l) from ⟨filterP_none hn, rows_only HO.out o1 (fun _ _ h => h)⟩)
    clear hn HA HB HO
    go_wp2_with fail
    go_ret
    rw [R.out.1]
    exact ⟨_, _, rfl, R.out.2, o1.any _⟩
  · obtain ⟨g, cap, cur, hv, hg, hgb, hnc, hcm, hcs, hct⟩ : ∃ g cap cur, Value.slice a l.length c = .slice (some ⟨g, 0, none⟩) l.length cap ∧ BR ≤ g ∧ w.heap[g]? = some (.cells cur 31 (0, 0)) ∧ l.length ≤ cap ∧ cap ≤ maxLen ∧ cur.size = cap * 2 ∧ cur.toList.take (l.length * 2) = pairCells l := by
      rcases HO.out.2 with ⟨_, h0⟩ | h
      · omega
      · exact h
    injection hv with hv1 hv2 hv3
    subst hv1 hv3
    have hD := Lib.hid (DelP.start (show Blk w g 31 cur from hgb) o1 hcs (PairAt.of_cells hct) hk0 hp hn)
    have hne : ((k0 : Int) == -1) = false := beq_eq_false_iff_ne.2 (by omega)
    have hlN : l.length * 2 ≤ c * 2 := by omega
    have HG := Lib.hid hg
    have hcm' : c ≤ 9223372036854775807 := by unfold maxLen at hcm; omega
    have HCM := Lib.hid hcm
    clear hp hn HO hgb hcs hct hcm o1
    go_wp2_with fail
    go_loopw [5, 6, 7] (fun s5 s6 s7 wr => ∃ (i j : Nat) (v : Value), s7 = v ∧ s5 = .int .i64 i ∧ s6 = .int .i64 j ∧ j ≤ l.length ∧ i < j ∧ Hid (DelP w wr g (c * 2) (s.mine lo hi) l i j)) (fun _ s6 _ _ => l.length - (intOf s6).toNat)
    case atStart => exact ⟨k0, k0 + 1, _, rfl, rfl, by go_num, by omega, by omega, hD⟩
    case round =>
      obtain ⟨i, j, v, rfl, rfl, rfl, hj, hij, HD⟩ := hrel
      by_cases hlt : j < l.length
      · have hC := HD.out.cellJ hlt hlN
        have oq : Only (fun x => BR ≤ x) w wr := HD.out.o.toward (fun x hx => by subst hx; exact HG.out)
        obtain ⟨W, hW⟩ : ∃ W, W = wr.alloc (.cells #[.int .i64 (l.getD j (0, 0)).1, .int .i64 (l.getD j (0, 0)).2] 31) := ⟨_, rfl⟩
        have oW : Only0 wr W := by rw [hW]; exact (Only0.refl wr).alloc _
        have hnb : Blk W wr.heap.size 31 #[.int .i64 (l.getD j (0, 0)).1, .int .i64 (l.getD j (0, 0)).2] := by rw [hW]; exact Blk.new _ _ _
        have C := pred_fn ((HA.out.only oq (fun x hx => by omega)).only0 oW) (oW.blk (oq.blk HB.out (fun hx => by omega)) (fun h => h)) (l.getD j (0, 0)).1 (l.getD j (0, 0)).2
        have DW := Lib.hid (HD.out.only0 oW)
        have HNB := Lib.hid hnb
        have HS := Lib.hid (fun (h : s.mine lo hi (l.getD j (0, 0)).1 = true) w2 (o2 : Only0 W w2) => (DW.out.only0 o2).skip hlt h)
        have HK := Lib.hid (fun (h : s.mine lo hi (l.getD j (0, 0)).1 = false) w2 (o2 : Only0 W w2) => (DW.out.only0 o2).keep hlt hlN h)
        have HI := Lib.hid (fun w2 (o2 : Only0 W w2) => (DW.out.only0 o2).cellI hlt hlN)
        obtain ⟨cj1, cj2⟩ := hC
        clear hD oq oW hnb HD
        cases hp : s.mine lo hi (l.getD j (0, 0)).1 with
        | true =>
          rw [hp] at C
          have R := Lib.hid (HS.out hp)
          clear HS HK HI hp DW HNB
          generalize (l.getD j (0, 0)).1 = x1 at *
          generalize (l.getD j (0, 0)).2 = x2 at *
          rw [hW] at C R
          clear hW
          go_wp2_with fail
          refine C.mono ?_
          rintro e w2 ⟨rfl, o2⟩
          go_wp2_with fail
          go_roundw
          case rel => exact ⟨i, j + 1, _, rfl, rfl, by go_num, by omega, by omega, Lib.hid (R.out w2 o2)⟩
          case measure => simp [intOf]; omega
        | false =>
          rw [hp] at C
          have R := Lib.hid (HK.out hp)
          clear HS HK hp DW
          generalize (l.getD j (0, 0)).1 = x1 at *
          generalize (l.getD j (0, 0)).2 = x2 at *
          rw [hW] at C R HI HNB
          clear hW
          go_wp2_with fail
          refine C.mono ?_
          rintro e w2 ⟨rfl, o2⟩
          obtain ⟨⟨v1, i1⟩, ⟨v2, i2⟩, fr⟩ := HI.out w2 o2
          have f1 := fr (i * 2)
          have f2 := fr (i * 2 + 1)
          have n1 : w2.cell? ⟨wr.heap.size, 0, none⟩ = some (.int .i64 x1) := (o2.blk HNB.out (fun h => h)).cell 0
          have n2 : w2.cell? ⟨wr.heap.size, 1, none⟩ = some (.int .i64 x2) := (o2.blk HNB.out (fun h => h)).cell 1
          have R2 := Lib.hid (R.out w2 o2)
          clear R HI fr C
          go_wp2_with fail
          go_roundw
          case rel => exact ⟨i + 1, j + 1, _, rfl, by go_num, by go_num, by omega, by omega, R2⟩
          case measure => simp [intOf]; omega
      · obtain rfl : j = l.length := by omega
        obtain ⟨cs1, b1, b2, -, -⟩ := HD.out.row
        obtain ⟨vs, hcl⟩ := run_clear_pairs wr 0 g (i * 2) (l.length - i) (c - i) (by omega) (fun q hq => by rw [b1.cell]; simp; omega) (fun q hq => b1.free _)
        have R := Lib.hid (HD.out.fin HG.out rfl hnc HCM.out vs)
        clear hD HD HA b1 b2
        go_wp2_with fail
        go_ret
        obtain ⟨R1, R2, R3⟩ := R.out
        exact ⟨_, c, by rw [R2]; rfl, R1, R3.toward (fun x hx => by subst hx; exact HG.out)⟩
end Go.Proofs.Ytldfkcldfjfohaa

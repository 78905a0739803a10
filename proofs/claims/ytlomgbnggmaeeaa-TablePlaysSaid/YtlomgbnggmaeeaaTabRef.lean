/-
  The document's Table (vinculumref3.Table): its struct, its row of transactions; there, Turn, End, Live, Oldest.
-/
import Derived.Test.YtlomgbnggmaeeaaLaw5d
import Derived.Laws.AppendOwn
namespace Go.Proofs.Ytlomgbnggmaeeaa
open Go.RowKit
set_option linter.unusedVariables false

def TX.row (x : TX) : List Value := [.int .i64 x.level, .int .i64 x.st, .int .u64 x.beg, .int .u64 x.en]
def txRows : List TX → List Value
  | [] => []
  | x :: l => x.row ++ txRows l
theorem txRows_len (l : List TX) : (txRows l).length = l.length * 4 := by
  induction l with
  | nil => rfl
  | cons x l ih => simp only [txRows, List.length_append, ih, List.length_cons, TX.row, List.length_nil]; omega
theorem txRows_append (a b : List TX) : txRows (a ++ b) = txRows a ++ txRows b := by
  induction a with
  | nil => rfl
  | cons x a ih => simp only [List.cons_append, txRows, ih, List.append_assoc]
theorem txRows_split (l : List TX) (i : Nat) (hi : i < l.length) : l = l.take i ++ l.getD i TX.zero :: l.drop (i + 1) := by
  have e : l.getD i TX.zero = l[i] := by simp [List.getD_eq_getElem?_getD, hi]
  rw [e, ← List.drop_eq_getElem_cons hi, List.take_append_drop]
theorem txRows_get (l : List TX) (i j : Nat) (hi : i < l.length) (hj : j < 4) : (txRows l)[i * 4 + j]? = (l.getD i TX.zero).row[j]? := by
  have hs := txRows_split l i hi
  have h1 : (txRows (l.take i)).length = i * 4 := by rw [txRows_len, List.length_take]; omega
  generalize l.getD i TX.zero = x at *
  rw [hs, txRows_append, List.getElem?_append_right (by omega), h1, show i * 4 + j - i * 4 = j by omega, txRows, List.getElem?_append_left (by simpa [TX.row] using hj)]
theorem txRows_set (l : List TX) (i j : Nat) (y : TX) (u : Value) (hi : i < l.length) (hj : j < 4) (hy : (l.getD i TX.zero).row.set j u = y.row) : (txRows l).set (i * 4 + j) u = txRows (l.set i y) := by
  have hs := txRows_split l i hi
  have h0 : (l.take i).length = i := by rw [List.length_take]; omega
  have h1 : (txRows (l.take i)).length = i * 4 := by rw [txRows_len, h0]
  generalize l.getD i TX.zero = x at *
  have e : l.set i y = l.take i ++ y :: l.drop (i + 1) := by
    conv => lhs; rw [hs]
    rw [List.set_append_right _ _ (by omega), h0]
    simp
  rw [e, txRows_append]
  conv => lhs; rw [hs]
  rw [txRows_append, List.set_append_right _ _ (by omega), h1, show i * 4 + j - i * 4 = j by omega]
  simp only [txRows]
  rw [List.set_append_left _ _ (by simpa [TX.row] using hj), hy]

/-- A cell of an owned row is written. -/
theorem own_set {w : World} {B n sz g m c : Nat} {e : TypeId} {xs : List Value} (h : w.ownsRow B e sz (.slice (some ⟨g, 0, none⟩) m c) n xs) (j : Nat) (u : Value) (hj : j < xs.length) : (w.setCell ⟨g, j, none⟩ u).ownsRow B e sz (.slice (some ⟨g, 0, none⟩) m c) n (xs.set j u) := by
  obtain ⟨h1, h2⟩ := h
  refine ⟨by rw [List.length_set]; exact h1, ?_⟩
  rcases h2 with ⟨h2, _⟩ | ⟨g', cap, cur, hv, hg, hh, k1, k2, k3, k4⟩
  · cases h2
  · injection hv with hv h4 h5
    injection hv with hv
    injection hv with hv
    subst hv
    have hb : Blk w g e cur := hh
    have hb' := hb.set j u
    refine .inr ⟨g, cap, _, by rw [h4, h5], hg, hb', k1, k2, by simpa using k3, ?_⟩
    rw [Array.toList_setIfInBounds, List.take_set, k4]

/-- The document's Table. -/
structure RT (B : Nat) (w : World) (r : Nat) (v : Value) (most : Int) (ts : List TX) : Prop where
  head : Blk w r 31 #[.int .i64 most, v]
  row : w.ownsRow B 44 4 v ts.length (txRows ts)
  br : B ≤ r
  small : ts.length ≤ 65535
def RFoot (r : Nat) (v : Value) : Nat → Prop := fun k => k = r ∨ v.ownBlock = some k
theorem rows_only4 {B n sz : Nat} {w w' : World} {e : TypeId} {v : Value} {xs : List Value} {S : Nat → Prop} (h : w.ownsRow B e sz v n xs) (ho : Only S w w') (hs : ∀ k, v.ownBlock = some k → ¬ S k) : w'.ownsRow B e sz v n xs := by
  obtain ⟨h1, h2⟩ := h
  refine ⟨h1, ?_⟩
  rcases h2 with h2 | ⟨g, cap, cur, rfl, hg, hh, r⟩
  · exact .inl h2
  · exact .inr ⟨g, cap, cur, rfl, hg, by rw [ho.block g (lt_of_block hh) (hs g rfl)]; exact hh, r⟩
theorem RT.only {B : Nat} {w w' : World} {r : Nat} {v : Value} {most : Int} {ts : List TX} {S : Nat → Prop} (h : RT B w r v most ts) (ho : Only S w w') (hs : ∀ k, RFoot r v k → ¬ S k) : RT B w' r v most ts :=
  ⟨ho.blk h.head (hs _ (.inl rfl)), rows_only4 h.row ho (fun k hk => hs k (.inr hk)), h.br, h.small⟩
theorem RT.nil_or {B : Nat} {w : World} {r : Nat} {v : Value} {most : Int} {ts : List TX} (h : RT B w r v most ts) : ∃ ao cap, v = .slice ao ts.length cap := by
  obtain ⟨h1, h2⟩ := h.row
  rcases h2 with ⟨rfl, h0⟩ | ⟨g, cap, cur, rfl, hg, hh, r⟩
  · exact ⟨none, 0, by rw [h0]⟩
  · exact ⟨_, cap, rfl⟩
theorem RT.c0 {B : Nat} {w : World} {r : Nat} {v : Value} {most : Int} {ts : List TX} (h : RT B w r v most ts) : w.cell? ⟨r, 0, none⟩ = some (.int .i64 most) := by rw [h.head.cell]; rfl
theorem RT.c1 {B : Nat} {w : World} {r : Nat} {v : Value} {most : Int} {ts : List TX} (h : RT B w r v most ts) : w.cell? ⟨r, 1, none⟩ = some v := by rw [h.head.cell]; rfl
/-- The i-th transaction's cells. -/
theorem RT.cell {B : Nat} {w : World} {r : Nat} {v : Value} {most : Int} {ts : List TX} (h : RT B w r v most ts) (i : Nat) (hi : i < ts.length) :
    ∃ g cap, v = .slice (some ⟨g, 0, none⟩) ts.length cap ∧ g ≠ r ∧ (∀ j, j < 4 → w.cell? ⟨g, i * 4 + j, none⟩ = (ts.getD i TX.zero).row[j]?) ∧ ∀ j, w.frozen? ⟨g, j, none⟩ = false := by
  obtain ⟨h1, h2⟩ := h.row
  rcases h2 with ⟨_, h0⟩ | ⟨g, cap, cur, rfl, hg, hh, k1, k2, k3, k4⟩
  · omega
  · have hb : Blk w g 44 cur := hh
    refine ⟨g, cap, rfl, hb.ne_ h.head (by decide), fun j hj => ?_, fun j => hb.free j⟩
    rw [hb.cell, ← txRows_get ts i j hi hj, ← k4, List.getElem?_take_of_lt (by omega)]
    simp
theorem tx_row4 {w : World} {g i : Nat} {x : TX} (h : ∀ j, j < 4 → w.cell? ⟨g, i * 4 + j, none⟩ = x.row[j]?) : w.cell? ⟨g, i * 4, none⟩ = some (.int .i64 x.level) ∧ w.cell? ⟨g, i * 4 + 1, none⟩ = some (.int .i64 x.st) ∧ w.cell? ⟨g, i * 4 + 2, none⟩ = some (.int .u64 x.beg) ∧ w.cell? ⟨g, i * 4 + 3, none⟩ = some (.int .u64 x.en) :=
  ⟨h 0 (by omega), h 1 (by omega), h 2 (by omega), h 3 (by omega)⟩
theorem RT.put {B : Nat} {w : World} {r g cap : Nat} {most : Int} {ts : List TX} (h : RT B w r (.slice (some ⟨g, 0, none⟩) ts.length cap) most ts) (i j : Nat) (hi : i < ts.length) (hj : j < 4) (y : TX) (u : Value) (hy : (ts.getD i TX.zero).row.set j u = y.row) :
    RT B (w.setCell ⟨g, i * 4 + j, none⟩ u) r (.slice (some ⟨g, 0, none⟩) ts.length cap) most (ts.set i y) := by
  obtain ⟨g', cap', hv, hne, _, _⟩ := h.cell i hi
  injection hv with hv
  injection hv with hv
  injection hv with hv
  subst hv
  refine ⟨h.head.other _ _ (fun e => hne e.symm), ?_, h.br, by rw [List.length_set]; exact h.small⟩
  have := own_set h.row (i * 4 + j) u (by rw [txRows_len]; omega)
  rw [txRows_set ts i j y u hi hj hy] at this
  rw [List.length_set]
  exact this

set_option maxHeartbeats 400000 in
theorem rt_there {B : Nat} {w : World} {r : Nat} {v : Value} {most : Int} {ts : List TX} (h : RT B w r v most ts) (id : Int) :
    Calls Try.prog 24 #[ptr r, .int .i64 id] w fun e w' => e = .returned (.bool (decide (1 ≤ id) && decide (id ≤ (ts.length : Int)))) ∧ w = w' := by
  obtain ⟨ao, cap, hv⟩ := h.nil_or
  have c1 := h.c1
  rw [hv] at c1
  have hs := h.small
  unfold ptr
  by_cases h1 : 1 ≤ id
  · go_enter Try.func24, Try.ntmps24
    go_wp2_with fail
    go_ret
    exact ⟨ret_bool (by simp [h1]), rfl⟩
  · go_enter Try.func24, Try.ntmps24
    go_wp2_with fail
    go_ret
    exact ⟨ret_bool (by simp; omega), rfl⟩

set_option maxHeartbeats 800000 in
theorem rt_turn {B : Nat} {w : World} {r : Nat} {v : Value} {most : Int} {ts : List TX} (h : RT B w r v most ts) (id to : Int) :
    Calls Try.prog 9 #[ptr r, .int .i64 id, .int .i64 to] w fun e w' => e = .returned (.int .i64 (turnErr ts id to)) ∧ RT B w' r v most (turnTs ts id to) ∧ Only (RFoot r v) w w' := by
  have hth := rt_there h id
  have hs := h.small
  have c1 := h.c1
  rcases tget_cases ts id with ⟨h0, h1, hg⟩ | ⟨hi, hg⟩
  · obtain ⟨i, rfl⟩ : ∃ i : Nat, id = (i : Int) + 1 := ⟨(id - 1).toNat, by omega⟩
    have hil : i < ts.length := by omega
    have e : ((i : Int) + 1 - 1).toNat = i := by omega
    obtain ⟨g, cap, rfl, hne, hc, hf⟩ := h.cell i hil
    have hput := fun y u => h.put i 1 hil (by omega) y u
    rw [show (decide (1 ≤ (i : Int) + 1) && decide ((i : Int) + 1 ≤ (ts.length : Int))) = true by simp; omega] at hth
    unfold turnErr turnTs
    rw [hg, e]
    dsimp only
    unfold tput
    rw [e]
    generalize ts.getD i TX.zero = x at *
    obtain ⟨q0, q1, q2, q3⟩ := tx_row4 hc
    have f1 := hf (i * 4 + 1)
    have o1 : Only (RFoot r (.slice (some ⟨g, 0, none⟩) ts.length cap)) w (w.setCell ⟨g, i * 4 + 1, none⟩ (.int .i64 to)) := (Only.refl _ w).setCell (p := ⟨g, i * 4 + 1, none⟩) (fun _ => .inr rfl) _
    cases hcn : can x.st to with
    | true =>
      have hcan := can_ref x.st to w
      rw [hcn] at hcan
      have hT := hput { x with st := to } (.int .i64 to) rfl
      generalize x.st = x1 at *
      rw [if_pos rfl, if_pos rfl]
      have HT := Lib.hid hT
      have HO := Lib.hid o1
      clear hT o1 hput h hc hf hcn e hg q0 q2 q3 hne
      unfold ptr at *
      go_enter Try.func9, Try.ntmps9
      go_wp2_with fail
      refine hth.mono ?_
      rintro e w1 ⟨rfl, rfl⟩
      go_wp2_with fail
      refine hcan.mono ?_
      rintro e w1 ⟨rfl, rfl⟩
      go_wp2_with fail
      go_ret
      exact ⟨rfl, HT.out, HO.out⟩
    | false =>
      have hcan := can_ref x.st to w
      rw [hcn] at hcan
      generalize x.st = x1 at *
      rw [if_neg (by simp), if_neg (by simp)]
      have HT := Lib.hid h
      clear o1 hput h hc hf hcn e hg q0 q2 q3 hne
      unfold ptr at *
      go_enter Try.func9, Try.ntmps9
      go_wp2_with fail
      refine hth.mono ?_
      rintro e w1 ⟨rfl, rfl⟩
      go_wp2_with fail
      refine hcan.mono ?_
      rintro e w1 ⟨rfl, rfl⟩
      go_wp2_with fail
      go_ret
      exact ⟨rfl, HT.out, Only.refl _ _⟩
  · rw [show (decide (1 ≤ id) && decide (id ≤ (ts.length : Int))) = false by simp; omega] at hth
    unfold turnErr turnTs
    rw [hg]
    dsimp only
    have HT := Lib.hid h
    clear h c1
    unfold ptr at *
    go_enter Try.func9, Try.ntmps9
    go_wp2_with fail
    refine hth.mono ?_
    rintro e w1 ⟨rfl, rfl⟩
    go_wp2_with fail
    go_ret
    exact ⟨rfl, HT.out, Only.refl _ _⟩
end Go.Proofs.Ytlomgbnggmaeeaa

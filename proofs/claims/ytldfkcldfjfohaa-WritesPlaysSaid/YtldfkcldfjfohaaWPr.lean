/-
  Pairs in memory; slices.Contains over integers; vinculumref1.SamePairs.
-/
import Derived.Test.YtldfkcldfjfohaaInts
import Derived.Test.YtldfkcldfjfohaaOpen
import Derived.Test.YtldfkcldfjfohaaSep
import Derived.Deep.QuietTactic
import Derived.BigQuiet
import Derived.Laws.StructEq
import Derived.Laws.AppendOwn
namespace Go.Proofs.Ytldfkcldfjfohaa
open Go.RowKit
set_option linter.unusedVariables false
set_option linter.unusedSimpArgs false

def missUpto (xs : List Int) (x : Int) (k : Nat) : Prop := ∀ j, j < k → xs.getD j 0 ≠ x
theorem miss_all {xs : List Int} {x : Int} (h : missUpto xs x xs.length) : x ∉ xs := by
  intro hm
  obtain ⟨i, hi, rfl⟩ := List.getElem_of_mem hm
  exact h i hi (by simp [List.getD_eq_getElem?_getD, List.getElem?_eq_getElem hi])
theorem miss_succ {xs : List Int} {x : Int} {k : Nat} (h : missUpto xs x k) (h1 : xs.getD k 0 ≠ x) : missUpto xs x (k + 1) := by
  intro j hj
  rcases Nat.lt_succ_iff_lt_or_eq.mp hj with hj | rfl
  · exact h j hj
  · exact h1
theorem index_hit {xs : List Int} {x : Int} {k : Nat} (h : missUpto xs x k) (hk : k < xs.length) (h1 : xs.getD k 0 = x) : x ∈ xs := by
  rw [← h1, List.getD_eq_getElem?_getD, List.getElem?_eq_getElem hk]; exact List.getElem_mem _

set_option maxHeartbeats 2000000 in
/-- slices.Index: told is a place that is not below 0 just if x is in the row. -/
theorem index_any (a : Option Addr) (c : Nat) (xs : List Int) (x : Int) (w : World) (hx : Ints .i64 w a xs) (lx : xs.length ≤ 1000000000) :
    Calls Try.prog 29 #[.slice a xs.length c, .int .i64 x] w fun e w' => (∃ r : Int, e = .returned (.int .i64 r) ∧ decide (0 ≤ r) = decide (x ∈ xs)) ∧ w = w' := by
  go_enter Try.func29, Try.ntmps29
  go_wp2_with fail
  go_loopw [8] (fun i wr => ∃ k : Nat, k ≤ xs.length ∧ i = .int .i64 k ∧ missUpto xs x k ∧ w = wr) (fun i _ => xs.length - (intOf i).toNat)
  case atStart => exact ⟨0, Nat.zero_le _, rfl, fun j hj => absurd hj (by omega), rfl⟩
  case round =>
    obtain ⟨k, hk, rfl, hm, rfl⟩ := hrel
    have HM := Lib.hid hm
    clear hm
    by_cases hlt : k < xs.length
    · obtain ⟨b, off, rfl, hc⟩ := hx.at (by omega)
      have hc0 := hc k hlt
      have HX := Lib.hid hx
      clear hc hx
      obtain ⟨y, hy⟩ : ∃ y, y = xs.getD k 0 := ⟨_, rfl⟩
      rw [← hy] at hc0
      have HY := Lib.hid hy
      clear hy
      by_cases he : x = y
      · subst he
        go_wp2_with fail
        go_ret
        exact ⟨⟨_, rfl, by simp [index_hit HM.out hlt HY.out.symm]⟩, rfl⟩
      · go_wp2_with fail
        go_roundw
        case rel => exact ⟨k + 1, by omega, by go_num, miss_succ HM.out (fun h => he (by rw [HY.out, h])), trivial⟩
        case measure => simp [intOf]; omega
    · obtain rfl : k = xs.length := by omega
      clear hx
      go_wp2_with fail
      go_ret
      exact ⟨⟨_, rfl, by simp [miss_all HM.out]⟩, rfl⟩

set_option maxHeartbeats 2000000 in
theorem contains_any (a : Option Addr) (c : Nat) (xs : List Int) (x : Int) (w : World) (hx : Ints .i64 w a xs) (lx : xs.length ≤ 1000000000) :
    Calls Try.prog 20 #[.slice a xs.length c, .int .i64 x] w fun e w' => e = .returned (.bool (decide (x ∈ xs))) ∧ w = w' := by
  have H := index_any a c xs x w hx lx
  go_enter Try.func20, Try.ntmps20
  go_wp2_with fail
  refine H.mono ?_
  rintro e w1 ⟨⟨r, rfl, hr⟩, rfl⟩
  have HR := Lib.hid hr
  clear hr H
  go_wp2_with fail
  go_ret
  exact ⟨ret_bool HR.out, rfl⟩

def pairCells : List (Int × Int) → List Value
  | [] => []
  | p :: l => .int .i64 p.1 :: .int .i64 p.2 :: pairCells l
theorem pairCells_len (l : List (Int × Int)) : (pairCells l).length = l.length * 2 := by
  induction l with
  | nil => rfl
  | cons a l ih => simp only [pairCells, List.length_cons, ih]; omega
theorem pairCells_snoc (l : List (Int × Int)) (p : Int × Int) : pairCells (l ++ [p]) = pairCells l ++ [.int .i64 p.1, .int .i64 p.2] := by
  induction l with
  | nil => rfl
  | cons a l ih => simp only [List.cons_append, pairCells, ih]
theorem pairCells_get (l : List (Int × Int)) : ∀ i, i < l.length → (pairCells l)[i * 2]? = some (.int .i64 (l.getD i (0, 0)).1) ∧ (pairCells l)[i * 2 + 1]? = some (.int .i64 (l.getD i (0, 0)).2) := by
  induction l with
  | nil => intro i hi; simp at hi
  | cons a l ih =>
    intro i hi
    cases i with
    | zero => exact ⟨rfl, rfl⟩
    | succ i =>
      have := ih i (by simpa using hi)
      have e1 : (i + 1) * 2 = i * 2 + 2 := by omega
      have e2 : (i + 1) * 2 + 1 = i * 2 + 1 + 2 := by omega
      simp only [pairCells, e1, e2, List.getElem?_cons_succ, List.getD_cons_succ]
      exact this
/-- At an address lie pairs. -/
def PairsIn (w : World) (a : Option Addr) (ps : List (Int × Int)) : Prop :=
  ps = [] ∨ ∃ b off, a = some ⟨b, off, none⟩ ∧ ∀ i, i < ps.length → w.cell? ⟨b, off + i * 2, none⟩ = some (.int .i64 (ps.getD i (0, 0)).1) ∧ w.cell? ⟨b, off + (i * 2 + 1), none⟩ = some (.int .i64 (ps.getD i (0, 0)).2)
theorem PairsIn.only {w w' : World} {a : Option Addr} {ps : List (Int × Int)} {S : Nat → Prop} (h : PairsIn w a ps) (o : Only S w w') (hs : ∀ x, a = some x → ¬ S x.block) : PairsIn w' a ps := by
  rcases h with rfl | ⟨b, off, rfl, hc⟩
  · exact .inl rfl
  · refine .inr ⟨b, off, rfl, fun i hi => ?_⟩
    have hlt := block_lt_of_cell (hc i hi).1
    have e := o.block b hlt (hs _ rfl)
    exact ⟨(World.cell?_of_block e).trans (hc i hi).1, (World.cell?_of_block e).trans (hc i hi).2⟩
theorem PairsIn.of_own {B n c : Nat} {w : World} {a : Option Addr} {ps : List (Int × Int)} (h : w.ownsRow B 31 2 (.slice a n c) ps.length (pairCells ps)) : PairsIn w a ps := by
  rcases h.2 with ⟨_, h0⟩ | ⟨g, cap, cur, hv, _⟩
  · exact .inl (List.eq_nil_of_length_eq_zero h0)
  · injection hv with h1 h2 h3
    subst h1 h2 h3
    refine .inr ⟨g, 0, rfl, fun i hi => ?_⟩
    have G := pairCells_get ps i hi
    have e0 := h.cellAt (i * 2) (by omega)
    have e1 := h.cellAt (i * 2 + 1) (by omega)
    rw [Nat.zero_add, Nat.zero_add]
    exact ⟨e0.trans G.1, e1.trans G.2⟩
set_option maxRecDepth 100000 in
theorem info_pair : (Try.prog.info? 31).map (fun i => (i.zero, i.size, i.bytes)) = some (some (.agg #[.int .i64 0, .int .i64 0]), 2, 16) := by kernel_rfl
theorem ints_of_own {B n kc : Nat} {w : World} {e : TypeId} {k : IntKind} {ka : Option Addr} {xs : List Int} (h : w.ownsRow B e 1 (.slice ka n kc) n (xs.map (Value.int k))) : Ints k w ka xs := by
  have hl : xs.length = n := by have := h.1; simpa using this
  rcases h.2 with ⟨_, h0⟩ | ⟨g, cap, cur, hv, _⟩
  · left; exact List.eq_nil_of_length_eq_zero (by omega)
  · right
    injection hv with ha hn hc
    subst ha
    refine ⟨g, 0, rfl, fun i hi => ?_⟩
    rw [Nat.zero_add, h.cellAt i (by omega), List.getElem?_map, List.getElem?_eq_getElem hi, List.getD_eq_getElem?_getD, List.getElem?_eq_getElem hi]
    rfl

theorem Only.set1 (w : World) (b o : Nat) (v : Value) : Only (fun c => c = b) w (w.setCell ⟨b, o, none⟩ v) := Only.setCell (S := fun c => c = b) (Only.refl _ w) (p := ⟨b, o, none⟩) (fun _ => rfl) v
theorem Grew.base {N M : Nat} {P P' : Nat → Prop} (h : Grew M P P') (hN : N ≤ M) : Grew N P P' := fun b hb => (h b hb).imp id (fun hh => Nat.le_trans hN hh)
theorem Only.grewTrans {P P2 : Nat → Prop} {w w2 w3 : World} (h : Only P w w2) (g : Grew w.heap.size P P2) (h' : Only P2 w2 w3) : Only P w w3 :=
  ⟨h'.os.trans h.os, h'.tape.trans h.tape, h'.output.trans h.output, Nat.le_trans h.size h'.size, fun k hk hn => (h'.block k (Nat.lt_of_lt_of_le hk h.size) (fun hp => by
    rcases g k hp with h1 | h1
    · exact hn h1
    · omega)).trans (h.block k hk hn)⟩
theorem Only.grownS {S : Nat → Prop} {a w w' : World} {row : Option Nat} (h : Only S a w) (hg : w.grownBy w' row) (hr : ∀ k, row = some k → S k) : Only S a w' := by
  refine ⟨hg.os.trans h.os, hg.tape.trans h.tape, hg.output.trans h.output, Nat.le_trans h.size hg.size, fun k hk hn => ?_⟩
  rw [hg.block k (Nat.lt_of_lt_of_le hk h.size) (fun e => hn (hr k e.symm))]
  exact h.block k hk hn
theorem info_int : (Try.prog.info? 3).map (fun i => (i.zero, i.size, i.bytes)) = some (some (.int .i64 0), 1, 8) := by kernel_rfl

theorem ownsRow_only {B : Nat} {w w' : World} {e : TypeId} {v : Value} {n : Nat} {xs : List Value} {S : Nat → Prop} (h : w.ownsRow B e 1 v n xs) (ho : Only S w w') (hs : ∀ k, v.ownBlock = some k → ¬ S k) : w'.ownsRow B e 1 v n xs := by
  obtain ⟨h1, h2⟩ := h
  refine ⟨h1, ?_⟩
  rcases h2 with h2 | ⟨g, cap, cur, rfl, hg, hh, r⟩
  · exact .inl h2
  · exact .inr ⟨g, cap, cur, rfl, hg, by rw [ho.block g (lt_of_block hh) (hs g rfl)]; exact hh, r⟩

theorem own_ne {B : Nat} {w : World} {e t : TypeId} {v : Value} {n b : Nat} {xs : List Value} {cs : Array Value} (h : w.ownsRow B e 1 v n xs) (hb : Blk w b t cs) (hne : e ≠ t) : v.ownBlock ≠ some b := by
  rcases h.2 with ⟨rfl, _⟩ | ⟨g, cap, cur, rfl, hg, hh, r⟩
  · simp [Value.ownBlock]
  · intro hk
    have : g = b := by simpa [Value.ownBlock] using hk
    subst this
    exact hne (Blk.inj (show Blk w g _ cur from hh) hb).2
set_option maxRecDepth 100000 in
theorem part0 (a b : Int) (w : World) : (part 3 #[.int .i64 a, .int .i64 b] 0).run Try.prog w = .ok (.int .i64 a) w := by kernel_rfl
set_option maxRecDepth 100000 in
theorem part1 (a b : Int) (w : World) : (part 3 #[.int .i64 a, .int .i64 b] 1).run Try.prog w = .ok (.int .i64 b) w := by kernel_rfl
set_option maxRecDepth 100000 in
theorem stood_pair : Try.prog.stoodInHeld 31 = false := by kernel_rfl
set_option maxRecDepth 100000 in
theorem fields_pair : Try.prog.underlying 31 = some (.struct (Try.prog.fieldsOf 31)) := by kernel_rfl
set_option maxRecDepth 100000 in
theorem guardt_pair : Try.prog.eqGuardType Try.prog.depth 31 = false := by kernel_rfl
set_option maxRecDepth 100000 in
set_option maxHeartbeats 1000000 in
theorem pair_neq (a b c d : Int) (w : World) : (binOp .neq 31 (.agg #[.int .i64 a, .int .i64 b]) (.agg #[.int .i64 c, .int .i64 d])).run Try.prog w = .ok (.bool (!(decide (a = c) && decide (b = d)))) w := by
  rw [run_neq_struct, run_equalIn_agg w 9999 _ _ _ fields_pair stood_pair]
  have e : ∀ (x y : Int), (Op.equalIn 9999 3 (.int .i64 x) (.int .i64 y)).run Try.prog w = .ok (x == y) w := fun x y => run_equalIn_int w 9998 _ _ _ x y Try.underlying3
  unfold Program.fieldsOf
  rw [Try.underlying31]
  by_cases e1 : a = c <;> by_cases e2 : b = d <;> simp [Op.eqFields, part0, part1, e, e1, e2, Result.andThen]
set_option maxRecDepth 100000 in
set_option maxHeartbeats 1000000 in
theorem pair_equalIn (a b c d : Int) (w : World) : (Op.equalIn 10000 31 (.agg #[.int .i64 a, .int .i64 b]) (.agg #[.int .i64 c, .int .i64 d])).run Try.prog w = .ok (decide (a = c) && decide (b = d)) w := by
  rw [run_equalIn_agg w 9999 _ _ _ fields_pair stood_pair]
  have e : ∀ (x y : Int), (Op.equalIn 9999 3 (.int .i64 x) (.int .i64 y)).run Try.prog w = .ok (x == y) w := fun x y => run_equalIn_int w 9998 _ _ _ x y Try.underlying3
  unfold Program.fieldsOf
  rw [Try.underlying31]
  by_cases e1 : a = c <;> by_cases e2 : b = d <;> simp [Op.eqFields, part0, part1, e, e1, e2, Result.andThen]
theorem PairsIn.at {w : World} {a : Option Addr} {ps : List (Int × Int)} (h : PairsIn w a ps) (hn : 0 < ps.length) :
    ∃ b off, a = some ⟨b, off, none⟩ ∧ ∀ i, i < ps.length → w.cell? ⟨b, off + i * 2, none⟩ = some (.int .i64 (ps.getD i (0, 0)).1) ∧ w.cell? ⟨b, off + (i * 2 + 1), none⟩ = some (.int .i64 (ps.getD i (0, 0)).2) := by
  rcases h with rfl | h
  · simp at hn
  · exact h
def uptoP (xs ys : List (Int × Int)) (k : Nat) : Prop := ∀ j, j < k → xs.getD j (0, 0) = ys.getD j (0, 0)
theorem uptoP_all {xs ys : List (Int × Int)} (h : xs.length = ys.length) (hu : uptoP xs ys xs.length) : xs = ys := by
  apply List.ext_getElem h
  intro i h1 h2
  have := hu i h1
  simpa [List.getD_eq_getElem?_getD, h1, h2] using this
theorem uptoP_succ {xs ys : List (Int × Int)} {k : Nat} (h : uptoP xs ys k) (h1 : xs.getD k (0, 0) = ys.getD k (0, 0)) : uptoP xs ys (k + 1) := by
  intro j hj
  rcases Nat.lt_or_ge j k with h2 | h2
  · exact h j h2
  · obtain rfl : j = k := by omega
    exact h1
set_option maxRecDepth 100000 in
set_option maxHeartbeats 4000000 in
theorem samePairs_any (a a' : Option Addr) (c c' : Nat) (xs ys : List (Int × Int)) (w : World) (hx : PairsIn w a xs) (hy : PairsIn w a' ys) (lx : xs.length ≤ 1000000) (ly : ys.length ≤ 1000000) :
    Calls Try.prog 11 #[.slice a xs.length c, .slice a' ys.length c'] w fun e w' => e = .returned (.bool (decide (xs = ys))) ∧ ∃ n, w' = w.drewN n := by
  by_cases hl : xs.length = ys.length
  · have hl1 : ((xs.length : Int) != (ys.length : Int)) = false := by simp [hl]
    have H := Lib.hid hl
    clear hl
    go_enter Try.func11, Try.ntmps11
    go_wp2_with fail
    go_loopw [5] (fun i wr => ∃ k m : Nat, k ≤ xs.length ∧ i = .int .i64 k ∧ wr = w.drewN m ∧ Hid (uptoP xs ys k)) (fun i _ => xs.length - (intOf i).toNat)
    case atStart => exact ⟨0, 0, Nat.zero_le _, rfl, rfl, Lib.hid (fun j hj => by omega)⟩
    case round =>
      obtain ⟨k, m, hk, rfl, rfl, HU⟩ := hrel
      by_cases hlt : k < xs.length
      · have hly : k < ys.length := by have := H.out; omega
        obtain ⟨b, off, rfl, hc⟩ := hx.at (by omega)
        obtain ⟨b', off', rfl, hc'⟩ := hy.at (by omega)
        obtain ⟨h1, h1'⟩ := hc k hlt
        obtain ⟨h2, h2'⟩ := hc' k hly
        have U1 := Lib.hid (show xs.getD k (0, 0) = ys.getD k (0, 0) → uptoP xs ys (k + 1) from fun e => uptoP_succ HU.out e)
        have U2 := Lib.hid (show xs.getD k (0, 0) ≠ ys.getD k (0, 0) → decide (xs = ys) = false from fun e => decide_eq_false (fun e' => e (by rw [e'])))
        generalize xs.getD k (0, 0) = x at h1 h1' U1 U2
        generalize ys.getD k (0, 0) = y at h2 h2' U1 U2
        obtain ⟨x1, x2⟩ := x
        obtain ⟨y1, y2⟩ := y
        have hq : ∀ n, (binOp .neq 31 (.agg #[.int .i64 x1, .int .i64 x2]) (.agg #[.int .i64 y1, .int .i64 y2])).run Try.prog ((w.drewN m).drewN n) = .ok (.bool (!(decide (x1 = y1) && decide (x2 = y2)))) ((w.drewN m).drewN n) := fun n => pair_neq _ _ _ _ _
        have hq2 : ∀ n, (Op.equalIn 10000 31 (.agg #[.int .i64 x1, .int .i64 x2]) (.agg #[.int .i64 y1, .int .i64 y2])).run Try.prog ((w.drewN m).drewN n) = .ok (decide (x1 = y1) && decide (x2 = y2)) ((w.drewN m).drewN n) := fun n => pair_equalIn _ _ _ _ _
        have hg := guardt_pair
        clear hc hc'
        dsimp only at h1 h1' h2 h2'
        rw [← Nat.add_assoc] at h1' h2'
        by_cases exy : x1 = y1 ∧ x2 = y2
        · obtain ⟨rfl, rfl⟩ := exy
          have U4 := Lib.hid (U1.out rfl)
          simp only [decide_true, Bool.and_self, Bool.not_true] at hq hq2
          clear U1 U2 HU
          go_wp2_with fail
          go_quiet (fail)
          go_wp2_with fail
          go_roundw
          case rel => exact ⟨k + 1, _, by omega, by go_num, rfl, U4⟩
          case measure => simp [intOf]; omega
        · have U4 := Lib.hid (U2.out (fun e => exy (by injection e with e1 e2; exact ⟨e1, e2⟩)))
          have eb : (decide (x1 = y1) && decide (x2 = y2)) = false := by simpa using exy
          rw [eb] at hq hq2
          have hd : (x1 == y1) = false ∨ (x1 = y1 ∧ (x2 == y2) = false) := by
            by_cases e1 : x1 = y1
            · exact .inr ⟨e1, by simpa using fun e2 => exy ⟨e1, e2⟩⟩
            · exact .inl (by simpa using e1)
          clear U1 U2 HU exy eb
          rcases hd with hd | ⟨rfl, hd⟩
          all_goals
            go_wp2_with fail
            go_quiet (fail)
            go_wp2_with fail
            go_ret
            exact ⟨ret_bool (by rw [U4.out]), _, World.drewN_drewN _ _ _⟩
      · obtain rfl : k = xs.length := by omega
        have U3 := Lib.hid (show decide (xs = ys) = true from decide_eq_true (uptoP_all H.out HU.out))
        go_wp2_with fail
        go_ret
        exact ⟨ret_bool (by rw [U3.out]), _, rfl⟩
  · have hl1 : ((xs.length : Int) != (ys.length : Int)) = true := by simp; omega
    have U3 := Lib.hid (show decide (xs = ys) = false from decide_eq_false (fun e => hl (by rw [e])))
    clear hl
    go_enter Try.func11, Try.ntmps11
    go_wp2_with fail
    go_ret
    exact ⟨ret_bool (by rw [U3.out]), 0, rfl⟩
end Go.Proofs.Ytldfkcldfjfohaa

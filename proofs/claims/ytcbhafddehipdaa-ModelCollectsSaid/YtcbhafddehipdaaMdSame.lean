/-
  vinculumref1.SamePairs, SameResult.
-/
import Derived.Test.YtcbhafddehipdaaMdPairs
import Derived.Deep.QuietTactic
import Derived.BigQuiet
namespace Go.Proofs.Ytcbhafddehipdaa
open Go.RowKit
set_option linter.unusedVariables false
set_option linter.unusedSimpArgs false

set_option maxRecDepth 100000 in
theorem part0 (a b : Int) (w : World) : (part 3 #[.int .i64 a, .int .i64 b] 0).run Try.prog w = .ok (.int .i64 a) w := by kernel_rfl
set_option maxRecDepth 100000 in
theorem part1 (a b : Int) (w : World) : (part 3 #[.int .i64 a, .int .i64 b] 1).run Try.prog w = .ok (.int .i64 b) w := by kernel_rfl
set_option maxRecDepth 100000 in
theorem stood_pair : Try.prog.stoodInHeld 48 = false := by kernel_rfl
set_option maxRecDepth 100000 in
theorem fields_pair : Try.prog.underlying 48 = some (.struct (Try.prog.fieldsOf 48)) := by kernel_rfl
set_option maxRecDepth 100000 in
theorem guardt_pair : Try.prog.eqGuardType Try.prog.depth 48 = false := by kernel_rfl
set_option maxRecDepth 100000 in
set_option maxHeartbeats 1000000 in
theorem pair_neq (a b c d : Int) (w : World) : (binOp .neq 48 (.agg #[.int .i64 a, .int .i64 b]) (.agg #[.int .i64 c, .int .i64 d])).run Try.prog w = .ok (.bool (!(decide (a = c) && decide (b = d)))) w := by
  rw [run_neq_struct, run_equalIn_agg w 9999 _ _ _ fields_pair stood_pair]
  have e : ∀ (x y : Int), (Op.equalIn 9999 3 (.int .i64 x) (.int .i64 y)).run Try.prog w = .ok (x == y) w := fun x y => run_equalIn_int w 9998 _ _ _ x y Try.underlying3
  unfold Program.fieldsOf
  rw [Try.underlying48]
  by_cases e1 : a = c <;> by_cases e2 : b = d <;> simp [Op.eqFields, part0, part1, e, e1, e2, Result.andThen]
set_option maxRecDepth 100000 in
set_option maxHeartbeats 1000000 in
theorem pair_equalIn (a b c d : Int) (w : World) : (Op.equalIn 10000 48 (.agg #[.int .i64 a, .int .i64 b]) (.agg #[.int .i64 c, .int .i64 d])).run Try.prog w = .ok (decide (a = c) && decide (b = d)) w := by
  rw [run_equalIn_agg w 9999 _ _ _ fields_pair stood_pair]
  have e : ∀ (x y : Int), (Op.equalIn 9999 3 (.int .i64 x) (.int .i64 y)).run Try.prog w = .ok (x == y) w := fun x y => run_equalIn_int w 9998 _ _ _ x y Try.underlying3
  unfold Program.fieldsOf
  rw [Try.underlying48]
  by_cases e1 : a = c <;> by_cases e2 : b = d <;> simp [Op.eqFields, part0, part1, e, e1, e2, Result.andThen]
theorem PairsIn.at {w : World} {a : Option Addr} {ps : List (Int × Int)} (h : PairsIn w a ps) (hn : 0 < ps.length) :
    ∃ b off, a = some ⟨b, off, none⟩ ∧ ∀ i, i < ps.length → w.cell? ⟨b, off + i * 2, none⟩ = some (.int .i64 (ps.getD i (0, 0)).1) ∧ w.cell? ⟨b, off + (i * 2 + 1), none⟩ = some (.int .i64 (ps.getD i (0, 0)).2) := by
  rcases h with rfl | h
  · simp at hn
  · exact h
def uptoP (xs ys : List (Int × Int)) (k : Nat) : Prop := ∀ j, j < k → xs.getD j (0, 0) = ys.getD j (0, 0)
theorem uptoP_all {xs ys : List (Int × Int)} (h : xs.length = ys.length) (hu : uptoP xs ys xs.length) : xs = ys := by
  apply List.ext_getElem h
  intro i h1 h2
  have := hu i h1
  simpa [List.getD_eq_getElem?_getD, h1, h2] using this
theorem uptoP_succ {xs ys : List (Int × Int)} {k : Nat} (h : uptoP xs ys k) (h1 : xs.getD k (0, 0) = ys.getD k (0, 0)) : uptoP xs ys (k + 1) := by
  intro j hj
  rcases Nat.lt_or_ge j k with h2 | h2
  · exact h j h2
  · obtain rfl : j = k := by omega
    exact h1
set_option maxRecDepth 100000 in
set_option maxHeartbeats 4000000 in
theorem samePairs_any (a a' : Option Addr) (c c' : Nat) (xs ys : List (Int × Int)) (w : World) (hx : PairsIn w a xs) (hy : PairsIn w a' ys) (lx : xs.length ≤ 1000000) (ly : ys.length ≤ 1000000) :
    Calls Try.prog 36 #[.slice a xs.length c, .slice a' ys.length c'] w fun e w' => e = .returned (.bool (decide (xs = ys))) ∧ ∃ n, w' = w.drewN n := by
  by_cases hl : xs.length = ys.length
  · have hl1 : ((xs.length : Int) != (ys.length : Int)) = false := by simp [hl]
    have H := Lib.hid hl
    clear hl
    go_enter Try.func36, Try.ntmps36
    go_wp2_with fail
    go_loopw [5] (fun i wr => ∃ k m : Nat, k ≤ xs.length ∧ i = .int .i64 k ∧ wr = w.drewN m ∧ Hid (uptoP xs ys k)) (fun i _ => xs.length - (intOf i).toNat)
    case atStart => exact ⟨0, 0, Nat.zero_le _, rfl, rfl, Lib.hid (fun j hj => by omega)⟩
    case round =>
      obtain ⟨k, m, hk, rfl, rfl, HU⟩ := hrel
      by_cases hlt : k < xs.length
      · have hly : k < ys.length := by have := H.out; omega
        obtain ⟨b, off, rfl, hc⟩ := hx.at (by omega)
        obtain ⟨b', off', rfl, hc'⟩ := hy.at (by omega)
        obtain ⟨h1, h1'⟩ := hc k hlt
        obtain ⟨h2, h2'⟩ := hc' k hly
        have U1 := Lib.hid (show xs.getD k (0, 0) = ys.getD k (0, 0) → uptoP xs ys (k + 1) from fun e => uptoP_succ HU.out e)
        have U2 := Lib.hid (show xs.getD k (0, 0) ≠ ys.getD k (0, 0) → decide (xs = ys) = false from fun e => decide_eq_false (fun e' => e (by rw [e'])))
        generalize xs.getD k (0, 0) = x at h1 h1' U1 U2
        generalize ys.getD k (0, 0) = y at h2 h2' U1 U2
        obtain ⟨x1, x2⟩ := x
        obtain ⟨y1, y2⟩ := y
        have hq : ∀ n, (binOp .neq 48 (.agg #[.int .i64 x1, .int .i64 x2]) (.agg #[.int .i64 y1, .int .i64 y2])).run Try.prog ((w.drewN m).drewN n) = .ok (.bool (!(decide (x1 = y1) && decide (x2 = y2)))) ((w.drewN m).drewN n) := fun n => pair_neq _ _ _ _ _
        have hq2 : ∀ n, (Op.equalIn 10000 48 (.agg #[.int .i64 x1, .int .i64 x2]) (.agg #[.int .i64 y1, .int .i64 y2])).run Try.prog ((w.drewN m).drewN n) = .ok (decide (x1 = y1) && decide (x2 = y2)) ((w.drewN m).drewN n) := fun n => pair_equalIn _ _ _ _ _
        have hg := guardt_pair
        clear hc hc'
        dsimp only at h1 h1' h2 h2'
        rw [← Nat.add_assoc] at h1' h2'
        by_cases exy : x1 = y1 ∧ x2 = y2
        · obtain ⟨rfl, rfl⟩ := exy
          have U4 := Lib.hid (U1.out rfl)
          simp only [decide_true, Bool.and_self, Bool.not_true] at hq hq2
          clear U1 U2 HU
          go_wp2_with fail
          go_quiet (fail)
          go_wp2_with fail
          go_roundw
          case rel => exact ⟨k + 1, _, by omega, by go_num, rfl, U4⟩
          case measure => simp [intOf]; omega
        · have U4 := Lib.hid (U2.out (fun e => exy (by injection e with e1 e2; exact ⟨e1, e2⟩)))
          have eb : (decide (x1 = y1) && decide (x2 = y2)) = false := by simpa using exy
          rw [eb] at hq hq2
          have hd : (x1 == y1) = false ∨ (x1 = y1 ∧ (x2 == y2) = false) := by
            by_cases e1 : x1 = y1
            · exact .inr ⟨e1, by simpa using fun e2 => exy ⟨e1, e2⟩⟩
            · exact .inl (by simpa using e1)
          clear U1 U2 HU exy eb
          rcases hd with hd | ⟨rfl, hd⟩
          all_goals
            go_wp2_with fail
            go_quiet (fail)
            go_wp2_with fail
            go_ret
            exact ⟨ret_bool (by rw [U4.out]), _, World.drewN_drewN _ _ _⟩
      · obtain rfl : k = xs.length := by omega
        have U3 := Lib.hid (show decide (xs = ys) = true from decide_eq_true (uptoP_all H.out HU.out))
        go_wp2_with fail
        go_ret
        exact ⟨ret_bool (by rw [U3.out]), _, rfl⟩
  · have hl1 : ((xs.length : Int) != (ys.length : Int)) = true := by simp; omega
    have U3 := Lib.hid (show decide (xs = ys) = false from decide_eq_false (fun e => hl (by rw [e])))
    clear hl
    go_enter Try.func36, Try.ntmps36
    go_wp2_with fail
    go_ret
    exact ⟨ret_bool (by rw [U3.out]), 0, rfl⟩
end Go.Proofs.Ytcbhafddehipdaa

/-
  ModelBounds: what its proof rests on, part 6.
-/
import Derived.Test.YtcbhafddehipdaaZModelBounds5
namespace Go.Proofs.Ytcbhafddehipdaa
open Go.RowKit
set_option linter.unusedVariables false
set_option linter.unusedSimpArgs false
set_option maxRecDepth 100000 in
theorem opart0 (a b c d : Int) (w : World) : (part 3 #[.int .i64 a, .int .i64 b, .int .i64 c, .int .i64 d] 0).run Try.prog w = .ok (.int .i64 a) w := by kernel_rfl
set_option maxRecDepth 100000 in
theorem opart1 (a b c d : Int) (w : World) : (part 3 #[.int .i64 a, .int .i64 b, .int .i64 c, .int .i64 d] 1).run Try.prog w = .ok (.int .i64 b) w := by kernel_rfl
set_option maxRecDepth 100000 in
theorem opart2 (a b c d : Int) (w : World) : (part 3 #[.int .i64 a, .int .i64 b, .int .i64 c, .int .i64 d] 2).run Try.prog w = .ok (.int .i64 c) w := by kernel_rfl
set_option maxRecDepth 100000 in
theorem opart3 (a b c d : Int) (w : World) : (part 3 #[.int .i64 a, .int .i64 b, .int .i64 c, .int .i64 d] 3).run Try.prog w = .ok (.int .i64 d) w := by kernel_rfl
set_option maxRecDepth 100000 in
theorem stood_op : Try.prog.stoodInHeld 31 = false := by kernel_rfl
set_option maxRecDepth 100000 in
theorem fields_op : Try.prog.underlying 31 = some (.struct (Try.prog.fieldsOf 31)) := by kernel_rfl
set_option maxRecDepth 100000 in
set_option maxHeartbeats 1000000 in
theorem op_eql (k a b c : Int) (w : World) : (binOp .eql 31 (.agg #[.int .i64 k, .int .i64 a, .int .i64 b, .int .i64 c]) (.agg #[.int .i64 k, .int .i64 0, .int .i64 0, .int .i64 0])).run Try.prog w = .ok (.bool (decide (a = 0) && decide (b = 0) && decide (c = 0))) w := by
  rw [run_eql_struct, run_equalIn_agg w 9999 _ _ _ fields_op stood_op]
  have e : ∀ (x y : Int), (Op.equalIn 9999 3 (.int .i64 x) (.int .i64 y)).run Try.prog w = .ok (x == y) w := fun x y => run_equalIn_int w 9998 _ _ _ x y Try.underlying3
  unfold Program.fieldsOf
  rw [Try.underlying31]
  by_cases e1 : a = 0 <;> by_cases e2 : b = 0 <;> by_cases e3 : c = 0 <;> simp [Op.eqFields, opart0, opart1, opart2, opart3, e, e1, e2, e3, Result.andThen]
set_option maxRecDepth 100000 in
set_option maxHeartbeats 8000000 in
theorem refOk_1 (key hi value : Int) (w : World)  (b : Bool) (hb : opOkB ⟨1, key, hi, value⟩ = b) : Calls Try.prog 24 #[.agg #[.int .i64 1, .int .i64 key, .int .i64 hi, .int .i64 value]] w fun e w' => e = .returned (.bool b) ∧ Only0 w w' := by
  have hk : key < 0 ∨ (0 ≤ key ∧ 63 < key) ∨ (0 ≤ key ∧ key ≤ 63) := by omega
  have hv : value < 0 ∨ (0 ≤ value ∧ 65535 < value) ∨ (0 ≤ value ∧ value ≤ 65535) := by omega
  rcases hk with a1 | ⟨a1, a2⟩ | ⟨a1, a2⟩
  · obtain rfl : b = false := by rw [← hb]; simp [opOkB, keyOkB]; omega
    clear hb
    rcases hv with v1 | ⟨v1, v2⟩ | ⟨v1, v2⟩
    all_goals
      go_enter Try.func24, Try.ntmps24
      go_wp2_with fail
      go_ret; exact ⟨rfl, (Only0.refl w).alloc _⟩
  · obtain rfl : b = false := by rw [← hb]; simp [opOkB, keyOkB]; omega
    clear hb
    rcases hv with v1 | ⟨v1, v2⟩ | ⟨v1, v2⟩
    all_goals
      go_enter Try.func24, Try.ntmps24
      go_wp2_with fail
      go_ret; exact ⟨rfl, (Only0.refl w).alloc _⟩
  · by_cases e1 : hi = 0
    · subst e1
      by_cases e2 : value = 0
      · subst e2
        obtain rfl : b = true := by rw [← hb]; simp [opOkB, keyOkB]; omega
        clear hb
        clear hv
        go_enter Try.func24, Try.ntmps24
        go_wp2_with fail
        go_ret; exact ⟨rfl, (Only0.refl w).alloc _⟩
      · have e2b : (value == 0) = false := by simpa using e2
        obtain rfl : b = false := by rw [← hb]; simp [opOkB, keyOkB, e2]; skip
        clear hb
        clear e2
        rcases hv with v1 | ⟨v1, v2⟩ | ⟨v1, v2⟩
        all_goals
          go_enter Try.func24, Try.ntmps24
          go_wp2_with fail
          go_ret; exact ⟨rfl, (Only0.refl w).alloc _⟩
    · have e1b : (hi == 0) = false := by simpa using e1
      obtain rfl : b = false := by rw [← hb]; simp [opOkB, keyOkB, e1]; skip
      clear hb
      clear e1
      rcases hv with v1 | ⟨v1, v2⟩ | ⟨v1, v2⟩
      all_goals
        go_enter Try.func24, Try.ntmps24
        go_wp2_with fail
        go_ret; exact ⟨rfl, (Only0.refl w).alloc _⟩
set_option maxRecDepth 100000 in
set_option maxHeartbeats 8000000 in
theorem refOk_4 (key hi value : Int) (w : World)  (b : Bool) (hb : opOkB ⟨4, key, hi, value⟩ = b) : Calls Try.prog 24 #[.agg #[.int .i64 4, .int .i64 key, .int .i64 hi, .int .i64 value]] w fun e w' => e = .returned (.bool b) ∧ Only0 w w' := by
  have hk : key < 0 ∨ (0 ≤ key ∧ 63 < key) ∨ (0 ≤ key ∧ key ≤ 63) := by omega
  have hv : value < 0 ∨ (0 ≤ value ∧ 65535 < value) ∨ (0 ≤ value ∧ value ≤ 65535) := by omega
  rcases hk with a1 | ⟨a1, a2⟩ | ⟨a1, a2⟩
  · obtain rfl : b = false := by rw [← hb]; simp [opOkB, keyOkB]; omega
    clear hb
    rcases hv with v1 | ⟨v1, v2⟩ | ⟨v1, v2⟩
    all_goals
      go_enter Try.func24, Try.ntmps24
      go_wp2_with fail
      go_ret; exact ⟨rfl, (Only0.refl w).alloc _⟩
  · obtain rfl : b = false := by rw [← hb]; simp [opOkB, keyOkB]; omega
    clear hb
    rcases hv with v1 | ⟨v1, v2⟩ | ⟨v1, v2⟩
    all_goals
      go_enter Try.func24, Try.ntmps24
      go_wp2_with fail
      go_ret; exact ⟨rfl, (Only0.refl w).alloc _⟩
  · by_cases e1 : hi = 0
    · subst e1
      by_cases e2 : value = 0
      · subst e2
        obtain rfl : b = true := by rw [← hb]; simp [opOkB, keyOkB]; omega
        clear hb
        clear hv
        go_enter Try.func24, Try.ntmps24
        go_wp2_with fail
        go_ret; exact ⟨rfl, (Only0.refl w).alloc _⟩
      · have e2b : (value == 0) = false := by simpa using e2
        obtain rfl : b = false := by rw [← hb]; simp [opOkB, keyOkB, e2]; skip
        clear hb
        clear e2
        rcases hv with v1 | ⟨v1, v2⟩ | ⟨v1, v2⟩
        all_goals
          go_enter Try.func24, Try.ntmps24
          go_wp2_with fail
          go_ret; exact ⟨rfl, (Only0.refl w).alloc _⟩
    · have e1b : (hi == 0) = false := by simpa using e1
      obtain rfl : b = false := by rw [← hb]; simp [opOkB, keyOkB, e1]; skip
      clear hb
      clear e1
      rcases hv with v1 | ⟨v1, v2⟩ | ⟨v1, v2⟩
      all_goals
        go_enter Try.func24, Try.ntmps24
        go_wp2_with fail
        go_ret; exact ⟨rfl, (Only0.refl w).alloc _⟩
set_option maxRecDepth 100000 in
set_option maxHeartbeats 8000000 in
theorem refOk_2 (key hi value : Int) (w : World)  (b : Bool) (hb : opOkB ⟨2, key, hi, value⟩ = b) : Calls Try.prog 24 #[.agg #[.int .i64 2, .int .i64 key, .int .i64 hi, .int .i64 value]] w fun e w' => e = .returned (.bool b) ∧ Only0 w w' := by
  have hk : key < 0 ∨ (0 ≤ key ∧ 63 < key) ∨ (0 ≤ key ∧ key ≤ 63) := by omega
  have hv : value < 0 ∨ (0 ≤ value ∧ 65535 < value) ∨ (0 ≤ value ∧ value ≤ 65535) := by omega
  rcases hk with a1 | ⟨a1, a2⟩ | ⟨a1, a2⟩
  · obtain rfl : b = false := by rw [← hb]; simp [opOkB, keyOkB]; omega
    clear hb
    rcases hv with v1 | ⟨v1, v2⟩ | ⟨v1, v2⟩
    all_goals
      go_enter Try.func24, Try.ntmps24
      go_wp2_with fail
      go_ret; exact ⟨rfl, (Only0.refl w).alloc _⟩
  · obtain rfl : b = false := by rw [← hb]; simp [opOkB, keyOkB]; omega
    clear hb
    rcases hv with v1 | ⟨v1, v2⟩ | ⟨v1, v2⟩
    all_goals
      go_enter Try.func24, Try.ntmps24
      go_wp2_with fail
      go_ret; exact ⟨rfl, (Only0.refl w).alloc _⟩
  · rcases hv with v1 | ⟨v1, v2⟩ | ⟨v1, v2⟩
    · obtain rfl : b = false := by rw [← hb]; simp [opOkB, keyOkB]; omega
      clear hb
      go_enter Try.func24, Try.ntmps24
      go_wp2_with fail
      go_ret; exact ⟨rfl, (Only0.refl w).alloc _⟩
    · obtain rfl : b = false := by rw [← hb]; simp [opOkB, keyOkB]; omega
      clear hb
      go_enter Try.func24, Try.ntmps24
      go_wp2_with fail
      go_ret; exact ⟨rfl, (Only0.refl w).alloc _⟩
    · by_cases e1 : hi = 0
      · subst e1
        obtain rfl : b = true := by rw [← hb]; simp [opOkB, keyOkB]; omega
        clear hb
        go_enter Try.func24, Try.ntmps24
        go_wp2_with fail
        go_ret; exact ⟨rfl, (Only0.refl w).alloc _⟩
      · have e1b : (hi == 0) = false := by simpa using e1
        obtain rfl : b = false := by rw [← hb]; simp [opOkB, keyOkB, e1]; skip
        clear hb
        clear e1
        go_enter Try.func24, Try.ntmps24
        go_wp2_with fail
        go_ret; exact ⟨rfl, (Only0.refl w).alloc _⟩
set_option maxRecDepth 100000 in
set_option maxHeartbeats 8000000 in
theorem refOk_3 (key hi value : Int) (w : World)  (b : Bool) (hb : opOkB ⟨3, key, hi, value⟩ = b) : Calls Try.prog 24 #[.agg #[.int .i64 3, .int .i64 key, .int .i64 hi, .int .i64 value]] w fun e w' => e = .returned (.bool b) ∧ Only0 w w' := by
  have hk : key < 0 ∨ (0 ≤ key ∧ 63 < key) ∨ (0 ≤ key ∧ key ≤ 63) := by omega
  have hv : value < 0 ∨ (0 ≤ value ∧ 65535 < value) ∨ (0 ≤ value ∧ value ≤ 65535) := by omega
  rcases hk with a1 | ⟨a1, a2⟩ | ⟨a1, a2⟩
  · obtain rfl : b = false := by rw [← hb]; simp [opOkB, keyOkB]; omega
    clear hb
    rcases hv with v1 | ⟨v1, v2⟩ | ⟨v1, v2⟩
    all_goals
      go_enter Try.func24, Try.ntmps24
      go_wp2_with fail
      go_ret; exact ⟨rfl, (Only0.refl w).alloc _⟩
  · obtain rfl : b = false := by rw [← hb]; simp [opOkB, keyOkB]; omega
    clear hb
    rcases hv with v1 | ⟨v1, v2⟩ | ⟨v1, v2⟩
    all_goals
      go_enter Try.func24, Try.ntmps24
      go_wp2_with fail
      go_ret; exact ⟨rfl, (Only0.refl w).alloc _⟩
  · rcases hv with v1 | ⟨v1, v2⟩ | ⟨v1, v2⟩
    · obtain rfl : b = false := by rw [← hb]; simp [opOkB, keyOkB]; omega
      clear hb
      go_enter Try.func24, Try.ntmps24
      go_wp2_with fail
      go_ret; exact ⟨rfl, (Only0.refl w).alloc _⟩
    · obtain rfl : b = false := by rw [← hb]; simp [opOkB, keyOkB]; omega
      clear hb
      go_enter Try.func24, Try.ntmps24
      go_wp2_with fail
      go_ret; exact ⟨rfl, (Only0.refl w).alloc _⟩
    · by_cases e1 : hi = 0
      · subst e1
        obtain rfl : b = true := by rw [← hb]; simp [opOkB, keyOkB]; omega
        clear hb
        go_enter Try.func24, Try.ntmps24
        go_wp2_with fail
        go_ret; exact ⟨rfl, (Only0.refl w).alloc _⟩
      · have e1b : (hi == 0) = false := by simpa using e1
        obtain rfl : b = false := by rw [← hb]; simp [opOkB, keyOkB, e1]; skip
        clear hb
        clear e1
        go_enter Try.func24, Try.ntmps24
        go_wp2_with fail
        go_ret; exact ⟨rfl, (Only0.refl w).alloc _⟩
set_option maxRecDepth 100000 in
set_option maxHeartbeats 8000000 in
theorem refOk_5 (key hi value : Int) (w : World)  (b : Bool) (hb : opOkB ⟨5, key, hi, value⟩ = b) : Calls Try.prog 24 #[.agg #[.int .i64 5, .int .i64 key, .int .i64 hi, .int .i64 value]] w fun e w' => e = .returned (.bool b) ∧ Only0 w w' := by
  have hk : key < 0 ∨ (0 ≤ key ∧ 63 < key) ∨ (0 ≤ key ∧ key ≤ 63) := by omega
  have hv : value < 0 ∨ (0 ≤ value ∧ 65535 < value) ∨ (0 ≤ value ∧ value ≤ 65535) := by omega
  rcases hk with a1 | ⟨a1, a2⟩ | ⟨a1, a2⟩
  · obtain rfl : b = false := by rw [← hb]; simp [opOkB, keyOkB]; omega
    clear hb
    rcases hv with v1 | ⟨v1, v2⟩ | ⟨v1, v2⟩
    all_goals
      go_enter Try.func24, Try.ntmps24
      go_wp2_with fail
      go_ret; exact ⟨rfl, (Only0.refl w).alloc _⟩
  · obtain rfl : b = false := by rw [← hb]; simp [opOkB, keyOkB]; omega
    clear hb
    rcases hv with v1 | ⟨v1, v2⟩ | ⟨v1, v2⟩
    all_goals
      go_enter Try.func24, Try.ntmps24
      go_wp2_with fail
      go_ret; exact ⟨rfl, (Only0.refl w).alloc _⟩
  · by_cases e1 : hi < key
    · obtain rfl : b = false := by rw [← hb]; simp [opOkB, keyOkB]; omega
      clear hb
      rcases hv with v1 | ⟨v1, v2⟩ | ⟨v1, v2⟩
      all_goals
        go_enter Try.func24, Try.ntmps24
        go_wp2_with fail
        go_ret; exact ⟨rfl, (Only0.refl w).alloc _⟩
    · have f1 : key ≤ hi := by omega
      by_cases e2 : 63 < hi
      · obtain rfl : b = false := by rw [← hb]; simp [opOkB, keyOkB]; omega
        clear hb
        clear e1
        rcases hv with v1 | ⟨v1, v2⟩ | ⟨v1, v2⟩
        all_goals
          go_enter Try.func24, Try.ntmps24
          go_wp2_with fail
          go_ret; exact ⟨rfl, (Only0.refl w).alloc _⟩
      · have f2 : hi ≤ 63 := by omega
        clear e1 e2
        by_cases e3 : value = 0
        · subst e3
          obtain rfl : b = true := by rw [← hb]; simp [opOkB, keyOkB]; omega
          clear hb
          clear hv
          go_enter Try.func24, Try.ntmps24
          go_wp2_with fail
          go_ret; exact ⟨rfl, (Only0.refl w).alloc _⟩
        · have e3b : (value == 0) = false := by simpa using e3
          obtain rfl : b = false := by rw [← hb]; simp [opOkB, keyOkB, e3]; skip
          clear hb
          clear e3
          rcases hv with v1 | ⟨v1, v2⟩ | ⟨v1, v2⟩
          all_goals
            go_enter Try.func24, Try.ntmps24
            go_wp2_with fail
            go_ret; exact ⟨rfl, (Only0.refl w).alloc _⟩
set_option maxRecDepth 100000 in
set_option maxHeartbeats 8000000 in
theorem refOk_6 (key hi value : Int) (w : World)  (b : Bool) (hb : opOkB ⟨6, key, hi, value⟩ = b) : Calls Try.prog 24 #[.agg #[.int .i64 6, .int .i64 key, .int .i64 hi, .int .i64 value]] w fun e w' => e = .returned (.bool b) ∧ Only0 w w' := by
  have hk : key < 0 ∨ (0 ≤ key ∧ 63 < key) ∨ (0 ≤ key ∧ key ≤ 63) := by omega
  have hv : value < 0 ∨ (0 ≤ value ∧ 65535 < value) ∨ (0 ≤ value ∧ value ≤ 65535) := by omega
  obtain rfl : b = (decide (key = 0) && decide (hi = 0) && decide (value = 0)) := by rw [← hb]; simp [opOkB]
  have hq := op_eql 6 key hi value
  clear hb
  rcases hk with a1 | ⟨a1, a2⟩ | ⟨a1, a2⟩
  all_goals rcases hv with v1 | ⟨v1, v2⟩ | ⟨v1, v2⟩
  all_goals
    go_enter Try.func24, Try.ntmps24
    go_wp2_with fail
    go_ret; exact ⟨rfl, (Only0.refl w).alloc _⟩
set_option maxRecDepth 100000 in
set_option maxHeartbeats 8000000 in
theorem refOk_7 (key hi value : Int) (w : World)  (b : Bool) (hb : opOkB ⟨7, key, hi, value⟩ = b) : Calls Try.prog 24 #[.agg #[.int .i64 7, .int .i64 key, .int .i64 hi, .int .i64 value]] w fun e w' => e = .returned (.bool b) ∧ Only0 w w' := by
  have hk : key < 0 ∨ (0 ≤ key ∧ 63 < key) ∨ (0 ≤ key ∧ key ≤ 63) := by omega
  have hv : value < 0 ∨ (0 ≤ value ∧ 65535 < value) ∨ (0 ≤ value ∧ value ≤ 65535) := by omega
  obtain rfl : b = (decide (key = 0) && decide (hi = 0) && decide (value = 0)) := by rw [← hb]; simp [opOkB]
  have hq := op_eql 7 key hi value
  clear hb
  rcases hk with a1 | ⟨a1, a2⟩ | ⟨a1, a2⟩
  all_goals rcases hv with v1 | ⟨v1, v2⟩ | ⟨v1, v2⟩
  all_goals
    go_enter Try.func24, Try.ntmps24
    go_wp2_with fail
    go_ret; exact ⟨rfl, (Only0.refl w).alloc _⟩
set_option maxRecDepth 100000 in
set_option maxHeartbeats 8000000 in
theorem refOk_x (kind key hi value : Int) (w : World) (b1 : (kind == 1) = false) (b2 : (kind == 2) = false) (b3 : (kind == 3) = false) (b4 : (kind == 4) = false) (b5 : (kind == 5) = false) (b6 : (kind == 6) = false) (b7 : (kind == 7) = false) (b : Bool) (hb : opOkB ⟨kind, key, hi, value⟩ = b) : Calls Try.prog 24 #[.agg #[.int .i64 kind, .int .i64 key, .int .i64 hi, .int .i64 value]] w fun e w' => e = .returned (.bool b) ∧ Only0 w w' := by
  have hk : key < 0 ∨ (0 ≤ key ∧ 63 < key) ∨ (0 ≤ key ∧ key ≤ 63) := by omega
  have hv : value < 0 ∨ (0 ≤ value ∧ 65535 < value) ∨ (0 ≤ value ∧ value ≤ 65535) := by omega
  obtain rfl : b = false := by rw [← hb]; simp at b1 b2 b3 b4 b5 b6 b7; simp [opOkB, b1, b2, b3, b4, b5, b6, b7]
  clear hb
  rcases hk with a1 | ⟨a1, a2⟩ | ⟨a1, a2⟩
  all_goals rcases hv with v1 | ⟨v1, v2⟩ | ⟨v1, v2⟩
  all_goals
    go_enter Try.func24, Try.ntmps24
    go_wp2_with fail
    go_ret; exact ⟨rfl, (Only0.refl w).alloc _⟩
theorem ref_opOk (kind key hi value : Int) (w : World) : Calls Try.prog 24 #[.agg #[.int .i64 kind, .int .i64 key, .int .i64 hi, .int .i64 value]] w fun e w' => e = .returned (.bool (opOkB ⟨kind, key, hi, value⟩)) ∧ Only0 w w' := by
  by_cases h1 : kind = 1
  · subst h1; exact refOk_1 _ _ _ w _ rfl
  by_cases h2 : kind = 2
  · subst h2; exact refOk_2 _ _ _ w _ rfl
  by_cases h3 : kind = 3
  · subst h3; exact refOk_3 _ _ _ w _ rfl
  by_cases h4 : kind = 4
  · subst h4; exact refOk_4 _ _ _ w _ rfl
  by_cases h5 : kind = 5
  · subst h5; exact refOk_5 _ _ _ w _ rfl
  by_cases h6 : kind = 6
  · subst h6; exact refOk_6 _ _ _ w _ rfl
  by_cases h7 : kind = 7
  · subst h7; exact refOk_7 _ _ _ w _ rfl
  exact refOk_x _ _ _ _ w (by simpa using h1) (by simpa using h2) (by simpa using h3) (by simpa using h4) (by simpa using h5) (by simpa using h6) (by simpa using h7) _ rfl
end Go.Proofs.Ytcbhafddehipdaa

/-
  model: SessionOk, LevelOk, ConfOk, Ends, OpOk.
-/
import Derived.Test.YtcbhafddehipdaaMdScan
namespace Go.Proofs.Ytcbhafddehipdaa
open Go.RowKit
set_option linter.unusedVariables false
set_option linter.unusedSimpArgs false

set_option maxHeartbeats 2000000 in
theorem md_sess (j : Int) (w : World) : Calls Try.prog 47 #[.int .i64 j] w fun e w' => e = .returned (.bool (sessB j)) ∧ w = w' := by
  by_cases h0 : 0 ≤ j
  · go_enter Try.func47, Try.ntmps47
    go_wp2_with fail
    go_ret; exact ⟨ret_bool (by simp [sessB, h0]), rfl⟩
  · go_enter Try.func47, Try.ntmps47
    go_wp2_with fail
    go_ret; exact ⟨ret_bool (by simp [sessB]; omega), rfl⟩
set_option maxHeartbeats 2000000 in
theorem md_level (n : Int) (w : World) : Calls Try.prog 56 #[.int .i64 n] w fun e w' => e = .returned (.bool (levelB n)) ∧ w = w' := by
  by_cases h0 : 1 ≤ n
  · go_enter Try.func56, Try.ntmps56
    go_wp2_with fail
    go_ret; exact ⟨ret_bool (by simp [levelB, h0]), rfl⟩
  · go_enter Try.func56, Try.ntmps56
    go_wp2_with fail
    go_ret; exact ⟨ret_bool (by simp [levelB]; omega), rfl⟩
set_option maxHeartbeats 4000000 in
theorem md_conf (slots limit : Int) (w : World) : Calls Try.prog 55 #[.agg #[.int .i64 slots, .int .u64 limit]] w fun e w' => e = .returned (.bool (confB slots limit)) ∧ Only0 w w' := by
  have hd : slots < 1 ∨ (1 ≤ slots ∧ 256 < slots) ∨ (1 ≤ slots ∧ slots ≤ 256 ∧ limit < 1) ∨ (1 ≤ slots ∧ slots ≤ 256 ∧ 1 ≤ limit ∧ 1099511627776 < limit) ∨ (1 ≤ slots ∧ slots ≤ 256 ∧ 1 ≤ limit ∧ limit ≤ 1099511627776) := by omega
  have HC : Hid (confB slots limit = (decide (1 ≤ slots) && decide (slots ≤ 256) && decide (1 ≤ limit) && decide (limit ≤ 1099511627776))) := Lib.hid rfl
  rcases hd with h1 | ⟨h1, h2⟩ | ⟨h1, h2, h3⟩ | ⟨h1, h2, h3, h4⟩ | ⟨h1, h2, h3, h4⟩
  all_goals
    go_enter Try.func55, Try.ntmps55
    go_wp2_with fail
    go_ret; exact ⟨ret_bool (by rw [HC.out]; simp; omega), (Only0.refl w).alloc _⟩
set_option maxHeartbeats 4000000 in
theorem md_ends (kind key hi value : Int) (w : World) : Calls Try.prog 49 #[.agg #[.int .i64 kind, .int .i64 key, .int .i64 hi, .int .i64 value]] w fun e w' => e = .returned (.bool (endsB ⟨kind, key, hi, value⟩)) ∧ Only0 w w' := by
  by_cases h6 : kind = 6
  · subst h6
    go_enter Try.func49, Try.ntmps49
    go_wp2_with fail
    go_ret; exact ⟨ret_bool (by simp [endsB]), (Only0.refl w).alloc _⟩
  · by_cases h7 : kind = 7
    · subst h7
      go_enter Try.func49, Try.ntmps49
      go_wp2_with fail
      go_ret; exact ⟨ret_bool (by simp [endsB]), (Only0.refl w).alloc _⟩
    · have b6 : (kind == 6) = false := by simpa using h6
      have b7 : (kind == 7) = false := by simpa using h7
      have HE := Lib.hid (show endsB ⟨kind, key, hi, value⟩ = false by simp [endsB, h6, h7])
      clear h6 h7
      go_enter Try.func49, Try.ntmps49
      go_wp2_with fail
      go_ret; exact ⟨ret_bool (by rw [HE.out]), (Only0.refl w).alloc _⟩
set_option maxHeartbeats 4000000 in
theorem opOk_1_a (key hi value : Int) (w : World) (a1 : key < 0) : Calls Try.prog 48 #[.agg #[.int .i64 1, .int .i64 key, .int .i64 hi, .int .i64 value]] w fun e w' => e = .returned (.bool false) ∧ Only0 w w' := by
  go_enter Try.func48, Try.ntmps48
  go_wp2_with fail
  go_ret; first | exact ⟨rfl, (Only0.refl w).alloc _⟩ | exact ⟨ret_bool (by simp; omega), (Only0.refl w).alloc _⟩
set_option maxHeartbeats 4000000 in
theorem opOk_1_b (key hi value : Int) (w : World) (a1 : 0 ≤ key) (a2 : 63 < key) : Calls Try.prog 48 #[.agg #[.int .i64 1, .int .i64 key, .int .i64 hi, .int .i64 value]] w fun e w' => e = .returned (.bool false) ∧ Only0 w w' := by
  go_enter Try.func48, Try.ntmps48
  go_wp2_with fail
  go_ret; first | exact ⟨rfl, (Only0.refl w).alloc _⟩ | exact ⟨ret_bool (by simp; omega), (Only0.refl w).alloc _⟩
set_option maxHeartbeats 4000000 in
theorem opOk_1_c (key hi value : Int) (w : World) (a1 : 0 ≤ key) (a2 : key ≤ 63) (a3 : (hi == 0) = false) : Calls Try.prog 48 #[.agg #[.int .i64 1, .int .i64 key, .int .i64 hi, .int .i64 value]] w fun e w' => e = .returned (.bool false) ∧ Only0 w w' := by
  go_enter Try.func48, Try.ntmps48
  go_wp2_with fail
  go_ret; first | exact ⟨rfl, (Only0.refl w).alloc _⟩ | exact ⟨ret_bool (by simp; omega), (Only0.refl w).alloc _⟩
set_option maxHeartbeats 4000000 in
theorem opOk_1_d (key value : Int) (w : World) (a1 : 0 ≤ key) (a2 : key ≤ 63) (a3 : (value == 0) = false) : Calls Try.prog 48 #[.agg #[.int .i64 1, .int .i64 key, .int .i64 0, .int .i64 value]] w fun e w' => e = .returned (.bool false) ∧ Only0 w w' := by
  go_enter Try.func48, Try.ntmps48
  go_wp2_with fail
  go_ret; first | exact ⟨rfl, (Only0.refl w).alloc _⟩ | exact ⟨ret_bool (by simp; omega), (Only0.refl w).alloc _⟩
set_option maxHeartbeats 4000000 in
theorem opOk_1_e (key : Int) (w : World) (a1 : 0 ≤ key) (a2 : key ≤ 63) : Calls Try.prog 48 #[.agg #[.int .i64 1, .int .i64 key, .int .i64 0, .int .i64 0]] w fun e w' => e = .returned (.bool true) ∧ Only0 w w' := by
  go_enter Try.func48, Try.ntmps48
  go_wp2_with fail
  go_ret; first | exact ⟨rfl, (Only0.refl w).alloc _⟩ | exact ⟨ret_bool (by simp; omega), (Only0.refl w).alloc _⟩
set_option maxHeartbeats 4000000 in
theorem opOk_4_a (key hi value : Int) (w : World) (a1 : key < 0) : Calls Try.prog 48 #[.agg #[.int .i64 4, .int .i64 key, .int .i64 hi, .int .i64 value]] w fun e w' => e = .returned (.bool false) ∧ Only0 w w' := by
  go_enter Try.func48, Try.ntmps48
  go_wp2_with fail
  go_ret; first | exact ⟨rfl, (Only0.refl w).alloc _⟩ | exact ⟨ret_bool (by simp; omega), (Only0.refl w).alloc _⟩
set_option maxHeartbeats 4000000 in
theorem opOk_4_b (key hi value : Int) (w : World) (a1 : 0 ≤ key) (a2 : 63 < key) : Calls Try.prog 48 #[.agg #[.int .i64 4, .int .i64 key, .int .i64 hi, .int .i64 value]] w fun e w' => e = .returned (.bool false) ∧ Only0 w w' := by
  go_enter Try.func48, Try.ntmps48
  go_wp2_with fail
  go_ret; first | exact ⟨rfl, (Only0.refl w).alloc _⟩ | exact ⟨ret_bool (by simp; omega), (Only0.refl w).alloc _⟩
set_option maxHeartbeats 4000000 in
theorem opOk_4_c (key hi value : Int) (w : World) (a1 : 0 ≤ key) (a2 : key ≤ 63) (a3 : (hi == 0) = false) : Calls Try.prog 48 #[.agg #[.int .i64 4, .int .i64 key, .int .i64 hi, .int .i64 value]] w fun e w' => e = .returned (.bool false) ∧ Only0 w w' := by
  go_enter Try.func48, Try.ntmps48
  go_wp2_with fail
  go_ret; first | exact ⟨rfl, (Only0.refl w).alloc _⟩ | exact ⟨ret_bool (by simp; omega), (Only0.refl w).alloc _⟩
set_option maxHeartbeats 4000000 in
theorem opOk_4_d (key value : Int) (w : World) (a1 : 0 ≤ key) (a2 : key ≤ 63) (a3 : (value == 0) = false) : Calls Try.prog 48 #[.agg #[.int .i64 4, .int .i64 key, .int .i64 0, .int .i64 value]] w fun e w' => e = .returned (.bool false) ∧ Only0 w w' := by
  go_enter Try.func48, Try.ntmps48
  go_wp2_with fail
  go_ret; first | exact ⟨rfl, (Only0.refl w).alloc _⟩ | exact ⟨ret_bool (by simp; omega), (Only0.refl w).alloc _⟩
set_option maxHeartbeats 4000000 in
theorem opOk_4_e (key : Int) (w : World) (a1 : 0 ≤ key) (a2 : key ≤ 63) : Calls Try.prog 48 #[.agg #[.int .i64 4, .int .i64 key, .int .i64 0, .int .i64 0]] w fun e w' => e = .returned (.bool true) ∧ Only0 w w' := by
  go_enter Try.func48, Try.ntmps48
  go_wp2_with fail
  go_ret; first | exact ⟨rfl, (Only0.refl w).alloc _⟩ | exact ⟨ret_bool (by simp; omega), (Only0.refl w).alloc _⟩
set_option maxHeartbeats 4000000 in
theorem opOk_2_a (key hi value : Int) (w : World) (a1 : key < 0) : Calls Try.prog 48 #[.agg #[.int .i64 2, .int .i64 key, .int .i64 hi, .int .i64 value]] w fun e w' => e = .returned (.bool false) ∧ Only0 w w' := by
  go_enter Try.func48, Try.ntmps48
  go_wp2_with fail
  go_ret; first | exact ⟨rfl, (Only0.refl w).alloc _⟩ | exact ⟨ret_bool (by simp; omega), (Only0.refl w).alloc _⟩
set_option maxHeartbeats 4000000 in
theorem opOk_2_b (key hi value : Int) (w : World) (a1 : 0 ≤ key) (a2 : 63 < key) : Calls Try.prog 48 #[.agg #[.int .i64 2, .int .i64 key, .int .i64 hi, .int .i64 value]] w fun e w' => e = .returned (.bool false) ∧ Only0 w w' := by
  go_enter Try.func48, Try.ntmps48
  go_wp2_with fail
  go_ret; first | exact ⟨rfl, (Only0.refl w).alloc _⟩ | exact ⟨ret_bool (by simp; omega), (Only0.refl w).alloc _⟩
set_option maxHeartbeats 4000000 in
theorem opOk_2_c (key hi value : Int) (w : World) (a1 : 0 ≤ key) (a2 : key ≤ 63) (a3 : (hi == 0) = false) : Calls Try.prog 48 #[.agg #[.int .i64 2, .int .i64 key, .int .i64 hi, .int .i64 value]] w fun e w' => e = .returned (.bool false) ∧ Only0 w w' := by
  go_enter Try.func48, Try.ntmps48
  go_wp2_with fail
  go_ret; first | exact ⟨rfl, (Only0.refl w).alloc _⟩ | exact ⟨ret_bool (by simp; omega), (Only0.refl w).alloc _⟩
set_option maxHeartbeats 4000000 in
theorem opOk_2_d (key value : Int) (w : World) (a1 : 0 ≤ key) (a2 : key ≤ 63) (a3 : value < 0) : Calls Try.prog 48 #[.agg #[.int .i64 2, .int .i64 key, .int .i64 0, .int .i64 value]] w fun e w' => e = .returned (.bool false) ∧ Only0 w w' := by
  go_enter Try.func48, Try.ntmps48
  go_wp2_with fail
  go_ret; first | exact ⟨rfl, (Only0.refl w).alloc _⟩ | exact ⟨ret_bool (by simp; omega), (Only0.refl w).alloc _⟩
set_option maxHeartbeats 4000000 in
theorem opOk_2_e (key value : Int) (w : World) (a1 : 0 ≤ key) (a2 : key ≤ 63) (a3 : 0 ≤ value) (a4 : 65535 < value) : Calls Try.prog 48 #[.agg #[.int .i64 2, .int .i64 key, .int .i64 0, .int .i64 value]] w fun e w' => e = .returned (.bool false) ∧ Only0 w w' := by
  go_enter Try.func48, Try.ntmps48
  go_wp2_with fail
  go_ret; first | exact ⟨rfl, (Only0.refl w).alloc _⟩ | exact ⟨ret_bool (by simp; omega), (Only0.refl w).alloc _⟩
set_option maxHeartbeats 4000000 in
theorem opOk_2_f (key value : Int) (w : World) (a1 : 0 ≤ key) (a2 : key ≤ 63) (a3 : 0 ≤ value) (a4 : value ≤ 65535) : Calls Try.prog 48 #[.agg #[.int .i64 2, .int .i64 key, .int .i64 0, .int .i64 value]] w fun e w' => e = .returned (.bool true) ∧ Only0 w w' := by
  go_enter Try.func48, Try.ntmps48
  go_wp2_with fail
  go_ret; first | exact ⟨rfl, (Only0.refl w).alloc _⟩ | exact ⟨ret_bool (by simp; omega), (Only0.refl w).alloc _⟩
set_option maxHeartbeats 4000000 in
theorem opOk_3_a (key hi value : Int) (w : World) (a1 : key < 0) : Calls Try.prog 48 #[.agg #[.int .i64 3, .int .i64 key, .int .i64 hi, .int .i64 value]] w fun e w' => e = .returned (.bool false) ∧ Only0 w w' := by
  go_enter Try.func48, Try.ntmps48
  go_wp2_with fail
  go_ret; first | exact ⟨rfl, (Only0.refl w).alloc _⟩ | exact ⟨ret_bool (by simp; omega), (Only0.refl w).alloc _⟩
set_option maxHeartbeats 4000000 in
theorem opOk_3_b (key hi value : Int) (w : World) (a1 : 0 ≤ key) (a2 : 63 < key) : Calls Try.prog 48 #[.agg #[.int .i64 3, .int .i64 key, .int .i64 hi, .int .i64 value]] w fun e w' => e = .returned (.bool false) ∧ Only0 w w' := by
  go_enter Try.func48, Try.ntmps48
  go_wp2_with fail
  go_ret; first | exact ⟨rfl, (Only0.refl w).alloc _⟩ | exact ⟨ret_bool (by simp; omega), (Only0.refl w).alloc _⟩
set_option maxHeartbeats 4000000 in
theorem opOk_3_c (key hi value : Int) (w : World) (a1 : 0 ≤ key) (a2 : key ≤ 63) (a3 : (hi == 0) = false) : Calls Try.prog 48 #[.agg #[.int .i64 3, .int .i64 key, .int .i64 hi, .int .i64 value]] w fun e w' => e = .returned (.bool false) ∧ Only0 w w' := by
  go_enter Try.func48, Try.ntmps48
  go_wp2_with fail
  go_ret; first | exact ⟨rfl, (Only0.refl w).alloc _⟩ | exact ⟨ret_bool (by simp; omega), (Only0.refl w).alloc _⟩
set_option maxHeartbeats 4000000 in
theorem opOk_3_d (key value : Int) (w : World) (a1 : 0 ≤ key) (a2 : key ≤ 63) (a3 : value < 0) : Calls Try.prog 48 #[.agg #[.int .i64 3, .int .i64 key, .int .i64 0, .int .i64 value]] w fun e w' => e = .returned (.bool false) ∧ Only0 w w' := by
  go_enter Try.func48, Try.ntmps48
  go_wp2_with fail
  go_ret; first | exact ⟨rfl, (Only0.refl w).alloc _⟩ | exact ⟨ret_bool (by simp; omega), (Only0.refl w).alloc _⟩
set_option maxHeartbeats 4000000 in
theorem opOk_3_e (key value : Int) (w : World) (a1 : 0 ≤ key) (a2 : key ≤ 63) (a3 : 0 ≤ value) (a4 : 65535 < value) : Calls Try.prog 48 #[.agg #[.int .i64 3, .int .i64 key, .int .i64 0, .int .i64 value]] w fun e w' => e = .returned (.bool false) ∧ Only0 w w' := by
  go_enter Try.func48, Try.ntmps48
  go_wp2_with fail
  go_ret; first | exact ⟨rfl, (Only0.refl w).alloc _⟩ | exact ⟨ret_bool (by simp; omega), (Only0.refl w).alloc _⟩
set_option maxHeartbeats 4000000 in
theorem opOk_3_f (key value : Int) (w : World) (a1 : 0 ≤ key) (a2 : key ≤ 63) (a3 : 0 ≤ value) (a4 : value ≤ 65535) : Calls Try.prog 48 #[.agg #[.int .i64 3, .int .i64 key, .int .i64 0, .int .i64 value]] w fun e w' => e = .returned (.bool true) ∧ Only0 w w' := by
  go_enter Try.func48, Try.ntmps48
  go_wp2_with fail
  go_ret; first | exact ⟨rfl, (Only0.refl w).alloc _⟩ | exact ⟨ret_bool (by simp; omega), (Only0.refl w).alloc _⟩
set_option maxHeartbeats 4000000 in
theorem opOk_5_a (key hi value : Int) (w : World) (a1 : key < 0) : Calls Try.prog 48 #[.agg #[.int .i64 5, .int .i64 key, .int .i64 hi, .int .i64 value]] w fun e w' => e = .returned (.bool false) ∧ Only0 w w' := by
  go_enter Try.func48, Try.ntmps48
  go_wp2_with fail
  go_ret; first | exact ⟨rfl, (Only0.refl w).alloc _⟩ | exact ⟨ret_bool (by simp; omega), (Only0.refl w).alloc _⟩
set_option maxHeartbeats 4000000 in
theorem opOk_5_b (key hi value : Int) (w : World) (a1 : 0 ≤ key) (a2 : 63 < key) : Calls Try.prog 48 #[.agg #[.int .i64 5, .int .i64 key, .int .i64 hi, .int .i64 value]] w fun e w' => e = .returned (.bool false) ∧ Only0 w w' := by
  go_enter Try.func48, Try.ntmps48
  go_wp2_with fail
  go_ret; first | exact ⟨rfl, (Only0.refl w).alloc _⟩ | exact ⟨ret_bool (by simp; omega), (Only0.refl w).alloc _⟩
set_option maxHeartbeats 4000000 in
theorem opOk_5_c (key hi value : Int) (w : World) (a1 : 0 ≤ key) (a2 : key ≤ 63) (a3 : hi < key) : Calls Try.prog 48 #[.agg #[.int .i64 5, .int .i64 key, .int .i64 hi, .int .i64 value]] w fun e w' => e = .returned (.bool false) ∧ Only0 w w' := by
  go_enter Try.func48, Try.ntmps48
  go_wp2_with fail
  go_ret; first | exact ⟨rfl, (Only0.refl w).alloc _⟩ | exact ⟨ret_bool (by simp; omega), (Only0.refl w).alloc _⟩
set_option maxHeartbeats 4000000 in
theorem opOk_5_d (key hi value : Int) (w : World) (a1 : 0 ≤ key) (a2 : key ≤ 63) (a3 : key ≤ hi) (a4 : 63 < hi) : Calls Try.prog 48 #[.agg #[.int .i64 5, .int .i64 key, .int .i64 hi, .int .i64 value]] w fun e w' => e = .returned (.bool false) ∧ Only0 w w' := by
  go_enter Try.func48, Try.ntmps48
  go_wp2_with fail
  go_ret; first | exact ⟨rfl, (Only0.refl w).alloc _⟩ | exact ⟨ret_bool (by simp; omega), (Only0.refl w).alloc _⟩
set_option maxHeartbeats 4000000 in
theorem opOk_5_e (key hi value : Int) (w : World) (a1 : 0 ≤ key) (a2 : key ≤ 63) (a3 : key ≤ hi) (a4 : hi ≤ 63) (a5 : (value == 0) = false) : Calls Try.prog 48 #[.agg #[.int .i64 5, .int .i64 key, .int .i64 hi, .int .i64 value]] w fun e w' => e = .returned (.bool false) ∧ Only0 w w' := by
  go_enter Try.func48, Try.ntmps48
  go_wp2_with fail
  go_ret; first | exact ⟨rfl, (Only0.refl w).alloc _⟩ | exact ⟨ret_bool (by simp; omega), (Only0.refl w).alloc _⟩
set_option maxHeartbeats 4000000 in
theorem opOk_5_f (key hi : Int) (w : World) (a1 : 0 ≤ key) (a2 : key ≤ 63) (a3 : key ≤ hi) (a4 : hi ≤ 63) : Calls Try.prog 48 #[.agg #[.int .i64 5, .int .i64 key, .int .i64 hi, .int .i64 0]] w fun e w' => e = .returned (.bool true) ∧ Only0 w w' := by
  go_enter Try.func48, Try.ntmps48
  go_wp2_with fail
  go_ret; first | exact ⟨rfl, (Only0.refl w).alloc _⟩ | exact ⟨ret_bool (by simp; omega), (Only0.refl w).alloc _⟩
set_option maxHeartbeats 4000000 in
theorem opOk_6_a (key hi value : Int) (w : World) (a1 : key < 0) (a3 : (key == 0) = false) : Calls Try.prog 48 #[.agg #[.int .i64 6, .int .i64 key, .int .i64 hi, .int .i64 value]] w fun e w' => e = .returned (.bool false) ∧ Only0 w w' := by
  go_enter Try.func48, Try.ntmps48
  go_wp2_with fail
  go_ret; first | exact ⟨rfl, (Only0.refl w).alloc _⟩ | exact ⟨ret_bool (by simp; omega), (Only0.refl w).alloc _⟩
set_option maxHeartbeats 4000000 in
theorem opOk_6_b (key hi value : Int) (w : World) (a1 : 0 ≤ key) (a2 : 63 < key) (a3 : (key == 0) = false) : Calls Try.prog 48 #[.agg #[.int .i64 6, .int .i64 key, .int .i64 hi, .int .i64 value]] w fun e w' => e = .returned (.bool false) ∧ Only0 w w' := by
  go_enter Try.func48, Try.ntmps48
  go_wp2_with fail
  go_ret; first | exact ⟨rfl, (Only0.refl w).alloc _⟩ | exact ⟨ret_bool (by simp; omega), (Only0.refl w).alloc _⟩
set_option maxHeartbeats 4000000 in
theorem opOk_6_c (key hi value : Int) (w : World) (a1 : 0 ≤ key) (a2 : key ≤ 63) (a3 : (key == 0) = false) : Calls Try.prog 48 #[.agg #[.int .i64 6, .int .i64 key, .int .i64 hi, .int .i64 value]] w fun e w' => e = .returned (.bool false) ∧ Only0 w w' := by
  go_enter Try.func48, Try.ntmps48
  go_wp2_with fail
  go_ret; first | exact ⟨rfl, (Only0.refl w).alloc _⟩ | exact ⟨ret_bool (by simp; omega), (Only0.refl w).alloc _⟩
set_option maxHeartbeats 4000000 in
theorem opOk_6_d (hi value : Int) (w : World) (a3 : (hi == 0) = false) : Calls Try.prog 48 #[.agg #[.int .i64 6, .int .i64 0, .int .i64 hi, .int .i64 value]] w fun e w' => e = .returned (.bool false) ∧ Only0 w w' := by
  go_enter Try.func48, Try.ntmps48
  go_wp2_with fail
  go_ret; first | exact ⟨rfl, (Only0.refl w).alloc _⟩ | exact ⟨ret_bool (by simp; omega), (Only0.refl w).alloc _⟩
set_option maxHeartbeats 4000000 in
theorem opOk_6_e (value : Int) (w : World) (a3 : (value == 0) = false) : Calls Try.prog 48 #[.agg #[.int .i64 6, .int .i64 0, .int .i64 0, .int .i64 value]] w fun e w' => e = .returned (.bool false) ∧ Only0 w w' := by
  go_enter Try.func48, Try.ntmps48
  go_wp2_with fail
  go_ret; first | exact ⟨rfl, (Only0.refl w).alloc _⟩ | exact ⟨ret_bool (by simp; omega), (Only0.refl w).alloc _⟩
set_option maxHeartbeats 4000000 in
theorem opOk_6_f  (w : World)  : Calls Try.prog 48 #[.agg #[.int .i64 6, .int .i64 0, .int .i64 0, .int .i64 0]] w fun e w' => e = .returned (.bool true) ∧ Only0 w w' := by
  go_enter Try.func48, Try.ntmps48
  go_wp2_with fail
  go_ret; first | exact ⟨rfl, (Only0.refl w).alloc _⟩ | exact ⟨ret_bool (by simp; omega), (Only0.refl w).alloc _⟩
set_option maxHeartbeats 4000000 in
theorem opOk_7_a (key hi value : Int) (w : World) (a1 : key < 0) (a3 : (key == 0) = false) : Calls Try.prog 48 #[.agg #[.int .i64 7, .int .i64 key, .int .i64 hi, .int .i64 value]] w fun e w' => e = .returned (.bool false) ∧ Only0 w w' := by
  go_enter Try.func48, Try.ntmps48
  go_wp2_with fail
  go_ret; first | exact ⟨rfl, (Only0.refl w).alloc _⟩ | exact ⟨ret_bool (by simp; omega), (Only0.refl w).alloc _⟩
set_option maxHeartbeats 4000000 in
theorem opOk_7_b (key hi value : Int) (w : World) (a1 : 0 ≤ key) (a2 : 63 < key) (a3 : (key == 0) = false) : Calls Try.prog 48 #[.agg #[.int .i64 7, .int .i64 key, .int .i64 hi, .int .i64 value]] w fun e w' => e = .returned (.bool false) ∧ Only0 w w' := by
  go_enter Try.func48, Try.ntmps48
  go_wp2_with fail
  go_ret; first | exact ⟨rfl, (Only0.refl w).alloc _⟩ | exact ⟨ret_bool (by simp; omega), (Only0.refl w).alloc _⟩
set_option maxHeartbeats 4000000 in
theorem opOk_7_c (key hi value : Int) (w : World) (a1 : 0 ≤ key) (a2 : key ≤ 63) (a3 : (key == 0) = false) : Calls Try.prog 48 #[.agg #[.int .i64 7, .int .i64 key, .int .i64 hi, .int .i64 value]] w fun e w' => e = .returned (.bool false) ∧ Only0 w w' := by
  go_enter Try.func48, Try.ntmps48
  go_wp2_with fail
  go_ret; first | exact ⟨rfl, (Only0.refl w).alloc _⟩ | exact ⟨ret_bool (by simp; omega), (Only0.refl w).alloc _⟩
set_option maxHeartbeats 4000000 in
theorem opOk_7_d (hi value : Int) (w : World) (a3 : (hi == 0) = false) : Calls Try.prog 48 #[.agg #[.int .i64 7, .int .i64 0, .int .i64 hi, .int .i64 value]] w fun e w' => e = .returned (.bool false) ∧ Only0 w w' := by
  go_enter Try.func48, Try.ntmps48
  go_wp2_with fail
  go_ret; first | exact ⟨rfl, (Only0.refl w).alloc _⟩ | exact ⟨ret_bool (by simp; omega), (Only0.refl w).alloc _⟩
set_option maxHeartbeats 4000000 in
theorem opOk_7_e (value : Int) (w : World) (a3 : (value == 0) = false) : Calls Try.prog 48 #[.agg #[.int .i64 7, .int .i64 0, .int .i64 0, .int .i64 value]] w fun e w' => e = .returned (.bool false) ∧ Only0 w w' := by
  go_enter Try.func48, Try.ntmps48
  go_wp2_with fail
  go_ret; first | exact ⟨rfl, (Only0.refl w).alloc _⟩ | exact ⟨ret_bool (by simp; omega), (Only0.refl w).alloc _⟩
set_option maxHeartbeats 4000000 in
theorem opOk_7_f  (w : World)  : Calls Try.prog 48 #[.agg #[.int .i64 7, .int .i64 0, .int .i64 0, .int .i64 0]] w fun e w' => e = .returned (.bool true) ∧ Only0 w w' := by
  go_enter Try.func48, Try.ntmps48
  go_wp2_with fail
  go_ret; first | exact ⟨rfl, (Only0.refl w).alloc _⟩ | exact ⟨ret_bool (by simp; omega), (Only0.refl w).alloc _⟩
set_option maxHeartbeats 4000000 in
theorem opOk_x_a (kind key hi value : Int) (w : World) (b1 : (kind == 1) = false) (b2 : (kind == 2) = false) (b3 : (kind == 3) = false) (b4 : (kind == 4) = false) (b5 : (kind == 5) = false) (b6 : (kind == 6) = false) (b7 : (kind == 7) = false) (a1 : key < 0) : Calls Try.prog 48 #[.agg #[.int .i64 kind, .int .i64 key, .int .i64 hi, .int .i64 value]] w fun e w' => e = .returned (.bool false) ∧ Only0 w w' := by
  go_enter Try.func48, Try.ntmps48
  go_wp2_with fail
  go_ret; first | exact ⟨rfl, (Only0.refl w).alloc _⟩ | exact ⟨ret_bool (by simp; omega), (Only0.refl w).alloc _⟩
set_option maxHeartbeats 4000000 in
theorem opOk_x_b (kind key hi value : Int) (w : World) (b1 : (kind == 1) = false) (b2 : (kind == 2) = false) (b3 : (kind == 3) = false) (b4 : (kind == 4) = false) (b5 : (kind == 5) = false) (b6 : (kind == 6) = false) (b7 : (kind == 7) = false) (a1 : 0 ≤ key) (a2 : 63 < key) : Calls Try.prog 48 #[.agg #[.int .i64 kind, .int .i64 key, .int .i64 hi, .int .i64 value]] w fun e w' => e = .returned (.bool false) ∧ Only0 w w' := by
  go_enter Try.func48, Try.ntmps48
  go_wp2_with fail
  go_ret; first | exact ⟨rfl, (Only0.refl w).alloc _⟩ | exact ⟨ret_bool (by simp; omega), (Only0.refl w).alloc _⟩
set_option maxHeartbeats 4000000 in
theorem opOk_x_c (kind key hi value : Int) (w : World) (b1 : (kind == 1) = false) (b2 : (kind == 2) = false) (b3 : (kind == 3) = false) (b4 : (kind == 4) = false) (b5 : (kind == 5) = false) (b6 : (kind == 6) = false) (b7 : (kind == 7) = false) (a1 : 0 ≤ key) (a2 : key ≤ 63) : Calls Try.prog 48 #[.agg #[.int .i64 kind, .int .i64 key, .int .i64 hi, .int .i64 value]] w fun e w' => e = .returned (.bool false) ∧ Only0 w w' := by
  go_enter Try.func48, Try.ntmps48
  go_wp2_with fail
  go_ret; first | exact ⟨rfl, (Only0.refl w).alloc _⟩ | exact ⟨ret_bool (by simp; omega), (Only0.refl w).alloc _⟩

theorem md_opOk (kind key hi value : Int) (w : World) : Calls Try.prog 48 #[.agg #[.int .i64 kind, .int .i64 key, .int .i64 hi, .int .i64 value]] w fun e w' => e = .returned (.bool (opOkB ⟨kind, key, hi, value⟩)) ∧ Only0 w w' := by
  have hk : key < 0 ∨ (0 ≤ key ∧ 63 < key) ∨ (0 ≤ key ∧ key ≤ 63) := by omega
  have fin : ∀ b : Bool, opOkB ⟨kind, key, hi, value⟩ = b → (Calls Try.prog 48 #[.agg #[.int .i64 kind, .int .i64 key, .int .i64 hi, .int .i64 value]] w fun e w' => e = .returned (.bool b) ∧ Only0 w w') → Calls Try.prog 48 #[.agg #[.int .i64 kind, .int .i64 key, .int .i64 hi, .int .i64 value]] w fun e w' => e = .returned (.bool (opOkB ⟨kind, key, hi, value⟩)) ∧ Only0 w w' := fun b hb h => by rw [hb]; exact h
  by_cases h1 : kind = 1
  · subst h1
    rcases hk with a1 | ⟨a1, a2⟩ | ⟨a1, a2⟩
    · exact fin false (by simp [opOkB, keyOkB]; omega) (opOk_1_a _ _ _ w a1)
    · exact fin false (by simp [opOkB, keyOkB]; omega) (opOk_1_b _ _ _ w a1 a2)
    · by_cases e1 : hi = 0
      · subst e1
        by_cases e2 : value = 0
        · subst e2; exact fin true (by simp [opOkB, keyOkB]; omega) (opOk_1_e _ w a1 a2)
        · exact fin false (by simp [opOkB, keyOkB, e2]) (opOk_1_d _ _ w a1 a2 (by simpa using e2))
      · exact fin false (by simp [opOkB, keyOkB, e1]) (opOk_1_c _ _ _ w a1 a2 (by simpa using e1))
  by_cases h2 : kind = 2
  · subst h2
    rcases hk with a1 | ⟨a1, a2⟩ | ⟨a1, a2⟩
    · exact fin false (by simp [opOkB, keyOkB]; omega) (opOk_2_a _ _ _ w a1)
    · exact fin false (by simp [opOkB, keyOkB]; omega) (opOk_2_b _ _ _ w a1 a2)
    · by_cases e1 : hi = 0
      · subst e1
        by_cases e2 : value < 0
        · exact fin false (by simp [opOkB, keyOkB]; omega) (opOk_2_d _ _ w a1 a2 e2)
        · by_cases e3 : 65535 < value
          · exact fin false (by simp [opOkB, keyOkB]; omega) (opOk_2_e _ _ w a1 a2 (by omega) e3)
          · exact fin true (by simp [opOkB, keyOkB]; omega) (opOk_2_f _ _ w a1 a2 (by omega) (by omega))
      · exact fin false (by simp [opOkB, keyOkB, e1]) (opOk_2_c _ _ _ w a1 a2 (by simpa using e1))
  by_cases h3 : kind = 3
  · subst h3
    rcases hk with a1 | ⟨a1, a2⟩ | ⟨a1, a2⟩
    · exact fin false (by simp [opOkB, keyOkB]; omega) (opOk_3_a _ _ _ w a1)
    · exact fin false (by simp [opOkB, keyOkB]; omega) (opOk_3_b _ _ _ w a1 a2)
    · by_cases e1 : hi = 0
      · subst e1
        by_cases e2 : value < 0
        · exact fin false (by simp [opOkB, keyOkB]; omega) (opOk_3_d _ _ w a1 a2 e2)
        · by_cases e3 : 65535 < value
          · exact fin false (by simp [opOkB, keyOkB]; omega) (opOk_3_e _ _ w a1 a2 (by omega) e3)
          · exact fin true (by simp [opOkB, keyOkB]; omega) (opOk_3_f _ _ w a1 a2 (by omega) (by omega))
      · exact fin false (by simp [opOkB, keyOkB, e1]) (opOk_3_c _ _ _ w a1 a2 (by simpa using e1))
  by_cases h4 : kind = 4
  · subst h4
    rcases hk with a1 | ⟨a1, a2⟩ | ⟨a1, a2⟩
    · exact fin false (by simp [opOkB, keyOkB]; omega) (opOk_4_a _ _ _ w a1)
    · exact fin false (by simp [opOkB, keyOkB]; omega) (opOk_4_b _ _ _ w a1 a2)
    · by_cases e1 : hi = 0
      · subst e1
        by_cases e2 : value = 0
        · subst e2; exact fin true (by simp [opOkB, keyOkB]; omega) (opOk_4_e _ w a1 a2)
        · exact fin false (by simp [opOkB, keyOkB, e2]) (opOk_4_d _ _ w a1 a2 (by simpa using e2))
      · exact fin false (by simp [opOkB, keyOkB, e1]) (opOk_4_c _ _ _ w a1 a2 (by simpa using e1))
  by_cases h5 : kind = 5
  · subst h5
    rcases hk with a1 | ⟨a1, a2⟩ | ⟨a1, a2⟩
    · exact fin false (by simp [opOkB, keyOkB]; omega) (opOk_5_a _ _ _ w a1)
    · exact fin false (by simp [opOkB, keyOkB]; omega) (opOk_5_b _ _ _ w a1 a2)
    · by_cases e1 : hi < key
      · exact fin false (by simp [opOkB, keyOkB]; omega) (opOk_5_c _ _ _ w a1 a2 e1)
      · by_cases e2 : 63 < hi
        · exact fin false (by simp [opOkB, keyOkB]; omega) (opOk_5_d _ _ _ w a1 a2 (by omega) e2)
        · by_cases e3 : value = 0
          · subst e3; exact fin true (by simp [opOkB, keyOkB]; omega) (opOk_5_f _ _ w a1 a2 (by omega) (by omega))
          · exact fin false (by simp [opOkB, keyOkB, e3]) (opOk_5_e _ _ _ w a1 a2 (by omega) (by omega) (by simpa using e3))
  by_cases h6 : kind = 6
  · subst h6
    by_cases e0 : key = 0
    · subst e0
      by_cases e1 : hi = 0
      · subst e1
        by_cases e2 : value = 0
        · subst e2; exact fin true (by simp [opOkB]) (opOk_6_f w)
        · exact fin false (by simp [opOkB, e2]) (opOk_6_e _ w (by simpa using e2))
      · exact fin false (by simp [opOkB, e1]) (opOk_6_d _ _ w (by simpa using e1))
    · have e0' : (key == 0) = false := by simpa using e0
      rcases hk with a1 | ⟨a1, a2⟩ | ⟨a1, a2⟩
      · exact fin false (by simp [opOkB, e0]) (opOk_6_a _ _ _ w a1 e0')
      · exact fin false (by simp [opOkB, e0]) (opOk_6_b _ _ _ w a1 a2 e0')
      · exact fin false (by simp [opOkB, e0]) (opOk_6_c _ _ _ w a1 a2 e0')
  by_cases h7 : kind = 7
  · subst h7
    by_cases e0 : key = 0
    · subst e0
      by_cases e1 : hi = 0
      · subst e1
        by_cases e2 : value = 0
        · subst e2; exact fin true (by simp [opOkB]) (opOk_7_f w)
        · exact fin false (by simp [opOkB, e2]) (opOk_7_e _ w (by simpa using e2))
      · exact fin false (by simp [opOkB, e1]) (opOk_7_d _ _ w (by simpa using e1))
    · have e0' : (key == 0) = false := by simpa using e0
      rcases hk with a1 | ⟨a1, a2⟩ | ⟨a1, a2⟩
      · exact fin false (by simp [opOkB, e0]) (opOk_7_a _ _ _ w a1 e0')
      · exact fin false (by simp [opOkB, e0]) (opOk_7_b _ _ _ w a1 a2 e0')
      · exact fin false (by simp [opOkB, e0]) (opOk_7_c _ _ _ w a1 a2 e0')
  have no : opOkB ⟨kind, key, hi, value⟩ = false := by simp [opOkB, h1, h2, h3, h4, h5, h6, h7]
  rcases hk with a1 | ⟨a1, a2⟩ | ⟨a1, a2⟩
  · exact fin false no (opOk_x_a _ _ _ _ w (by simpa using h1) (by simpa using h2) (by simpa using h3) (by simpa using h4) (by simpa using h5) (by simpa using h6) (by simpa using h7) a1)
  · exact fin false no (opOk_x_b _ _ _ _ w (by simpa using h1) (by simpa using h2) (by simpa using h3) (by simpa using h4) (by simpa using h5) (by simpa using h6) (by simpa using h7) a1 a2)
  · exact fin false no (opOk_x_c _ _ _ _ w (by simpa using h1) (by simpa using h2) (by simpa using h3) (by simpa using h4) (by simpa using h5) (by simpa using h6) (by simpa using h7) a1 a2)
end Go.Proofs.Ytcbhafddehipdaa

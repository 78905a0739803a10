/-
  The functions that JudgeWeaker and JudgeAll hand to All.
-/
import Derived.Test.YtjkdofhlcdimcaaMadeW
namespace Go.Proofs.Ytjkdofhlcdimcaa
open Go.RowKit
set_option linter.unusedVariables false
set_option linter.unusedSimpArgs false

def restF (nz : List Int) (k : Int) : Int := if nz = [] then 0 else nz.getD ((k % 256) % (nz.length : Int)).toNat 0 % 4
def weakF (kl : List RD) (same : Bool) (nz : List Int) (k : Int) : Int :=
  if same || decide (nz = []) then (match kl.find? (fun r => r.lo == k) with | some r => r.link | none => restF nz k) else restF nz k
/-- Where the number of the words that are there now stands. -/
theorem rest_at {nz : List Int} (k : Nat) (hk : k < 64) (hz : 0 < nz.length) : ∃ kk : Nat, kk < nz.length ∧ ((k : Int)).tmod (nz.length : Int) = (kk : Int) ∧ (k : Int) % (nz.length : Int) = (kk : Int) ∧ restF nz k = nz.getD kk 0 % 4 := by
  refine ⟨k % nz.length, Nat.mod_lt _ hz, ?_, ?_, ?_⟩
  · rw [Int.tmod_eq_emod_of_nonneg (by omega), ← Int.natCast_emod]
  · rw [← Int.natCast_emod]
  · have h1 : ¬ nz = [] := fun e => by rw [e] at hz; simp at hz
    have h2 : (k : Int) % 256 = (k : Int) := by omega
    unfold restF
    rw [if_neg h1, h2, ← Int.natCast_emod, Int.toNat_natCast]
def missK (kl : List RD) (x : Int) (k : Nat) : Prop := ∀ j, j < k → (kl.getD j default).lo ≠ x
theorem missK_succ {kl : List RD} {x : Int} {k : Nat} (h : missK kl x k) (h1 : (kl.getD k default).lo ≠ x) : missK kl x (k + 1) := by
  intro j hj
  rcases Nat.lt_succ_iff_lt_or_eq.mp hj with hj | rfl
  · exact h j hj
  · exact h1
theorem missK_hit {kl : List RD} {x : Int} {k : Nat} (h : missK kl x k) (hk : k < kl.length) (h1 : (kl.getD k default).lo = x) : kl.find? (fun r => r.lo == x) = some (kl.getD k default) :=
  find_some_of hk (fun j hj => by simpa using h j hj) (by simpa using h1)
theorem missK_all {kl : List RD} {x : Int} (h : missK kl x kl.length) : kl.find? (fun r => r.lo == x) = none :=
  find_none_of (d := default) (fun j hj => by simpa using h j hj)

set_option maxRecDepth 100000 in
set_option maxHeartbeats 4000000 in
theorem weak_fn_tf (B b8 b5 b4 k : Nat) (ka na : Option Addr) (kc nc : Nat) (kl : List RD) (nz : List Int) (w : World) (hk : k < 64) (hlen : kl.length ≤ 64) (hz : 0 < nz.length) (hn : nz.length ≤ 281474976710656)
    (h8 : Blk w b8 60 #[.slice ka kl.length kc]) (hR : RdOwn B w (.slice ka kl.length kc) kl) (h5 : Blk w b5 4 #[.bool true]) (h4 : Blk w b4 23 #[.slice na nz.length nc]) (hI : Ints .u64 w na nz) :
    Calls Try.prog 39 #[.int .i64 k, .pointer (some ⟨b8, 0, none⟩), .pointer (some ⟨b5, 0, none⟩), .pointer (some ⟨b4, 0, none⟩)] w fun e w' => e = .returned (.int .u64 (weakF kl true nz k)) ∧ ∃ n, w.drewN n = w' := by
  have c8 : w.cell? ⟨b8, 0, none⟩ = some (.slice ka kl.length kc) := h8.cell 0
  have c5 : w.cell? ⟨b5, 0, none⟩ = some (.bool true) := h5.cell 0
  have c4 : w.cell? ⟨b4, 0, none⟩ = some (.slice na nz.length nc) := h4.cell 0
  obtain ⟨_, _, hv, hg⟩ := hR.slice
  have HR := Lib.hid hR
  have HG := Lib.hid (show 0 < kl.length → ∃ g, ka = some ⟨g, 0, none⟩ from by injection hv with e1 e2 e3; rw [e1]; exact hg)
  have HI := Lib.hid hI
  have t0 : ¬ nz.length = 0 := by omega
  have t1 : ¬ nz = [] := fun e => t0 (by rw [e]; rfl)
  have t2 : ((nz.length : Int) == 0) = false := by simpa using t1
  obtain ⟨kk, hkk, hkt, hke, hrf⟩ := rest_at k hk hz
  have hm : bits .and .i64 (k : Int) 255 = (k : Int) := by rw [i64_and255]; omega
  have HMK := Lib.hid hm
  have hkw : IntKind.i64.wrap (kk : Int) = (kk : Int) := IntWalk.i64_in _ (by omega)
  obtain ⟨bn, on, rfl, hc⟩ := hI.at hz
  have qn := hc kk hkk
  have hx3 := u64_and3 (nz.getD kk 0)
  obtain ⟨yn, hyn⟩ : ∃ y, y = nz.getD kk 0 := ⟨_, rfl⟩
  rw [← hyn] at qn hx3 hrf
  have HRF := Lib.hid hrf
  have hkk0 := hkk
  clear hc hyn hrf hm
  clear h8 h5 h4 hR hI hv hg
  go_enter Try.func39, Try.ntmps39
  go_wp2_with fail
  go_loop [6] (fun v => ∃ j : Nat, j ≤ kl.length ∧ v = .int .i64 j ∧ missK kl k j) (fun v => kl.length - (intOf v).toNat)
  case atStart => exact ⟨0, by omega, rfl, fun j hj => absurd hj (by omega)⟩
  case round =>
    obtain ⟨j, hj, rfl, hm⟩ := hrel
    have HM := Lib.hid hm
    clear hm
    by_cases hlt : j < kl.length
    · obtain ⟨g, rfl⟩ := HG.out (by omega)
      have q1 := HR.out.cell rfl j hlt 1 (by decide)
      have q3 := HR.out.cell rfl j hlt 3 (by decide)
      simp only [rdCells, List.getElem?_cons_zero, List.getElem?_cons_succ] at q1 q3
      obtain ⟨y, hy⟩ : ∃ y, y = (kl.getD j default).lo := ⟨_, rfl⟩
      obtain ⟨x, hx⟩ : ∃ x, x = (kl.getD j default).link := ⟨_, rfl⟩
      rw [← hy] at q1
      rw [← hx] at q3
      have HY := Lib.hid hy
      have HX := Lib.hid hx
      clear hy hx
      by_cases he : y = (k : Int)
      · subst he
        have HF := Lib.hid (show weakF kl true nz k = x by
          unfold weakF
          rw [if_pos (by simp), missK_hit HM.out hlt HY.out.symm, HX.out])
        go_wp2_with fail
        go_ret
        exact ⟨ret_int HF.out.symm, 0, rfl⟩
      · have he' : (y == (k : Int)) = false := by simpa using he
        have HM2 := Lib.hid (show missK kl k (j + 1) from missK_succ HM.out (fun h => he (by rw [HY.out, h])))
        clear HM
        go_wp2_with fail
        go_round
        case rel => exact ⟨j + 1, by omega, by go_num, HM2.out⟩
        case measure => simp [intOf]; omega
    · obtain rfl : j = kl.length := by omega
      have HF := Lib.hid (show weakF kl true nz k = yn % 4 by
        unfold weakF
        rw [if_pos (by simp), missK_all HM.out]; exact HRF.out)
      have hm := HMK.out
      have r0 : (0 : Int) ≤ (kk : Int) := by omega
      have r1 : (kk : Int) < (nz.length : Int) := by omega
      clear hlt
      go_wp2_with fail
      go_quiet (fail)
      go_wp2_with fail
      go_ret
      exact ⟨ret_int HF.out.symm, _, rfl⟩

set_option maxRecDepth 100000 in
set_option maxHeartbeats 4000000 in
theorem weak_fn_te (B b8 b5 b4 k : Nat) (ka na : Option Addr) (kc nc : Nat) (kl : List RD)  (w : World) (hk : k < 64) (hlen : kl.length ≤ 64) 
    (h8 : Blk w b8 60 #[.slice ka kl.length kc]) (hR : RdOwn B w (.slice ka kl.length kc) kl) (h5 : Blk w b5 4 #[.bool true]) (h4 : Blk w b4 23 #[.slice na 0 nc]) (hI : Ints .u64 w na ([] : List Int)) :
    Calls Try.prog 39 #[.int .i64 k, .pointer (some ⟨b8, 0, none⟩), .pointer (some ⟨b5, 0, none⟩), .pointer (some ⟨b4, 0, none⟩)] w fun e w' => e = .returned (.int .u64 (weakF kl true ([] : List Int) k)) ∧ ∃ n, w.drewN n = w' := by
  have c8 : w.cell? ⟨b8, 0, none⟩ = some (.slice ka kl.length kc) := h8.cell 0
  have c5 : w.cell? ⟨b5, 0, none⟩ = some (.bool true) := h5.cell 0
  have c4 : w.cell? ⟨b4, 0, none⟩ = some (.slice na 0 nc) := h4.cell 0
  obtain ⟨_, _, hv, hg⟩ := hR.slice
  have HR := Lib.hid hR
  have HG := Lib.hid (show 0 < kl.length → ∃ g, ka = some ⟨g, 0, none⟩ from by injection hv with e1 e2 e3; rw [e1]; exact hg)
  have HI := Lib.hid hI

  clear h8 h5 h4 hR hI hv hg
  go_enter Try.func39, Try.ntmps39
  go_wp2_with fail
  go_loop [6] (fun v => ∃ j : Nat, j ≤ kl.length ∧ v = .int .i64 j ∧ missK kl k j) (fun v => kl.length - (intOf v).toNat)
  case atStart => exact ⟨0, by omega, rfl, fun j hj => absurd hj (by omega)⟩
  case round =>
    obtain ⟨j, hj, rfl, hm⟩ := hrel
    have HM := Lib.hid hm
    clear hm
    by_cases hlt : j < kl.length
    · obtain ⟨g, rfl⟩ := HG.out (by omega)
      have q1 := HR.out.cell rfl j hlt 1 (by decide)
      have q3 := HR.out.cell rfl j hlt 3 (by decide)
      simp only [rdCells, List.getElem?_cons_zero, List.getElem?_cons_succ] at q1 q3
      obtain ⟨y, hy⟩ : ∃ y, y = (kl.getD j default).lo := ⟨_, rfl⟩
      obtain ⟨x, hx⟩ : ∃ x, x = (kl.getD j default).link := ⟨_, rfl⟩
      rw [← hy] at q1
      rw [← hx] at q3
      have HY := Lib.hid hy
      have HX := Lib.hid hx
      clear hy hx
      by_cases he : y = (k : Int)
      · subst he
        have HF := Lib.hid (show weakF kl true ([] : List Int) k = x by
          unfold weakF
          rw [if_pos (by simp), missK_hit HM.out hlt HY.out.symm, HX.out])
        go_wp2_with fail
        go_ret
        exact ⟨ret_int HF.out.symm, 0, rfl⟩
      · have he' : (y == (k : Int)) = false := by simpa using he
        have HM2 := Lib.hid (show missK kl k (j + 1) from missK_succ HM.out (fun h => he (by rw [HY.out, h])))
        clear HM
        go_wp2_with fail
        go_round
        case rel => exact ⟨j + 1, by omega, by go_num, HM2.out⟩
        case measure => simp [intOf]; omega
    · obtain rfl : j = kl.length := by omega
      have HF := Lib.hid (show weakF kl true ([] : List Int) k = 0 by
        unfold weakF
        rw [if_pos (by simp), missK_all HM.out]; rfl)
      clear hlt
      go_wp2_with fail
      go_ret
      exact ⟨ret_int HF.out.symm, 0, rfl⟩

set_option maxRecDepth 100000 in
set_option maxHeartbeats 4000000 in
theorem weak_fn_ff (B b8 b5 b4 k : Nat) (ka na : Option Addr) (kc nc : Nat) (kl : List RD) (nz : List Int) (w : World) (hk : k < 64) (hlen : kl.length ≤ 64) (hz : 0 < nz.length) (hn : nz.length ≤ 281474976710656)
    (h8 : Blk w b8 60 #[.slice ka kl.length kc]) (hR : RdOwn B w (.slice ka kl.length kc) kl) (h5 : Blk w b5 4 #[.bool false]) (h4 : Blk w b4 23 #[.slice na nz.length nc]) (hI : Ints .u64 w na nz) :
    Calls Try.prog 39 #[.int .i64 k, .pointer (some ⟨b8, 0, none⟩), .pointer (some ⟨b5, 0, none⟩), .pointer (some ⟨b4, 0, none⟩)] w fun e w' => e = .returned (.int .u64 (weakF kl false nz k)) ∧ ∃ n, w.drewN n = w' := by
  have c8 : w.cell? ⟨b8, 0, none⟩ = some (.slice ka kl.length kc) := h8.cell 0
  have c5 : w.cell? ⟨b5, 0, none⟩ = some (.bool false) := h5.cell 0
  have c4 : w.cell? ⟨b4, 0, none⟩ = some (.slice na nz.length nc) := h4.cell 0
  obtain ⟨_, _, hv, hg⟩ := hR.slice
  have HR := Lib.hid hR
  have HG := Lib.hid (show 0 < kl.length → ∃ g, ka = some ⟨g, 0, none⟩ from by injection hv with e1 e2 e3; rw [e1]; exact hg)
  have HI := Lib.hid hI
  have t0 : ¬ nz.length = 0 := by omega
  have t1 : ¬ nz = [] := fun e => t0 (by rw [e]; rfl)
  have t2 : ((nz.length : Int) == 0) = false := by simpa using t1
  obtain ⟨kk, hkk, hkt, hke, hrf⟩ := rest_at k hk hz
  have hm : bits .and .i64 (k : Int) 255 = (k : Int) := by rw [i64_and255]; omega
  have HMK := Lib.hid hm
  have hkw : IntKind.i64.wrap (kk : Int) = (kk : Int) := IntWalk.i64_in _ (by omega)
  obtain ⟨bn, on, rfl, hc⟩ := hI.at hz
  have qn := hc kk hkk
  have hx3 := u64_and3 (nz.getD kk 0)
  obtain ⟨yn, hyn⟩ : ∃ y, y = nz.getD kk 0 := ⟨_, rfl⟩
  rw [← hyn] at qn hx3 hrf
  have HRF := Lib.hid hrf
  have hkk0 := hkk
  clear hc hyn hrf hm
  clear h8 h5 h4 hR hI hv hg
  go_enter Try.func39, Try.ntmps39
  go_wp2_with fail
  go_loop [6] (fun v => ∃ j : Nat, j ≤ kl.length ∧ v = .int .i64 j ∧ True) (fun v => kl.length - (intOf v).toNat)
  case atStart => exact ⟨0, by omega, rfl, trivial⟩
  case round =>
    obtain ⟨j, hj, rfl, hm⟩ := hrel
    have HM := Lib.hid hm
    clear hm
    by_cases hlt : j < kl.length
    · obtain ⟨g, rfl⟩ := HG.out (by omega)
      have q1 := HR.out.cell rfl j hlt 1 (by decide)
      have q3 := HR.out.cell rfl j hlt 3 (by decide)
      simp only [rdCells, List.getElem?_cons_zero, List.getElem?_cons_succ] at q1 q3
      obtain ⟨y, hy⟩ : ∃ y, y = (kl.getD j default).lo := ⟨_, rfl⟩
      obtain ⟨x, hx⟩ : ∃ x, x = (kl.getD j default).link := ⟨_, rfl⟩
      rw [← hy] at q1
      rw [← hx] at q3
      have HY := Lib.hid hy
      have HX := Lib.hid hx
      clear hy hx
      by_cases he : y = (k : Int)
      · subst he
        clear HM
        go_wp2_with fail
        go_round
        case rel => exact ⟨j + 1, by omega, by go_num, trivial⟩
        case measure => simp [intOf]; omega
      · have he' : (y == (k : Int)) = false := by simpa using he
        have HM2 := Lib.hid (show True from trivial)
        clear HM
        go_wp2_with fail
        go_round
        case rel => exact ⟨j + 1, by omega, by go_num, HM2.out⟩
        case measure => simp [intOf]; omega
    · obtain rfl : j = kl.length := by omega
      have HF := Lib.hid (show weakF kl false nz k = yn % 4 by
        unfold weakF
        rw [if_neg (by simp [t1])]; exact HRF.out)
      have hm := HMK.out
      have r0 : (0 : Int) ≤ (kk : Int) := by omega
      have r1 : (kk : Int) < (nz.length : Int) := by omega
      clear hlt
      go_wp2_with fail
      go_quiet (fail)
      go_wp2_with fail
      go_ret
      exact ⟨ret_int HF.out.symm, _, rfl⟩

set_option maxRecDepth 100000 in
set_option maxHeartbeats 4000000 in
theorem weak_fn_fe (B b8 b5 b4 k : Nat) (ka na : Option Addr) (kc nc : Nat) (kl : List RD)  (w : World) (hk : k < 64) (hlen : kl.length ≤ 64) 
    (h8 : Blk w b8 60 #[.slice ka kl.length kc]) (hR : RdOwn B w (.slice ka kl.length kc) kl) (h5 : Blk w b5 4 #[.bool false]) (h4 : Blk w b4 23 #[.slice na 0 nc]) (hI : Ints .u64 w na ([] : List Int)) :
    Calls Try.prog 39 #[.int .i64 k, .pointer (some ⟨b8, 0, none⟩), .pointer (some ⟨b5, 0, none⟩), .pointer (some ⟨b4, 0, none⟩)] w fun e w' => e = .returned (.int .u64 (weakF kl false ([] : List Int) k)) ∧ ∃ n, w.drewN n = w' := by
  have c8 : w.cell? ⟨b8, 0, none⟩ = some (.slice ka kl.length kc) := h8.cell 0
  have c5 : w.cell? ⟨b5, 0, none⟩ = some (.bool false) := h5.cell 0
  have c4 : w.cell? ⟨b4, 0, none⟩ = some (.slice na 0 nc) := h4.cell 0
  obtain ⟨_, _, hv, hg⟩ := hR.slice
  have HR := Lib.hid hR
  have HG := Lib.hid (show 0 < kl.length → ∃ g, ka = some ⟨g, 0, none⟩ from by injection hv with e1 e2 e3; rw [e1]; exact hg)
  have HI := Lib.hid hI

  clear h8 h5 h4 hR hI hv hg
  go_enter Try.func39, Try.ntmps39
  go_wp2_with fail
  go_loop [6] (fun v => ∃ j : Nat, j ≤ kl.length ∧ v = .int .i64 j ∧ missK kl k j) (fun v => kl.length - (intOf v).toNat)
  case atStart => exact ⟨0, by omega, rfl, fun j hj => absurd hj (by omega)⟩
  case round =>
    obtain ⟨j, hj, rfl, hm⟩ := hrel
    have HM := Lib.hid hm
    clear hm
    by_cases hlt : j < kl.length
    · obtain ⟨g, rfl⟩ := HG.out (by omega)
      have q1 := HR.out.cell rfl j hlt 1 (by decide)
      have q3 := HR.out.cell rfl j hlt 3 (by decide)
      simp only [rdCells, List.getElem?_cons_zero, List.getElem?_cons_succ] at q1 q3
      obtain ⟨y, hy⟩ : ∃ y, y = (kl.getD j default).lo := ⟨_, rfl⟩
      obtain ⟨x, hx⟩ : ∃ x, x = (kl.getD j default).link := ⟨_, rfl⟩
      rw [← hy] at q1
      rw [← hx] at q3
      have HY := Lib.hid hy
      have HX := Lib.hid hx
      clear hy hx
      by_cases he : y = (k : Int)
      · subst he
        have HF := Lib.hid (show weakF kl false ([] : List Int) k = x by
          unfold weakF
          rw [if_pos (by simp), missK_hit HM.out hlt HY.out.symm, HX.out])
        go_wp2_with fail
        go_ret
        exact ⟨ret_int HF.out.symm, 0, rfl⟩
      · have he' : (y == (k : Int)) = false := by simpa using he
        have HM2 := Lib.hid (show missK kl k (j + 1) from missK_succ HM.out (fun h => he (by rw [HY.out, h])))
        clear HM
        go_wp2_with fail
        go_round
        case rel => exact ⟨j + 1, by omega, by go_num, HM2.out⟩
        case measure => simp [intOf]; omega
    · obtain rfl : j = kl.length := by omega
      have HF := Lib.hid (show weakF kl false ([] : List Int) k = 0 by
        unfold weakF
        rw [if_pos (by simp), missK_all HM.out]; rfl)
      clear hlt
      go_wp2_with fail
      go_ret
      exact ⟨ret_int HF.out.symm, 0, rfl⟩

theorem weak_fn (B b8 b5 b4 k : Nat) (ka na : Option Addr) (kc nc : Nat) (kl : List RD) (nz : List Int) (same : Bool) (w : World) (hk : k < 64) (hlen : kl.length ≤ 64) (hn : nz.length ≤ 281474976710656)
    (h8 : Blk w b8 60 #[.slice ka kl.length kc]) (hR : RdOwn B w (.slice ka kl.length kc) kl) (h5 : Blk w b5 4 #[.bool same]) (h4 : Blk w b4 23 #[.slice na nz.length nc]) (hI : Ints .u64 w na nz) :
    Calls Try.prog 39 #[.int .i64 k, .pointer (some ⟨b8, 0, none⟩), .pointer (some ⟨b5, 0, none⟩), .pointer (some ⟨b4, 0, none⟩)] w fun e w' => e = .returned (.int .u64 (weakF kl same nz k)) ∧ ∃ n, w.drewN n = w' := by
  by_cases hz : 0 < nz.length
  · cases same
    · exact weak_fn_ff B b8 b5 b4 k ka na kc nc kl nz w hk hlen hz hn h8 hR h5 h4 hI
    · exact weak_fn_tf B b8 b5 b4 k ka na kc nc kl nz w hk hlen hz hn h8 hR h5 h4 hI
  · obtain rfl : nz = [] := List.eq_nil_of_length_eq_zero (by omega)
    cases same
    · exact weak_fn_fe B b8 b5 b4 k ka na kc nc kl w hk hlen h8 hR h5 h4 hI
    · exact weak_fn_te B b8 b5 b4 k ka na kc nc kl w hk hlen h8 hR h5 h4 hI
theorem weak_now (B b8 b5 b4 : Nat) (ka na : Option Addr) (kc nc : Nat) (kl : List RD) (nz : List Int) (same : Bool) (w : World) (hlen : kl.length ≤ 64) (hn : nz.length ≤ 281474976710656)
    (h8 : Blk w b8 60 #[.slice ka kl.length kc]) (hR : RdOwn B w (.slice ka kl.length kc) kl) (h5 : Blk w b5 4 #[.bool same]) (h4 : Blk w b4 23 #[.slice na nz.length nc]) (hI : Ints .u64 w na nz) :
    NowIs w (.func (.func 39) #[] #[.pointer (some ⟨b8, 0, none⟩), .pointer (some ⟨b5, 0, none⟩), .pointer (some ⟨b4, 0, none⟩)]) (weakF kl same nz) := by
  refine .inr ⟨_, _, rfl, fun k w => by kernel_rfl, fun w' k o k0 k1 => ?_⟩
  obtain ⟨j, rfl⟩ := Int.eq_ofNat_of_zero_le k0
  have := weak_fn B b8 b5 b4 j ka na kc nc kl nz same w' (by omega) hlen hn (o.blk h8 (fun hf => hf)) (rows_only hR (S := fun _ => False) o (fun _ _ hf => hf)) (o.blk h5 (fun hf => hf)) (o.blk h4 (fun hf => hf)) (hI.below o.below)
  rw [show (#[.int .i64 (j : Int)] ++ #[.pointer (some ⟨b8, 0, none⟩), .pointer (some ⟨b5, 0, none⟩), .pointer (some ⟨b4, 0, none⟩)] : Array Value) = #[.int .i64 (j : Int), .pointer (some ⟨b8, 0, none⟩), .pointer (some ⟨b5, 0, none⟩), .pointer (some ⟨b4, 0, none⟩)] from rfl]
  refine this.mono ?_
  rintro e w1 ⟨rfl, n, rfl⟩
  exact ⟨rfl, (Only0.refl _).drewN n⟩

/-- Told is a row of numbers. -/
def ToldInts (w : World) (e : Ending) (zs : List Int) : Prop := ∃ a c, e = .returned (.slice a zs.length c) ∧ Ints .u64 w a zs ∧ zs.length ≤ 1000000
/-- The range's links of the first range that is the same. -/
def rgIs (lo hi : Int) (r : Rg) : Bool := r.lo == lo && r.hi == hi
def weakS (rs : List Rg) (lo hi : Int) : List Int := match rs.find? (rgIs lo hi) with | some r => r.ls | none => []
set_option maxRecDepth 100000 in
set_option maxHeartbeats 4000000 in
theorem weak_span_fn {B : Nat} {w : World} {P : Nat → Prop} {s : Nat} {keys : List Int} {lk : Nat → Int} {rs : List Rg} (h : SetAt B w P s keys lk rs) (b7 : Nat) (h7 : Blk w b7 29 #[.pointer (some ⟨s, 0, none⟩)]) (lo hi : Int) :
    Calls Try.prog 40 #[.int .i64 lo, .int .i64 hi, .pointer (some ⟨b7, 0, none⟩)] w fun e w' => ToldInts w' e (weakS rs lo hi) ∧ Only0 w w' := by
  have c7 : w.cell? ⟨b7, 0, none⟩ = some (.pointer (some ⟨s, 0, none⟩)) := h7.cell 0
  have C := set_spans h
  have hmost := h.most
  clear h h7
  go_enter Try.func40, Try.ntmps40
  go_wp2_with fail
  refine C.mono ?_
  rintro e w1 ⟨⟨a, ss, rfl, ho, _⟩, b1⟩
  have hl := ho.len
  rw [← hl]
  have HO := Lib.hid ho
  have HL := Lib.hid hl
  have o1 := Below.only0 b1
  have hs64 : ss.length ≤ 64 := by omega
  clear C ho hl b1 c7
  go_wp2_with fail
  go_loop [7] (fun v => ∃ j : Nat, j ≤ ss.length ∧ v = .int .i64 j ∧ ∀ i, i < j → rgIs lo hi (rs.getD i default) = false) (fun v => ss.length - (intOf v).toNat)
  case atStart => exact ⟨0, by omega, rfl, fun i hi => absurd hi (by omega)⟩
  case round =>
    obtain ⟨j, hj, rfl, hm⟩ := hrel
    have HM := Lib.hid hm
    clear hm
    by_cases hlt : j < ss.length
    · rcases HO.out.spans with h0 | ⟨bb, off, rfl, hc⟩
      · rw [h0] at hlt; simp at hlt
      obtain ⟨q0, q1, q2⟩ := hc j hlt
      have R := HO.out.at_ j hlt
      obtain ⟨cpl, hol⟩ := R.own
      have I1 : Ints .u64 w1 (ss.getD j default).la (rs.getD j default).ls := ints_of_own hol
      rw [R.lo] at q0
      rw [R.hi] at q1
      rw [R.n] at q2
      have hsh := R.short
      have hgi : rgIs lo hi (rs.getD j default) = ((rs.getD j default).lo == lo && (rs.getD j default).hi == hi) := rfl
      have hnx := fun (h : rgIs lo hi (rs.getD j default) = true) => find_some_of (xs := rs) (d := default) (k := j) (p := rgIs lo hi) (by have := HL.out; omega) HM.out h
      obtain ⟨r, hr⟩ : ∃ r, r = rs.getD j default := ⟨_, rfl⟩
      rw [← hr] at q0 q1 q2 I1 hsh hgi hnx
      have HRR := Lib.hid hr
      obtain ⟨la, hla⟩ : ∃ x, x = (ss.getD j default).la := ⟨_, rfl⟩
      obtain ⟨lc, hlc⟩ : ∃ x, x = (ss.getD j default).lc := ⟨_, rfl⟩
      rw [← hla] at q2 I1
      rw [← hlc] at q2
      obtain ⟨rlo, rhi, rls⟩ := r
      simp only at q0 q1 q2 I1 hsh hgi
      have HNX := Lib.hid hnx
      have HGI := Lib.hid hgi
      clear hc R hol hr hla hlc hgi hnx
      by_cases h1 : rlo = lo
      · subst h1
        by_cases h2 : rhi = hi
        · subst h2
          have HF := Lib.hid (show weakS rs rlo rhi = rls by unfold weakS; rw [HNX.out (by rw [HGI.out]; simp)])
          have II := Lib.hid I1
          clear I1
          go_wp2_with fail
          go_ret
          exact ⟨⟨la, lc, by rw [HF.out]; rfl, by rw [HF.out]; exact II.out, by rw [HF.out]; exact hsh⟩, o1⟩
        · have h2' : (rhi == hi) = false := by simpa using h2
          have HM2 := Lib.hid (show ∀ i, i < j + 1 → rgIs rlo hi (rs.getD i default) = false from fun i hi' => by
            rcases Nat.lt_succ_iff_lt_or_eq.mp hi' with hi' | rfl
            · exact HM.out i hi'
            · rw [← HRR.out, HGI.out]; simp [h2])
          clear HM HNX HGI I1
          go_wp2_with fail
          go_round
          case rel => exact ⟨j + 1, by omega, by go_num, HM2.out⟩
          case measure => simp [intOf]; omega
      · have h1' : (rlo == lo) = false := by simpa using h1
        have HM2 := Lib.hid (show ∀ i, i < j + 1 → rgIs lo hi (rs.getD i default) = false from fun i hi' => by
          rcases Nat.lt_succ_iff_lt_or_eq.mp hi' with hi' | rfl
          · exact HM.out i hi'
          · rw [← HRR.out, HGI.out]; simp [h1])
        clear HM HNX HGI I1
        go_wp2_with fail
        go_round
        case rel => exact ⟨j + 1, by omega, by go_num, HM2.out⟩
        case measure => simp [intOf]; omega
    · obtain rfl : j = ss.length := by omega
      have HF := Lib.hid (show weakS rs lo hi = [] by
        unfold weakS
        rw [find_none_of (d := default) (p := rgIs lo hi) (xs := rs) (fun j hj => HM.out j (by have := HL.out; omega))])
      clear HM hlt
      go_wp2_with fail
      go_ret
      exact ⟨⟨none, 0, by rw [HF.out]; rfl, by rw [HF.out]; exact Ints.nil _ _ _, by rw [HF.out]; simp⟩, o1⟩
theorem weak_span {B : Nat} {w : World} {P : Nat → Prop} {s : Nat} {keys : List Int} {lk : Nat → Int} {rs : List Rg} (h : SetAt B w P s keys lk rs) (b7 : Nat) (h7 : Blk w b7 29 #[.pointer (some ⟨s, 0, none⟩)]) :
    SpanIs w (.func (.func 40) #[] #[.pointer (some ⟨b7, 0, none⟩)]) (weakS rs) := by
  refine .inr ⟨_, _, rfl, fun x y w => by kernel_rfl, fun w' x y o => ?_⟩
  have := weak_span_fn (h.only0 o) b7 (o.blk h7 (fun hf => hf)) x y
  rw [show (#[.int .i64 x, .int .i64 y] ++ #[.pointer (some ⟨b7, 0, none⟩)] : Array Value) = #[.int .i64 x, .int .i64 y, .pointer (some ⟨b7, 0, none⟩)] from rfl]
  exact this
theorem weaker {keys : List Int} {lk : Nat → Int} {rs : List Rg} {nowf : Int → Int} {spanf : Int → Int → List Int} (h : (allRes 3 keys lk rs nowf spanf).1 = true) : (allRes 2 keys lk rs nowf spanf).1 = true := by
  have e3 : (needK 3 keys lk).find? (badK 3 lk nowf) = none := by
    cases hf : (needK 3 keys lk).find? (badK 3 lk nowf) with
    | none => rfl
    | some k => simp [allRes, show lvl 3 = true from rfl, hf] at h
  have e2 : allRes 2 keys lk rs nowf spanf = (lvl 2, -1) := by
    refine all_good (fun k hk => ?_) (fun r hr => by simp [needR] at hr)
    have hk3 : k ∈ needK 3 keys lk := by simpa [needK] using needK_mem hk
    have := List.find?_eq_none.1 e3 k hk3
    have hj : jkey 3 (lk k.toNat) (nowf k) = true := by simpa [badK] using this
    have he : nowf k = lk k.toNat := by simpa [jkey] using hj
    simp [jkey, he]
  rw [e2]; rfl
end Go.Proofs.Ytjkdofhlcdimcaa

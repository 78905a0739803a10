/-
  model.Model: the closure of Collect (which versions go), and slices.IndexFunc over pointers to versions.
-/
import Derived.Test.YtcbhafddehipdaaMdStat
import Derived.Deep.QuietTactic
import Derived.BigQuiet
namespace Go.Proofs.Ytcbhafddehipdaa
open Go.RowKit
set_option linter.unusedVariables false
set_option linter.unusedSimpArgs false

set_option maxRecDepth 100000 in
set_option maxHeartbeats 8000000 in
theorem md_goneV (w : World) (b bx : Nat) (v : Ver) (low : Int) (h : Blk w b 117 (verCells v)) (hx : w.cell? ⟨bx, 0, none⟩ = some (.int .u64 low)) :
    Calls Try.prog 64 #[.pointer (some ⟨b, 0, none⟩), .pointer (some ⟨bx, 0, none⟩)] w fun e w' => e = .returned (.bool (goneB v low)) ∧ ∃ n, w' = w.drewN n := by
  have v4 : w.cell? ⟨b, 4, none⟩ = some (.int .u64 v.fin) := h.cell 4
  have v5 : w.cell? ⟨b, 5, none⟩ = some (.bool v.dead) := h.cell 5
  cases hd : v.dead with
  | true =>
    rw [hd] at v5
    have HR := Lib.hid (show goneB v low = true by simp [goneB, hd])
    clear h hd
    go_enter Try.func64, Try.ntmps64
    go_wp2_with fail
    go_quiet (fail)
    go_wp2_with fail
    go_ret
    exact ⟨by rw [HR.out]; try rfl, _, rfl⟩
  | false =>
    rw [hd] at v5
    by_cases h1 : 0 < v.fin
    · by_cases h2 : v.fin ≤ low
      · have HR := Lib.hid (show goneB v low = true by simp [goneB, hd, h1, h2])
        clear h hd
        generalize v.fin = f at *
        go_enter Try.func64, Try.ntmps64
        go_wp2_with fail
        go_quiet (fail)
        go_wp2_with fail
        go_ret
        exact ⟨by rw [HR.out]; try rfl, _, rfl⟩
      · have HR := Lib.hid (show goneB v low = false by simp [goneB, hd, h1, h2])
        clear h hd
        generalize v.fin = f at *
        have d2 : decide (f ≤ low) = false := decide_eq_false h2
        clear h2
        go_enter Try.func64, Try.ntmps64
        go_wp2_with fail
        go_quiet (fail)
        go_wp2_with fail
        go_ret
        exact ⟨by rw [HR.out]; try rfl, _, rfl⟩
    · have HR := Lib.hid (show goneB v low = false by simp [goneB, hd, h1])
      clear h hd
      generalize v.fin = f at *
      have d1 : decide (0 < f) = false := decide_eq_false h1
      clear h1
      go_enter Try.func64, Try.ntmps64
      go_wp2_with fail
      go_quiet (fail)
      go_wp2_with fail
      go_ret
      exact ⟨by rw [HR.out]; try rfl, _, rfl⟩

/-- What the predicate is asked: its answer on the numbers of a list, in whatever world that differs in block g alone. -/
def Asks (w : World) (g bx : Nat) (va : Nat → Nat) (l : List Nat) (p : Nat → Bool) : Prop :=
  ∀ w1, Only (fun b => b = g) w w1 → ∀ i, i ∈ l → Calls Try.prog 64 #[.pointer (some ⟨va i, 0, none⟩), .pointer (some ⟨bx, 0, none⟩)] w1 fun e w' => e = .returned (.bool (p i)) ∧ ∃ n, w' = w1.drewN n
/-- The first place where p holds, or none. -/
def HitAt (p : Nat → Bool) (l : List Nat) (r : Int) : Prop := (r = -1 ∧ ∀ k, k < l.length → p (l.getD k 0) = false) ∨ ∃ k, k < l.length ∧ r = (k : Int) ∧ p (l.getD k 0) = true ∧ ∀ j, j < k → p (l.getD j 0) = false

set_option maxRecDepth 100000 in
set_option maxHeartbeats 8000000 in
theorem idx_vers (w : World) (g c bx : Nat) (va : Nat → Nat) (l : List Nat) (p : Nat → Bool) (hlen : l.length ≤ 256) (hrow : ∀ k, k < l.length → w.cell? ⟨g, k, none⟩ = some (.pointer (some ⟨va (l.getD k 0), 0, none⟩))) (ha : Asks w g bx va l p) :
    Calls Try.prog 79 #[.slice (some ⟨g, 0, none⟩) l.length c, .func (.func 64) #[] #[.pointer (some ⟨bx, 0, none⟩)]] w fun e w' => ∃ r : Int, e = .returned (.int .i64 r) ∧ HitAt p l r ∧ ∃ n, w' = w.drewN n := by
  have HA := Lib.hid ha
  have HR := Lib.hid hrow
  clear ha hrow
  go_enter Try.func79, Try.ntmps79
  go_wp2_with fail
  go_loopw [8] (fun i wr => ∃ (q n : Nat), i = .int .i64 q ∧ q ≤ l.length ∧ wr = w.drewN n ∧ Hid (∀ j, j < q → p (l.getD j 0) = false)) (fun i _ => l.length - (intOf i).toNat)
  case atStart => exact ⟨0, 0, rfl, by omega, rfl, Lib.hid (fun j hj => by omega)⟩
  case round =>
    obtain ⟨q, n, rfl, hq, rfl, HN⟩ := hrel
    by_cases hlt : q < l.length
    · have cq : (w.drewN n).cell? ⟨g, q, none⟩ = some (.pointer (some ⟨va (l.getD q 0), 0, none⟩)) := HR.out q hlt
      have hmem : l.getD q 0 ∈ l := by rw [List.getD_eq_getElem?_getD, List.getElem?_eq_getElem hlt]; exact List.getElem_mem hlt
      have C := HA.out (w.drewN n) ((Only.refl _ w).drewN n) _ hmem
      have HQ := Lib.hid (fun (h : p (l.getD q 0) = false) j (hj : j < q + 1) => if e : j = q then e ▸ h else HN.out j (by omega))
      cases hp : p (l.getD q 0) with
      | true =>
        rw [hp] at C
        have R := Lib.hid (show HitAt p l (q : Int) from .inr ⟨q, hlt, rfl, hp, HN.out⟩)
        clear hp HQ hmem
        generalize va (l.getD q 0) = vq at *
        go_wp2_with fail
        refine C.mono ?_
        rintro e w1 ⟨rfl, n1, rfl⟩
        go_wp2_with fail
        exact bodyPost_ret (results_tmp rfl _ _ _) rfl ⟨_, rfl, R.out, n + n1, rfl⟩
      | false =>
        rw [hp] at C
        have R := Lib.hid (HQ.out hp)
        clear hp HQ hmem
        generalize va (l.getD q 0) = vq at *
        go_wp2_with fail
        refine C.mono ?_
        rintro e w1 ⟨rfl, n1, rfl⟩
        go_wp2_with fail
        go_roundw
        case rel => exact ⟨q + 1, n + n1, by go_num, by omega, rfl, R⟩
        case measure => simp [intOf]; omega
    · obtain rfl : q = l.length := by omega
      have R := Lib.hid (show HitAt p l (-1) from .inl ⟨rfl, HN.out⟩)
      clear HN
      go_wp2_with fail
      go_ret
      exact ⟨_, rfl, R.out, n, rfl⟩
end Go.Proofs.Ytcbhafddehipdaa

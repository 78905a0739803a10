/-
  math/bits' two functions; tower's keys, below; Level, From, Range, Steps, Len.
-/
import Derived.Test.YtoemmnojgfnmiaaDoorTowerH
import Derived.Test.YtoemmnojgfnmiaaDoorOnes
import Derived.Shelf.Spec.TrailingZeros
import Derived.Deep.QuietTactic
import Derived.BigQuiet
namespace Go.Proofs.YtoemmnojgfnmiaaDoor
open Go.RowKit
set_option linter.unusedVariables false

/-- The library's table lies where its initialiser lays it. -/
def Tab (w : World) : Prop := TabAt 0 Lib.deBruijn64tab w
theorem Tab.cell {w : World} (h : Tab w) (j : Nat) (hj : j < 64) : w.cell? ⟨0, j, none⟩ = some (.int .u8 (Lib.deBruijn64tab.getD j 0)) := h j hj
theorem Tab.only {w w' : World} {S : Nat → Prop} (h : Tab w) (o : Only S w w') (hs : ¬ S 0) : Tab w' := fun j hj => by
  have hc := h j hj
  have hlt := block_lt_of_cell hc
  exact (World.cell?_of_block (a := ⟨0, j, none⟩) (o.block _ hlt hs)).trans hc

set_option maxHeartbeats 1000000 in
theorem tz_core (x k idx : Nat) (w : World) (hx0 : ((x : Int) == 0) = false)
    (key : IntKind.u64.wrap (bits BinOp.and IntKind.u64 (x : Int) (IntKind.u64.wrap (-(x : Int))) * 285870213051353865) / 288230376151711744 = (idx : Int))
    (hi : idx < 64) (hk : k < 64) (hcell : w.cell? ⟨0, idx, none⟩ = some (.int .u8 k)) :
    Calls Tryd.prog 25 #[.int .u64 x] w fun e w' => e = .returned (.int .i64 k) ∧ w = w' := by
  go_enter Tryd.func25, Tryd.ntmps25
  go_wp2_with (simp only [key])
  go_ret
  exact ⟨rfl, rfl⟩
theorem tz_any (x : Nat) (w : World) (h0 : 0 < x) (hx : x < 18446744073709551616) (hT : Tab w) :
    Calls Tryd.prog 25 #[.int .u64 x] w fun e w' => e = .returned (.int .i64 (Lib.ctz 64 x)) ∧ w = w' := by
  have hx0 : x ≠ 0 := by omega
  obtain ⟨hlow, hk⟩ := Lib.lowest_bit 64 x hx0 hx
  obtain ⟨hi, htab⟩ := Lib.deBruijn64_at _ hk
  have hcell := hT.cell _ hi
  rw [htab] at hcell
  exact tz_core x _ _ w (by simp; omega) (tz64_key x _ hx hx0 hlow) hi hk hcell

theorem wrap64_128 (n : Int) : wrap64 n % 128 = n % 128 := by
  have h : wrap64 n = n - 128 * (144115188075855872 * ((n + 9223372036854775808) / 18446744073709551616)) := by
    unfold wrap64
    have := Int.emod_add_mul_ediv (n + 9223372036854775808) 18446744073709551616
    generalize (n + 9223372036854775808) / 18446744073709551616 = q at *
    generalize (n + 9223372036854775808) % 18446744073709551616 = r at *
    omega
  rw [h, Int.sub_mul_emod_self_left]
set_option maxHeartbeats 2000000 in
theorem ones_any (x : Nat) (w : World) (hx : x < 18446744073709551616) :
    Calls Tryd.prog 28 #[.int .u64 x] w fun e w' => e = .returned (.int .i64 (keysOf x).length) ∧ w = w' := by
  obtain ⟨x1, x2, x3, x4, x5, x6, e1, e2, e3, e4, e5, e6, es, l1, l2, l3, l4, l5, l6⟩ := ones_all x hx
  have a1 : bits .and .u64 ((x : Int) / 2) 6148914691236517205 = ((x / 2 &&& 6148914691236517205 : Nat) : Int) := u64_and_nat (x / 2) 6148914691236517205 (by omega) (by omega)
  have a2 : bits .and .u64 (x : Int) 6148914691236517205 = ((x &&& 6148914691236517205 : Nat) : Int) := u64_and_nat x 6148914691236517205 hx (by omega)
  have b1 : bits .and .u64 ((x1 : Int) / 4) 3689348814741910323 = ((x1 / 4 &&& 3689348814741910323 : Nat) : Int) := u64_and_nat (x1 / 4) 3689348814741910323 (by omega) (by omega)
  have b2 : bits .and .u64 (x1 : Int) 3689348814741910323 = ((x1 &&& 3689348814741910323 : Nat) : Int) := u64_and_nat x1 3689348814741910323 l1 (by omega)
  have c1 : bits .and .u64 ((x2 : Int) / 16 + (x2 : Int)) 1085102592571150095 = (x3 : Int) := by
    have := u64_and_nat (x2 / 16 + x2) 1085102592571150095 (by omega) (by omega)
    rw [e3] at this; simpa using this
  have d1 : bits .and .i64 (wrap64 (x6 : Int)) 127 = ((keysOf x).length : Int) := by
    have := and_mask_i64 (wrap64 (x6 : Int)) 7 (by decide)
    simp only [show (2 : Int) ^ 7 = 128 by decide, show (128 : Int) - 1 = 127 by decide] at this
    rw [this, wrap64_128, ← es]; simp
  generalize (keysOf x).length = n at d1 es ⊢
  generalize (x / 2 &&& 6148914691236517205) = y1 at *
  generalize (x &&& 6148914691236517205) = y2 at *
  generalize (x1 / 4 &&& 3689348814741910323) = y3 at *
  generalize (x1 &&& 3689348814741910323) = y4 at *
  have k1 : IntKind.u64.wrap ((y1 : Int) + (y2 : Int)) = (x1 : Int) := by rw [IntKind.wrap_u64]; omega
  have k2 : IntKind.u64.wrap ((y3 : Int) + (y4 : Int)) = (x2 : Int) := by rw [IntKind.wrap_u64]; omega
  have k3 : IntKind.u64.wrap ((x2 : Int) / 16 + (x2 : Int)) = (x2 : Int) / 16 + (x2 : Int) := by rw [IntKind.wrap_u64]; omega
  have k4 : IntKind.u64.wrap ((x3 : Int) + (x3 : Int) / 256) = (x4 : Int) := by rw [IntKind.wrap_u64]; omega
  have k5 : IntKind.u64.wrap ((x4 : Int) + (x4 : Int) / 65536) = (x5 : Int) := by rw [IntKind.wrap_u64]; omega
  have k6 : IntKind.u64.wrap ((x5 : Int) + (x5 : Int) / 4294967296) = (x6 : Int) := by rw [IntKind.wrap_u64]; omega
  clear e1 e2 e3 e4 e5 e6 es
  go_enter Tryd.func28, Tryd.ntmps28
  go_wp2_with fail
  go_ret
  exact ⟨rfl, rfl⟩

theorem info_int : (Tryd.prog.info? 3).map (fun i => (i.zero, i.size, i.bytes)) = some (some (.int .i64 0), 1, 8) := by kernel_rfl
theorem ints_of_own {B n kc : Nat} {w : World} {e : TypeId} {k : IntKind} {ka : Option Addr} {xs : List Int} (h : w.ownsRow B e 1 (.slice ka n kc) n (xs.map (Value.int k))) : Ints k w ka xs := by
  have hl : xs.length = n := by have := h.1; simpa using this
  rcases h.2 with ⟨_, h0⟩ | ⟨g, cap, cur, hv, _⟩
  · left; exact List.eq_nil_of_length_eq_zero (by omega)
  · right
    injection hv with ha hn hc
    subst ha
    refine ⟨g, 0, rfl, fun i hi => ?_⟩
    rw [Nat.zero_add, h.cellAt i (by omega), List.getElem?_map, List.getElem?_eq_getElem hi, List.getD_eq_getElem?_getD, List.getElem?_eq_getElem hi]
    rfl
/-- Numbers as Ints. -/
def toInts (l : List Nat) : List Int := l.map Int.ofNat
theorem toInts_length (l : List Nat) : (toInts l).length = l.length := by simp [toInts]
/-- A slice of the call's own that reads as l. -/
def Told (B : Nat) (v : Value) (w : World) (l : List Nat) : Prop := w.ownsRow B 3 1 v l.length ((toInts l).map (Value.int .i64))
theorem Told.form {B : Nat} {v : Value} {w : World} {l : List Nat} (h : Told B v w l) : ∃ a c, v = .slice a l.length c ∧ l.length ≤ c ∧ c ≤ 9223372036854775807 ∧ Ints .i64 w a (toInts l) ∧ ∀ x, a = some x → B ≤ x.block := by
  have h0 := h
  rcases h.2 with ⟨rfl, h1⟩ | ⟨g, cap, cur, rfl, hB, hg, hc, hm, _⟩
  · refine ⟨none, 0, by rw [h1], by omega, by omega, ?_, by simp⟩
    left; exact List.eq_nil_of_length_eq_zero (by rw [toInts_length]; exact h1)
  · unfold maxLen at hm
    exact ⟨_, _, rfl, hc, by omega, ints_of_own h0, fun x hx => by cases hx; exact hB⟩
theorem Told.nil (B : Nat) (w : World) : Told B (.slice none 0 0) w [] := World.ownsRow_nil _ _ _ _

set_option maxHeartbeats 4000000 in
theorem keys_any (x : Nat) (w : World) (hx : x < 18446744073709551616) (hT : Tab w) :
    Calls Tryd.prog 27 #[.int .u64 x] w fun e w' => ∃ v, e = .returned v ∧ Told w.heap.size v w' (keysOf x) ∧ Only0 w w' := by
  obtain ⟨i0, hi, hz0, hz1, hz2⟩ := info_parts info_int
  have HT := Lib.hid hT
  clear hT
  go_enter Tryd.func27, Tryd.ntmps27
  go_wp2_with fail
  go_loopw [0, 3] (fun u v wr => ∃ (y : Nat) (acc : List Nat) (v0 : Value), v0 = v ∧ u = .int .u64 y ∧ y < 18446744073709551616 ∧ Hid (acc ++ keysOf y = keysOf x) ∧ Told w.heap.size v0 wr acc ∧ Only0 w wr) (fun u _ _ => (intOf u).toNat)
  case atStart => exact ⟨x, [], _, rfl, rfl, hx, Lib.hid rfl, Told.nil _ _, Only0.refl _⟩
  case round =>
    obtain ⟨y, acc, v, rfl, rfl, hy, HA, hown, ho⟩ := hrel
    by_cases h0 : 0 < y
    · have hTr : Tab wr := HT.out.only ho (fun h => h)
      have C := tz_any y wr h0 hy hTr
      have hne : ((y : Int) != 0) = true := by simp; omega
      have hst := keysOf_step y h0 hy
      have hlt := and_pred_lt y h0
      have hlen : acc.length ≤ 64 := by
        have := HA.out
        have h2 := congrArg List.length this
        have := keysOf_len x
        simp at h2; omega
      have g : bits .and .u64 (y : Int) ((y : Int) - 1) = ((y &&& (y - 1) : Nat) : Int) := by
        have := u64_and_nat y (y - 1) hy (by omega)
        rw [Int.natCast_sub (by omega)] at this; exact this
      generalize y &&& (y - 1) = z at g hst hlt
      obtain ⟨c, hc⟩ : ∃ c, c = Lib.ctz 64 y := ⟨_, rfl⟩
      rw [← hc] at C hst
      have HA' : Hid ((acc ++ [c]) ++ keysOf z = keysOf x) := Lib.hid (by rw [← HA.out, hst]; simp)
      have hown' : wr.ownsRow w.heap.size 3 1 v acc.length ((toInts acc).map (Value.int .i64)) := hown
      clear hst hc hTr hown HA
      go_wp2_with fail
      refine C.mono ?_
      rintro e w1 ⟨rfl, rfl⟩
      go_wp2_with (at_builtin; refine wpList_append_own _ rfl _ _ 40 rfl w.heap.size 3 i0 (.int .i64 0) 1 8 Tryd.underlying40 hi hz0 hz1 hz2 rfl (by decide) _ _ _ rfl (hown'.alloc _) ⟨wr.heap.size, 0, none⟩ 1 1 [.int .i64 (c : Int)] rfl rfl ?c1 ?c2 ?c3 ?c4 ?c5 ?_)
      case c1 =>
        intro j u hj
        match j, hj with
        | 0, hj => simp at hj; subst hj; simp [Addr.add]
      case c2 => intro u hu; simp at hu; subst hu; rfl
      case c3 => unfold maxLen; omega
      case c4 => omega
      case c5 => have := ho.size; simp; omega
      intro v' w3 hown3 hgrow _
      have ho3 : Only0 w w3 := (ho.alloc _).grown hgrow (fun k hk => (hown'.lt k hk).1)
      have T3 : Told w.heap.size v' w3 (acc ++ [c]) := by
        unfold Told; simpa [toInts] using hown3
      clear hown' hgrow ho hown3
      go_wp2_with fail
      go_roundw
      case rel => exact ⟨z, acc ++ [c], _, rfl, rfl, by omega, HA', T3, ho3⟩
      case measure => simp [intOf]; omega
    · obtain rfl : y = 0 := by omega
      have E : acc = keysOf x := by have := HA.out; rw [keysOf_zero, List.append_nil] at this; exact this
      have hown' : Told w.heap.size v wr (keysOf x) := by rw [← E]; exact hown
      clear E hown HA
      go_wp2_with fail
      go_ret
      exact ⟨_, rfl, hown', ho⟩
end Go.Proofs.YtoemmnojgfnmiaaDoor

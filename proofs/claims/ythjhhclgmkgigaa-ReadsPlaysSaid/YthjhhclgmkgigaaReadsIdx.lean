/-
  slices.IndexFunc and ContainsFunc over ranges, with Covers' closure.
-/
import Derived.Test.YthjhhclgmkgigaaReadsCov
namespace Go.Proofs.Ythjhhclgmkgigaa
open Go.RowKit
set_option linter.unusedVariables false

/-- A range with where its links lie. -/
structure SP where
  lo : Int
  hi : Int
  la : Option Addr
  ln : Nat
  lc : Nat
instance : Inhabited SP := ⟨⟨0, 0, none, 0, 0⟩⟩
/-- How the ranges lie in a row. -/
def Spans (w : World) (a : Option Addr) (ss : List SP) : Prop :=
  ss = [] ∨ ∃ b off, a = some ⟨b, off, none⟩ ∧ ∀ i, i < ss.length → w.cell? ⟨b, off + i * 3, none⟩ = some (.int .i64 (ss.getD i default).lo) ∧ w.cell? ⟨b, off + i * 3 + 1, none⟩ = some (.int .i64 (ss.getD i default).hi) ∧ w.cell? ⟨b, off + i * 3 + 2, none⟩ = some (.slice (ss.getD i default).la (ss.getD i default).ln (ss.getD i default).lc)
def outUpto (ss : List SP) (k : Int) (n : Nat) : Prop := ∀ j, j < n → inSpan k (ss.getD j default).lo (ss.getD j default).hi = false
def anySpan (ss : List SP) (k : Int) : Bool := ss.any fun s => inSpan k s.lo s.hi
theorem any_hit {ss : List SP} {k : Int} {n : Nat} (hn : n < ss.length) (h : inSpan k (ss.getD n default).lo (ss.getD n default).hi = true) : anySpan ss k = true := by
  rw [anySpan, List.any_eq_true]
  refine ⟨ss.getD n default, ?_, h⟩
  rw [List.getD_eq_getElem?_getD, List.getElem?_eq_getElem hn]; exact List.getElem_mem _
theorem any_miss {ss : List SP} {k : Int} (h : outUpto ss k ss.length) : anySpan ss k = false := by
  rw [anySpan, List.any_eq_false]
  intro s hs
  obtain ⟨i, hi, rfl⟩ := List.getElem_of_mem hs
  have := h i hi
  rw [List.getD_eq_getElem?_getD, List.getElem?_eq_getElem hi] at this
  simpa using this
theorem out_succ {ss : List SP} {k : Int} {n : Nat} (h : outUpto ss k n) (h1 : inSpan k (ss.getD n default).lo (ss.getD n default).hi = false) : outUpto ss k (n + 1) := by
  intro j hj
  rcases Nat.lt_succ_iff_lt_or_eq.mp hj with hj | rfl
  · exact h j hj
  · exact h1
theorem Spans.only {w w' : World} {a : Option Addr} {ss : List SP} (h : Spans w a ss) (o : Only0 w w') : Spans w' a ss := by
  rcases h with rfl | ⟨b, off, rfl, hc⟩
  · exact .inl rfl
  · refine .inr ⟨b, off, rfl, fun i hi => ?_⟩
    obtain ⟨h1, h2, h3⟩ := hc i hi
    have hlt := block_lt_of_cell h1
    have e := o.block b hlt (fun h => h)
    exact ⟨(World.cell?_of_block e).trans h1, (World.cell?_of_block e).trans h2, (World.cell?_of_block e).trans h3⟩

set_option maxHeartbeats 2000000 in
theorem idx_fn (a : Option Addr) (c kb : Nat) (k : Int) (ss : List SP) (w : World) (hx : Spans w a ss) (hb : Blk w kb 3 #[.int .i64 k]) (lx : ss.length ≤ 1000) :
    Calls Try.prog 33 #[.slice a ss.length c, .func (.func 24) #[] #[.pointer (some ⟨kb, 0, none⟩)]] w fun e w' => (∃ r : Int, e = .returned (.int .i64 r) ∧ decide (0 ≤ r) = anySpan ss k) ∧ Only0 w w' := by
  go_enter Try.func33, Try.ntmps33
  go_wp2_with fail
  go_loopw [8] (fun i wr => ∃ n : Nat, n ≤ ss.length ∧ i = .int .i64 n ∧ outUpto ss k n ∧ Only0 w wr) (fun i _ => ss.length - (intOf i).toNat)
  case atStart => exact ⟨0, Nat.zero_le _, rfl, fun j hj => absurd hj (by omega), Only0.refl _⟩
  case round =>
    obtain ⟨n, hn, rfl, hm, o1⟩ := hrel
    have HM := Lib.hid hm
    clear hm
    by_cases hlt : n < ss.length
    · rcases (hx.only o1) with h0 | ⟨b, off, rfl, hc⟩
      · exact absurd hlt (by rw [h0]; simp)
      obtain ⟨c1, c2, c3⟩ := hc n hlt
      have hb' : Blk wr kb 3 #[.int .i64 k] := o1.blk hb (fun h => h)
      clear hc
      have HX := Lib.hid hx
      clear hx
      obtain ⟨S, hS⟩ : ∃ S, S = ss.getD n default := ⟨_, rfl⟩
      rw [← hS] at c1 c2 c3
      have HS := Lib.hid hS
      clear hS
      have C := cov_fn kb k S.lo S.hi S.la S.ln S.lc wr hb'
      by_cases hin : inSpan k S.lo S.hi = true
      · rw [hin] at C
        go_wp2_with fail
        refine C.mono ?_
        rintro e w2 ⟨rfl, o2⟩
        go_wp2_with fail
        go_ret
        exact ⟨⟨_, rfl, by rw [any_hit hlt (by rw [← HS.out]; exact hin)]; simp⟩, o1.trans o2⟩
      · rw [Bool.not_eq_true] at hin
        rw [hin] at C
        go_wp2_with fail
        refine C.mono ?_
        rintro e w2 ⟨rfl, o2⟩
        go_wp2_with fail
        go_roundw
        case rel => exact ⟨n + 1, by omega, by go_num, out_succ HM.out (by rw [← HS.out]; exact hin), o1.trans o2⟩
        case measure => simp [intOf]; omega
    · obtain rfl : n = ss.length := by omega
      clear hx
      go_wp2_with fail
      go_ret
      exact ⟨⟨_, rfl, by rw [any_miss HM.out]; simp⟩, o1⟩
end Go.Proofs.Ythjhhclgmkgigaa

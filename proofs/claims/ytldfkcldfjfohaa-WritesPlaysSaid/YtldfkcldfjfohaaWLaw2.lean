/-
  Layer 14: the Pairs of a law.
-/
import Derived.Test.YtldfkcldfjfohaaWLaw
namespace Go.Proofs.Ytldfkcldfjfohaa
open Go.RowKit Go.ChangeShapes Go.WideShapes Go.Deep
attribute [local go_sem ↓] Go.wp_at_zero Go.wp_at_succ
set_option linter.unusedVariables false
set_option linter.unusedSimpArgs false

theorem op_block {w0 : World} {la : Option Addr} {l : List (List Int)} (h : OpsIn w0 la l) {n : Nat} {b off : Nat} (hn : n < l.length) (hla : la = some ⟨b, off, none⟩) : b < w0.heap.size := by
  obtain ⟨b', off', e, hc⟩ := h.1.at (by omega)
  rw [hla] at e
  injection e with e
  injection e with e1 e2
  subst e1 e2
  have q0 := hc n 0 hn (by decide)
  have hm : l.getD n [] ∈ l := by rw [List.getD_eq_getElem?_getD, List.getElem?_eq_getElem hn]; exact List.getElem_mem _
  obtain ⟨K, I, V, hr⟩ := rec3 (h.2 _ hm).1
  rw [hr] at q0
  exact block_lt_of_cell q0
theorem nat_rem (x : Int) (m : Int) (hm : 0 < m) : ∃ k : Nat, x % m = k ∧ (k : Int) < m := by
  have h0 := Int.emod_nonneg x (Int.ne_of_gt hm)
  have h1 := Int.emod_lt_of_pos x hm
  exact ⟨(x % m).toNat, by omega, by omega⟩
/-- A row beside the set has grown. -/
theorem SW.grown {w0 w w2 : World} {P : Nat → Prop} {b : Nat} {s : Wr} {v : Value} {o : Obj} (h : SW w0 w P b s) (hab : Above (rowOf v) w0.heap.size) (ap : Apart P (rowOf v)) (hg : (w.alloc o).grownBy w2 v.ownBlock) : SW w0 w2 P b s := by
  have oR : Only (rowOf v) (w.alloc o) w2 := ⟨hg.os, hg.tape, hg.output, hg.size, fun b hb hn => hg.block b hb (fun e => hn e.symm)⟩
  have o1 : Only (rowOf v) w w2 := ((Only.refl _ w).alloc o).trans oR
  exact ⟨h.set.only o1 ap, ((h.o.any _).trans o1).mono (fun k hk hP => by have := hab k hP; omega)⟩
theorem ap_grown {w : World} {P : Nat → Prop} {v : Value} {gg n c : Nat} (hu : Under P w.heap.size) (ap : Apart P (rowOf v)) (hat : v.ownBlock = some gg ∨ gg = w.heap.size + 1) : Apart P (rowOf (.slice (some ⟨gg, 0, none⟩) n c)) := by
  intro k hk hr
  obtain rfl := rowOf_some.1 hr
  rcases hat with h | h
  · exact ap k hk h
  · have := hu k hk; omega
/-- Over as a law uses it. -/
theorem sw_over {w0 w : World} {P : Nat → Prop} {b : Nat} {s : Wr} (h : SW w0 w P b s) (a : Option Addr) (c : Nat) (ps : PL) (lo hi : Int) (hp : PairsIn w a ps) (hr : Srt ps) (hlen : ps.length ≤ 1000) :
    Calls Try.prog 12 #[.pointer (some ⟨b, 0, none⟩), .slice a ps.length c, .int .i64 lo, .int .i64 hi] w fun e w' => ∃ (o : PL) (a' : Option Addr) (c' : Nat), e = .returned (.slice a' o.length c') ∧ IsOver s ps lo hi o ∧ PairsIn w' a' o ∧ o.length ≤ ps.length + 64 ∧ Only0 w w' :=
  (wr_over h.set a c ps lo hi hp (by omega)).mono fun e w' ⟨⟨o, a', c', h1, h2, h3, h4, h5⟩, h6⟩ => ⟨o, a', c', h1, by
    unfold OverOut at h2
    rw [if_pos ((risesB_iff ps).2 hr)] at h2
    exact h2, h3, h4, h6⟩
theorem key_range {s : Wr} (h : WOk s) : ∀ k, k ∈ s.keys → 0 ≤ k ∧ k ≤ 63 := h.key
end Go.Proofs.Ytldfkcldfjfohaa

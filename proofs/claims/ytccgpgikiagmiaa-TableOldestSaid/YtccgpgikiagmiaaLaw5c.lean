/-
  The walk of TableEnds.
-/
import Derived.Test.YtccgpgikiagmiaaLaw5b
namespace Go.Proofs.Ytccgpgikiagmiaa
open Go.RowKit
set_option linter.unusedVariables false

theorem end_one {B : Nat} {w : World} {t : Nat} {v : Value} {ps : List Nat} {b en st : Int} (h : Tab B w t v ps 3 [⟨3, b, en, st⟩]) (e : Int) (he : 0 ≤ e ∧ e ≤ 18446744073709551615) (hen : 0 ≤ en) :
    Calls Try.prog 18 #[ptr t, .int .i64 1, .int .u64 e] w fun x w' => x = .returned (.int .i64 (endErr [⟨3, b, en, st⟩] 1 e)) ∧ Tab B w' t v ps 3 (endTs [⟨3, b, en, st⟩] 1 e) ∧ Below B w w' :=
  (table_end h 1 e he (by simpa using hen)).mono fun x w' ⟨hx, hT, ho⟩ => ⟨hx, hT, h.below ho⟩
theorem end_state {B : Nat} {w : World} {t : Nat} {v : Value} {ps : List Nat} {b en st : Int} (h : Tab B w t v ps 3 [⟨3, b, en, st⟩]) (e : Int) (he : 0 ≤ e ∧ e ≤ 18446744073709551615) (hen : 0 ≤ en) (hs : st ≠ 2 ∨ 0 < en) :
    Calls Try.prog 18 #[ptr t, .int .i64 1, .int .u64 e] w fun x w' => x = .returned (.int .i64 7) ∧ Tab B w' t v ps 3 [⟨3, b, en, st⟩] ∧ Below B w w' := by
  have e1 : endErr [⟨3, b, en, st⟩] 1 e = 7 := if_pos hs
  have e2 : endTs [⟨3, b, en, st⟩] 1 e = [⟨3, b, en, st⟩] := by
    show (if endErr [⟨3, b, en, st⟩] 1 e = 0 then _ else _) = _
    rw [e1]; rfl
  have := end_one h e he hen
  rwa [e1, e2] at this
theorem end_arg {B : Nat} {w : World} {t : Nat} {v : Value} {ps : List Nat} {b : Int} (h : Tab B w t v ps 3 [⟨3, b, 0, 2⟩]) (e : Int) (he : 0 ≤ e ∧ e ≤ 18446744073709551615) (hb : 0 ≤ b) (hs : ¬ (b < e ∧ e ≤ 1099511627776)) :
    Calls Try.prog 18 #[ptr t, .int .i64 1, .int .u64 e] w fun x w' => x = .returned (.int .i64 1) ∧ Tab B w' t v ps 3 [⟨3, b, 0, 2⟩] ∧ Below B w w' := by
  have e1 : endErr [⟨3, b, 0, 2⟩] 1 e = 1 := by
    show (if (2 : Int) ≠ 2 ∨ (0 : Int) < 0 then (7 : Int) else if e = 0 ∨ 1099511627776 < e ∨ e ≤ b then 1 else 0) = 1
    rw [if_neg (by omega), if_pos (by omega)]
  have e2 : endTs [⟨3, b, 0, 2⟩] 1 e = [⟨3, b, 0, 2⟩] := by
    show (if endErr [⟨3, b, 0, 2⟩] 1 e = 0 then _ else _) = _
    rw [e1]; rfl
  have := end_one h e he (Int.le_refl 0)
  rwa [e1, e2] at this
theorem end_ok {B : Nat} {w : World} {t : Nat} {v : Value} {ps : List Nat} {b : Int} (h : Tab B w t v ps 3 [⟨3, b, 0, 2⟩]) (e : Int) (hb : 0 ≤ b) (hs : b < e) (hs2 : e ≤ 1099511627776) :
    Calls Try.prog 18 #[ptr t, .int .i64 1, .int .u64 e] w fun x w' => x = .returned (.int .i64 0) ∧ Tab B w' t v ps 3 [⟨3, b, e, 2⟩] ∧ Below B w w' := by
  have e1 : endErr [⟨3, b, 0, 2⟩] 1 e = 0 := by
    show (if (2 : Int) ≠ 2 ∨ (0 : Int) < 0 then (7 : Int) else if e = 0 ∨ 1099511627776 < e ∨ e ≤ b then 1 else 0) = 0
    rw [if_neg (by omega), if_neg (by omega)]
  have e2 : endTs [⟨3, b, 0, 2⟩] 1 e = [⟨3, b, e, 2⟩] := by
    show (if endErr [⟨3, b, 0, 2⟩] 1 e = 0 then _ else _) = _
    rw [e1]; rfl
  have := end_one h e (by omega) (Int.le_refl 0)
  rwa [e1, e2] at this
theorem turn_one {B : Nat} {w : World} {t : Nat} {v : Value} {ps : List Nat} {b en st : Int} (h : Tab B w t v ps 3 [⟨3, b, en, st⟩]) (to : Int) (hto : -9223372036854775808 ≤ to ∧ to ≤ 9223372036854775807) (hc : can st to = true) :
    Calls Try.prog 13 #[ptr t, .int .i64 1, .int .i64 to] w fun e w' => e = .returned (.int .i64 0) ∧ Tab B w' t v ps 3 [⟨3, b, en, to⟩] ∧ Below B w w' := by
  have e1 : turnErr [⟨3, b, en, st⟩] 1 to = 0 := if_pos hc
  have e2 : turnTs [⟨3, b, en, st⟩] 1 to = [⟨3, b, en, to⟩] := by
    show (if can st to then _ else _) = _
    rw [hc]; rfl
  have := turn_any h 1 to hto
  rwa [e1, e2] at this
theorem get_one {B : Nat} {w : World} {t : Nat} {v : Value} {ps : List Nat} {b en st : Int} (h : Tab B w t v ps 3 [⟨3, b, en, st⟩]) :
    Calls Try.prog 17 #[ptr t, .int .i64 1] w fun e w' => e = .returned (.tuple #[.agg #[.int .i64 3, .int .i64 st, .int .u64 b, .int .u64 en], .bool true]) ∧ Tab B w' t v ps 3 [⟨3, b, en, st⟩] ∧ Below B w w' := by
  have hG := table_get h 1 (by omega) (by simp)
  rw [show ((1 : Int) - 1).toNat = 0 from rfl] at hG
  simp only [List.getD_cons_zero, TX.agg] at hG
  exact hG.mono fun e w' ⟨he, ho⟩ => ⟨he, h.only ho (fun _ _ hf => hf), (ho.below).mono (by have := h.bt; have := h.head.lt; omega)⟩

/-- A new block for a struct that a call handed back. -/
theorem Tab.box {B : Nat} {w : World} {t : Nat} {v : Value} {ps : List Nat} {most : Int} {ts : List TX} (h : Tab B w t v ps most ts) (o : Obj) : Tab B (w.alloc o) t v ps most ts := h.only ((Only0.refl w).alloc o) (fun _ _ hf => hf)

set_option maxRecDepth 100000 in
set_option maxHeartbeats 8000000 in
theorem tableEnds_walk (b0 en tn sd : Int) (w : World) (_h0 : (Lit.int .u64 b0).wf = true) (h1 : (Lit.int .u64 en).wf = true) (_h2 : (Lit.int .i64 tn).wf = true) (h3 : (Lit.int .u64 sd).wf = true) :
    Calls Try.prog 6 #[.int .u64 b0, .int .u64 en, .int .i64 tn, .int .u64 sd] w fun e w' => e = .returned (.bool true) ∧ Below w.heap.size w w' := by
  have hm := u64_and39 b0
  have hm2 := i64_and3 tn
  have m0 : 0 ≤ b0 % 549755813888 := by omega
  have m1 : b0 % 549755813888 < 549755813888 := by omega
  generalize b0 % 549755813888 = b at *
  generalize tn % 4 = n at *
  obtain ⟨p0, p1⟩ := bounds_u64 h1
  obtain ⟨q0, q1⟩ := bounds_u64 h3
  clear h1 h3
  by_cases hn : n = 0
  · subst hn
    go_enter Try.func6, Try.ntmps6
    go_wp2_with fail
    refine (table_new 3 (by omega) (by omega) w).mono ?_
    rintro e w1 ⟨t, rfl, h1, b1⟩
    unfold ptr
    go_wp2_with fail
    refine (make_ok h1 3 b (by omega) (by omega) (by omega) (by simp)).mono ?_
    rintro e w2 ⟨rfl, v2, ps2, h2, b2⟩
    replace h2 : Tab w.heap.size w2 t v2 ps2 3 [⟨3, b, 0, 1⟩] := h2
    go_wp2_with fail
    refine (end_state h2 (b + 1) (by omega) (by omega) (.inl (by decide))).mono ?_
    rintro e w3 ⟨rfl, h3, b3⟩
    go_wp2_with fail
    refine (turn_one h3 4 (by omega) rfl).mono ?_
    rintro e w4 ⟨rfl, h4, b4⟩
    go_wp2_with fail
    refine (end_state h4 en (by omega) (by omega) (.inl (by decide))).mono ?_
    rintro e w5 ⟨rfl, h5, b5⟩
    go_wp2_with fail
    refine (get_one h5).mono ?_
    rintro e w6 ⟨rfl, h6, b6⟩
    go_wp2_with fail
    refine (awake5_any _).mono ?_
    rintro e w7 ⟨rfl, b7⟩
    go_wp2_with fail
    go_ret
    have bb6 := ((((b1.trans b2).trans b3).trans b4).trans b5).trans b6
    exact ⟨rfl, (bb6.alloc bb6.size _).trans (b7.mono (by have := bb6.size; simp; omega))⟩
  · have hn' : (n == 0) = false := by simpa using hn
    go_enter Try.func6, Try.ntmps6
    go_wp2_with fail
    refine (table_new 3 (by omega) (by omega) w).mono ?_
    rintro e w1 ⟨t, rfl, h1, b1⟩
    unfold ptr
    go_wp2_with fail
    refine (make_ok h1 3 b (by omega) (by omega) (by omega) (by simp)).mono ?_
    rintro e w2 ⟨rfl, v2, ps2, h2, b2⟩
    replace h2 : Tab w.heap.size w2 t v2 ps2 3 [⟨3, b, 0, 1⟩] := h2
    go_wp2_with fail
    refine (end_state h2 (b + 1) (by omega) (by omega) (.inl (by decide))).mono ?_
    rintro e w3 ⟨rfl, h3, b3⟩
    go_wp2_with fail
    refine (turn_one h3 2 (by omega) rfl).mono ?_
    rintro e w4 ⟨rfl, h4, b4⟩
    by_cases hg : b < en ∧ en ≤ 1099511627776
    · obtain ⟨g0, g1⟩ := hg
      go_wp2_with fail
      refine (end_ok h4 en m0 g0 g1).mono ?_
      rintro e w5 ⟨rfl, h5, b5⟩
      go_wp2_with fail
      refine (get_one h5).mono ?_
      rintro e w6 ⟨rfl, h6, b6⟩
      have bb6 := ((((b1.trans b2).trans b3).trans b4).trans b5).trans b6
      clear b1 b2 b3 b4 b5 b6 h1 h2 h3 h4 h5
      go_wp2_with fail
      have hX6 := Blk.new w6 39 #[.int .i64 3, .int .i64 2, .int .u64 b, .int .u64 en]
      have h7 := h6.box (.cells #[.int .i64 3, .int .i64 2, .int .u64 b, .int .u64 en] 39)
      have bb7 := bb6.alloc bb6.size (.cells #[.int .i64 3, .int .i64 2, .int .u64 b, .int .u64 en] 39)
      generalize w6.alloc (.cells #[.int .i64 3, .int .i64 2, .int .u64 b, .int .u64 en] 39) = w7 at hX6 h7 bb7 ⊢
      refine (end_state h7 sd (by omega) (by omega) (.inr (by omega))).mono ?_
      rintro e w8 ⟨rfl, h8, b8⟩
      go_wp2_with fail
      refine (get_one h8).mono ?_
      rintro e w9 ⟨rfl, h9, b9⟩
      have bb9 := (bb7.trans b8).trans b9
      go_wp2_with fail
      have h10 := h9.box (.cells #[.int .i64 3, .int .i64 2, .int .u64 b, .int .u64 en] 39)
      have bb10 := bb9.alloc bb9.size (.cells #[.int .i64 3, .int .i64 2, .int .u64 b, .int .u64 en] 39)
      generalize w9.alloc (.cells #[.int .i64 3, .int .i64 2, .int .u64 b, .int .u64 en] 39) = w10 at h10 bb10 ⊢
      refine (turn_one h10 3 (by omega) rfl).mono ?_
      rintro e w11 ⟨rfl, h11, b11⟩
      have bb11 := bb10.trans b11
      go_wp2_with fail
      refine (awake5_any _).mono ?_
      rintro e w12 ⟨rfl, b12⟩
      go_wp2_with fail
      go_ret
      exact ⟨rfl, bb11.trans (b12.mono bb11.size)⟩
    · have hg' : en ≤ b ∨ (b < en ∧ 1099511627776 < en) := by omega
      clear hg
      rcases hg' with g0 | ⟨g0, g1⟩
      all_goals
        go_wp2_with fail
        refine (end_arg h4 en (by omega) m0 (by omega)).mono ?_
        rintro e w5 ⟨rfl, h5, b5⟩
        go_wp2_with fail
        refine (get_one h5).mono ?_
        rintro e w6 ⟨rfl, h6, b6⟩
        have bb6 := ((((b1.trans b2).trans b3).trans b4).trans b5).trans b6
        clear b1 b2 b3 b4 b5 b6 h1 h2 h3 h4 h5
        go_wp2_with fail
        have hX6 := Blk.new w6 39 #[.int .i64 3, .int .i64 2, .int .u64 b, .int .u64 0]
        have h7 := h6.box (.cells #[.int .i64 3, .int .i64 2, .int .u64 b, .int .u64 0] 39)
        have bb7 := bb6.alloc bb6.size (.cells #[.int .i64 3, .int .i64 2, .int .u64 b, .int .u64 0] 39)
        generalize w6.alloc (.cells #[.int .i64 3, .int .i64 2, .int .u64 b, .int .u64 0] 39) = w7 at hX6 h7 bb7 ⊢
        by_cases hsd : b < sd ∧ sd ≤ 1099511627776
        · obtain ⟨s0, s1⟩ := hsd
          refine (end_ok h7 sd m0 s0 s1).mono ?_
          rintro e w8 ⟨rfl, h8, b8⟩
          go_wp2_with fail
          refine (get_one h8).mono ?_
          rintro e w9 ⟨rfl, h9, b9⟩
          have bb9 := (bb7.trans b8).trans b9
          go_wp2_with fail
          refine (awake5_any _).mono ?_
          rintro e w10 ⟨rfl, b10⟩
          go_wp2_with fail
          go_ret
          exact ⟨ret_bool (by simp; try omega), (bb9.alloc bb9.size _).trans (b10.mono (by have := bb9.size; simp; omega))⟩
        · refine (end_arg h7 sd (by omega) m0 hsd).mono ?_
          rintro e w8 ⟨rfl, h8, b8⟩
          have hsd' : sd ≤ b ∨ (b < sd ∧ 1099511627776 < sd) := by omega
          clear hsd
          rcases hsd' with s0 | ⟨s0, s1⟩
          all_goals
            go_wp2_with fail
            refine (get_one h8).mono ?_
            rintro e w9 ⟨rfl, h9, b9⟩
            have bb9 := (bb7.trans b8).trans b9
            go_wp2_with fail
            refine (awake5_any _).mono ?_
            rintro e w10 ⟨rfl, b10⟩
            go_wp2_with fail
            go_ret
            exact ⟨ret_bool (by simp; try omega), (bb9.alloc bb9.size _).trans (b10.mono (by have := bb9.size; simp; omega))⟩
end Go.Proofs.Ytccgpgikiagmiaa

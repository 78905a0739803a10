/-
  The walks of TableOnce, TableEnds and TableOldest.
-/
import Derived.Test.YtccgpgikiagmiaaLaw5
namespace Go.Proofs.Ytccgpgikiagmiaa
open Go.RowKit
set_option linter.unusedVariables false

theorem own_shape {w : World} {B : Nat} {e : TypeId} {v : Value} {n : Nat} {xs : List Value} (h : w.ownsRow B e 1 v n xs) : ∃ ao cap, v = .slice ao n cap := by
  rcases h.2 with ⟨rfl, h0⟩ | ⟨g, cap, cur, rfl, hg, hh, r⟩
  · exact ⟨none, 0, by rw [h0]⟩
  · exact ⟨_, cap, rfl⟩
theorem own_ints {w : World} {B : Nat} {e : TypeId} {ao : Option Addr} {n cap : Nat} {k : IntKind} {zs : List Int} (h : w.ownsRow B e 1 (.slice ao n cap) n (zs.map (Value.int k))) : Ints k w ao zs := by
  have hl : zs.length = n := by simpa using h.1
  by_cases h0 : zs = []
  · exact .inl h0
  · rcases h.2 with ⟨he, h00⟩ | ⟨g, cap', cur, he, hg, hh, r⟩
    · subst h00; exact .inl (List.length_eq_zero_iff.1 hl)
    · injection he with e1 e2 e3
      subst e1 e3
      refine .inr ⟨g, 0, rfl, fun i hi => ?_⟩
      rw [Nat.zero_add, h.cellAt i (by omega)]
      simp [hi]

/-- The states, and how often one came to an end: what TableOnce counts. -/
def Tally (st ends done : Int) : Prop := ((st = 1 ∨ st = 2) ∧ ends = 0 ∧ done = 0) ∨ ((st = 3 ∨ st = 4) ∧ ends = 1 ∧ done = 0) ∨ (st = 5 ∧ ends = 1 ∧ done = 1)
theorem Tally.step {st ends done to : Int} (h : Tally st ends done) (hc : can st to = true) : (to = 2 ∧ ends = 0 ∧ done = 0 ∧ Tally to ends done) ∨ ((to = 3 ∨ to = 4) ∧ ends = 0 ∧ done = 0 ∧ Tally to (ends + 1) done) ∨ (to = 5 ∧ ends = 1 ∧ done = 0 ∧ Tally to ends (done + 1)) := by
  rcases h with ⟨h | h, rfl, rfl⟩ | ⟨h | h, rfl, rfl⟩ | ⟨h, rfl, rfl⟩ <;> subst h <;> simp [can] at hc
  · rcases hc with rfl | rfl
    · exact .inl ⟨rfl, rfl, rfl, .inl ⟨.inr rfl, rfl, rfl⟩⟩
    · exact .inr (.inl ⟨.inr rfl, rfl, rfl, .inr (.inl ⟨.inr rfl, rfl, rfl⟩)⟩)
  · rcases hc with rfl | rfl
    · exact .inr (.inl ⟨.inl rfl, rfl, rfl, .inr (.inl ⟨.inl rfl, rfl, rfl⟩)⟩)
    · exact .inr (.inl ⟨.inr rfl, rfl, rfl, .inr (.inl ⟨.inr rfl, rfl, rfl⟩)⟩)
  · subst hc; exact .inr (.inr ⟨rfl, rfl, rfl, .inr (.inr ⟨rfl, rfl, rfl⟩)⟩)
  · subst hc; exact .inr (.inr ⟨rfl, rfl, rfl, .inr (.inr ⟨rfl, rfl, rfl⟩)⟩)
theorem turn1 (st to : Int) : turnErr [⟨1, 5, 0, st⟩] 1 to = (if can st to then 0 else 7) ∧ turnTs [⟨1, 5, 0, st⟩] 1 to = (if can st to then [⟨1, 5, 0, to⟩] else [⟨1, 5, 0, st⟩]) := by
  constructor
  · rfl
  · show (if can st to then _ else _) = _
    split <;> rfl

set_option maxRecDepth 100000 in
set_option maxHeartbeats 4000000 in
theorem tableOnce_walk (a : Option Addr) (c : Nat) (l : List Int) (w : World) (hl : Ints .i64 w a l) (_hw : ∀ n ∈ l, (Lit.int .i64 n).wf = true) (hr : l.length * 8 ≤ 140737488351232) (_h1 : l.length ≤ c) (_h2 : c ≤ 9223372036854775807) :
    Calls Try.prog 5 #[.slice a l.length c] w fun e w' => e = .returned (.bool true) ∧ Below w.heap.size w w' := by
  go_enter Try.func5, Try.ntmps5
  go_wp2_with fail
  refine (table_new 1 (by omega) (by omega) w).mono ?_
  rintro e w1 ⟨t, rfl, h1, b1⟩
  unfold ptr
  go_wp2_with fail
  refine (make_ok h1 1 5 (by omega) (by omega) (by omega) (by simp)).mono ?_
  rintro e w2 ⟨rfl, v2, ps2, h2, b2⟩
  replace h2 : Tab w.heap.size w2 t v2 ps2 1 [⟨1, 5, 0, 1⟩] := h2
  replace b2 := b1.trans b2
  clear h1 b1
  go_wp2_with fail
  go_loopw [7, 8, 9, 10] (fun x y z i wr => ∃ (k : Nat) (st ends done : Int), k ≤ l.length ∧ k ≤ 100 ∧ x = .int .i64 ends ∧ y = .int .i64 done ∧ z = .int .i64 st ∧ i = .int .i64 k ∧ Tally st ends done ∧ Tab w.heap.size wr t v2 ps2 1 [⟨1, 5, 0, st⟩] ∧ Below w.heap.size w wr) (fun _ _ _ i _ => l.length - (intOf i).toNat)
  case atStart => exact ⟨0, 1, 0, 0, by omega, by omega, rfl, rfl, rfl, rfl, .inl ⟨.inl rfl, rfl, rfl⟩, h2, b2⟩
  case round =>
    obtain ⟨k, st, ends, done, hk, hk2, rfl, rfl, rfl, rfl, hta, hT, hb⟩ := hrel
    have HTa := Lib.hid hta
    clear hta
    by_cases hlt : k < l.length ∧ k < 100
    · obtain ⟨hlt, hlt2⟩ := hlt
      obtain ⟨b, off, rfl, hc⟩ := hl.at (by omega)
      have hc0 := hc k hlt
      have hbw := block_lt_of_cell hc0
      have hc1 := (hb.cell (p := ⟨b, off + k, none⟩) hbw).trans hc0
      generalize l.getD k 0 = x at hc1
      clear hc hl hc0
      have hm := i64_and7 x
      have m0 : 0 ≤ x % 8 := by omega
      have m1 : x % 8 < 8 := by omega
      generalize x % 8 = y at hm m0 m1
      cases hcc : can st (y - 1) with
      | true =>
        have hstep := HTa.out.step hcc
        rcases hstep with ⟨g1, g2, g3, g4⟩ | ⟨g1 | g1, g2, g3, g4⟩ | ⟨g1, g2, g3, g4⟩
        · obtain rfl : y = 3 := by omega
          rw [show ((3 : Int) - 1) = 2 from rfl] at hcc g4 g1
          have hT1 := turn_any hT 1 2 (by omega)
          obtain ⟨e1, e2⟩ := turn1 st 2
          rw [e1, e2] at hT1
          have hcan := fun wx => can_at st 2 wx
          rw [hcc] at hT1
          simp only [if_true, hcc] at hT1 hcan
          have G := Lib.hid g4
          clear g4 g1 e1 e2 hcc HTa
          subst g2 g3
          go_wp2_with fail
          refine hT1.mono ?_
          rintro e w3 ⟨rfl, h3, b3⟩
          go_wp2_with fail
          refine (hcan w3).mono ?_
          rintro e w4 ⟨rfl, rfl⟩
          have b4 := hb.trans b3
          clear hc1
          go_wp2_with fail
          go_roundw
          case rel => exact ⟨k + 1, 2, _, _, by omega, by omega, rfl, rfl, rfl, by go_num, G.out, h3, b4⟩
          case measure => simp [intOf]; omega
        · obtain rfl : y = 4 := by omega
          rw [show ((4 : Int) - 1) = 3 from rfl] at hcc g4 g1
          have hT1 := turn_any hT 1 3 (by omega)
          obtain ⟨e1, e2⟩ := turn1 st 3
          rw [e1, e2] at hT1
          have hcan := fun wx => can_at st 3 wx
          rw [hcc] at hT1
          simp only [if_true, hcc] at hT1 hcan
          have G := Lib.hid g4
          clear g4 g1 e1 e2 hcc HTa
          subst g2 g3
          go_wp2_with fail
          refine hT1.mono ?_
          rintro e w3 ⟨rfl, h3, b3⟩
          go_wp2_with fail
          refine (hcan w3).mono ?_
          rintro e w4 ⟨rfl, rfl⟩
          have b4 := hb.trans b3
          clear hc1
          go_wp2_with fail
          go_roundw
          case rel => exact ⟨k + 1, 3, _, _, by omega, by omega, rfl, rfl, rfl, by go_num, G.out, h3, b4⟩
          case measure => simp [intOf]; omega
        · obtain rfl : y = 5 := by omega
          rw [show ((5 : Int) - 1) = 4 from rfl] at hcc g4 g1
          have hT1 := turn_any hT 1 4 (by omega)
          obtain ⟨e1, e2⟩ := turn1 st 4
          rw [e1, e2] at hT1
          have hcan := fun wx => can_at st 4 wx
          rw [hcc] at hT1
          simp only [if_true, hcc] at hT1 hcan
          have G := Lib.hid g4
          clear g4 g1 e1 e2 hcc HTa
          subst g2 g3
          go_wp2_with fail
          refine hT1.mono ?_
          rintro e w3 ⟨rfl, h3, b3⟩
          go_wp2_with fail
          refine (hcan w3).mono ?_
          rintro e w4 ⟨rfl, rfl⟩
          have b4 := hb.trans b3
          clear hc1
          go_wp2_with fail
          go_roundw
          case rel => exact ⟨k + 1, 4, _, _, by omega, by omega, rfl, rfl, rfl, by go_num, G.out, h3, b4⟩
          case measure => simp [intOf]; omega
        · obtain rfl : y = 6 := by omega
          rw [show ((6 : Int) - 1) = 5 from rfl] at hcc g4 g1
          have hT1 := turn_any hT 1 5 (by omega)
          obtain ⟨e1, e2⟩ := turn1 st 5
          rw [e1, e2] at hT1
          have hcan := fun wx => can_at st 5 wx
          rw [hcc] at hT1
          simp only [if_true, hcc] at hT1 hcan
          have G := Lib.hid g4
          clear g4 g1 e1 e2 hcc HTa
          subst g2 g3
          go_wp2_with fail
          refine hT1.mono ?_
          rintro e w3 ⟨rfl, h3, b3⟩
          go_wp2_with fail
          refine (hcan w3).mono ?_
          rintro e w4 ⟨rfl, rfl⟩
          have b4 := hb.trans b3
          clear hc1
          go_wp2_with fail
          go_roundw
          case rel => exact ⟨k + 1, 5, _, _, by omega, by omega, rfl, rfl, rfl, by go_num, G.out, h3, b4⟩
          case measure => simp [intOf]; omega
      | false =>
        have hT1 := turn_any hT 1 (y - 1) (by omega)
        obtain ⟨e1, e2⟩ := turn1 st (y - 1)
        rw [e1, e2] at hT1
        have hcan := fun wx => can_at st (y - 1) wx
        rw [hcc] at hT1
        simp only [hcc] at hcan
        simp only [Bool.false_eq_true, if_false] at hT1
        clear e1 e2 hcc
        go_wp2_with fail
        refine hT1.mono ?_
        rintro e w3 ⟨rfl, h3, b3⟩
        go_wp2_with fail
        refine (hcan w3).mono ?_
        rintro e w4 ⟨rfl, rfl⟩
        have b4 := hb.trans b3
        clear hc1
        go_wp2_with fail
        go_roundw
        case rel => exact ⟨k + 1, st, ends, done, by omega, by omega, rfl, rfl, rfl, by go_num, HTa.out, h3, b4⟩
        case measure => simp [intOf]; omega
    · have hd : ¬ (k < l.length) ∨ (k < l.length ∧ ¬ (k < 100)) := by omega
      clear hlt
      have hl5 : (liveTs [⟨1, 5, 0, st⟩]).length = (if ends = 0 then 1 else 0) := by
        rcases HTa.out with ⟨h | h, rfl, rfl⟩ | ⟨h | h, rfl, rfl⟩ | ⟨h, rfl, rfl⟩ <;> subst h <;> rfl
      have hed : (ends = 0 ∧ done = 0) ∨ (ends = 1 ∧ done = 0) ∨ (ends = 1 ∧ done = 1) := by
        rcases HTa.out with ⟨h, rfl, rfl⟩ | ⟨h, rfl, rfl⟩ | ⟨h, rfl, rfl⟩ <;> simp
      clear HTa
      have hG := table_get hT 1 (by omega) (by simp)
      rw [show ((1 : Int) - 1).toNat = 0 from rfl] at hG
      simp only [List.getD_cons_zero, TX.agg] at hG
      rcases hd with hd | ⟨hd1, hd⟩ <;> rcases hed with ⟨rfl, rfl⟩ | ⟨rfl, rfl⟩ | ⟨rfl, rfl⟩
      all_goals
        have HL := Lib.hid hl5
        clear hl5
        go_wp2_with fail
        refine hG.mono ?_
        rintro e w3 ⟨rfl, o3⟩
        have h3 := hT.only o3 (fun _ _ hf => hf)
        have b3 := hb.trans (o3.below.mono hb.size)
        go_wp2_with fail
        have z3 := b3.size
        have hX4 := Blk.new w3 39 #[.int .i64 1, .int .i64 st, .int .u64 5, .int .u64 0]
        have h4 := h3.only ((Only0.refl w3).alloc (.cells #[.int .i64 1, .int .i64 st, .int .u64 5, .int .u64 0] 39)) (fun _ _ hf => hf)
        have b4 := b3.alloc z3 (.cells #[.int .i64 1, .int .i64 st, .int .u64 5, .int .u64 0] 39)
        generalize w3.alloc (.cells #[.int .i64 1, .int .i64 st, .int .u64 5, .int .u64 0] 39) = w4 at hX4 h4 b4 ⊢
        have c4 : w4.cell? ⟨w3.heap.size, 1, none⟩ = some (.int .i64 st) := by rw [hX4.cell]; rfl
        refine (table_make_full h4 1 6 (by omega) (by omega) (by omega) (by simp)).mono ?_
        rintro e w5 ⟨rfl, n, rfl⟩
        have h5 := h4.only ((Only0.refl w4).drewN n) (fun _ _ hf => hf)
        go_wp2_with fail
        refine (table_live h5).mono ?_
        rintro e w6 ⟨u, rfl, hown, o6⟩
        obtain ⟨ao, cap, hu⟩ := own_shape hown
        rw [HL.out] at hu
        subst hu
        have b6 := (below_drewN b4 n).trans (o6.below.mono (by simpa using b4.size))
        go_wp2_with fail
        refine (awake5_any _).mono ?_
        rintro e w7 ⟨rfl, b7⟩
        go_wp2_with fail
        go_ret
        exact ⟨rfl, b6.trans (b7.mono b6.size)⟩
end Go.Proofs.Ytccgpgikiagmiaa

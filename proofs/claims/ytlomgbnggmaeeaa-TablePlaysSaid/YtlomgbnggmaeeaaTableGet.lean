/-
  What (*Table).Get, Live and Oldest do.
-/
import Derived.Test.YtlomgbnggmaeeaaTableEnd
import Derived.Test.YtlomgbnggmaeeaaInts
import Derived.StillTailTactics
namespace Go.Proofs.Ytlomgbnggmaeeaa
open Go.RowKit
set_option linter.unusedVariables false

def TX.agg (x : TX) : Value := .agg #[.int .i64 x.level, .int .i64 x.st, .int .u64 x.beg, .int .u64 x.en]

set_option maxRecDepth 100000 in
set_option maxHeartbeats 1000000 in
theorem table_get {B : Nat} {w : World} {t : Nat} {v : Value} {ps : List Nat} {most : Int} {ts : List TX} (h : Tab B w t v ps most ts) (id : Int) (h0 : 1 ≤ id) (h1 : id ≤ (ts.length : Int)) :
    Calls Try.prog 12 #[ptr t, .int .i64 id] w fun e w' => e = .returned (.tuple #[(ts.getD (id - 1).toNat TX.zero).agg, .bool true]) ∧ Only0 w w' := by
  have hil : (id - 1).toNat < ts.length := by omega
  have oE : Only0 w (w.alloc (.cells #[.int .i64 0, .int .i64 0, .int .u64 0, .int .u64 0] 44)) := (Only0.refl w).alloc _
  have hT := h.only oE (fun _ _ hf => hf)
  have hgo := get_on hT id h0 h1
  have hx := hT.tx _ hil
  have hplt := h.foot_lt _ (.inr (.inr (mem_getD (show (id - 1).toNat < ps.length by rw [h.len]; exact hil))))
  unfold TX.agg
  generalize ts.getD (id - 1).toNat TX.zero = x at *
  generalize ps.getD (id - 1).toNat 0 = p at *
  obtain ⟨c0, c1, c2, c3⟩ := tx_c hx
  have hne : ¬ w.heap.size = p := by omega
  unfold ptr at *
  have hw := oE
  generalize x.level = x0 at *
  generalize x.beg = x1 at *
  generalize x.en = x2 at *
  generalize x.st = x3 at *
  have hld := i64_load p 3 x3 (w.alloc (.cells #[.int .i64 0, .int .i64 0, .int .u64 0, .int .u64 0] 44)).drew c3
  have hR : Blk (w.alloc (.cells #[.int .i64 0, .int .i64 0, .int .u64 0, .int .u64 0] 44)) w.heap.size 44 #[.int .i64 0, .int .i64 0, .int .u64 0, .int .u64 0] := Blk.new _ _ _
  clear hx hT h hw
  go_enter Try.func12, Try.ntmps12
  go_wp2_with fail
  refine hgo.mono ?_
  rintro e w1 ⟨rfl, rfl⟩
  generalize w.alloc (.cells #[.int .i64 0, .int .i64 0, .int .u64 0, .int .u64 0] 44) = w1 at *
  have r0 := hR.cell 0
  have r1 := hR.cell 1
  have r2 := hR.cell 2
  have r3 := hR.cell 3
  have g0 := hR.free 0
  have g1 := hR.free 1
  have g2 := hR.free 2
  have g3 := hR.free 3
  go_wp2_with fail
  refine wp_region_still_tail 17 (by kernel_rfl) (by kernel_rfl) ?_
  simp only [List.take_succ_cons, List.take_zero, List.drop_succ_cons, List.drop_zero]
  repeat still_step
  still_call (hld.mono fun e w' h => ⟨h.1, h.2.symm⟩)
  repeat still_step
  refine wpStill_nil ?_
  change wpList _ _ _ _ _ w1.drew
  go_wp2_with fail
  have hb := ((((hR.set 0 (.int .i64 x0)).set 1 (.int .i64 x3)).set 2 (.int .u64 x1)).set 3 (.int .u64 x2)).drew
  have ho : Only0 w ((((w1.setCell ⟨w.heap.size, 0, none⟩ (.int .i64 x0)).setCell ⟨w.heap.size, 1, none⟩ (.int .i64 x3)).setCell ⟨w.heap.size, 2, none⟩ (.int .u64 x1)).setCell ⟨w.heap.size, 3, none⟩ (.int .u64 x2)).drew :=
    ((((oE.setCell (p := ⟨w.heap.size, 0, none⟩) (by simp) _).setCell (p := ⟨w.heap.size, 1, none⟩) (by simp) _).setCell (p := ⟨w.heap.size, 2, none⟩) (by simp) _).setCell (p := ⟨w.heap.size, 3, none⟩) (by simp) _).drew
  generalize ((((w1.setCell ⟨w.heap.size, 0, none⟩ (.int .i64 x0)).setCell ⟨w.heap.size, 1, none⟩ (.int .i64 x3)).setCell ⟨w.heap.size, 2, none⟩ (.int .u64 x1)).setCell ⟨w.heap.size, 3, none⟩ (.int .u64 x2)).drew = w2 at hb ho ⊢
  have q0 := hb.cell 0
  have q1 := hb.cell 1
  have q2 := hb.cell 2
  have q3 := hb.cell 3
  simp at q0 q1 q2 q3
  exact bodyPost_ret (v := .tuple #[.agg #[.int .i64 x0, .int .i64 x3, .int .u64 x1, .int .u64 x2], .bool true]) (by simp [results, Try.results12, go_sem, q0, q1, q2, q3]) rfl ⟨rfl, ho⟩

set_option maxRecDepth 100000 in
set_option maxHeartbeats 1000000 in
theorem table_get_off {B : Nat} {w : World} {t : Nat} {v : Value} {ps : List Nat} {most : Int} {ts : List TX} (h : Tab B w t v ps most ts) (id : Int) (hi : id < 1 ∨ (ts.length : Int) < id) :
    Calls Try.prog 12 #[ptr t, .int .i64 id] w fun e w' => e = .returned (.tuple #[TX.zero.agg, .bool false]) ∧ Only0 w w' := by
  have oE : Only0 w (w.alloc (.cells #[.int .i64 0, .int .i64 0, .int .u64 0, .int .u64 0] 44)) := (Only0.refl w).alloc _
  have hT := h.only oE (fun _ _ hf => hf)
  have hgo := get_off hT id hi
  unfold TX.agg TX.zero
  unfold ptr at *
  have hR : Blk (w.alloc (.cells #[.int .i64 0, .int .i64 0, .int .u64 0, .int .u64 0] 44)) w.heap.size 44 #[.int .i64 0, .int .i64 0, .int .u64 0, .int .u64 0] := Blk.new _ _ _
  clear hT h
  go_enter Try.func12, Try.ntmps12
  go_wp2_with fail
  refine hgo.mono ?_
  rintro e w1 ⟨rfl, rfl⟩
  generalize w.alloc (.cells #[.int .i64 0, .int .i64 0, .int .u64 0, .int .u64 0] 44) = w1 at *
  have r0 := hR.cell 0
  have r1 := hR.cell 1
  have r2 := hR.cell 2
  have r3 := hR.cell 3
  have g0 := hR.free 0
  have g1 := hR.free 1
  have g2 := hR.free 2
  have g3 := hR.free 3
  go_wp2_with fail
  have hb := (((hR.set 0 (.int .i64 0)).set 1 (.int .i64 0)).set 2 (.int .u64 0)).set 3 (.int .u64 0)
  have ho : Only0 w ((((w1.setCell ⟨w.heap.size, 0, none⟩ (.int .i64 0)).setCell ⟨w.heap.size, 1, none⟩ (.int .i64 0)).setCell ⟨w.heap.size, 2, none⟩ (.int .u64 0)).setCell ⟨w.heap.size, 3, none⟩ (.int .u64 0)) :=
    (((oE.setCell (p := ⟨w.heap.size, 0, none⟩) (by simp) _).setCell (p := ⟨w.heap.size, 1, none⟩) (by simp) _).setCell (p := ⟨w.heap.size, 2, none⟩) (by simp) _).setCell (p := ⟨w.heap.size, 3, none⟩) (by simp) _
  generalize ((((w1.setCell ⟨w.heap.size, 0, none⟩ (.int .i64 0)).setCell ⟨w.heap.size, 1, none⟩ (.int .i64 0)).setCell ⟨w.heap.size, 2, none⟩ (.int .u64 0)).setCell ⟨w.heap.size, 3, none⟩ (.int .u64 0)) = w2 at hb ho ⊢
  have q0 := hb.cell 0
  have q1 := hb.cell 1
  have q2 := hb.cell 2
  have q3 := hb.cell 3
  simp at q0 q1 q2 q3
  exact bodyPost_ret (v := .tuple #[.agg #[.int .i64 0, .int .i64 0, .int .u64 0, .int .u64 0], .bool false]) (by simp [results, Try.results12, go_sem, q0, q1, q2, q3]) rfl ⟨rfl, ho⟩

set_option maxHeartbeats 1000000 in
theorem table_oldest {B : Nat} {w : World} {t : Nat} {v : Value} {ps : List Nat} {most : Int} {ts : List TX} (h : Tab B w t v ps most ts) (now : Int) :
    Calls Try.prog 17 #[ptr t, .int .u64 now] w fun e w' => e = .returned (.int .u64 (oldTs ts now)) ∧ w = w' := by
  have hs := h.small
  obtain ⟨ao, cap, hv⟩ := h.nil_or
  have c1 := h.c1
  rw [hv] at c1
  unfold ptr
  go_enter Try.func17, Try.ntmps17
  go_wp2_with fail
  go_loop [1, 12] (fun a i => ∃ k : Nat, k ≤ ts.length ∧ i = .int .i64 k ∧ a = .int .u64 (oldTs (ts.take k) now)) (fun _ i => ts.length - (intOf i).toNat)
  case atStart => exact ⟨0, Nat.zero_le _, rfl, rfl⟩
  case round =>
    obtain ⟨k, hk, rfl, rfl⟩ := hrel
    by_cases hlt : k < ts.length
    · obtain ⟨g, cap', hv', hc⟩ := h.cell k hlt
      rw [hv] at hv'
      injection hv' with e1 e2 e3
      subst e1
      have hx := h.tx k hlt
      have hsu := oldTs_take_succ ts k hlt now
      unfold ptr at *
      generalize ts.getD k TX.zero = x at *
      generalize ps.getD k 0 = p at *
      generalize oldTs (ts.take k) now = a at *
      have hl := tx_lives hx
      unfold ptr at hl
      have c11 := (tx_c hx).2.1
      cases hlv : x.lives with
      | false =>
        rw [hlv] at hl hsu
        have HS := Lib.hid hsu
        clear hsu hlv hx e3 hv
        go_wp2_with fail
        refine hl.mono ?_
        rintro e w1 ⟨rfl, rfl⟩
        go_wp2_with fail
        go_round
        case rel => exact ⟨k + 1, by omega, by go_num, by rw [HS.out]; rfl⟩
        case measure => simp [intOf]; omega
      | true =>
        rw [hlv] at hl hsu
        rw [if_pos rfl] at hsu
        have HS := Lib.hid hsu
        clear hsu hlv hx e3 hv
        have HM := Lib.hid (show ∀ b : Int, imin a b = (if b < a then b else a) from fun _ => rfl)
        generalize x.beg = b at *
        by_cases hba : b < a
        · go_wp2_with fail
          refine hl.mono ?_
          rintro e w1 ⟨rfl, rfl⟩
          go_wp2_with fail
          go_round
          case rel => exact ⟨k + 1, by omega, by go_num, by rw [HS.out, HM.out, if_pos (by omega)]⟩
          case measure => simp [intOf]; omega
        · go_wp2_with fail
          refine hl.mono ?_
          rintro e w1 ⟨rfl, rfl⟩
          go_wp2_with fail
          go_round
          case rel => exact ⟨k + 1, by omega, by go_num, by rw [HS.out, HM.out, if_neg (by omega)]⟩
          case measure => simp [intOf]; omega
    · obtain rfl : k = ts.length := by omega
      go_wp2_with fail
      go_ret
      exact ⟨by simp, rfl⟩

theorem info_int : (Try.prog.info? 3).map (fun i => (i.zero, i.size, i.bytes)) = some (some (.int .i64 0), 1, 8) := by kernel_rfl

set_option maxHeartbeats 2000000 in
theorem table_live {B : Nat} {w : World} {t : Nat} {v : Value} {ps : List Nat} {most : Int} {ts : List TX} (h : Tab B w t v ps most ts) :
    Calls Try.prog 15 #[ptr t] w fun e w' => ∃ u, e = .returned u ∧ w'.ownsRow w.heap.size 3 1 u (liveTs ts).length ((liveTs ts).map (Value.int .i64)) ∧ Only0 w w' := by
  have hs := h.small
  obtain ⟨ao, cap, hv⟩ := h.nil_or
  have c1 := h.c1
  rw [hv] at c1
  obtain ⟨i0, hi, hz0, hz1, hz2⟩ := info_parts info_int
  unfold ptr liveTs
  go_enter Try.func15, Try.ntmps15
  go_wp2_with fail
  go_loopw [3, 11] (fun u i wr => ∃ k : Nat, k ≤ ts.length ∧ i = .int .i64 k ∧ wr.ownsRow w.heap.size 3 1 u (liveFrom (ts.take k) 1).length ((liveFrom (ts.take k) 1).map (Value.int .i64)) ∧ Only0 w wr) (fun _ i _ => ts.length - (intOf i).toNat)
  case atStart => exact ⟨0, Nat.zero_le _, rfl, World.ownsRow_nil _ _ _ _, Only0.refl w⟩
  case round =>
    obtain ⟨k, hk, rfl, hown, ho⟩ := hrel
    have hT := h.only ho (fun _ _ hf => hf)
    by_cases hlt : k < ts.length
    · obtain ⟨g, cap', hv', hc⟩ := hT.cell k hlt
      rw [hv] at hv'
      injection hv' with e1 e2 e3
      subst e1
      have hx := hT.tx k hlt
      have hsu := liveFrom_take_succ ts k hlt 1
      have hll := liveFrom_length (ts.take k) 1
      have htk : (ts.take k).length ≤ k := List.length_take_le _ _
      unfold ptr at *
      generalize ts.getD k TX.zero = x at *
      generalize ps.getD k 0 = p at *
      generalize liveFrom (ts.take k) 1 = a at *
      have hl := tx_lives hx
      unfold ptr at hl
      cases hlv : x.lives with
      | false =>
        rw [hlv] at hl hsu
        have HS := Lib.hid hsu
        clear hsu hlv hx e3 hv hT c1
        go_wp2_with fail
        refine hl.mono ?_
        rintro e w1 ⟨rfl, rfl⟩
        go_wp2_with fail
        go_roundw
        case rel => exact ⟨k + 1, by omega, by go_num, by rw [HS.out]; simpa using hown, ho⟩
        case measure => simp [intOf]; omega
      | true =>
        rw [hlv] at hl hsu
        have HS := Lib.hid hsu
        clear hsu hlv hx e3 hv hT c1
        go_wp2_with fail
        refine hl.mono ?_
        rintro e w1 ⟨rfl, rfl⟩
        go_wp2_with (at_builtin; refine wpList_append_own _ rfl _ _ 49 rfl w.heap.size 3 i0 (.int .i64 0) 1 8 Try.underlying49 hi hz0 hz1 hz2 rfl (by decide) _ _ _ rfl (hown.alloc _) ⟨wr.heap.size, 0, none⟩ 1 1 [.int .i64 ((k : Int) + 1)] rfl rfl ?c1 ?c2 ?c3 ?c4 ?c5 ?_)
        case c1 =>
          intro j u hj
          match j, hj with
          | 0, hj => simp at hj; subst hj; simp [Addr.add]
        case c2 => intro u hu; simp at hu; subst hu; rfl
        case c3 => unfold maxLen; omega
        case c4 => omega
        case c5 => have := ho.size; simp; omega
        intro v' w3 hown3 hgrow _
        have ho3 : Only0 w w3 := (ho.alloc _).grown hgrow (fun k hk => (hown.lt k hk).1)
        clear hown hgrow ho
        go_wp2_with fail
        go_roundw
        case rel => exact ⟨k + 1, by omega, by go_num, by rw [HS.out]; simpa [Int.add_comm] using hown3, ho3⟩
        case measure => simp [intOf]; omega
    · obtain rfl : k = ts.length := by omega
      go_wp2_with fail
      go_ret
      exact ⟨_, rfl, by simpa using hown, ho⟩
end Go.Proofs.Ytlomgbnggmaeeaa

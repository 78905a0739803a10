/-
  The document's Table: Make; and both Tables' Make in one form.
-/
import Derived.Test.YtlomgbnggmaeeaaTabRef2
import Derived.Deep.AppendLies
namespace Go.Proofs.Ytlomgbnggmaeeaa
open Go.RowKit
set_option linter.unusedVariables false

theorem info_txn : (Try.prog.info? 44).map (fun i => (i.zero, i.size, i.bytes)) = some (some (.agg #[.int .i64 0, .int .i64 0, .int .u64 0, .int .u64 0]), 4, 32) := by kernel_rfl

set_option maxHeartbeats 1000000 in
theorem rt_make_bad {B : Nat} {w : World} {r : Nat} {v : Value} {most : Int} {ts : List TX} (h : RT B w r v most ts) (level beg : Int) (hb : level < 1 ∨ 3 < level ∨ 1099511627776 < beg) :
    Calls Try.prog 7 #[ptr r, .int .i64 level, .int .u64 beg] w fun e w' => e = .returned (.tuple #[.int .i64 0, .int .i64 1]) ∧ w = w' := by
  unfold ptr
  have hb' : level < 1 ∨ (1 ≤ level ∧ 3 < level) ∨ (1 ≤ level ∧ level ≤ 3 ∧ 1099511627776 < beg) := by omega
  rcases hb' with hb | ⟨h1, hb⟩ | ⟨h1, h2, hb⟩
  all_goals
    go_enter Try.func7, Try.ntmps7
    go_wp2_with fail
    go_ret2
    exact ⟨rfl, rfl⟩
set_option maxHeartbeats 1000000 in
theorem rt_make_full {B : Nat} {w : World} {r : Nat} {v : Value} {most : Int} {ts : List TX} (h : RT B w r v most ts) (level beg : Int) (l0 : 1 ≤ level) (l1 : level ≤ 3) (b1 : beg ≤ 1099511627776) (hm : most ≤ (ts.length : Int)) :
    Calls Try.prog 7 #[ptr r, .int .i64 level, .int .u64 beg] w fun e w' => e = .returned (.tuple #[.int .i64 0, .int .i64 65]) ∧ ∃ n, w' = w.drewN n := by
  obtain ⟨ao, cap, rfl⟩ := h.nil_or
  have c0 := h.c0
  have c1 := h.c1
  clear h
  unfold ptr
  go_enter Try.func7, Try.ntmps7
  go_wp2_with fail
  go_quiet (fail)
  go_wp2_with fail
  go_ret2
  exact ⟨rfl, _, rfl⟩
theorem own_ne4 {B n sz : Nat} {w : World} {e t : TypeId} {v : Value} {b : Nat} {xs : List Value} {cs : Array Value} (h : w.ownsRow B e sz v n xs) (hb : Blk w b t cs) (hne : e ≠ t) : v.ownBlock ≠ some b := by
  rcases h.2 with ⟨rfl, _⟩ | ⟨g, cap, cur, rfl, hg, hh, r⟩
  · simp [Value.ownBlock]
  · intro hk
    have : g = b := by simpa [Value.ownBlock] using hk
    subst this
    exact (Blk.ne_ (show Blk w g _ cur from hh) hb hne) rfl
theorem RT.grow {B : Nat} {w w3 : World} {r : Nat} {v v' : Value} {most : Int} {ts : List TX} {x : TX} {o : Obj} (h : RT B w r v most ts) (hs : ts.length + 1 ≤ 65535)
    (hown : w3.ownsRow B 44 4 v' (ts.length + 1) (txRows ts ++ x.row)) (hg : (w.alloc o).grownBy w3 v.ownBlock) :
    RT B (w3.setCell ⟨r, 1, none⟩ v') r v' most (ts ++ [x]) ∧ Only (RFoot r v) w (w3.setCell ⟨r, 1, none⟩ v') ∧ Blk w3 r 31 #[.int .i64 most, v] := by
  have hH : Blk w3 r 31 #[.int .i64 most, v] := by
    have hne := own_ne4 h.row h.head (by decide)
    have hb' := h.head.alloc o
    unfold Blk at hb' ⊢
    rw [hg.block r (Blk.lt hb') (Ne.symm hne)]
    exact hb'
  have hH' : Blk (w3.setCell ⟨r, 1, none⟩ v') r 31 #[.int .i64 most, v'] := by simpa using hH.set 1 v'
  refine ⟨⟨hH', ?_, h.br, by simp; omega⟩, ?_, hH⟩
  · rw [List.length_append, txRows_append]
    refine rows_only4 (by simpa [txRows] using hown) ((Only.refl (fun k => k = r) w3).setCell (fun _ => rfl) v') (fun k hk he => ?_)
    subst he
    exact own_ne4 hown hH (by decide) hk
  · refine Only.setCell ?_ (fun _ => .inl rfl) v'
    refine ⟨hg.os, hg.tape, hg.output, Nat.le_trans (by simp) hg.size, fun k hk hn => ?_⟩
    rw [hg.block k (by simp; omega) (fun e => hn (.inr e.symm))]
    exact Below.heap_alloc _ _ _ hk

set_option maxRecDepth 100000 in
set_option maxHeartbeats 1600000 in
theorem rt_make_ok {B : Nat} {w : World} {r : Nat} {v : Value} {most : Int} {ts : List TX} (h : RT B w r v most ts) (level beg : Int) (l0 : 1 ≤ level) (l1 : level ≤ 3) (b1 : beg ≤ 1099511627776) (hm : (ts.length : Int) < most) (hs : ts.length + 1 ≤ 65535) :
    Calls Try.prog 7 #[ptr r, .int .i64 level, .int .u64 beg] w fun e w' => e = .returned (.tuple #[.int .i64 (ts.length + 1), .int .i64 0]) ∧
      ∃ v', RT B w' r v' most (ts ++ [⟨level, beg, 0, 1⟩]) ∧ Only (RFoot r v) w w' := by
  obtain ⟨ao, cap, hv⟩ := h.nil_or
  have c0 := h.c0
  have c1 := h.c1
  obtain ⟨i0, hi, hz0, hz1, hz2⟩ := info_parts info_txn
  have hown := h.row
  have hbr := h.br
  have hlt := h.head.lt
  subst hv
  have hT := fun n => h.only ((Only.refl (fun _ => False) w).drewN n) (fun _ _ hf => hf)
  have HT := Lib.hid (fun n v' w3 o' h2 h3 => (hT n).grow (x := ⟨level, beg, 0, 1⟩) (v' := v') (w3 := w3) (o := o') hs h2 h3)
  have HO := Lib.hid (fun n => (Only.refl (RFoot r (.slice ao ts.length cap)) w).drewN n)
  have hrl := txRows_len ts
  unfold TX.row at HT
  generalize txRows ts = RS at *
  unfold ptr
  clear hT h
  go_enter Try.func7, Try.ntmps7
  go_wp2_with fail
  go_quiet (fail)
  have hownq : (w.drewN nq).ownsRow B 44 4 (.slice ao ts.length cap) ts.length RS := hown
  go_wp2_with (at_builtin; refine wpList_append_own _ rfl _ _ 29 rfl B 44 i0 (.agg #[.int .i64 0, .int .i64 0, .int .u64 0, .int .u64 0]) 4 32 Try.underlying29 hi hz0 hz1 hz2 rfl (by decide) _ _ _ rfl (hownq.alloc _) ⟨w.heap.size, 0, none⟩ 1 1 [.int .i64 level, .int .i64 1, .int .u64 beg, .int .u64 0] rfl rfl ?ga1 ?ga2 ?ga3 ?ga4 ?ga5 ?_)
  try (case ga1 => exact World.news_of_block (cs := #[.int .i64 level, .int .i64 1, .int .u64 beg, .int .u64 0]) (t := 44) (fr := (0, 0)) (heap_alloc_new (w.drewN nq) _))
  try (case ga2 => first | (refine ⟨rfl, rfl, rfl, rfl⟩; done) | rfl | (intro u hu; simp at hu; rcases hu with rfl | rfl | rfl | rfl <;> rfl))
  try (case ga3 => unfold maxLen; omega)
  try (case ga4 => omega)
  try (case ga5 => simp; omega)
  intro v' w3 hown3 hgrow _
  have R := HT.out nq v' w3 _ hown3 hgrow
  have R1 := R.1
  have R2 := (HO.out nq).trans R.2.1
  have hB3 := R.2.2
  have c31 := hB3.cell 1
  have f31 := hB3.free 1
  have hex := R1.nil_or
  obtain ⟨ao', cap', hv'⟩ := hex
  rw [List.length_append] at hv'
  subst hv'
  have H1 := Lib.hid R1
  have H2 := Lib.hid R2
  clear R R1 R2 HT HO hown hownq hgrow hown3 c1 c0
  go_wp2_with fail
  go_ret2
  exact ⟨rfl, _, H1.out, H2.out⟩

/-- Make, whatever it answers. -/
theorem rt_make {B : Nat} {w : World} {r : Nat} {v : Value} {most : Int} {ts : List TX} (h : RT B w r v most ts) (level beg : Int) (hs : ts.length + 1 ≤ 65535) :
    Calls Try.prog 7 #[ptr r, .int .i64 level, .int .u64 beg] w fun e w' => e = .returned (.tuple #[.int .i64 (mkId most ts level beg), .int .i64 (mkErr most ts level beg)]) ∧
      ∃ v', RT B w' r v' most (mkTs most ts level beg) ∧ Only (RFoot r v) w w' := by
  by_cases h1 : level < 1 ∨ 3 < level ∨ 1099511627776 < beg
  · have e : mkErr most ts level beg = 1 := if_pos h1
    unfold mkId mkTs
    rw [e]
    refine (rt_make_bad h level beg h1).mono ?_
    rintro e w1 ⟨rfl, rfl⟩
    exact ⟨rfl, v, h, Only.refl _ _⟩
  · by_cases h2 : most ≤ (ts.length : Int)
    · have e : mkErr most ts level beg = 65 := by unfold mkErr; rw [if_neg h1, if_pos h2]
      unfold mkId mkTs
      rw [e]
      refine (rt_make_full h level beg (by omega) (by omega) (by omega) h2).mono ?_
      rintro e w1 ⟨rfl, n, rfl⟩
      exact ⟨rfl, v, h.only ((Only.refl (fun _ => False) w).drewN n) (fun _ _ hf => hf), (Only.refl _ _).drewN n⟩
    · have e : mkErr most ts level beg = 0 := by unfold mkErr; rw [if_neg h1, if_neg h2]
      unfold mkId mkTs
      rw [e]
      refine (rt_make_ok h level beg (by omega) (by omega) (by omega) (by omega) hs).mono ?_
      rintro e w1 ⟨rfl, v', h', o'⟩
      exact ⟨rfl, v', h', o'⟩
theorem tab_make {B : Nat} {w : World} {t : Nat} {v : Value} {ps : List Nat} {most : Int} {ts : List TX} (h : Tab B w t v ps most ts) (level beg : Int) :
    Calls Try.prog 6 #[ptr t, .int .i64 level, .int .u64 beg] w fun e w' => e = .returned (.tuple #[.int .i64 (mkId most ts level beg), .int .i64 (mkErr most ts level beg)]) ∧
      ∃ v' ps', Tab B w' t v' ps' most (mkTs most ts level beg) ∧ Only (Foot t v ps) w w' := by
  by_cases h1 : level < 1 ∨ 3 < level ∨ 1099511627776 < beg
  · have e : mkErr most ts level beg = 1 := if_pos h1
    unfold mkId mkTs
    rw [e]
    refine (table_make_bad h level beg h1).mono ?_
    rintro e w1 ⟨rfl, rfl⟩
    exact ⟨rfl, v, ps, h, Only.refl _ _⟩
  · by_cases h2 : most ≤ (ts.length : Int)
    · have e : mkErr most ts level beg = 65 := by unfold mkErr; rw [if_neg h1, if_pos h2]
      unfold mkId mkTs
      rw [e]
      refine (table_make_full h level beg (by omega) (by omega) (by omega) h2).mono ?_
      rintro e w1 ⟨rfl, n, rfl⟩
      exact ⟨rfl, v, ps, h.only ((Only.refl (fun _ => False) w).drewN n) (fun _ _ hf => hf), (Only.refl _ _).drewN n⟩
    · have e : mkErr most ts level beg = 0 := by unfold mkErr; rw [if_neg h1, if_neg h2]
      unfold mkId mkTs
      rw [e]
      refine (table_make_ok h level beg (by omega) (by omega) (by omega) (by omega)).mono ?_
      rintro e w1 ⟨rfl, v', ps', h', o'⟩
      exact ⟨rfl, v', ps', h', o'⟩
end Go.Proofs.Ytlomgbnggmaeeaa

/-
  The document's Table, the rest: End, Live, Oldest.
-/
import Derived.Test.YtlomgbnggmaeeaaTabRef
namespace Go.Proofs.Ytlomgbnggmaeeaa
open Go.RowKit
set_option linter.unusedVariables false

set_option maxHeartbeats 1600000 in
theorem rt_end {B : Nat} {w : World} {r : Nat} {v : Value} {most : Int} {ts : List TX} (h : RT B w r v most ts) (id en : Int) (hen : 0 ≤ en ∧ en ≤ 18446744073709551615) (hpos : ∀ x ∈ ts, 0 ≤ x.en) :
    Calls Try.prog 11 #[ptr r, .int .i64 id, .int .u64 en] w fun e w' => e = .returned (.int .i64 (endErr ts id en)) ∧ RT B w' r v most (endTs ts id en) ∧ Only (RFoot r v) w w' := by
  have hth := rt_there h id
  have hs := h.small
  have c1 := h.c1
  rcases tget_cases ts id with ⟨h0, h1, hg⟩ | ⟨hi, hg⟩
  · obtain ⟨i, rfl⟩ : ∃ i : Nat, id = (i : Int) + 1 := ⟨(id - 1).toNat, by omega⟩
    have hil : i < ts.length := by omega
    have e : ((i : Int) + 1 - 1).toNat = i := by omega
    have hxm : ts.getD i TX.zero ∈ ts := by rw [List.getD_eq_getElem?_getD, List.getElem?_eq_getElem hil]; exact List.getElem_mem _
    have hx0 := hpos _ hxm
    obtain ⟨g, cap, rfl, hne, hc, hf⟩ := h.cell i hil
    have hput := fun y u => h.put i 3 hil (by omega) y u
    rw [show (decide (1 ≤ (i : Int) + 1) && decide ((i : Int) + 1 ≤ (ts.length : Int))) = true by simp; omega] at hth
    unfold endTs endErr
    rw [hg]
    dsimp only
    unfold tput
    rw [e]
    generalize ts.getD i TX.zero = x at *
    obtain ⟨q0, q1, q2, q3⟩ := tx_row4 hc
    have f3 := hf (i * 4 + 3)
    have o1 : Only (RFoot r (.slice (some ⟨g, 0, none⟩) ts.length cap)) w (w.setCell ⟨g, i * 4 + 3, none⟩ (.int .u64 en)) := (Only.refl _ w).setCell (p := ⟨g, i * 4 + 3, none⟩) (fun _ => .inr rfl) _
    have HT := Lib.hid h
    have HO := Lib.hid o1
    have HP := Lib.hid (hput { x with en := en } (.int .u64 en) rfl)
    obtain ⟨e0, e1⟩ := hen
    clear o1 hput h hc hf e hg q0 hne hpos hxm
    unfold ptr at *
    by_cases g1 : x.st = 2 ∧ x.en = 0
    · obtain ⟨g1, g2⟩ := g1
      by_cases g3 : en = 0 ∨ 1099511627776 < en ∨ en ≤ x.beg
      · have hv : (if x.st ≠ 2 ∨ 0 < x.en then (7 : Int) else if en = 0 ∨ 1099511627776 < en ∨ en ≤ x.beg then 1 else 0) = 1 := by rw [if_neg (by omega), if_pos g3]
        simp only [hv]
        rw [if_neg (by decide)]
        clear hv HP
        rw [g1] at q1
        rw [g2] at q3
        have hcase : en = 0 ∨ (¬ en = 0 ∧ 1099511627776 < en) ∨ (¬ en = 0 ∧ en ≤ 1099511627776 ∧ en ≤ x.beg) := by omega
        clear g3 g2 g1 hx0
        generalize x.beg = xb at *
        rcases hcase with g3 | ⟨g3, g4⟩ | ⟨g3, g4, g5⟩
        · subst g3
          go_enter Try.func11, Try.ntmps11
          go_wp2_with fail
          refine hth.mono ?_
          rintro e w1 ⟨rfl, rfl⟩
          go_wp2_with fail
          go_ret
          exact ⟨rfl, HT.out, Only.refl _ _⟩
        · have g3' : (en == 0) = false := by simpa using g3
          go_enter Try.func11, Try.ntmps11
          go_wp2_with fail
          refine hth.mono ?_
          rintro e w1 ⟨rfl, rfl⟩
          go_wp2_with fail
          go_ret
          exact ⟨rfl, HT.out, Only.refl _ _⟩
        · have g3' : (en == 0) = false := by simpa using g3
          have g4' : decide (1099511627776 < en) = false := by simpa using g4
          go_enter Try.func11, Try.ntmps11
          go_wp2_with fail
          refine hth.mono ?_
          rintro e w1 ⟨rfl, rfl⟩
          go_wp2_with fail
          go_ret
          exact ⟨rfl, HT.out, Only.refl _ _⟩
      · have hv : (if x.st ≠ 2 ∨ 0 < x.en then (7 : Int) else if en = 0 ∨ 1099511627776 < en ∨ en ≤ x.beg then 1 else 0) = 0 := by rw [if_neg (by omega), if_neg g3]
        simp only [hv]
        rw [if_pos trivial]
        clear hv
        rw [g1] at q1
        rw [g2] at q3
        have g4 : ¬ en = 0 := by omega
        have g5 : en ≤ 1099511627776 := by omega
        have g6 : x.beg < en := by omega
        have g4' : (en == 0) = false := by simpa using g4
        have g5' : decide (1099511627776 < en) = false := by simpa using g5
        have g6' : decide (en ≤ x.beg) = false := by simpa using g6
        clear g3 g2 g1 hx0
        generalize x.beg = xb at *
        go_enter Try.func11, Try.ntmps11
        go_wp2_with fail
        refine hth.mono ?_
        rintro e w1 ⟨rfl, rfl⟩
        go_wp2_with fail
        go_ret
        exact ⟨rfl, HP.out, HO.out⟩
    · have hv : (if x.st ≠ 2 ∨ 0 < x.en then (7 : Int) else if en = 0 ∨ 1099511627776 < en ∨ en ≤ x.beg then 1 else 0) = 7 := by rw [if_pos (by omega)]
      simp only [hv]
      rw [if_neg (by decide)]
      clear hv HP
      by_cases g2 : x.st = 2
      · have g3 : ¬ x.en = 0 := by omega
        rw [g2] at q1
        have g3' : (x.en == 0) = false := by simpa using g3
        have g3'' : (x.en != 0) = true := by simpa using g3
        clear g1 g2
        generalize x.en = xe at *
        go_enter Try.func11, Try.ntmps11
        go_wp2_with fail
        refine hth.mono ?_
        rintro e w1 ⟨rfl, rfl⟩
        go_wp2_with fail
        go_ret
        exact ⟨rfl, HT.out, Only.refl _ _⟩
      · have g3 : (x.st != 2) = true := by simpa using g2
        have g3' : (x.st == 2) = false := by simpa using g2
        clear g1
        generalize x.st = xs at *
        go_enter Try.func11, Try.ntmps11
        go_wp2_with fail
        refine hth.mono ?_
        rintro e w1 ⟨rfl, rfl⟩
        go_wp2_with fail
        go_ret
        exact ⟨rfl, HT.out, Only.refl _ _⟩
  · rw [show (decide (1 ≤ id) && decide (id ≤ (ts.length : Int))) = false by simp; omega] at hth
    unfold endTs endErr
    rw [hg]
    dsimp only
    have HT := Lib.hid h
    clear h c1
    unfold ptr at *
    go_enter Try.func11, Try.ntmps11
    go_wp2_with fail
    refine hth.mono ?_
    rintro e w1 ⟨rfl, rfl⟩
    go_wp2_with fail
    go_ret
    exact ⟨rfl, HT.out, Only.refl _ _⟩

set_option maxHeartbeats 2000000 in
theorem rt_live {B : Nat} {w : World} {r : Nat} {v : Value} {most : Int} {ts : List TX} (h : RT B w r v most ts) :
    Calls Try.prog 16 #[ptr r] w fun e w' => ∃ u, e = .returned u ∧ w'.ownsRow w.heap.size 3 1 u (liveTs ts).length ((liveTs ts).map (Value.int .i64)) ∧ Only0 w w' := by
  have hs := h.small
  obtain ⟨ao, cap, hv⟩ := h.nil_or
  obtain ⟨i0, hi, hz0, hz1, hz2⟩ := info_parts info_int
  have HT := Lib.hid h
  have HV := Lib.hid hv
  subst hv
  clear h
  unfold ptr liveTs
  go_enter Try.func16, Try.ntmps16
  go_wp2_with fail
  go_loopw [3, 4] (fun u i wr => ∃ k : Nat, k ≤ ts.length ∧ i = .int .i64 k ∧ wr.ownsRow w.heap.size 3 1 u (liveFrom (ts.take k) 1).length ((liveFrom (ts.take k) 1).map (Value.int .i64)) ∧ Only0 w wr) (fun _ i _ => ts.length - (intOf i).toNat)
  case atStart => exact ⟨0, Nat.zero_le _, rfl, World.ownsRow_nil _ _ _ _, Only0.refl w⟩
  case round =>
    obtain ⟨k, hk, rfl, hown, ho⟩ := hrel
    have hT := HT.out.only ho (fun _ _ hf => hf)
    have c1 := hT.c1
    by_cases hlt : k < ts.length
    · obtain ⟨g, cap', hv', hne, hc, hf⟩ := hT.cell k hlt
      injection hv' with e1 e2 e3
      subst e1
      have hsu := liveFrom_take_succ ts k hlt 1
      have hll := liveFrom_length (ts.take k) 1
      have htk : (ts.take k).length ≤ k := List.length_take_le _ _
      have k0 : (0 : Int) ≤ (k : Int) := by omega
      have k1 : (k : Int) < (ts.length : Int) := by omega
      generalize ts.getD k TX.zero = x at *
      generalize liveFrom (ts.take k) 1 = a at *
      obtain ⟨q0, q1, q2, q3⟩ := tx_row4 hc
      have hx : x.lives = (x.st == 1 || x.st == 2) := rfl
      generalize x.st = s at q1 hx
      cases hlv : x.lives with
      | false =>
        rw [hlv] at hx hsu
        have HS := Lib.hid hsu
        have s1 : ¬ s = 1 := by intro he; simp [he] at hx
        have s2 : ¬ s = 2 := by intro he; simp [he] at hx
        have s1' : (s == 1) = false := by simpa using s1
        have s2' : (s == 2) = false := by simpa using s2
        clear hsu hlv hx e3 hT q0 q2 q3 hc hf hne
        go_wp2_with fail
        go_roundw
        case rel => exact ⟨k + 1, by omega, by go_num, by rw [HS.out]; simpa using hown, ho⟩
        case measure => simp [intOf]; omega
      | true =>
        rw [hlv] at hx hsu
        have HS := Lib.hid hsu
        have s12 : s = 1 ∨ s = 2 := by simpa using hx.symm
        clear hsu hlv hx e3 hT q0 q2 q3 hc hf hne
        rcases s12 with rfl | rfl
        all_goals
          go_wp2_with (at_builtin; refine wpList_append_own _ rfl _ _ 49 rfl w.heap.size 3 i0 (.int .i64 0) 1 8 Try.underlying49 hi hz0 hz1 hz2 rfl (by decide) _ _ _ rfl (hown.alloc _) ⟨wr.heap.size, 0, none⟩ 1 1 [.int .i64 ((k : Int) + 1)] rfl rfl ?ga1 ?ga2 ?ga3 ?ga4 ?ga5 ?_)
          try (case ga1 =>
            intro j u hj
            match j, hj with
            | 0, hj => simp at hj; subst hj; simp [Addr.add])
          try (case ga2 => first | rfl | (intro u hu; simp at hu; subst hu; rfl))
          try (case ga3 => unfold maxLen; omega)
          try (case ga4 => omega)
          try (case ga5 => have := ho.size; simp; omega)
          intro v' w3 hown3 hgrow _
          have ho3 : Only0 w w3 := (ho.alloc _).grown hgrow (fun k hk => (hown.lt k hk).1)
          have T3 : w3.ownsRow w.heap.size 3 1 v' (liveFrom (ts.take (k + 1)) 1).length ((liveFrom (ts.take (k + 1)) 1).map (Value.int .i64)) := by
            rw [HS.out, if_pos trivial, Int.add_comm]
            simpa using hown3
          clear hown hgrow ho hown3 HS c1 q1
          go_wp2_with fail
          go_roundw
          case rel => exact ⟨k + 1, by omega, by go_num, T3, ho3⟩
          case measure => simp [intOf]; omega
    · obtain rfl : k = ts.length := by omega
      rw [List.take_length] at hown
      go_wp2_with fail
      go_ret
      exact ⟨_, rfl, hown, ho⟩

theorem liveFrom_in (l : List TX) (k : Nat) : ∀ z ∈ liveFrom l (k + 1), ∃ i : Nat, i < l.length ∧ z = (k : Int) + 1 + i := by
  induction l generalizing k with
  | nil => simp [liveFrom]
  | cons x l ih =>
    intro z hz
    have step : z ∈ liveFrom l ((k : Int) + 1 + 1) → ∃ i : Nat, i < (x :: l).length ∧ z = (k : Int) + 1 + i := by
      intro h
      obtain ⟨i, h1, h2⟩ := ih (k + 1) z (by simpa using h)
      exact ⟨i + 1, by simp; omega, by rw [h2]; omega⟩
    simp only [liveFrom] at hz
    split at hz
    · rcases List.mem_cons.1 hz with rfl | hz
      · exact ⟨0, by simp, by omega⟩
      · exact step hz
    · exact step hz
theorem oldTs_live (now : Int) (pre l : List TX) : (liveFrom l (pre.length + 1)).foldl (fun a (z : Int) => imin a ((pre ++ l).getD (z - 1).toNat TX.zero).beg) now = oldTs l now := by
  induction l generalizing pre now with
  | nil => rfl
  | cons x l ih =>
    have h := fun now => ih now (pre ++ [x])
    simp only [List.length_append, List.length_cons, List.length_nil, List.append_assoc, List.cons_append, List.nil_append] at h
    have e : ((pre.length + (0 + 1) : Nat) : Int) + 1 = (pre.length : Int) + 1 + 1 := by omega
    rw [e] at h
    simp only [liveFrom, oldTs]
    split
    · rw [List.foldl_cons, h, show ((pre.length : Int) + 1 - 1).toNat = pre.length by omega]
      simp
    · exact h _
theorem oldTs_fold (ts : List TX) (now : Int) : (liveTs ts).foldl (fun a (z : Int) => imin a (ts.getD (z - 1).toNat TX.zero).beg) now = oldTs ts now := by
  have := oldTs_live now [] ts
  simpa [liveTs] using this

set_option maxHeartbeats 2000000 in
theorem rt_oldest {B : Nat} {w : World} {r : Nat} {v : Value} {most : Int} {ts : List TX} (h : RT B w r v most ts) (now : Int) :
    Calls Try.prog 18 #[ptr r, .int .u64 now] w fun e w' => e = .returned (.int .u64 (oldTs ts now)) ∧ Only0 w w' := by
  have hs := h.small
  have hlv := rt_live h
  have hll := liveFrom_length ts 1
  have HIN := Lib.hid (liveFrom_in ts 0)
  have HF := Lib.hid (oldTs_fold ts now)
  obtain ⟨ao, cap, hv⟩ := h.nil_or
  have HT := Lib.hid h
  subst hv
  have hll' : (liveTs ts).length ≤ ts.length := hll
  have HIN' : Hid (∀ z ∈ liveTs ts, ∃ i : Nat, i < ts.length ∧ z = (i : Int) + 1) := Lib.hid (fun z hz => by obtain ⟨i, h1, h2⟩ := HIN.out z hz; exact ⟨i, h1, by rw [h2]; omega⟩)
  generalize liveTs ts = L at *
  clear h hll HIN
  unfold ptr at *
  go_enter Try.func18, Try.ntmps18
  go_wp2_with fail
  refine hlv.mono ?_
  rintro e w1 ⟨u, rfl, hown, ho⟩
  have hT := Lib.hid (HT.out.only ho (fun _ _ hf => hf))
  have c1 := hT.out.c1
  have hex : ∃ ua uc, u = .slice ua L.length uc ∧ (∀ k, k < L.length → ∃ ug, ua = some ⟨ug, 0, none⟩ ∧ w1.cell? ⟨ug, k, none⟩ = some (.int .i64 (L.getD k 0))) := by
    rcases hown.2 with ⟨h0, h1⟩ | ⟨g, uc, cur, h0, _⟩
    · exact ⟨none, 0, by rw [h0, h1], fun k hk => by omega⟩
    · refine ⟨_, uc, h0, fun k hk => ⟨g, rfl, ?_⟩⟩
      subst h0
      have := hown.cellAt k (by simpa using hk)
      rw [this]; simp [hk]
  obtain ⟨ua, uc, hu, hcu⟩ := hex
  subst hu
  have HC := Lib.hid hcu
  clear hown hlv hcu
  go_wp2_with fail
  go_loopw [1, 6] (fun a i wr => ∃ (k m : Nat), k ≤ L.length ∧ i = .int .i64 k ∧ a = .int .u64 ((L.take k).foldl (fun a (z : Int) => imin a (ts.getD (z - 1).toNat TX.zero).beg) now) ∧ wr = w1.drewN m) (fun _ i _ => L.length - (intOf i).toNat)
  case atStart => exact ⟨0, 0, Nat.zero_le _, rfl, rfl, rfl⟩
  case round =>
    obtain ⟨k, m, hk, rfl, rfl, rfl⟩ := hrel
    by_cases hlt : k < L.length
    · obtain ⟨ug, rfl, cu⟩ := HC.out k hlt
      have hmem : L.getD k 0 ∈ L := by rw [List.getD_eq_getElem?_getD, List.getElem?_eq_getElem hlt]; exact List.getElem_mem _
      have hz := HIN'.out _ hmem
      have hsu : (L.take (k + 1)).foldl (fun a (z : Int) => imin a (ts.getD (z - 1).toNat TX.zero).beg) now = imin ((L.take k).foldl (fun a (z : Int) => imin a (ts.getD (z - 1).toNat TX.zero).beg) now) (ts.getD (L.getD k 0 - 1).toNat TX.zero).beg := by
        rw [List.take_succ_eq_append_getElem hlt, List.foldl_append]
        simp [hlt]
      generalize L.getD k 0 = z at *
      obtain ⟨i, hil, rfl⟩ := hz
      rw [show ((i : Int) + 1 - 1).toNat = i by omega] at hsu
      obtain ⟨g, cap', hv', hne, hc, hf⟩ := hT.out.cell i hil
      injection hv' with e1 e2 e3
      subst e1
      generalize ts.getD i TX.zero = x at *
      obtain ⟨q0, q1, q2, q3⟩ := tx_row4 hc
      have HM := Lib.hid (show ∀ a b : Int, imin a b = (if b < a then b else a) from fun _ _ => rfl)
      have HS := Lib.hid hsu
      have k0 : (0 : Int) ≤ (k : Int) := by omega
      have k1 : (k : Int) < (L.length : Int) := by omega
      have i0 : (0 : Int) ≤ (i : Int) := by omega
      have i1 : (i : Int) < (ts.length : Int) := by omega
      generalize (L.take k).foldl (fun a (z : Int) => imin a (ts.getD (z - 1).toNat TX.zero).beg) now = a at *
      generalize x.beg = b at *
      clear hsu q0 q1 q3 hc hf e3 hmem
      by_cases hba : b < a
      · go_wp2_with fail
        go_quiet (fail)
        go_wp2_with fail
        go_roundw
        case rel => exact ⟨k + 1, _, by omega, by go_num, by rw [HS.out, HM.out, if_pos (by omega)], rfl⟩
        case measure => simp [intOf]; omega
      · go_wp2_with fail
        go_quiet (fail)
        go_wp2_with fail
        go_roundw
        case rel => exact ⟨k + 1, _, by omega, by go_num, by rw [HS.out, HM.out, if_neg (by omega)], rfl⟩
        case measure => simp [intOf]; omega
    · obtain rfl : k = L.length := by omega
      have hfin : .int .u64 ((L.take L.length).foldl (fun a (z : Int) => imin a (ts.getD (z - 1).toNat TX.zero).beg) now) = Value.int .u64 (oldTs ts now) := by rw [List.take_length, HF.out]
      go_wp2_with fail
      go_ret
      exact ⟨congrArg Ending.returned hfin, ho.drewN m⟩
end Go.Proofs.Ytlomgbnggmaeeaa

/-
  The walk of ReadsCovers.
-/
import Derived.Test.YtjkdofhlcdimcaaLaw13
import Derived.Test.YtjkdofhlcdimcaaBitFacts
import Derived.Deep.RegionHeld3
import Derived.Deep.DrawnRows
namespace Go.Proofs.Ytjkdofhlcdimcaa
open Go.RowKit
set_option linter.unusedVariables false
set_option linter.unusedSimpArgs false
attribute [local go_sem ↓] Go.wp_at_zero Go.wp_at_succ

/-- The keys of a word that are below k. -/
def kb (X k : Nat) : List Int := ((List.range k).filter (fun j => X.testBit j)).map (fun j => ((j : Nat) : Int))
theorem kb_mem (X k j : Nat) : ((j : Int) ∈ kb X k) ↔ j < k ∧ X.testBit j = true := by
  simp only [kb, List.mem_map, List.mem_filter, List.mem_range]
  exact ⟨fun ⟨a, ⟨h, h'⟩, e⟩ => by obtain rfl : a = j := by omega
                                   exact ⟨h, h'⟩, fun h => ⟨j, h, rfl⟩⟩
theorem kb_yes (X k : Nat) (h : X.testBit k = true) : addK (kb X k) k = kb X (k + 1) := by
  unfold addK
  rw [if_neg (by rw [kb_mem]; omega)]
  simp [kb, List.range_succ, h]
theorem kb_no (X k : Nat) (h : X.testBit k = false) : kb X (k + 1) = kb X k := by simp [kb, List.range_succ, h]
theorem kb_neg (X k : Nat) (x : Int) (h : x < 0 ∨ (k : Int) ≤ x) : x ∉ kb X k := by
  simp only [kb, List.mem_map, List.mem_filter, List.mem_range]
  rintro ⟨a, ⟨h1, _⟩, e⟩
  omega
theorem anyRg_snoc (rs : List Rg) (r : Rg) (k : Int) : anyRg (rs ++ [r]) k = (anyRg rs k || inSpan k r.lo r.hi) := by simp [anyRg]
theorem i64_of_wf {z : List Int} (hf : ∀ n ∈ z, (Lit.int .i64 n).wf = true) (k : Nat) : -9223372036854775808 ≤ z.getD k 0 ∧ z.getD k 0 ≤ 9223372036854775807 := by
  by_cases h : k < z.length
  · have := hf _ (List.getElem_mem h)
    rw [List.getD_eq_getElem?_getD, List.getElem?_eq_getElem h]
    simp [Lit.wf, IntKind.min, IntKind.max, IntKind.signed, IntKind.bits] at this
    simpa using this
  · rw [List.getD_eq_getElem?_getD, List.getElem?_eq_none (by omega)]; simp

/-- What ReadsCovers keeps in its second loop. -/
def CovOk (X W : Nat) (rs : List Rg) : Prop := ∀ j : Nat, j < 64 → W.testBit j = (X.testBit j || anyRg rs j)
def RsIn (rs : List Rg) : Prop := ∀ r ∈ rs, 0 ≤ r.lo ∧ r.hi ≤ 63
theorem RsIn.out {rs : List Rg} (h : RsIn rs) (x : Int) (hx : x < 0 ∨ 63 < x) : anyRg rs x = false := by
  rw [anyRg, List.any_eq_false]
  intro r hr
  have := h r hr
  simp [inSpan]; omega

set_option maxRecDepth 100000 in
set_option maxHeartbeats 8000000 in
theorem readsCovers_walk (a0 : Int) (a1 : Option Addr) (c1 : Nat) (z1 : List Int) (a2 : Option Addr) (c2 : Nat) (z2 : List Int) (w : World) (w0 : (Lit.int .u64 a0).wf = true)
    (i1 : Ints .i64 w a1 z1) (f1 : ∀ n ∈ z1, (Lit.int .i64 n).wf = true) (s1 : z1.length * 8 ≤ 140737488351232) (l1 : z1.length ≤ c1) (m1 : c1 ≤ 9223372036854775807)
    (i2 : Ints .i64 w a2 z2) (f2 : ∀ n ∈ z2, (Lit.int .i64 n).wf = true) (s2 : z2.length * 8 ≤ 140737488351232) (l2 : z2.length ≤ c2) (m2 : c2 ≤ 9223372036854775807) :
    Calls Try.prog 4 #[.int .u64 a0, .slice a1 z1.length c1, .slice a2 z2.length c2] w fun e w' => e = .returned (.bool true) ∧ Below w.heap.size w w' := by
  obtain ⟨X, rfl, hX⟩ := u64_nat w0
  clear w0
  have I1 := Lib.hid i1
  have I2 := Lib.hid i2
  clear i1 i2 f1 f2
  go_enter Try.func4, Try.ntmps4
  go_wp2_with fail
  refine (set_new w).mono ?_
  rintro e w1 ⟨rfl, h1, o1, _⟩
  have H1 := SW.new (Below.refl _ w) h1 o1
  clear h1 o1
  go_wp2_with fail
  obtain ⟨s, hs⟩ : ∃ s, s = w.heap.size := ⟨_, rfl⟩
  rw [← hs] at H1 ⊢
  have HS := Lib.hid hs
  clear hs
  go_loopw [9] (fun i wr => ∃ (k : Nat) (P : Nat → Prop) (lk : Nat → Int), k ≤ 64 ∧ i = .int .i64 k ∧ SW w wr P s (kb X k) lk []) (fun i _ => 64 - (intOf i).toNat)
  case atStart => exact ⟨0, _, _, by omega, rfl, H1⟩
  case round =>
    obtain ⟨k, P, lk, hk, rfl, hS⟩ := hrel
    clear H1
    by_cases hlt : k < 64
    · rcases bit_fact X k with ⟨br, tr⟩ | ⟨br, tr⟩
      · have e := kb_no X k tr
        have hS' : SW w wr P s (kb X (k + 1)) lk [] := by rw [e]; exact hS
        clear e tr hS
        go_wp2_with fail
        go_roundw
        case rel => exact ⟨k + 1, P, lk, by omega, by go_num, hS'⟩
        case measure => simp [intOf]; omega
      · have A := set_add hS.set k hlt 1
        rw [kb_yes X k tr] at A
        clear tr
        go_wp2_with fail
        refine A.mono ?_
        rintro e w2 ⟨rfl, P2, h2, o2, _⟩
        have H2 := hS.step h2 o2
        clear A h2 o2 hS br
        go_wp2_with fail
        go_roundw
        case rel => exact ⟨k + 1, P2, _, by omega, by go_num, H2⟩
        case measure => simp [intOf]; omega
    · obtain rfl : k = 64 := by omega
      have e64 : ((64 : Nat) : Int) = 64 := rfl
      rw [e64]; clear e64 hlt hk
      go_wp2_with fail
      obtain ⟨wo, hwo⟩ : ∃ wo : World, wo = wr := ⟨_, rfl⟩
      rw [← hwo] at hS ⊢
      clear hwo
      go_loopw [8, 10] (fun v i wr => ∃ (n W : Nat) (P : Nat → Prop) (rs : List Rg), n ≤ 20 ∧ v = .int .u64 (W : Nat) ∧ i = .int .i64 n ∧ W < 18446744073709551616 ∧ CovOk X W rs ∧ RsIn rs ∧ rs.length = n ∧ SW w wr P s (kb X 64) lk rs) (fun _ i _ => 20 - (intOf i).toNat)
      case atStart => exact ⟨0, X, P, [], by omega, rfl, rfl, hX, fun j hj => by simp [anyRg], fun r hr => by simp at hr, rfl, hS⟩
      case round =>
        obtain ⟨n, W, P2, rs, hn, rfl, rfl, hW, hcov, hin, hrs, hT⟩ := hrel
        have HC := Lib.hid hcov
        have HIN := Lib.hid hin
        have HRS := Lib.hid hrs
        clear hS hcov hin hrs
        by_cases hgo : n < z1.length ∧ n < z2.length ∧ n < 20
        · obtain ⟨g1, g2, g3⟩ := hgo
          obtain ⟨b, off, rfl, hc⟩ := (I1.out.below hT.bel).at (by omega)
          obtain ⟨b', off', rfl, hc'⟩ := (I2.out.below hT.bel).at (by omega)
          have q1 := hc n g1
          have q2 := hc' n g2
          clear hc hc'
          have x1 := i64_and63 (z1.getD n 0)
          have x2 := i64_and63 (z2.getD n 0)
          obtain ⟨p, hp, hp1⟩ : ∃ p : Nat, z1.getD n 0 % 64 = (p : Int) ∧ p < 64 := ⟨(z1.getD n 0 % 64).toNat, by omega, by omega⟩
          obtain ⟨q, hq, hq1⟩ : ∃ q : Nat, z2.getD n 0 % 64 = (q : Int) ∧ q < 64 := ⟨(z2.getD n 0 % 64).toNat, by omega, by omega⟩
          rw [hp] at x1
          rw [hq] at x2
          clear hp hq
          generalize z1.getD n 0 = y1 at q1 x1
          generalize z2.getD n 0 = y2 at q2 x2
          have hT' := fun m => hT.only0 ((Only0.refl wr).drewN m)
          clear hT
          by_cases hpq : q < p
          · obtain ⟨lo, rfl⟩ : ∃ lo, lo = q := ⟨_, rfl⟩
            obtain ⟨hi, rfl⟩ : ∃ hi, hi = p := ⟨_, rfl⟩
            have hle : lo ≤ hi := by omega
            go_wp2_with fail
            go_quiet (fail)
            go_wp2_with fail
            have hsb : spanBad (lo : Int) (hi : Int) = false := by simp [spanBad]; omega
            have hlen : ¬ 64 ≤ rs.length := by have := HRS.out; omega
            have A := set_span (hT' nq).set (lo : Int) (hi : Int) none 0 [] (Ints.nil _ _ _) (fun _ => rfl) (by simp)
            rw [show spanRes rs lo hi = 0 by simp [spanRes, hsb, hlen], show spanRs rs lo hi [] = rs ++ [⟨lo, hi, []⟩] by simp [spanRs, hsb, hlen]] at A
            refine A.mono ?_
            rintro e w4 ⟨rfl, P4, h4, o4, _⟩
            have H4 := (hT' nq).step h4 o4
            clear A h4 o4 hT' hsb hlen
            have hC4 := Lib.hid (show ∀ V : Nat, (∀ j : Nat, j < 64 → V.testBit j = (W.testBit j || (decide (lo ≤ j) && decide (j < hi + 1)))) → CovOk X V (rs ++ [⟨lo, hi, []⟩]) from fun V hV j hj => by
              rw [hV j hj, HC.out j hj, anyRg_snoc, Bool.or_assoc]
              congr 1; congr 1
              simp only [inSpan]
              congr 1
              · simp
              · rw [decide_eq_decide]; show j < hi + 1 ↔ (j : Int) ≤ (hi : Int); omega)
            have hI4 := Lib.hid (show RsIn (rs ++ [(⟨lo, hi, []⟩ : Rg)]) from fun r hr => by
              rcases List.mem_append.1 hr with hr | hr
              · exact HIN.out r hr
              · obtain rfl : r = ⟨lo, hi, []⟩ := by simpa using hr
                simp only; omega)
            have hL4 := Lib.hid (show (rs ++ [(⟨lo, hi, []⟩ : Rg)]).length = n + 1 by simp [HRS.out])
            clear HC HIN HRS
            go_wp2_with fail
            go_loop [8, 13] (fun v i => ∃ (k V : Nat), lo ≤ k ∧ k ≤ hi + 1 ∧ v = .int .u64 (V : Nat) ∧ i = .int .i64 k ∧ V < 18446744073709551616 ∧ ∀ j : Nat, j < 64 → V.testBit j = (W.testBit j || (decide (lo ≤ j) && decide (j < k)))) (fun _ i => hi + 1 - (intOf i).toNat)
            case atStart => exact ⟨lo, W, by omega, by omega, rfl, rfl, hW, fun j hj => by
              have : (decide (lo ≤ j) && decide (j < lo)) = false := by simp
              rw [this]; simp⟩
            case round =>
              obtain ⟨k, V, hk1, hk2, rfl, rfl, hV, hVt⟩ := hrel
              have HV := Lib.hid hVt
              clear hVt
              by_cases hkh : k ≤ hi
              · obtain ⟨Bk, e1, e2, e3⟩ := or_pow V k hV (by omega)
                have hN := Lib.hid (show ∀ j : Nat, j < 64 → (V ||| 2 ^ k).testBit j = (W.testBit j || (decide (lo ≤ j) && decide (j < k + 1))) from fun j hj => by
                  rw [testBit_or_pow, HV.out j hj, Bool.or_assoc]
                  congr 1
                  by_cases e : k = j
                  · subst e; simp [hk1]
                  · have d1 : decide (j < k + 1) = decide (j < k) := by rw [decide_eq_decide]; omega
                    rw [d1, decide_eq_false e]; simp)
                generalize V ||| 2 ^ k = V2 at e2 e3 hN
                clear HV
                go_wp2_with fail
                go_round
                case rel => exact ⟨k + 1, V2, by omega, by omega, rfl, by go_num, e3, hN.out⟩
                case measure => simp [intOf]; omega
              · obtain rfl : k = hi + 1 := by omega
                have hCV := Lib.hid (hC4.out V HV.out)
                clear HV hC4 hkh
                go_wp2_with fail
                go_roundw
                case rel => exact ⟨n + 1, V, P4, _, by omega, rfl, by go_num, hV, hCV.out, hI4.out, hL4.out, H4⟩
                case measure => simp [intOf]; omega
          · obtain ⟨hi, rfl⟩ : ∃ hi, hi = q := ⟨_, rfl⟩
            obtain ⟨lo, rfl⟩ : ∃ lo, lo = p := ⟨_, rfl⟩
            have hle : lo ≤ hi := by omega
            go_wp2_with fail
            go_quiet (fail)
            go_wp2_with fail
            have hsb : spanBad (lo : Int) (hi : Int) = false := by simp [spanBad]; omega
            have hlen : ¬ 64 ≤ rs.length := by have := HRS.out; omega
            have A := set_span (hT' nq).set (lo : Int) (hi : Int) none 0 [] (Ints.nil _ _ _) (fun _ => rfl) (by simp)
            rw [show spanRes rs lo hi = 0 by simp [spanRes, hsb, hlen], show spanRs rs lo hi [] = rs ++ [⟨lo, hi, []⟩] by simp [spanRs, hsb, hlen]] at A
            refine A.mono ?_
            rintro e w4 ⟨rfl, P4, h4, o4, _⟩
            have H4 := (hT' nq).step h4 o4
            clear A h4 o4 hT' hsb hlen
            have hC4 := Lib.hid (show ∀ V : Nat, (∀ j : Nat, j < 64 → V.testBit j = (W.testBit j || (decide (lo ≤ j) && decide (j < hi + 1)))) → CovOk X V (rs ++ [⟨lo, hi, []⟩]) from fun V hV j hj => by
              rw [hV j hj, HC.out j hj, anyRg_snoc, Bool.or_assoc]
              congr 1; congr 1
              simp only [inSpan]
              congr 1
              · simp
              · rw [decide_eq_decide]; show j < hi + 1 ↔ (j : Int) ≤ (hi : Int); omega)
            have hI4 := Lib.hid (show RsIn (rs ++ [(⟨lo, hi, []⟩ : Rg)]) from fun r hr => by
              rcases List.mem_append.1 hr with hr | hr
              · exact HIN.out r hr
              · obtain rfl : r = ⟨lo, hi, []⟩ := by simpa using hr
                simp only; omega)
            have hL4 := Lib.hid (show (rs ++ [(⟨lo, hi, []⟩ : Rg)]).length = n + 1 by simp [HRS.out])
            clear HC HIN HRS
            go_wp2_with fail
            go_loop [8, 13] (fun v i => ∃ (k V : Nat), lo ≤ k ∧ k ≤ hi + 1 ∧ v = .int .u64 (V : Nat) ∧ i = .int .i64 k ∧ V < 18446744073709551616 ∧ ∀ j : Nat, j < 64 → V.testBit j = (W.testBit j || (decide (lo ≤ j) && decide (j < k)))) (fun _ i => hi + 1 - (intOf i).toNat)
            case atStart => exact ⟨lo, W, by omega, by omega, rfl, rfl, hW, fun j hj => by
              have : (decide (lo ≤ j) && decide (j < lo)) = false := by simp
              rw [this]; simp⟩
            case round =>
              obtain ⟨k, V, hk1, hk2, rfl, rfl, hV, hVt⟩ := hrel
              have HV := Lib.hid hVt
              clear hVt
              by_cases hkh : k ≤ hi
              · obtain ⟨Bk, e1, e2, e3⟩ := or_pow V k hV (by omega)
                have hN := Lib.hid (show ∀ j : Nat, j < 64 → (V ||| 2 ^ k).testBit j = (W.testBit j || (decide (lo ≤ j) && decide (j < k + 1))) from fun j hj => by
                  rw [testBit_or_pow, HV.out j hj, Bool.or_assoc]
                  congr 1
                  by_cases e : k = j
                  · subst e; simp [hk1]
                  · have d1 : decide (j < k + 1) = decide (j < k) := by rw [decide_eq_decide]; omega
                    rw [d1, decide_eq_false e]; simp)
                generalize V ||| 2 ^ k = V2 at e2 e3 hN
                clear HV
                go_wp2_with fail
                go_round
                case rel => exact ⟨k + 1, V2, by omega, by omega, rfl, by go_num, e3, hN.out⟩
                case measure => simp [intOf]; omega
              · obtain rfl : k = hi + 1 := by omega
                have hCV := Lib.hid (hC4.out V HV.out)
                clear HV hC4 hkh
                go_wp2_with fail
                go_roundw
                case rel => exact ⟨n + 1, V, P4, _, by omega, rfl, by go_num, hV, hCV.out, hI4.out, hL4.out, H4⟩
                case measure => simp [intOf]; omega
        · have HT := Lib.hid hT
          clear hT
          have hways : ¬ n < z1.length ∨ (n < z1.length ∧ ¬ n < z2.length) ∨ (n < z1.length ∧ n < z2.length ∧ ¬ n < 20) := by omega
          rcases hways with g1 | ⟨g1, g2⟩ | ⟨g1, g2, g3⟩
          all_goals
            clear hgo
            have hT := HT.out
            clear HT
            go_wp2_with fail
            go_loopw [14] (fun i wr => ∃ (k : Nat), k ≤ 64 ∧ i = .int .i64 k ∧ SW w wr P2 s (kb X 64) lk rs) (fun i _ => 64 - (intOf i).toNat)
            case atStart => exact ⟨0, by omega, rfl, hT⟩
            case round =>
              obtain ⟨k, hk, rfl, hT5⟩ := hrel
              clear hT
              by_cases hlt : k < 64
              · have hcv : (decide ((k : Int) ∈ kb X 64) || anyRg rs k) = W.testBit k := by
                  rw [HC.out k hlt]; congr 1
                  rw [Bool.eq_iff_iff, decide_eq_true_iff, kb_mem]; simp [hlt]
                have hT6 := hT5.only0 ((Only0.refl wr).drew)
                have C := set_covers hT6.set (k : Int)
                rw [hcv] at C
                have HT6 := Lib.hid hT6
                clear hcv hT5 hT6
                rcases bit_fact W k with ⟨br, tr⟩ | ⟨br, tr⟩
                all_goals
                  rw [tr] at C
                  clear tr
                  go_wp2_with fail
                  refine wp_region_held_drew (S := (fun _ => True)) (by kernel_rfl) ?_ (fun hHeld => ?_)
                  · trivial
                  refine wpAnyH_take (i := 0) (v := ?_) rfl (by kernel_rfl) (by kernel_rfl) (by kernel_rfl) (fun _ _ _ h => h) (Or.inl ⟨by rfl, ?_⟩) (by assumption) ?_; rotate_left; (focus (intro w hSw; (try dsimp only at hSw); go_simp; try with_reducible rfl))
                  try simp only [Act.put, List.getElem_toArray, List.getElem_cons_zero, List.getElem_cons_succ, List.setIfInBounds_toArray, List.set_cons_zero, List.set_cons_succ]
                  refine wpAnyH_take (i := 1) (v := ?_) rfl (by kernel_rfl) (by kernel_rfl) (by kernel_rfl) (fun _ _ _ h => h) (Or.inl ⟨by rfl, ?_⟩) (by assumption) ?_; rotate_left; (focus (intro w hSw; (try dsimp only at hSw); go_simp; try with_reducible rfl))
                  try simp only [Act.put, List.getElem_toArray, List.getElem_cons_zero, List.getElem_cons_succ, List.setIfInBounds_toArray, List.set_cons_zero, List.set_cons_succ]
                  refine wpAnyH_take (i := 3) (v := ?_) rfl (by kernel_rfl) (by kernel_rfl) (by kernel_rfl) (fun _ _ _ h => h) (Or.inl ⟨by rfl, ?_⟩) (by assumption) ?_; rotate_left; (focus (intro w hSw; (try dsimp only at hSw); go_simp; try with_reducible rfl))
                  try simp only [Act.put, List.getElem_toArray, List.getElem_cons_zero, List.getElem_cons_succ, List.setIfInBounds_toArray, List.set_cons_zero, List.set_cons_succ]
                  refine wpAnyH_take (i := 4) (v := ?_) rfl (by kernel_rfl) (by kernel_rfl) (by kernel_rfl) (fun _ _ _ h => h) (Or.inl ⟨by rfl, ?_⟩) (by assumption) ?_; rotate_left; (focus (intro w hSw; (try dsimp only at hSw); go_simp; try with_reducible rfl))
                  try simp only [Act.put, List.getElem_toArray, List.getElem_cons_zero, List.getElem_cons_succ, List.setIfInBounds_toArray, List.set_cons_zero, List.set_cons_succ]
                  refine wpAnyH_take (i := 5) (v := ?_) rfl (by kernel_rfl) (by kernel_rfl) (by kernel_rfl) (fun _ _ _ h => h) (Or.inl ⟨by rfl, ?_⟩) (by assumption) ?_; rotate_left; (focus (intro w hSw; (try dsimp only at hSw); go_simp; try with_reducible rfl))
                  try simp only [Act.put, List.getElem_toArray, List.getElem_cons_zero, List.getElem_cons_succ, List.setIfInBounds_toArray, List.set_cons_zero, List.set_cons_succ]
                  refine wpAnyH_take (i := 6) (v := ?_) rfl (by kernel_rfl) (by kernel_rfl) (by kernel_rfl) (fun _ _ _ h => h) (Or.inl ⟨by rfl, ?_⟩) (by assumption) ?_; rotate_left; (focus (intro w hSw; (try dsimp only at hSw); go_simp; try with_reducible rfl))
                  try simp only [Act.put, List.getElem_toArray, List.getElem_cons_zero, List.getElem_cons_succ, List.setIfInBounds_toArray, List.set_cons_zero, List.set_cons_succ]
                  refine wpAnyH_take (i := 7) (v := ?_) rfl (by kernel_rfl) (by kernel_rfl) (by kernel_rfl) (fun _ _ _ h => h) (Or.inl ⟨by rfl, ?_⟩) (by assumption) ?_; rotate_left; (focus (intro w hSw; (try dsimp only at hSw); go_simp; try with_reducible rfl))
                  try simp only [Act.put, List.getElem_toArray, List.getElem_cons_zero, List.getElem_cons_succ, List.setIfInBounds_toArray, List.set_cons_zero, List.set_cons_succ]
                  refine wpAnyH_ready (rs := [2]) (by kernel_rfl) (by simp) ?_
                  refine AllReadyH.cons rfl (fun K hK => ?_) AllReadyH.nil
                  try simp only [List.getElem_toArray, List.getElem_cons_zero, List.getElem_cons_succ]
                  go_simp
                  (refine C.mono ?_; rintro e w7 ⟨rfl, o7⟩)
                  try go_wp2_with fail
                  refine hK.out _ _ ?_ (fun hHeld => ?_)
                  · trivial
                  clear hK K
                  try simp only [Act.put, List.getElem_toArray, List.getElem_cons_zero, List.getElem_cons_succ, List.setIfInBounds_toArray, List.set_cons_zero, List.set_cons_succ]
                  refine wpAnyH_take (i := 8) (v := ?_) rfl (by kernel_rfl) (by kernel_rfl) (by kernel_rfl) (fun _ _ _ h => h) (Or.inl ⟨by rfl, ?_⟩) (by assumption) ?_; rotate_left; (focus (intro w hSw; (try dsimp only at hSw); go_simp; try with_reducible rfl))
                  try simp only [Act.put, List.getElem_toArray, List.getElem_cons_zero, List.getElem_cons_succ, List.setIfInBounds_toArray, List.set_cons_zero, List.set_cons_succ]
                  refine wpAnyH_done (by kernel_rfl) ?_ _
                  go_wp2_with fail
                  go_roundw
                  case rel => exact ⟨k + 1, by omega, by go_num, HT6.out.only0 o7⟩
                  case measure => simp [intOf]; omega
              · obtain rfl : k = 64 := by omega
                have C1 := set_covers hT5.set (-1)
                rw [decide_eq_false (kb_neg X 64 (-1) (by omega)), HIN.out.out (-1) (by omega)] at C1
                go_wp2_with fail
                refine C1.mono ?_
                rintro e w7 ⟨rfl, o7⟩
                have hT7 := hT5.only0 o7
                clear hT5 o7 C1
                have C1 := set_covers hT7.set 64
                rw [decide_eq_false (kb_neg X 64 64 (by omega)), HIN.out.out 64 (by omega)] at C1
                go_wp2_with fail
                refine C1.mono ?_
                rintro e w8 ⟨rfl, o8⟩
                have hT8 := hT7.only0 o8
                clear hT7 o8 C1
                go_wp2_with fail
                refine (awake13_any _).mono ?_
                rintro e w9 ⟨rfl, b9⟩
                have hT9 := hT8.bel0 b9
                go_wp2_with fail
                go_ret
                exact ⟨rfl, hT9.bel⟩
end Go.Proofs.Ytjkdofhlcdimcaa

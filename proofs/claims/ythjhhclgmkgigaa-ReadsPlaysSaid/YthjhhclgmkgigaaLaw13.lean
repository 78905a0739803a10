/-
  Layer 13: what the document fixes (awake); the walk of ReadsMany.
-/
import Derived.Test.YthjhhclgmkgigaaSpans
import Derived.Test.YthjhhclgmkgigaaBits
namespace Go.Proofs.Ythjhhclgmkgigaa
open Go.RowKit
set_option linter.unusedVariables false
set_option linter.unusedSimpArgs false

/-- A set that a law made: it lies in memory that the law has made. -/
structure SW (w0 w : World) (P : Nat → Prop) (s : Nat) (keys : List Int) (lk : Nat → Int) (rs : List Rg) : Prop where
  set : SetAt w0.heap.size w P s keys lk rs
  bel : Below w0.heap.size w0 w
theorem SW.step {w0 w w' : World} {P P' : Nat → Prop} {s : Nat} {keys keys' : List Int} {lk lk' : Nat → Int} {rs rs' : List Rg} (h : SW w0 w P s keys lk rs) (h' : SetAt w0.heap.size w' P' s keys' lk' rs') (o : Only P w w') : SW w0 w' P' s keys' lk' rs' :=
  ⟨h', h.bel.trans (o.belowP w0.heap.size h.bel.size h.set.above)⟩
theorem SW.only0 {w0 w w' : World} {P : Nat → Prop} {s : Nat} {keys : List Int} {lk : Nat → Int} {rs : List Rg} (h : SW w0 w P s keys lk rs) (o : Only0 w w') : SW w0 w' P s keys lk rs :=
  ⟨h.set.only0 o, h.bel.trans (o.below.mono h.bel.size)⟩
theorem SW.drewN {w0 w w' : World} {P : Nat → Prop} {s : Nat} {keys : List Int} {lk : Nat → Int} {rs : List Rg} (h : SW w0 w P s keys lk rs) (o : ∃ n, w.drewN n = w') : SW w0 w' P s keys lk rs := by
  obtain ⟨n, rfl⟩ := o
  exact h.only0 ((Only0.refl w).drewN n)
theorem SW.bel0 {w0 w w' : World} {P : Nat → Prop} {s : Nat} {keys : List Int} {lk : Nat → Int} {rs : List Rg} (h : SW w0 w P s keys lk rs) (b : Below w.heap.size w w') : SW w0 w' P s keys lk rs := h.only0 (Below.only0 b)
theorem SW.new {w0 w w' : World} (b : Below w0.heap.size w0 w) (h : SetAt w.heap.size w' (fun b => b = w.heap.size) w.heap.size [] (fun _ => 0) []) (o : Only0 w w') : SW w0 w' (fun b => b = w.heap.size) w.heap.size [] (fun _ => 0) [] :=
  ⟨h.base b.size, b.trans (o.below.mono b.size)⟩

set_option maxRecDepth 100000 in
set_option maxHeartbeats 4000000 in
theorem awake13_any (w : World) : Calls Try.prog 11 #[] w fun e w' => e = .returned (.bool true) ∧ Below w.heap.size w w' := by
  go_enter Try.func11, Try.ntmps11
  go_wp2_with fail
  refine (set_new w).mono ?_
  rintro e w1 ⟨rfl, h1, o1, _⟩
  have H1 := SW.new (Below.refl _ w) h1 o1
  clear h1 o1
  go_wp2_with fail
  refine (set_add H1.set 3 (by decide) 7).mono ?_
  rintro e w2 ⟨rfl, P2, h2, o2, _⟩
  rw [show addK [] ((3 : Nat) : Int) = [3] from rfl] at h2
  have H2 := H1.step h2 o2
  clear h2 o2 H1
  go_wp2_with fail
  refine (set_add H2.set 3 (by decide) 8).mono ?_
  rintro e w3 ⟨rfl, P3, h3, o3, _⟩
  rw [show addK [3] ((3 : Nat) : Int) = [3] from rfl] at h3
  have H3 := H2.step h3 o3
  clear h3 o3 H2
  have L := set_link H3.set 3
  rw [show (if (3 : Int) ∈ [(3 : Int)] then (addL [3] (addL [] (fun _ => 0) 3 7) 3 8) (3 : Int).toNat else 0) = 7 from rfl, show decide ((3 : Int) ∈ [(3 : Int)]) = true from rfl] at L
  go_wp2_with fail
  refine L.mono ?_
  rintro e w4 ⟨rfl, d4⟩
  have H4 := H3.drewN d4
  clear L d4 H3
  have C3 := set_covers H4.set 3
  rw [show (decide ((3 : Int) ∈ [(3 : Int)]) || anyRg [] 3) = true from rfl] at C3
  go_wp2_with fail
  refine C3.mono ?_
  rintro e w5 ⟨rfl, o5⟩
  have H5 := H4.only0 o5
  clear C3 o5 H4
  have C4 := set_covers H5.set 4
  rw [show (decide ((4 : Int) ∈ [(3 : Int)]) || anyRg [] 4) = false from rfl] at C4
  go_wp2_with fail
  refine C4.mono ?_
  rintro e w6 ⟨rfl, o6⟩
  have H6 := H5.only0 o6
  clear C4 o6 H5
  have L6 := set_len H6.set
  rw [show ((([3] : List Int).length : Int) + (([] : List Rg).length : Int)) = 1 from rfl] at L6
  go_wp2_with fail
  refine L6.mono ?_
  rintro e w7 ⟨rfl, d7⟩
  have H7 := H6.drewN d7
  clear L6 d7 H6
  go_wp2_with fail
  go_ret
  exact ⟨rfl, H7.bel⟩

def rsN (i : Nat) : List Rg := (List.range (min i 64)).map (fun j => ⟨((j : Nat) : Int) % 32, 63, []⟩)
theorem rsN_len (i : Nat) : (rsN i).length = min i 64 := by simp [rsN]
theorem rsN_res (i : Nat) : spanRes (rsN i) ((i : Int) % 32) 63 = if i < 64 then 0 else 65 := by
  have h : spanBad ((i : Int) % 32) 63 = false := by simp [spanBad]; omega
  have h2 := rsN_len i
  simp only [spanRes, h, Bool.false_eq_true, if_false, h2]
  by_cases hi : i < 64
  · rw [if_neg (by omega), if_pos hi]
  · rw [if_pos (by omega), if_neg hi]
theorem rsN_succ (i : Nat) : spanRs (rsN i) ((i : Int) % 32) 63 [] = rsN (i + 1) := by
  have h : spanBad ((i : Int) % 32) 63 = false := by simp [spanBad]; omega
  have h2 := rsN_len i
  simp only [spanRs, h, Bool.false_eq_true, if_false, h2]
  by_cases hi : i < 64
  · rw [if_neg (by omega)]
    simp only [rsN]
    rw [show min i 64 = i by omega, show min (i + 1) 64 = i + 1 by omega, List.range_succ, List.map_append]; rfl
  · rw [if_pos (by omega)]
    simp only [rsN]
    rw [show min i 64 = 64 by omega, show min (i + 1) 64 = 64 by omega]
def kN (k : Nat) : List Int := (List.range k).map (fun j => ((j : Nat) : Int))
theorem kN_mem (k j : Nat) : ((j : Int) ∈ kN k) ↔ j < k := by
  simp only [kN, List.mem_map, List.mem_range]
  exact ⟨fun ⟨a, h, e⟩ => by omega, fun h => ⟨j, h, rfl⟩⟩
theorem kN_add (k : Nat) : addK (kN k) k = kN (k + 1) := by
  unfold addK
  rw [if_neg (by rw [kN_mem]; omega)]
  simp [kN, List.range_succ]
theorem kN_old (k : Nat) : addK (kN (k + 1)) k = kN (k + 1) := by
  unfold addK
  rw [if_pos (by rw [kN_mem]; omega)]
theorem kN_len (k : Nat) : (kN k).length = k := by simp [kN]

set_option maxRecDepth 100000 in
set_option maxHeartbeats 8000000 in
theorem readsMany_walk (a0 : Int) (w : World) (_w0 : (Lit.int .i64 a0).wf = true) :
    Calls Try.prog 5 #[.int .i64 a0] w fun e w' => e = .returned (.bool true) ∧ Below w.heap.size w w' := by
  have hb := i64_and15 a0
  obtain ⟨m, hm, hm1, hm2⟩ : ∃ m : Nat, a0 % 16 + 56 = (m : Int) ∧ 56 ≤ m ∧ m ≤ 71 := ⟨(a0 % 16 + 56).toNat, by omega, by omega, by omega⟩
  obtain ⟨q, hq, hq1, hq2, hq3⟩ := min_named m 64
  rw [show ((64 : Nat) : Int) = 64 from rfl] at hq
  have hqm : q = min m 64 := by omega
  have HQ := Lib.hid hq
  have HQM := Lib.hid hqm
  clear hq hqm hq3
  go_enter Try.func5, Try.ntmps5
  go_wp2_with fail
  refine (set_new w).mono ?_
  rintro e w1 ⟨rfl, h1, o1, _⟩
  have H1 := SW.new (Below.refl _ w) h1 o1
  clear h1 o1
  go_wp2_with fail
  clear hb hm
  obtain ⟨s, hs⟩ : ∃ s, s = w.heap.size := ⟨_, rfl⟩
  rw [← hs] at H1 ⊢
  have HS := Lib.hid hs
  clear hs
  go_loopw [4] (fun i wr => ∃ (k : Nat) (P : Nat → Prop), k ≤ m ∧ i = .int .i64 k ∧ SW w wr P s [] (fun _ => 0) (rsN k)) (fun i _ => m - (intOf i).toNat)
  case atStart => exact ⟨0, _, by omega, rfl, H1⟩
  case round =>
    obtain ⟨k, P, hk, rfl, hS⟩ := hrel
    clear H1
    by_cases hlt : k < m
    · have hb := i64_and31 (k : Int)
      have A := set_span hS.set ((k : Int) % 32) 63 none 0 [] (Ints.nil _ _ _) (fun _ => rfl) (by simp)
      rw [rsN_res, rsN_succ] at A
      have hk0 : ¬ (k : Int) < 0 := by omega
      by_cases h64 : k < 64
      · rw [if_pos h64] at A
        go_wp2_with fail
        refine A.mono ?_
        rintro e w2 ⟨rfl, P2, h2, o2, _⟩
        have H2 := hS.step h2 o2
        clear A h2 o2 hS hb
        go_wp2_with fail
        go_roundw
        case rel => exact ⟨k + 1, P2, by omega, by go_num, H2⟩
        case measure => simp [intOf]; omega
      · rw [if_neg h64] at A
        go_wp2_with fail
        refine A.mono ?_
        rintro e w2 ⟨rfl, P2, h2, o2, _⟩
        have H2 := hS.step h2 o2
        clear A h2 o2 hS hb
        go_wp2_with fail
        go_roundw
        case rel => exact ⟨k + 1, P2, by omega, by go_num, H2⟩
        case measure => simp [intOf]; omega
    · obtain rfl : k = m := by omega
      go_wp2_with fail
      obtain ⟨wo, rfl⟩ : ∃ wo : World, wo = wr := ⟨_, rfl⟩
      go_loopw [6] (fun i wr => ∃ (j : Nat) (P : Nat → Prop) (lk : Nat → Int), j ≤ 64 ∧ i = .int .i64 j ∧ (∀ x : Nat, x < j → lk x = x) ∧ SW w wr P s (kN j) lk (rsN k)) (fun i _ => 64 - (intOf i).toNat)
      case atStart => exact ⟨0, _, _, by omega, rfl, fun x hx => absurd hx (by omega), hS⟩
      case round =>
        obtain ⟨j, P3, lk, hj, rfl, hlk, hT⟩ := hrel
        have HLK := Lib.hid hlk
        clear hS hlk
        by_cases hj2 : j < 64
        · have A := set_add hT.set j hj2 (j : Int)
          rw [kN_add] at A
          have hw : IntKind.u64.wrap (j : Int) = (j : Int) := by rw [IntKind.wrap_u64]; omega
          go_wp2_with fail
          refine A.mono ?_
          rintro e w4 ⟨rfl, P4, h4, o4, _⟩
          have H4 := hT.step h4 o4
          clear A h4 o4 hT
          have A := set_add H4.set j hj2 99
          rw [kN_old] at A
          go_wp2_with fail
          refine A.mono ?_
          rintro e w5 ⟨rfl, P5, h5, o5, _⟩
          have H5 := H4.step h5 o5
          clear A h5 o5 H4 hw
          have hl : ∀ x : Nat, x < j + 1 → (addL (kN (j + 1)) (addL (kN j) lk j j) j 99) x = (x : Int) := by
            intro x hx
            rw [show addL (kN (j + 1)) (addL (kN j) lk j j) j 99 = addL (kN j) lk j j from if_pos (by rw [kN_mem]; omega), show addL (kN j) lk j j = lkSet lk j j from if_neg (by rw [kN_mem]; omega)]
            unfold lkSet
            by_cases e : x = j
            · rw [if_pos e, e]
            · rw [if_neg e]; exact HLK.out x (by omega)
          have HL := Lib.hid hl
          clear hl
          go_wp2_with fail
          go_roundw
          case rel => exact ⟨j + 1, P5, _, by omega, by go_num, HL.out, H5⟩
          case measure => simp [intOf]; omega
        · obtain rfl : j = 64 := by omega
          have e64 : ((64 : Nat) : Int) = 64 := rfl
          rw [e64]
          have L := set_link hT.set 63
          rw [if_pos (show (63 : Int) ∈ kN 64 from (kN_mem 64 63).2 (by decide)), decide_eq_true (show (63 : Int) ∈ kN 64 from (kN_mem 64 63).2 (by decide)), show lk (63 : Int).toNat = 63 from HLK.out 63 (by decide)] at L
          clear HLK
          go_wp2_with fail
          refine L.mono ?_
          rintro e w4 ⟨rfl, d4⟩
          have H4 := hT.drewN d4
          clear L d4 hT
          have S := set_spans H4.set
          rw [rsN_len, ← HQM.out] at S
          have hq := HQ.out
          go_wp2_with fail
          refine S.mono ?_
          rintro e w5 ⟨⟨a, ss2, rfl, _, _⟩, b5⟩
          have H5 := H4.bel0 b5
          clear S b5 H4
          have K := set_keys H5.set
          rw [kN_len] at K
          go_wp2_with fail
          refine K.mono ?_
          rintro e w6 ⟨⟨a6, rfl, _, _⟩, b6⟩
          have H6 := H5.bel0 b6
          clear K b6 H5
          have L := set_len H6.set
          rw [kN_len, rsN_len, ← HQM.out] at L
          go_wp2_with fail
          refine L.mono ?_
          rintro e w7 ⟨rfl, d7⟩
          have H7 := H6.drewN d7
          clear L d7 H6
          go_wp2_with fail
          refine (set_add_bad H7.set 64 (by decide) 1).mono ?_
          rintro e w8 ⟨rfl, h8, o8⟩
          have H8 := H7.only0 o8
          clear h8 o8 H7
          have A := set_span H8.set 5 4 none 0 [] (Ints.nil _ _ _) (fun _ => rfl) (by simp)
          rw [show spanRes (rsN k) 5 4 = 1 from rfl] at A
          go_wp2_with fail
          refine A.mono ?_
          rintro e w9 ⟨rfl, P9, h9, o9, _⟩
          have H9 := H8.step h9 o9
          clear A h9 o9 H8
          go_wp2_with fail
          refine (awake13_any _).mono ?_
          rintro e w10 ⟨rfl, b10⟩
          have H10 := H9.bel0 b10
          go_wp2_with fail
          go_ret
          exact ⟨rfl, H10.bel⟩
end Go.Proofs.Ythjhhclgmkgigaa

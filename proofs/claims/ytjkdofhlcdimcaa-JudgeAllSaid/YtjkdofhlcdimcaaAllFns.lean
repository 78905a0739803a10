/-
  The functions that JudgeAll hands to All.
-/
import Derived.Test.YtjkdofhlcdimcaaWeak
namespace Go.Proofs.Ytjkdofhlcdimcaa
open Go.RowKit
set_option linter.unusedVariables false
set_option linter.unusedSimpArgs false

set_option maxRecDepth 100000 in
set_option maxHeartbeats 4000000 in
theorem all_key_full (b4 k : Nat) (na : Option Addr) (nc : Nat) (nz : List Int) (w : World) (hk : k < 64) (hz : 0 < nz.length) (hn : nz.length ≤ 281474976710656) (h4 : Blk w b4 23 #[.slice na nz.length nc]) (hI : Ints .u64 w na nz) :
    Calls Try.prog 37 #[.int .i64 k, .pointer (some ⟨b4, 0, none⟩)] w fun e w' => e = .returned (.int .u64 (restF nz k)) ∧ ∃ n, w.drewN n = w' := by
  have c4 : w.cell? ⟨b4, 0, none⟩ = some (.slice na nz.length nc) := h4.cell 0
  have t0 : ¬ nz.length = 0 := by omega
  have t1 : ¬ nz = [] := fun e => t0 (by rw [e]; rfl)
  have t2 : ((nz.length : Int) == 0) = false := by simpa using t1
  obtain ⟨kk, hkk, hkt, hke, hrf⟩ := rest_at k hk hz
  have hm : bits .and .i64 (k : Int) 255 = (k : Int) := by rw [i64_and255]; omega
  have hkw : IntKind.i64.wrap (kk : Int) = (kk : Int) := IntWalk.i64_in _ (by omega)
  obtain ⟨bn, on, rfl, hc⟩ := hI.at hz
  have qn := hc kk hkk
  have hx3 := u64_and3 (nz.getD kk 0)
  obtain ⟨yn, hyn⟩ : ∃ y, y = nz.getD kk 0 := ⟨_, rfl⟩
  rw [← hyn] at qn hx3 hrf
  have HRF := Lib.hid hrf
  have r0 : (0 : Int) ≤ (kk : Int) := by omega
  have r1 : (kk : Int) < (nz.length : Int) := by omega
  clear hc hyn hrf h4 hI
  go_enter Try.func37, Try.ntmps37
  go_wp2_with fail
  go_quiet (fail)
  go_wp2_with fail
  go_ret
  exact ⟨ret_int HRF.out.symm, _, rfl⟩
set_option maxHeartbeats 4000000 in
theorem all_key_empty (b4 k : Nat) (na : Option Addr) (nc : Nat) (w : World) (h4 : Blk w b4 23 #[.slice na 0 nc]) :
    Calls Try.prog 37 #[.int .i64 k, .pointer (some ⟨b4, 0, none⟩)] w fun e w' => e = .returned (.int .u64 (restF [] k)) ∧ ∃ n, w.drewN n = w' := by
  have c4 : w.cell? ⟨b4, 0, none⟩ = some (.slice na 0 nc) := h4.cell 0
  clear h4
  go_enter Try.func37, Try.ntmps37
  go_wp2_with fail
  go_ret
  exact ⟨ret_int rfl, 0, rfl⟩
theorem all_key_any (b4 k : Nat) (na : Option Addr) (nc : Nat) (nz : List Int) (w : World) (hk : k < 64) (hn : nz.length ≤ 281474976710656) (h4 : Blk w b4 23 #[.slice na nz.length nc]) (hI : Ints .u64 w na nz) :
    Calls Try.prog 37 #[.int .i64 k, .pointer (some ⟨b4, 0, none⟩)] w fun e w' => e = .returned (.int .u64 (restF nz k)) ∧ ∃ n, w.drewN n = w' := by
  by_cases hz : 0 < nz.length
  · exact all_key_full b4 k na nc nz w hk hz hn h4 hI
  · obtain rfl : nz = [] := List.eq_nil_of_length_eq_zero (by omega)
    exact all_key_empty b4 k na nc w h4
theorem all_now (b4 : Nat) (na : Option Addr) (nc : Nat) (nz : List Int) (w : World) (hn : nz.length ≤ 281474976710656) (h4 : Blk w b4 23 #[.slice na nz.length nc]) (hI : Ints .u64 w na nz) :
    NowIs w (.func (.func 37) #[] #[.pointer (some ⟨b4, 0, none⟩)]) (restF nz) := by
  refine .inr ⟨_, _, rfl, fun k w => by kernel_rfl, fun w' k o k0 k1 => ?_⟩
  obtain ⟨j, rfl⟩ := Int.eq_ofNat_of_zero_le k0
  have := all_key_any b4 j na nc nz w' (by omega) hn (o.blk h4 (fun hf => hf)) (hI.below o.below)
  rw [show (#[.int .i64 (j : Int)] ++ #[.pointer (some ⟨b4, 0, none⟩)] : Array Value) = #[.int .i64 (j : Int), .pointer (some ⟨b4, 0, none⟩)] from rfl]
  refine this.mono ?_
  rintro e w1 ⟨rfl, n, rfl⟩
  exact ⟨rfl, (Only0.refl _).drewN n⟩

def spanA (zs : List Int) (lo hi : Int) : List Int := (zs.drop (min (lo % 8).toNat zs.length)).take (min (min (lo % 8).toNat zs.length + (hi % 4).toNat) zs.length - min (lo % 8).toNat zs.length)
theorem Ints.cut {k : IntKind} {w : World} {b off : Nat} {zs : List Int} (h : ∀ i, i < zs.length → w.cell? ⟨b, off + i, none⟩ = some (.int k (zs.getD i 0))) (p m : Nat) (hm : p + m ≤ zs.length) : Ints k w (some ⟨b, off + p, none⟩) ((zs.drop p).take m) := by
  refine .inr ⟨b, off + p, rfl, fun i hi => ?_⟩
  simp at hi
  rw [Nat.add_assoc, h (p + i) (by omega)]
  simp [List.getD_eq_getElem?_getD, List.getElem?_take, List.getElem?_drop, hi, show p + i < zs.length by omega]
set_option maxRecDepth 100000 in
set_option maxHeartbeats 4000000 in
theorem all_span_any (b4 : Nat) (na : Option Addr) (nc : Nat) (nz : List Int) (lo hi : Int) (w : World) (hn : nz.length ≤ 100) (hcn : nz.length ≤ nc) (hcc : nc ≤ 9223372036854775807) (hno : na = none → nc = 0) (h4 : Blk w b4 23 #[.slice na nz.length nc]) (hI : Ints .u64 w na nz) :
    Calls Try.prog 38 #[.int .i64 lo, .int .i64 hi, .pointer (some ⟨b4, 0, none⟩)] w fun e w' => ToldInts w' e (spanA nz lo hi) ∧ ∃ n, w.drewN n = w' := by
  have c4 : w.cell? ⟨b4, 0, none⟩ = some (.slice na nz.length nc) := h4.cell 0
  have x1 := i64_and7 lo
  have x2 := i64_and3 hi
  obtain ⟨p, hp, hp1⟩ : ∃ p : Nat, lo % 8 = (p : Int) ∧ p < 8 := ⟨(lo % 8).toNat, by omega, by omega⟩
  obtain ⟨q, hq, hq1⟩ : ∃ q : Nat, hi % 4 = (q : Int) ∧ q < 4 := ⟨(hi % 4).toNat, by omega, by omega⟩
  have hS : spanA nz lo hi = (nz.drop (min p nz.length)).take (min (min p nz.length + q) nz.length - min p nz.length) := by
    unfold spanA; rw [hp, hq]; rfl
  rw [hp] at x1
  rw [hq] at x2
  obtain ⟨k, ek⟩ : ∃ k, min p nz.length = k := ⟨_, rfl⟩
  rw [ek] at hS
  obtain ⟨m, em⟩ : ∃ m, min (k + q) nz.length = m := ⟨_, rfl⟩
  rw [em] at hS
  have hk1 : k ≤ p := by omega
  have hk2 : k ≤ nz.length := by omega
  have hm1 : m ≤ k + q := by omega
  have hm2 : m ≤ nz.length := by omega
  have hk' : min (p : Int) (nz.length : Int) = (k : Int) := by omega
  have hm' : min ((k : Int) + (q : Int)) (nz.length : Int) = (m : Int) := by omega
  have hkm : k ≤ m := by omega
  have HSS := Lib.hid hS
  have HI := Lib.hid hI
  have HNO := Lib.hid hno
  clear hp hq h4 hI hS ek em hno
  by_cases hz : 0 < nz.length
  · obtain ⟨b, off, rfl, hc⟩ := HI.out.at hz
    have II := Lib.hid (Ints.cut hc k (m - k) (by omega))
    have hl : (spanA nz lo hi).length = m - k := by rw [HSS.out]; simp; omega
    have HL := Lib.hid hl
    clear hc hl
    have TELL : ∀ (a : Option Addr) (c : Nat) (w' : World), (a = some ⟨b, off + k, none⟩ ∨ m - k = 0) → Ints .u64 w' (some ⟨b, off + k, none⟩) ((nz.drop k).take (m - k)) → ToldInts w' (.returned (.slice a (m - k) c)) (spanA nz lo hi) := by
      intro a c w' ha hI
      refine ⟨a, c, by rw [HL.out], ?_, by rw [HL.out]; omega⟩
      rw [HSS.out]
      rcases ha with rfl | ha
      · exact hI
      · rw [ha]; simp; exact Ints.nil _ _ _
    have HT := Lib.hid TELL
    clear TELL
    go_enter Try.func38, Try.ntmps38
    go_wp2_with fail
    all_goals
      go_ret
      first
        | exact ⟨HT.out _ _ _ (.inl rfl) II.out, 0, rfl⟩
        | exact ⟨HT.out _ _ _ (.inr (by omega)) II.out, 0, rfl⟩
  · obtain rfl : nz = [] := List.eq_nil_of_length_eq_zero (by omega)
    simp only [List.length_nil] at hk2 hm2
    obtain rfl : k = 0 := by omega
    obtain rfl : m = 0 := by omega
    have hT : ∀ (a : Option Addr) (c : Nat) (w' : World), ToldInts w' (.returned (.slice a 0 c)) (spanA [] lo hi) := fun a c w' => ⟨a, c, by rw [HSS.out]; rfl, by rw [HSS.out]; exact Ints.nil _ _ _, by rw [HSS.out]; simp⟩
    have HT := Lib.hid hT
    have hk3 : min (p : Int) 0 = 0 := by omega
    have hm3 : min (q : Int) 0 = 0 := by omega
    have c40 : w.cell? ⟨b4, 0, none⟩ = some (.slice na 0 nc) := c4
    clear hT c4 hk' hm'
    rcases na with _ | ad
    · have := HNO.out rfl
      subst this
      go_enter Try.func38, Try.ntmps38
      go_wp2_with fail
      go_ret
      exact ⟨HT.out _ _ _, 0, rfl⟩
    · go_enter Try.func38, Try.ntmps38
      go_wp2_with fail
      all_goals
        go_ret
        exact ⟨HT.out _ _ _, 0, rfl⟩
theorem all_span (b4 : Nat) (na : Option Addr) (nc : Nat) (nz : List Int) (w : World) (hn : nz.length ≤ 100) (hcn : nz.length ≤ nc) (hcc : nc ≤ 9223372036854775807) (hno : na = none → nc = 0) (h4 : Blk w b4 23 #[.slice na nz.length nc]) (hI : Ints .u64 w na nz) :
    SpanIs w (.func (.func 38) #[] #[.pointer (some ⟨b4, 0, none⟩)]) (spanA nz) := by
  refine .inr ⟨_, _, rfl, fun x y w => by kernel_rfl, fun w' x y o => ?_⟩
  have := all_span_any b4 na nc nz x y w' hn hcn hcc hno (o.blk h4 (fun hf => hf)) (hI.below o.below)
  rw [show (#[.int .i64 x, .int .i64 y] ++ #[.pointer (some ⟨b4, 0, none⟩)] : Array Value) = #[.int .i64 x, .int .i64 y, .pointer (some ⟨b4, 0, none⟩)] from rfl]
  refine this.mono ?_
  rintro e w1 ⟨h, n, rfl⟩
  exact ⟨h, (Only0.refl _).drewN n⟩
end Go.Proofs.Ytjkdofhlcdimcaa

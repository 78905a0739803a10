/-
  JudgeFirst: the plain law, and the function that tells what is there now.
-/
import Derived.Test.YtjkdofhlcdimcaaLaw15
namespace Go.Proofs.Ytjkdofhlcdimcaa
open Go.RowKit
set_option linter.unusedVariables false
set_option linter.unusedSimpArgs false

theorem find_congr {α : Type} {p q : α → Bool} : ∀ {l : List α}, (∀ x ∈ l, p x = q x) → l.find? p = l.find? q
  | [], _ => rfl
  | x :: l, h => by
    rw [List.find?_cons, List.find?_cons, h x (by simp), find_congr (l := l) (fun y hy => h y (by simp [hy]))]
def bitI (X : Nat) (k : Int) : Bool := X.testBit k.toNat
def nowF (ord : List Int) (i X : Nat) (k : Int) : Int := if k ∈ ord.take i then k + 5 else if bitI X k then 1 else k + 5
def wantF (ord : List Int) (X i : Nat) : Int := ((ord.drop i).find? (bitI X)).getD (-1)
theorem wantF_end (ord : List Int) (X : Nat) : wantF ord X ord.length = -1 := by simp [wantF]
theorem wantF_yes {ord : List Int} {X t : Nat} (ht : t < ord.length) (h : bitI X (ord.getD t 0) = true) : wantF ord X t = ord.getD t 0 := by
  rw [List.getD_eq_getElem?_getD, List.getElem?_eq_getElem ht] at *
  simp only [Option.getD_some] at *
  unfold wantF
  rw [List.drop_eq_getElem_cons ht, List.find?_cons, h]; rfl
theorem wantF_no {ord : List Int} {X t : Nat} (ht : t < ord.length) (h : bitI X (ord.getD t 0) = false) : wantF ord X t = wantF ord X (t + 1) := by
  rw [List.getD_eq_getElem?_getD, List.getElem?_eq_getElem ht] at h
  simp only [Option.getD_some] at h
  unfold wantF
  rw [List.drop_eq_getElem_cons ht, List.find?_cons, h]
theorem first_res {l : Int} {ord : List Int} {lk : Nat → Int} {X i : Nat} (hl : l = 2 ∨ l = 3) (kr : ∀ k ∈ ord, 0 ≤ k ∧ k ≤ 63) (nd : ord.Nodup) (hlk : ∀ k ∈ ord, lk k.toNat = k + 5) (sf : Int → Int → List Int) :
    allRes l ord lk [] (nowF ord i X) sf = (decide (wantF ord X i < 0), wantF ord X i) := by
  have e1 : needK l ord lk = ord := by
    rcases hl with rfl | rfl
    · have : ord.filter (found lk) = ord := by
        rw [List.filter_eq_self]
        intro k hk
        have := kr k hk
        simp [found, hlk k hk]; omega
      simp [needK, this]
    · simp [needK]
  have e2 : needR l ([] : List Rg) = [] := by unfold needR; split <;> rfl
  have e3 : lvl l = true := by rcases hl with rfl | rfl <;> rfl
  have e4 : ord.find? (badK l lk (nowF ord i X)) = (ord.drop i).find? (bitI X) := by
    have h1 : ∀ k ∈ ord, badK l lk (nowF ord i X) k = !(nowF ord i X k == k + 5) := by
      intro k hk
      have := kr k hk
      have h5 : (k + 5 == 0) = false := by simp; omega
      unfold badK
      rw [hlk k hk]
      rcases hl with rfl | rfl <;> simp [jkey, h5]
    rw [find_congr h1]
    have hs : ord = ord.take i ++ ord.drop i := (List.take_append_drop i ord).symm
    have h2 : (ord.take i).find? (fun k => !(nowF ord i X k == k + 5)) = none := by
      rw [List.find?_eq_none]
      intro k hk
      simp [nowF, hk]
    have h3 : (ord.drop i).find? (fun k => !(nowF ord i X k == k + 5)) = (ord.drop i).find? (bitI X) := by
      refine find_congr (fun k hk => ?_)
      have hko := kr k (List.mem_of_mem_drop hk)
      have hnt : k ∉ ord.take i := by
        intro hkt
        rw [hs, List.nodup_append] at nd
        exact nd.2.2 k hkt k hk rfl
      cases hb : bitI X k
      · simp [nowF, hnt, hb]
      · simp [nowF, hnt, hb]; omega
    rw [show ord.find? (fun k => !(nowF ord i X k == k + 5)) = (ord.take i ++ ord.drop i).find? (fun k => !(nowF ord i X k == k + 5)) by rw [List.take_append_drop], List.find?_append, h2, h3]; rfl
  unfold allRes
  rw [e1, e2, e3, e4]
  unfold wantF
  cases hf : (ord.drop i).find? (bitI X) with
  | none => rfl
  | some k =>
    have := kr k (List.mem_of_mem_drop (List.mem_of_find?_eq_some hf))
    have h0 : ¬ k < 0 := by omega
    simp [h0]

theorem take_hit {xs : List Int} {x : Int} {i j : Nat} (hj : j < i) (hl : j < xs.length) (h : xs.getD j 0 = x) : x ∈ xs.take i := by
  rw [List.getD_eq_getElem?_getD, List.getElem?_eq_getElem hl] at h
  simp only [Option.getD_some] at h
  rw [List.mem_take_iff_getElem]
  exact ⟨j, by omega, h⟩
theorem take_miss {xs : List Int} {x : Int} {i : Nat} (h : missUpto xs x i) : x ∉ xs.take i := by
  rw [List.mem_take_iff_getElem]
  rintro ⟨j, hj, rfl⟩
  exact h j (by omega) (by rw [List.getD_eq_getElem?_getD, List.getElem?_eq_getElem (by omega)]; rfl)

set_option maxRecDepth 100000 in
set_option maxHeartbeats 2000000 in
theorem first_fn (bi bo b3 i X k : Nat) (a : Option Addr) (c : Nat) (ord : List Int) (w : World) (hk : k < 64) (hi : i ≤ ord.length) (hlen : ord.length ≤ 64) (hB1 : Blk w bi 3 #[.int .i64 i]) (hB2 : Blk w bo 28 #[.slice a ord.length c]) (hB3 : Blk w b3 22 #[.int .u64 X]) (hI : Ints .i64 w a ord) :
    Calls Try.prog 29 #[.int .i64 k, .pointer (some ⟨bi, 0, none⟩), .pointer (some ⟨bo, 0, none⟩), .pointer (some ⟨b3, 0, none⟩)] w fun e w' => e = .returned (.int .u64 (nowF ord i X k)) ∧ w = w' := by
  have c1 : w.cell? ⟨bi, 0, none⟩ = some (.int .i64 i) := hB1.cell 0
  have c2 : w.cell? ⟨bo, 0, none⟩ = some (.slice a ord.length c) := hB2.cell 0
  have c3 : w.cell? ⟨b3, 0, none⟩ = some (.int .u64 X) := hB3.cell 0
  have hw1 : IntKind.u64.wrap (k : Int) = (k : Int) := by rw [IntKind.wrap_u64]; omega
  have hw2 : IntKind.u64.wrap ((k : Int) + 5) = (k : Int) + 5 := by rw [IntKind.wrap_u64]; omega
  have HI := Lib.hid hI
  clear hB1 hB2 hB3 hI
  go_enter Try.func29, Try.ntmps29
  go_wp2_with fail
  go_loop [6] (fun v => ∃ j : Nat, j ≤ i ∧ v = .int .i64 j ∧ missUpto ord k j) (fun v => i - (intOf v).toNat)
  case atStart => exact ⟨0, by omega, rfl, fun j hj => absurd hj (by omega)⟩
  case round =>
    obtain ⟨j, hj, rfl, hm⟩ := hrel
    have HM := Lib.hid hm
    clear hm
    by_cases hlt : j < i
    · obtain ⟨b, off, rfl, hc⟩ := HI.out.at (by omega)
      have q := hc j (by omega)
      clear hc
      obtain ⟨y, hy⟩ : ∃ y, y = ord.getD j 0 := ⟨_, rfl⟩
      rw [← hy] at q
      have HY := Lib.hid hy
      clear hy
      by_cases he : y = (k : Int)
      · subst he
        have HR := Lib.hid (show nowF ord i X k = (k : Int) + 5 by simp [nowF, take_hit hlt (by omega) HY.out.symm])
        go_wp2_with fail
        go_ret
        exact ⟨ret_int HR.out.symm, rfl⟩
      · have HM2 := Lib.hid (miss_succ HM.out (fun h => he (by rw [HY.out, h])))
        have he' : (y == (k : Int)) = false := by simpa using he
        clear HM
        go_wp2_with fail
        go_round
        case rel => exact ⟨j + 1, by omega, by go_num, HM2.out⟩
        case measure => simp [intOf]; omega
    · obtain rfl : j = i := by omega
      have hnt := take_miss HM.out
      rcases bit_fact X k with ⟨br, tr⟩ | ⟨br, tr⟩
      · have HR := Lib.hid (show nowF ord j X k = (k : Int) + 5 by simp [nowF, hnt, bitI, tr])
        clear hnt tr
        go_wp2_with fail
        go_ret
        exact ⟨ret_int HR.out.symm, rfl⟩
      · have HR := Lib.hid (show nowF ord j X k = 1 by simp [nowF, hnt, bitI, tr])
        clear hnt tr
        go_wp2_with fail
        go_ret
        exact ⟨ret_int HR.out.symm, rfl⟩
theorem first_now (bi bo b3 i X : Nat) (a : Option Addr) (c : Nat) (ord : List Int) (w : World) (hi : i ≤ ord.length) (hlen : ord.length ≤ 64) (hB1 : Blk w bi 3 #[.int .i64 i]) (hB2 : Blk w bo 28 #[.slice a ord.length c]) (hB3 : Blk w b3 22 #[.int .u64 X]) (hI : Ints .i64 w a ord) :
    NowIs w (.func (.func 29) #[] #[.pointer (some ⟨bi, 0, none⟩), .pointer (some ⟨bo, 0, none⟩), .pointer (some ⟨b3, 0, none⟩)]) (nowF ord i X) := by
  refine .inr ⟨_, _, rfl, fun k w => by kernel_rfl, fun w' k o k0 k1 => ?_⟩
  obtain ⟨j, rfl⟩ := Int.eq_ofNat_of_zero_le k0
  have := first_fn bi bo b3 i X j a c ord w' (by omega) hi hlen (o.blk hB1 (fun hf => hf)) (o.blk hB2 (fun hf => hf)) (o.blk hB3 (fun hf => hf)) (hI.below o.below)
  rw [show (#[.int .i64 (j : Int)] ++ #[.pointer (some ⟨bi, 0, none⟩), .pointer (some ⟨bo, 0, none⟩), .pointer (some ⟨b3, 0, none⟩)] : Array Value) = #[.int .i64 (j : Int), .pointer (some ⟨bi, 0, none⟩), .pointer (some ⟨bo, 0, none⟩), .pointer (some ⟨b3, 0, none⟩)] from rfl]
  refine this.mono ?_
  rintro e w1 ⟨rfl, rfl⟩
  exact ⟨rfl, Only0.refl _⟩
end Go.Proofs.Ytjkdofhlcdimcaa

/-
  What the calls of reads.Set do to the set, as one word.
-/
import Derived.Test.YthjhhclgmkgigaaSpanGo
import Derived.Test.YthjhhclgmkgigaaCovers
namespace Go.Proofs.Ythjhhclgmkgigaa
open Go.RowKit
set_option linter.unusedVariables false
set_option linter.unusedSimpArgs false

def addK (keys : List Int) (k : Int) : List Int := if k ∈ keys then keys else keys ++ [k]
def addL (keys : List Int) (lk : Nat → Int) (k : Nat) (x : Int) : Nat → Int := if (k : Int) ∈ keys then lk else lkSet lk k x

theorem set_new (w : World) : Calls Try.prog 7 #[] w fun e w' => e = .returned (.pointer (some ⟨w.heap.size, 0, none⟩)) ∧ SetAt w.heap.size w' (fun b => b = w.heap.size) w.heap.size [] (fun _ => 0) [] ∧ Only0 w w' ∧ w'.heap.size = w.heap.size + 1 := by
  refine (reads_new w).mono ?_
  rintro e w' ⟨cs, rfl, hc, hb, o, z⟩
  refine ⟨rfl, ⟨cs, none, none, 0, 0, [], hb, hc, World.ownsRow_nil _ _ _ _, ⟨World.ownsRow_nil _ _ _ _, rfl, fun i hi => by simp at hi, fun b hb => absurd hb (rowOf_none _ _ _)⟩, rfl, fun b hb => absurd hb (rowOf_none _ _ _), fun b hb => by omega, fun b hb => by omega, by simp, by simp, by simp⟩, o, z⟩

theorem SetAt.base {B B' : Nat} {w : World} {P : Nat → Prop} {s : Nat} {keys : List Int} {lk : Nat → Int} {rs : List Rg} (h : SetAt B w P s keys lk rs) (hB : B' ≤ B) : SetAt B' w P s keys lk rs := by
  obtain ⟨cs, ka, sa, kc, sc, ss, h⟩ := h
  exact ⟨cs, ka, sa, kc, sc, ss, h.blk, h.cells, rows_base h.kown hB, ⟨rows_base h.sp.own hB, h.sp.len, fun i hi => (h.sp.at_ i hi).mono hB (fun _ h => h), h.sp.fp⟩, h.ps, h.pk, h.under, fun b hb => Nat.le_trans hB (h.above b hb), h.nd, h.kr, h.most⟩

theorem set_add {B : Nat} {w : World} {P : Nat → Prop} {s : Nat} {keys : List Int} {lk : Nat → Int} {rs : List Rg} (h : SetAt B w P s keys lk rs) (k : Nat) (hk : k < 64) (x : Int) :
    Calls Try.prog 8 #[.pointer (some ⟨s, 0, none⟩), .int .i64 k, .int .u64 x] w fun e w' => e = .returned (.int .i64 0) ∧ ∃ P', SetAt B w' P' s (addK keys k) (addL keys lk k x) rs ∧ Only P w w' ∧ Grew w.heap.size P P' := by
  have hf := h.few
  obtain ⟨cs, ka, sa, kc, sc, ss, h⟩ := h
  by_cases hm : (k : Int) ∈ keys
  · refine (add_done s k x w h.blk h.cells hk hm).mono ?_
    rintro e w' ⟨rfl, o⟩
    rw [show addK keys k = keys from if_pos hm, show addL keys lk k x = lk from if_pos hm]
    exact ⟨rfl, P, ⟨cs, ka, sa, kc, sc, ss, h.only (Q := fun _ => False) o (fun _ _ hf => hf)⟩, o.any _, Grew.refl _ _⟩
  · have hB : B ≤ w.heap.size := by have := h.above s h.ps; have := h.blk.lt; omega
    refine (add_new B s k x w h.blk h.cells h.kown (rows_ne h.kown h.blk (by decide)) hk hm (by omega) hB).mono ?_
    rintro e w' ⟨rfl, cs', g, cap, h1, h2, h3, h4, h5⟩
    rw [show addK keys k = keys ++ [(k : Int)] from if_neg hm, show addL keys lk k x = lkSet lk k x from if_neg hm]
    have hQ : ∀ b, (b = s ∨ (Value.slice ka keys.length kc).ownBlock = some b) → P b := by
      rintro b (rfl | hb)
      · exact h.ps
      · exact h.pk b hb
    have ap : ∀ {v : Value} {n : Nat} {xs : List Value} {B : Nat} {e : TypeId} {z : Nat}, w.ownsRow B e z v n xs → e ≠ 3 → e ≠ 64 → Apart (rowOf v) (fun b => b = s ∨ (Value.slice ka keys.length kc).ownBlock = some b) := by
      intro v n xs B e z hr n1 n2 b hb hc
      rcases hc with rfl | hc
      · exact rows_ne hr h.blk n2 hb
      · exact rows_apart hr h.kown n1 b hb hc
    refine ⟨rfl, fun b => P b ∨ b = g, ⟨cs', some ⟨g, 0, none⟩, sa, cap, sc, ss, h2, by simpa using h1, by simpa using h3, ⟨rows_only h.sp.own h4 (ap h.sp.own (by decide) (by decide)), h.sp.len, fun i hi => ?_, fun b hb => .inl (h.sp.fp b hb)⟩, .inl h.ps, fun b hb => .inr (rowOf_some.1 hb), ?_, ?_, ?_, ?_, h.most⟩, h4.toward hQ, ?_⟩
    · have R := h.sp.at_ i hi
      exact ⟨R.lo, R.hi, R.n, rows_only R.own h4 (ap R.own (by decide) (by decide)), fun b hb => .inl (R.fp b hb), R.short⟩
    · rintro b (hb | rfl)
      · exact Nat.lt_of_lt_of_le (h.under b hb) h4.size
      · exact (h3.lt _ rfl).2
    · rintro b (hb | rfl)
      · exact h.above b hb
      · exact (h3.lt _ rfl).1
    · rw [List.nodup_append]
      refine ⟨h.nd, by simp, ?_⟩
      intro a ha b hb e
      obtain rfl : b = (k : Int) := by simpa using hb
      exact hm (e ▸ ha)
    · intro a ha
      rcases List.mem_append.1 ha with ha | ha
      · exact h.kr a ha
      · obtain rfl : a = (k : Int) := by simpa using ha
        omega
    · rintro b (hb | rfl)
      · exact .inl hb
      · rcases h5 with h5 | h5
        · exact .inl (h.pk _ h5)
        · exact .inr h5

theorem set_link {B : Nat} {w : World} {P : Nat → Prop} {s : Nat} {keys : List Int} {lk : Nat → Int} {rs : List Rg} (h : SetAt B w P s keys lk rs) (k : Int) :
    Calls Try.prog 14 #[.pointer (some ⟨s, 0, none⟩), .int .i64 k] w fun e w' => e = .returned (.tuple #[.int .u64 (if k ∈ keys then lk k.toNat else 0), .bool (decide (k ∈ keys))]) ∧ ∃ n, w.drewN n = w' := by
  have hf := h.few
  obtain ⟨cs, ka, sa, kc, sc, ss, h⟩ := h
  by_cases hm : k ∈ keys
  · have hk := h.kr k hm
    obtain ⟨j, rfl⟩ := Int.eq_ofNat_of_zero_le hk.1
    rw [if_pos hm, decide_eq_true hm]
    exact link_hit s j w h.blk h.cells (ints_of_own h.kown) (by omega) hm (by omega)
  · rw [if_neg hm, decide_eq_false hm]
    refine (link_miss s k w h.blk h.cells (ints_of_own h.kown) hm (by omega)).mono ?_
    rintro e w' ⟨rfl, rfl⟩
    exact ⟨rfl, 0, rfl⟩

theorem set_len {B : Nat} {w : World} {P : Nat → Prop} {s : Nat} {keys : List Int} {lk : Nat → Int} {rs : List Rg} (h : SetAt B w P s keys lk rs) :
    Calls Try.prog 16 #[.pointer (some ⟨s, 0, none⟩)] w fun e w' => e = .returned (.int .i64 ((keys.length : Int) + (rs.length : Int))) ∧ ∃ n, w.drewN n = w' := by
  have hf := h.few
  obtain ⟨cs, ka, sa, kc, sc, ss, h⟩ := h
  rw [← h.sp.len]
  exact len_any s w h.blk h.cells (by omega) (by have := h.most; have := h.sp.len; omega)

theorem own_none {B z n kc : Nat} {w : World} {e : TypeId} {xs : List Value} (h : w.ownsRow B e z (.slice none n kc) n xs) : n = 0 := by
  rcases h.2 with ⟨_, h0⟩ | ⟨g, cap, cur, hv, _⟩
  · exact h0
  · cases hv
theorem set_keys {B : Nat} {w : World} {P : Nat → Prop} {s : Nat} {keys : List Int} {lk : Nat → Int} {rs : List Rg} (h : SetAt B w P s keys lk rs) :
    Calls Try.prog 15 #[.pointer (some ⟨s, 0, none⟩)] w fun e w' => (∃ a, e = .returned (.slice a keys.length keys.length) ∧ Ints .i64 w' a keys ∧ ∀ x, a = some x → w.heap.size ≤ x.block) ∧ Below w.heap.size w w' := by
  have hf := h.few
  obtain ⟨cs, ka, sa, kc, sc, ss, h⟩ := h
  exact keys_any s w h.blk h.cells (ints_of_own h.kown) (fun e => by subst e; exact List.eq_nil_of_length_eq_zero (own_none h.kown)) (by omega)

theorem set_covers {B : Nat} {w : World} {P : Nat → Prop} {s : Nat} {keys : List Int} {lk : Nat → Int} {rs : List Rg} (h : SetAt B w P s keys lk rs) (k : Int) :
    Calls Try.prog 10 #[.pointer (some ⟨s, 0, none⟩), .int .i64 k] w fun e w' => e = .returned (.bool (decide (k ∈ keys) || anyRg rs k)) ∧ Only0 w w' := by
  have hf := h.few
  obtain ⟨cs, ka, sa, kc, sc, ss, h⟩ := h
  rw [← h.sp.any k]
  exact covers_any s k w h.blk h.cells (ints_of_own h.kown) h.sp.spans (by omega) (by have := h.most; have := h.sp.len; omega)

def spanBad (lo hi : Int) : Bool := decide (lo < 0) || decide (63 < lo) || decide (hi < 0) || decide (63 < hi) || decide (hi < lo)
def spanRes (rs : List Rg) (lo hi : Int) : Int := if spanBad lo hi then 1 else if 64 ≤ rs.length then 65 else 0
def spanRs (rs : List Rg) (lo hi : Int) (ls : List Int) : List Rg := if spanBad lo hi then rs else if 64 ≤ rs.length then rs else rs ++ [⟨lo, hi, ls⟩]
theorem set_span {B : Nat} {w : World} {P : Nat → Prop} {s : Nat} {keys : List Int} {lk : Nat → Int} {rs : List Rg} (h : SetAt B w P s keys lk rs) (lo hi : Int) (la : Option Addr) (lc : Nat) (ls : List Int) (hx : Ints .u64 w la ls) (hn : la = none → ls = []) (hls : ls.length ≤ 1000000) :
    Calls Try.prog 9 #[.pointer (some ⟨s, 0, none⟩), .int .i64 lo, .int .i64 hi, .slice la ls.length lc] w fun e w' => e = .returned (.int .i64 (spanRes rs lo hi)) ∧ ∃ P', SetAt B w' P' s keys lk (spanRs rs lo hi ls) ∧ Only P w w' ∧ Grew w.heap.size P P' := by
  have h' := h
  obtain ⟨cs, ka, sa, kc, sc, ss, h⟩ := h
  by_cases hb : spanBad lo hi = true
  · rw [show spanRes rs lo hi = 1 by simp [spanRes, hb], show spanRs rs lo hi ls = rs by simp [spanRs, hb]]
    refine (span_bad s lo hi _ w (by simpa [spanBad, or_assoc] using hb)).mono ?_
    rintro e w' ⟨rfl, rfl⟩
    exact ⟨rfl, P, h', Only.refl _ _, Grew.refl _ _⟩
  · rw [Bool.not_eq_true] at hb
    have hb' : ¬ lo < 0 ∧ ¬ 63 < lo ∧ ¬ hi < 0 ∧ ¬ 63 < hi ∧ ¬ hi < lo := by simpa [spanBad, and_assoc] using hb
    by_cases hm : 64 ≤ rs.length
    · rw [show spanRes rs lo hi = 65 by simp [spanRes, hb, hm], show spanRs rs lo hi ls = rs by simp [spanRs, hb, hm]]
      refine (span_many s lo hi _ w h.blk h.cells (by omega) (by omega) (by omega) (by have := h.sp.len; omega)).mono ?_
      rintro e w' ⟨rfl, rfl⟩
      exact ⟨rfl, P, h', Only.refl _ _, Grew.refl _ _⟩
    · rw [show spanRes rs lo hi = 0 by simp [spanRes, hb, hm], show spanRs rs lo hi ls = rs ++ [⟨lo, hi, ls⟩] by simp [spanRs, hb, hm]]
      exact span_go h (by omega) lo hi la lc ls hx hn hls (by omega) (by omega) (by omega)
theorem set_add_bad {B : Nat} {w : World} {P : Nat → Prop} {s : Nat} {keys : List Int} {lk : Nat → Int} {rs : List Rg} (h : SetAt B w P s keys lk rs) (k : Int) (hk : isKey k = false) (x : Int) :
    Calls Try.prog 8 #[.pointer (some ⟨s, 0, none⟩), .int .i64 k, .int .u64 x] w fun e w' => e = .returned (.int .i64 1) ∧ SetAt B w' P s keys lk rs ∧ Only0 w w' := by
  refine (add_bad s k x w hk).mono ?_
  rintro e w' ⟨rfl, o⟩
  exact ⟨rfl, h.only0 o, o⟩
end Go.Proofs.Ythjhhclgmkgigaa

/-
  ModelBounds: what its proof rests on, part 3.
-/
import Derived.Deep.QuietTactic
import Derived.BigQuiet
import Derived.Deep.Cut
import Derived.Test.YtcbhafddehipdaaZModelBounds2
namespace Go.Proofs.Ytcbhafddehipdaa
open Go.RowKit
set_option linter.unusedVariables false
set_option linter.unusedSimpArgs false
theorem fidx_some {α : Type} [Inhabited α] {p : α → Bool} : ∀ {l : List α} {k : Nat}, k < l.length → (∀ i, i < k → p (l.getD i default) = false) → p (l.getD k default) = true → l.findIdx? p = some k := by
  intro l
  induction l with
  | nil => intro k hk; simp at hk
  | cons a l ih =>
    intro k hk hn hp
    rw [List.findIdx?_cons]
    cases k with
    | zero => rw [show p a = true from hp]; rfl
    | succ k =>
      rw [show p a = false from hn 0 (by omega)]
      rw [ih (by simpa using hk) (fun i hi => hn (i + 1) (by omega)) hp]
      rfl
theorem fidx_none {α : Type} [Inhabited α] {p : α → Bool} : ∀ {l : List α}, (∀ i, i < l.length → p (l.getD i default) = false) → l.findIdx? p = none := by
  intro l
  induction l with
  | nil => intro _; rfl
  | cons a l ih =>
    intro hn
    rw [List.findIdx?_cons, show p a = false from hn 0 (by simp), ih (fun i hi => hn (i + 1) (by simp; omega))]
    rfl
theorem any_yes {α : Type} [Inhabited α] {p : α → Bool} {l : List α} {k : Nat} (hk : k < l.length) (hp : p (l.getD k default) = true) : l.any p = true := by
  rw [List.any_eq_true]
  refine ⟨l.getD k default, ?_, hp⟩
  rw [List.getD_eq_getElem?_getD, List.getElem?_eq_getElem hk]
  exact List.getElem_mem hk
theorem any_no {α : Type} [Inhabited α] {p : α → Bool} {l : List α} (hn : ∀ i, i < l.length → p (l.getD i default) = false) : l.any p = false := by
  rw [List.any_eq_false]
  intro x hx
  obtain ⟨i, hi, rfl⟩ := List.getElem_of_mem hx
  have := hn i hi
  rw [List.getD_eq_getElem?_getD, List.getElem?_eq_getElem hi] at this
  simpa using this
theorem noStep {α : Type} [Inhabited α] {p : α → Bool} {l : List α} {k : Nat} (hn : ∀ i, i < k → p (l.getD i default) = false) (hp : p (l.getD k default) = false) : ∀ i, i < k + 1 → p (l.getD i default) = false := by
  intro i hi
  by_cases e : i = k
  · rw [e]; exact hp
  · exact hn i (by omega)
set_option maxRecDepth 100000 in
set_option maxHeartbeats 4000000 in
theorem ref_has (a : Option Addr) (c : Nat) (l : List Int) (n : Int) (w : World) (hl : l.length ≤ 1000000) (h : l = [] ∨ ∃ g, a = some ⟨g, 0, none⟩ ∧ ∀ k, k < l.length → w.cell? ⟨g, k, none⟩ = some (.int .i64 (l.getD k default))) :
    Calls Try.prog 60 #[.slice a l.length c, .int .i64 n] w fun e w' => e = .returned (.bool (hasB l n)) ∧ w = w' := by
  have HF := Lib.hid (show l.any (fun x => decide (x = n)) = hasB l n from rfl)
  generalize hasB l n = res at HF ⊢
  have HH := Lib.hid h
  clear h
  go_enter Try.func60, Try.ntmps60
  go_wp2_with fail
  go_loop [5] (fun i => ∃ k : Nat, k ≤ l.length ∧ i = .int .i64 k ∧ Hid (∀ i, i < k → decide (l.getD i default = n) = false)) (fun i => l.length - (intOf i).toNat)
  case atStart => exact ⟨0, Nat.zero_le _, rfl, Lib.hid (fun i hi => by omega)⟩
  case round =>
    obtain ⟨k, hk, rfl, HN⟩ := hrel
    by_cases hlt : k < l.length
    · obtain ⟨g, rfl, hc⟩ : ∃ g, a = some ⟨g, 0, none⟩ ∧ ∀ k, k < l.length → w.cell? ⟨g, k, none⟩ = some (.int .i64 (l.getD k default)) := by
        rcases HH.out with h0 | h0
        · rw [h0] at hlt; simp at hlt
        · exact h0
      have q0 := hc k hlt
      have YES := Lib.hid (fun hp : decide (l.getD k default = n) = true => HF.out.symm.trans (any_yes (p := fun x => decide (x = n)) hlt hp))
      have NO := Lib.hid (fun hp : decide (l.getD k default = n) = false => noStep (p := fun x => decide (x = n)) HN.out hp)
      clear hc HN
      generalize l.getD k default = x at *
      by_cases h1 : x = n
      · subst h1
        have R := Lib.hid (YES.out (by simp))
        clear YES NO
        go_wp2_with fail
        go_ret
        exact ⟨ret_bool R.out.symm, rfl⟩
      · have h1b : (x == n) = false := by simpa using h1
        have R := Lib.hid (NO.out (by simp [h1]))
        clear YES NO h1
        go_wp2_with fail
        go_round
        case rel => exact ⟨k + 1, by omega, by go_num, R⟩
        case measure => simp [intOf]; omega
    · obtain rfl : k = l.length := by omega
      have R := Lib.hid (HF.out.symm.trans (any_no (p := fun x => decide (x = n)) HN.out))
      go_wp2_with fail
      go_ret
      exact ⟨ret_bool R.out.symm, rfl⟩
set_option maxRecDepth 100000 in
set_option maxHeartbeats 8000000 in
theorem ref_there {B m : Nat} {w : World} {P : Nat → Prop} {s : RSt} {A : RAd} (h : RIn B w P m s A) (key at_ : Int) :
    Calls Try.prog 86 #[.pointer (some ⟨m, 0, none⟩), .int .i64 key, .int .u64 at_] w fun e w' => e = .returned (.int .i64 (idxV (s.there key at_))) ∧ Only0 w w' := by
  have c2 : w.cell? ⟨m, 2, none⟩ = some (.slice A.va s.v.length A.vc) := h.head.2.2.1
  have hlen : s.v.length ≤ 256 := by have := h.ok.few; have := h.ok.slots; omega
  have HH := Lib.hid h
  have HF := Lib.hid (show s.v.findIdx? (rThereB key at_) = s.there key at_ from rfl)
  generalize s.there key at_ = res at HF ⊢
  rcases h.rowAt with ⟨e1, e2, e3⟩ | ⟨g, hg, -, -⟩
  · have HR := Lib.hid (show res = none by rw [← HF.out, List.eq_nil_of_length_eq_zero e2]; rfl)
    rw [e1, e2, e3] at c2
    clear h e1 e2 e3 hlen
    go_enter Try.func86, Try.ntmps86
    go_wp2_with fail
    refine wp_loop_rounds 1 ?_; rw [rounds_succ]
    go_wp2_with fail
    go_ret
    exact ⟨ret_val (by rw [HR.out]; rfl), Only0.refl _⟩
  have HC2 := Lib.hid c2
  clear h c2
  go_enter Try.func86, Try.ntmps86
  go_wp2_with fail
  go_loopw [7, 8] (fun s7 s8 wr => ∃ (k : Nat) (v8 : Value), k ≤ s.v.length ∧ s8 = v8 ∧ s7 = .int .i64 k ∧ Hid (Only0 w wr) ∧ Hid (∀ i, i < k → rThereB key at_ (s.v.getD i default) = false)) (fun s7 _ _ => s.v.length - (intOf s7).toNat)
  case atStart => exact ⟨0, _, Nat.zero_le _, rfl, rfl, Lib.hid (Only0.refl _), Lib.hid (fun i hi => by omega)⟩
  case round =>
    obtain ⟨k, v8, hk, rfl, rfl, HO, HN⟩ := hrel
    have c2 : wr.cell? ⟨m, 2, none⟩ = some (.slice (some ⟨g, 0, none⟩) s.v.length A.vc) := by rw [← hg]; exact (HH.out.only0 HO.out).head.2.2.1
    by_cases hlt : k < s.v.length
    · have YES := Lib.hid (fun hp : rThereB key at_ (s.v.getD k default) = true => HF.out.symm.trans (fidx_some (p := rThereB key at_) hlt HN.out hp))
      have NO := Lib.hid (fun hp : rThereB key at_ (s.v.getD k default) = false => noStep (p := rThereB key at_) HN.out hp)
      obtain ⟨vk, hvk⟩ : ∃ vk, s.v.getD k default = vk := ⟨_, rfl⟩
      rw [hvk] at YES NO
      obtain ⟨kk, vv, by_, en, bg, fn, dd⟩ := vk
      have q0 : wr.cell? ⟨g, k * 7, none⟩ = some (.int .i64 kk) := by have := (HH.out.only0 HO.out).rowAt; rcases this with ⟨e, _⟩ | ⟨g', e, _, hc⟩; (rw [hg] at e; cases e); rw [hg] at e; injection e with e; injection e with e; subst e; have := hc k 0 hlt (by omega); simp only [hvk, rvCell] at this; exact this
      have q1 : wr.cell? ⟨g, k * 7 + 1, none⟩ = some (.int .i64 vv) := by have := (HH.out.only0 HO.out).rowAt; rcases this with ⟨e, _⟩ | ⟨g', e, _, hc⟩; (rw [hg] at e; cases e); rw [hg] at e; injection e with e; injection e with e; subst e; have := hc k 1 hlt (by omega); simp only [hvk, rvCell] at this; exact this
      have q2 : wr.cell? ⟨g, k * 7 + 2, none⟩ = some (.int .i64 by_) := by have := (HH.out.only0 HO.out).rowAt; rcases this with ⟨e, _⟩ | ⟨g', e, _, hc⟩; (rw [hg] at e; cases e); rw [hg] at e; injection e with e; injection e with e; subst e; have := hc k 2 hlt (by omega); simp only [hvk, rvCell] at this; exact this
      have q3 : wr.cell? ⟨g, k * 7 + 3, none⟩ = some (.int .i64 en) := by have := (HH.out.only0 HO.out).rowAt; rcases this with ⟨e, _⟩ | ⟨g', e, _, hc⟩; (rw [hg] at e; cases e); rw [hg] at e; injection e with e; injection e with e; subst e; have := hc k 3 hlt (by omega); simp only [hvk, rvCell] at this; exact this
      have q4 : wr.cell? ⟨g, k * 7 + 4, none⟩ = some (.int .u64 bg) := by have := (HH.out.only0 HO.out).rowAt; rcases this with ⟨e, _⟩ | ⟨g', e, _, hc⟩; (rw [hg] at e; cases e); rw [hg] at e; injection e with e; injection e with e; subst e; have := hc k 4 hlt (by omega); simp only [hvk, rvCell] at this; exact this
      have q5 : wr.cell? ⟨g, k * 7 + 5, none⟩ = some (.int .u64 fn) := by have := (HH.out.only0 HO.out).rowAt; rcases this with ⟨e, _⟩ | ⟨g', e, _, hc⟩; (rw [hg] at e; cases e); rw [hg] at e; injection e with e; injection e with e; subst e; have := hc k 5 hlt (by omega); simp only [hvk, rvCell] at this; exact this
      have q6 : wr.cell? ⟨g, k * 7 + 6, none⟩ = some (.bool dd) := by have := (HH.out.only0 HO.out).rowAt; rcases this with ⟨e, _⟩ | ⟨g', e, _, hc⟩; (rw [hg] at e; cases e); rw [hg] at e; injection e with e; injection e with e; subst e; have := hc k 6 hlt (by omega); simp only [hvk, rvCell] at this; exact this
      clear HN hvk
      by_cases h1 : kk = key
      · subst h1
        by_cases h2 : dd = true
        · subst h2
          have R := Lib.hid (NO.out (by simp [rThereB, *] <;> omega))
          clear YES NO
          go_wp2_with fail
          go_roundw
          case rel => exact ⟨k + 1, _, by omega, rfl, by go_num, Lib.hid (HO.out.alloc _), R⟩
          case measure => simp [intOf] <;> omega
        · have h2b : dd = false := by simpa using h2
          subst h2b
          by_cases h3 : by_ = 0
          · subst h3
            by_cases h4 : bg ≤ at_
            · by_cases h5 : fn = 0
              · subst h5
                have R := Lib.hid (YES.out (by simp [rThereB, *] <;> omega))
                clear YES NO
                go_wp2_with fail
                go_ret
                exact ⟨ret_val (by rw [R.out]; rfl), HO.out.alloc _⟩
              · have h5b : (fn == 0) = false := by simpa using h5
                by_cases h6 : at_ < fn
                · have R := Lib.hid (YES.out (by simp [rThereB, *] <;> omega))
                  clear YES NO
                  go_wp2_with fail
                  go_ret
                  exact ⟨ret_val (by rw [R.out]; rfl), HO.out.alloc _⟩
                · have R := Lib.hid (NO.out (by simp [rThereB, *] <;> omega))
                  clear YES NO
                  go_wp2_with fail
                  go_roundw
                  case rel => exact ⟨k + 1, _, by omega, rfl, by go_num, Lib.hid (HO.out.alloc _), R⟩
                  case measure => simp [intOf] <;> omega
            · have R := Lib.hid (NO.out (by simp [rThereB, *] <;> omega))
              clear YES NO
              go_wp2_with fail
              go_roundw
              case rel => exact ⟨k + 1, _, by omega, rfl, by go_num, Lib.hid (HO.out.alloc _), R⟩
              case measure => simp [intOf] <;> omega
          · have h3b : (by_ == 0) = false := by simpa using h3
            have R := Lib.hid (NO.out (by simp [rThereB, *] <;> omega))
            clear YES NO
            go_wp2_with fail
            go_roundw
            case rel => exact ⟨k + 1, _, by omega, rfl, by go_num, Lib.hid (HO.out.alloc _), R⟩
            case measure => simp [intOf] <;> omega
      · have h1b : (kk == key) = false := by simpa using h1
        have R := Lib.hid (NO.out (by simp [rThereB, *] <;> omega))
        clear YES NO
        go_wp2_with fail
        go_roundw
        case rel => exact ⟨k + 1, _, by omega, rfl, by go_num, Lib.hid (HO.out.alloc _), R⟩
        case measure => simp [intOf] <;> omega
    · obtain rfl : k = s.v.length := by omega
      have R := Lib.hid (HF.out.symm.trans (fidx_none (p := rThereB key at_) HN.out))
      clear HN
      go_wp2_with fail
      go_ret
      exact ⟨ret_val (by rw [R.out]; rfl), HO.out⟩
set_option maxRecDepth 100000 in
set_option maxHeartbeats 8000000 in
theorem ref_later {B m : Nat} {w : World} {P : Nat → Prop} {s : RSt} {A : RAd} (h : RIn B w P m s A) (key at_ : Int) :
    Calls Try.prog 87 #[.pointer (some ⟨m, 0, none⟩), .int .i64 key, .int .u64 at_] w fun e w' => e = .returned (.bool (s.later key at_)) ∧ Only0 w w' := by
  have c2 : w.cell? ⟨m, 2, none⟩ = some (.slice A.va s.v.length A.vc) := h.head.2.2.1
  have hlen : s.v.length ≤ 256 := by have := h.ok.few; have := h.ok.slots; omega
  have HH := Lib.hid h
  have HF := Lib.hid (show s.v.any (rLaterB key at_) = s.later key at_ from rfl)
  generalize s.later key at_ = res at HF ⊢
  rcases h.rowAt with ⟨e1, e2, e3⟩ | ⟨g, hg, -, -⟩
  · have HR := Lib.hid (show res = false by rw [← HF.out, List.eq_nil_of_length_eq_zero e2]; rfl)
    rw [e1, e2, e3] at c2
    clear h e1 e2 e3 hlen
    go_enter Try.func87, Try.ntmps87
    go_wp2_with fail
    refine wp_loop_rounds 1 ?_; rw [rounds_succ]
    go_wp2_with fail
    go_ret
    exact ⟨ret_bool HR.out.symm, Only0.refl _⟩
  have HC2 := Lib.hid c2
  clear h c2
  go_enter Try.func87, Try.ntmps87
  go_wp2_with fail
  go_loopw [7, 8] (fun s7 s8 wr => ∃ (k : Nat) (v8 : Value), k ≤ s.v.length ∧ s8 = v8 ∧ s7 = .int .i64 k ∧ Hid (Only0 w wr) ∧ Hid (∀ i, i < k → rLaterB key at_ (s.v.getD i default) = false)) (fun s7 _ _ => s.v.length - (intOf s7).toNat)
  case atStart => exact ⟨0, _, Nat.zero_le _, rfl, rfl, Lib.hid (Only0.refl _), Lib.hid (fun i hi => by omega)⟩
  case round =>
    obtain ⟨k, v8, hk, rfl, rfl, HO, HN⟩ := hrel
    have c2 : wr.cell? ⟨m, 2, none⟩ = some (.slice (some ⟨g, 0, none⟩) s.v.length A.vc) := by rw [← hg]; exact (HH.out.only0 HO.out).head.2.2.1
    by_cases hlt : k < s.v.length
    · have YES := Lib.hid (fun hp : rLaterB key at_ (s.v.getD k default) = true => HF.out.symm.trans (any_yes (p := rLaterB key at_) hlt hp))
      have NO := Lib.hid (fun hp : rLaterB key at_ (s.v.getD k default) = false => noStep (p := rLaterB key at_) HN.out hp)
      obtain ⟨vk, hvk⟩ : ∃ vk, s.v.getD k default = vk := ⟨_, rfl⟩
      rw [hvk] at YES NO
      obtain ⟨kk, vv, by_, en, bg, fn, dd⟩ := vk
      have q0 : wr.cell? ⟨g, k * 7, none⟩ = some (.int .i64 kk) := by have := (HH.out.only0 HO.out).rowAt; rcases this with ⟨e, _⟩ | ⟨g', e, _, hc⟩; (rw [hg] at e; cases e); rw [hg] at e; injection e with e; injection e with e; subst e; have := hc k 0 hlt (by omega); simp only [hvk, rvCell] at this; exact this
      have q1 : wr.cell? ⟨g, k * 7 + 1, none⟩ = some (.int .i64 vv) := by have := (HH.out.only0 HO.out).rowAt; rcases this with ⟨e, _⟩ | ⟨g', e, _, hc⟩; (rw [hg] at e; cases e); rw [hg] at e; injection e with e; injection e with e; subst e; have := hc k 1 hlt (by omega); simp only [hvk, rvCell] at this; exact this
      have q2 : wr.cell? ⟨g, k * 7 + 2, none⟩ = some (.int .i64 by_) := by have := (HH.out.only0 HO.out).rowAt; rcases this with ⟨e, _⟩ | ⟨g', e, _, hc⟩; (rw [hg] at e; cases e); rw [hg] at e; injection e with e; injection e with e; subst e; have := hc k 2 hlt (by omega); simp only [hvk, rvCell] at this; exact this
      have q3 : wr.cell? ⟨g, k * 7 + 3, none⟩ = some (.int .i64 en) := by have := (HH.out.only0 HO.out).rowAt; rcases this with ⟨e, _⟩ | ⟨g', e, _, hc⟩; (rw [hg] at e; cases e); rw [hg] at e; injection e with e; injection e with e; subst e; have := hc k 3 hlt (by omega); simp only [hvk, rvCell] at this; exact this
      have q4 : wr.cell? ⟨g, k * 7 + 4, none⟩ = some (.int .u64 bg) := by have := (HH.out.only0 HO.out).rowAt; rcases this with ⟨e, _⟩ | ⟨g', e, _, hc⟩; (rw [hg] at e; cases e); rw [hg] at e; injection e with e; injection e with e; subst e; have := hc k 4 hlt (by omega); simp only [hvk, rvCell] at this; exact this
      have q5 : wr.cell? ⟨g, k * 7 + 5, none⟩ = some (.int .u64 fn) := by have := (HH.out.only0 HO.out).rowAt; rcases this with ⟨e, _⟩ | ⟨g', e, _, hc⟩; (rw [hg] at e; cases e); rw [hg] at e; injection e with e; injection e with e; subst e; have := hc k 5 hlt (by omega); simp only [hvk, rvCell] at this; exact this
      have q6 : wr.cell? ⟨g, k * 7 + 6, none⟩ = some (.bool dd) := by have := (HH.out.only0 HO.out).rowAt; rcases this with ⟨e, _⟩ | ⟨g', e, _, hc⟩; (rw [hg] at e; cases e); rw [hg] at e; injection e with e; injection e with e; subst e; have := hc k 6 hlt (by omega); simp only [hvk, rvCell] at this; exact this
      clear HN hvk
      by_cases h1 : kk = key
      · subst h1
        by_cases h2 : dd = true
        · subst h2
          have R := Lib.hid (NO.out (by simp [rLaterB, *] <;> omega))
          clear YES NO
          go_wp2_with fail
          go_roundw
          case rel => exact ⟨k + 1, _, by omega, rfl, by go_num, Lib.hid (HO.out.alloc _), R⟩
          case measure => simp [intOf] <;> omega
        · have h2b : dd = false := by simpa using h2
          subst h2b
          by_cases h3 : by_ = 0
          · subst h3
            by_cases h4 : at_ < bg
            · have R := Lib.hid (YES.out (by simp [rLaterB, *] <;> omega))
              clear YES NO
              go_wp2_with fail
              go_ret
              exact ⟨ret_bool R.out.symm, HO.out.alloc _⟩
            · by_cases h6 : at_ < fn
              · have R := Lib.hid (YES.out (by simp [rLaterB, *] <;> omega))
                clear YES NO
                go_wp2_with fail
                go_ret
                exact ⟨ret_bool R.out.symm, HO.out.alloc _⟩
              · have R := Lib.hid (NO.out (by simp [rLaterB, *] <;> omega))
                clear YES NO
                go_wp2_with fail
                go_roundw
                case rel => exact ⟨k + 1, _, by omega, rfl, by go_num, Lib.hid (HO.out.alloc _), R⟩
                case measure => simp [intOf] <;> omega
          · have h3b : (by_ == 0) = false := by simpa using h3
            by_cases h6 : at_ < fn
            · have R := Lib.hid (YES.out (by simp [rLaterB, *] <;> omega))
              clear YES NO
              go_wp2_with fail
              go_ret
              exact ⟨ret_bool R.out.symm, HO.out.alloc _⟩
            · have R := Lib.hid (NO.out (by simp [rLaterB, *] <;> omega))
              clear YES NO
              go_wp2_with fail
              go_roundw
              case rel => exact ⟨k + 1, _, by omega, rfl, by go_num, Lib.hid (HO.out.alloc _), R⟩
              case measure => simp [intOf] <;> omega
      · have h1b : (kk == key) = false := by simpa using h1
        have R := Lib.hid (NO.out (by simp [rLaterB, *] <;> omega))
        clear YES NO
        go_wp2_with fail
        go_roundw
        case rel => exact ⟨k + 1, _, by omega, rfl, by go_num, Lib.hid (HO.out.alloc _), R⟩
        case measure => simp [intOf] <;> omega
    · obtain rfl : k = s.v.length := by omega
      have R := Lib.hid (HF.out.symm.trans (any_no (p := rLaterB key at_) HN.out))
      clear HN
      go_wp2_with fail
      go_ret
      exact ⟨ret_bool R.out.symm, HO.out⟩
set_option maxRecDepth 100000 in
set_option maxHeartbeats 8000000 in
theorem ref_own {B m : Nat} {w : World} {P : Nat → Prop} {s : RSt} {A : RAd} (h : RIn B w P m s A) (id key : Int) :
    Calls Try.prog 78 #[.pointer (some ⟨m, 0, none⟩), .int .i64 id, .int .i64 key] w fun e w' => e = .returned (.int .i64 (idxV (s.own id key))) ∧ Only0 w w' := by
  have c2 : w.cell? ⟨m, 2, none⟩ = some (.slice A.va s.v.length A.vc) := h.head.2.2.1
  have hlen : s.v.length ≤ 256 := by have := h.ok.few; have := h.ok.slots; omega
  have HH := Lib.hid h
  have HF := Lib.hid (show s.v.findIdx? (rOwn2B id key) = s.own id key from rfl)
  generalize s.own id key = res at HF ⊢
  rcases h.rowAt with ⟨e1, e2, e3⟩ | ⟨g, hg, -, -⟩
  · have HR := Lib.hid (show res = none by rw [← HF.out, List.eq_nil_of_length_eq_zero e2]; rfl)
    rw [e1, e2, e3] at c2
    clear h e1 e2 e3 hlen
    go_enter Try.func78, Try.ntmps78
    go_wp2_with fail
    refine wp_loop_rounds 1 ?_; rw [rounds_succ]
    go_wp2_with fail
    go_ret
    exact ⟨ret_val (by rw [HR.out]; rfl), Only0.refl _⟩
  have HC2 := Lib.hid c2
  clear h c2
  go_enter Try.func78, Try.ntmps78
  go_wp2_with fail
  go_loopw [7] (fun s7 wr => ∃ (k : Nat), k ≤ s.v.length ∧ s7 = .int .i64 k ∧ Hid (Only0 w wr) ∧ Hid (∀ i, i < k → rOwn2B id key (s.v.getD i default) = false)) (fun s7 _ => s.v.length - (intOf s7).toNat)
  case atStart => exact ⟨0, Nat.zero_le _, rfl, Lib.hid (Only0.refl _), Lib.hid (fun i hi => by omega)⟩
  case round =>
    obtain ⟨k, hk, rfl, HO, HN⟩ := hrel
    have c2 : wr.cell? ⟨m, 2, none⟩ = some (.slice (some ⟨g, 0, none⟩) s.v.length A.vc) := by rw [← hg]; exact (HH.out.only0 HO.out).head.2.2.1
    by_cases hlt : k < s.v.length
    · have YES := Lib.hid (fun hp : rOwn2B id key (s.v.getD k default) = true => HF.out.symm.trans (fidx_some (p := rOwn2B id key) hlt HN.out hp))
      have NO := Lib.hid (fun hp : rOwn2B id key (s.v.getD k default) = false => noStep (p := rOwn2B id key) HN.out hp)
      obtain ⟨vk, hvk⟩ : ∃ vk, s.v.getD k default = vk := ⟨_, rfl⟩
      rw [hvk] at YES NO
      obtain ⟨kk, vv, by_, en, bg, fn, dd⟩ := vk
      have q0 : wr.cell? ⟨g, k * 7, none⟩ = some (.int .i64 kk) := by have := (HH.out.only0 HO.out).rowAt; rcases this with ⟨e, _⟩ | ⟨g', e, _, hc⟩; (rw [hg] at e; cases e); rw [hg] at e; injection e with e; injection e with e; subst e; have := hc k 0 hlt (by omega); simp only [hvk, rvCell] at this; exact this
      have q1 : wr.cell? ⟨g, k * 7 + 1, none⟩ = some (.int .i64 vv) := by have := (HH.out.only0 HO.out).rowAt; rcases this with ⟨e, _⟩ | ⟨g', e, _, hc⟩; (rw [hg] at e; cases e); rw [hg] at e; injection e with e; injection e with e; subst e; have := hc k 1 hlt (by omega); simp only [hvk, rvCell] at this; exact this
      have q2 : wr.cell? ⟨g, k * 7 + 2, none⟩ = some (.int .i64 by_) := by have := (HH.out.only0 HO.out).rowAt; rcases this with ⟨e, _⟩ | ⟨g', e, _, hc⟩; (rw [hg] at e; cases e); rw [hg] at e; injection e with e; injection e with e; subst e; have := hc k 2 hlt (by omega); simp only [hvk, rvCell] at this; exact this
      have q3 : wr.cell? ⟨g, k * 7 + 3, none⟩ = some (.int .i64 en) := by have := (HH.out.only0 HO.out).rowAt; rcases this with ⟨e, _⟩ | ⟨g', e, _, hc⟩; (rw [hg] at e; cases e); rw [hg] at e; injection e with e; injection e with e; subst e; have := hc k 3 hlt (by omega); simp only [hvk, rvCell] at this; exact this
      have q4 : wr.cell? ⟨g, k * 7 + 4, none⟩ = some (.int .u64 bg) := by have := (HH.out.only0 HO.out).rowAt; rcases this with ⟨e, _⟩ | ⟨g', e, _, hc⟩; (rw [hg] at e; cases e); rw [hg] at e; injection e with e; injection e with e; subst e; have := hc k 4 hlt (by omega); simp only [hvk, rvCell] at this; exact this
      have q5 : wr.cell? ⟨g, k * 7 + 5, none⟩ = some (.int .u64 fn) := by have := (HH.out.only0 HO.out).rowAt; rcases this with ⟨e, _⟩ | ⟨g', e, _, hc⟩; (rw [hg] at e; cases e); rw [hg] at e; injection e with e; injection e with e; subst e; have := hc k 5 hlt (by omega); simp only [hvk, rvCell] at this; exact this
      have q6 : wr.cell? ⟨g, k * 7 + 6, none⟩ = some (.bool dd) := by have := (HH.out.only0 HO.out).rowAt; rcases this with ⟨e, _⟩ | ⟨g', e, _, hc⟩; (rw [hg] at e; cases e); rw [hg] at e; injection e with e; injection e with e; subst e; have := hc k 6 hlt (by omega); simp only [hvk, rvCell] at this; exact this
      clear HN hvk
      by_cases h1 : kk = key
      · subst h1
        by_cases h3 : by_ = id
        · subst h3
          by_cases h2 : dd = true
          · subst h2
            have R := Lib.hid (NO.out (by simp [rOwn2B, *] <;> omega))
            clear YES NO
            go_wp2_with fail
            go_roundw
            case rel => exact ⟨k + 1, by omega, by go_num, Lib.hid (HO.out), R⟩
            case measure => simp [intOf] <;> omega
          · have h2b : dd = false := by simpa using h2
            subst h2b
            have R := Lib.hid (YES.out (by simp [rOwn2B, *] <;> omega))
            clear YES NO
            go_wp2_with fail
            go_ret
            exact ⟨ret_val (by rw [R.out]; rfl), HO.out⟩
        · have h3b : (by_ == id) = false := by simpa using h3
          have R := Lib.hid (NO.out (by simp [rOwn2B, *] <;> omega))
          clear YES NO
          go_wp2_with fail
          go_roundw
          case rel => exact ⟨k + 1, by omega, by go_num, Lib.hid (HO.out), R⟩
          case measure => simp [intOf] <;> omega
      · have h1b : (kk == key) = false := by simpa using h1
        have R := Lib.hid (NO.out (by simp [rOwn2B, *] <;> omega))
        clear YES NO
        go_wp2_with fail
        go_roundw
        case rel => exact ⟨k + 1, by omega, by go_num, Lib.hid (HO.out), R⟩
        case measure => simp [intOf] <;> omega
    · obtain rfl : k = s.v.length := by omega
      have R := Lib.hid (HF.out.symm.trans (fidx_none (p := rOwn2B id key) HN.out))
      clear HN
      go_wp2_with fail
      go_ret
      exact ⟨ret_val (by rw [R.out]; rfl), HO.out⟩
set_option maxRecDepth 100000 in
set_option maxHeartbeats 16000000 in
theorem ref_sees {B m : Nat} {w : World} {P : Nat → Prop} {s : RSt} {A : RAd} (h : RIn B w P m s A) (id level ops beg : Int) (wa : Option Addr) (wl wc : Nat) (ra : Option Addr) (rl rc : Nat) (key : Int) :
    Calls Try.prog 59 #[.pointer (some ⟨m, 0, none⟩), .agg #[.int .i64 id, .int .i64 level, .int .i64 ops, .int .u64 beg, .slice wa wl wc, .slice ra rl rc], .int .i64 key] w fun e w' => e = .returned (.int .i64 (idxV (s.sees id beg key))) ∧ Only0 w w' := by
  obtain ⟨W, hW⟩ : ∃ W, W = w.alloc (.cells #[.int .i64 id, .int .i64 level, .int .i64 ops, .int .u64 beg, .slice wa wl wc, .slice ra rl rc] 62) := ⟨_, rfl⟩
  have oW : Only0 w W := by rw [hW]; exact (Only0.refl w).alloc _
  have M := h.only0 oW
  obtain ⟨n0, hn0⟩ : ∃ n0, n0 = w.heap.size := ⟨_, rfl⟩
  have HB : Hid (Blk W n0 62 #[.int .i64 id, .int .i64 level, .int .i64 ops, .int .u64 beg, .slice wa wl wc, .slice ra rl rc]) := by rw [hW, hn0]; exact Blk.new _ _ _
  have b0 : W.cell? ⟨n0, 0, none⟩ = some (.int .i64 id) := HB.out.cell 0
  have b3 : W.cell? ⟨n0, 3, none⟩ = some (.int .u64 beg) := HB.out.cell 3
  have c2 : W.cell? ⟨m, 2, none⟩ = some (.slice A.va s.v.length A.vc) := M.head.2.2.1
  have hlen : s.v.length ≤ 256 := by have := h.ok.few; have := h.ok.slots; omega
  have HH := Lib.hid M
  have HW := Lib.hid oW
  have HN0 := Lib.hid hn0
  obtain ⟨res, hres⟩ : ∃ res, res = s.sees id beg key := ⟨_, rfl⟩
  rw [← hres]
  have HF : Hid (s.sees id beg key = res) := hres.symm
  rcases M.rowAt with ⟨e1, e2, e3⟩ | ⟨g, hg, -, -⟩
  · have HR := Lib.hid (show res = none by rw [hres]; unfold RSt.sees; rw [List.eq_nil_of_length_eq_zero e2]; rfl)
    rw [e1, e2, e3] at c2
    clear h M e1 e2 e3 hlen hn0 oW hres
    go_enter Try.func59, Try.ntmps59
    go_upto_region 1 with (fail)
    rw [← hW, ← HN0.out]
    clear hW
    go_wp2_with fail
    refine wp_loop_rounds 1 ?_; rw [rounds_succ]
    go_wp2_with fail
    refine wp_loop_rounds 1 ?_; rw [rounds_succ]
    go_wp2_with fail
    go_ret
    exact ⟨ret_val (by rw [HR.out]; rfl), HW.out⟩
  have HOO := Lib.hid (Only0.refl W)
  clear h M c2 hn0 oW hres b0 b3
  go_enter Try.func59, Try.ntmps59
  go_upto_region 1 with (fail)
  rw [← hW, ← HN0.out]
  clear hW
  go_wp2_with fail
  go_loopw [7, 8] (fun s7 s8 wr => ∃ (k : Nat) (v8 : Value), k ≤ s.v.length ∧ s8 = v8 ∧ s7 = .int .i64 k ∧ Hid (Only0 W wr) ∧ Hid (∀ i, i < k → rOwnB id key (s.v.getD i default) = false)) (fun s7 _ _ => s.v.length - (intOf s7).toNat)
  case atStart => exact ⟨0, _, Nat.zero_le _, rfl, rfl, HOO, Lib.hid (fun i hi => by omega)⟩
  case round =>
    obtain ⟨k, v8, hk, rfl, rfl, HO, HN⟩ := hrel
    clear HOO
    have c2 : wr.cell? ⟨m, 2, none⟩ = some (.slice (some ⟨g, 0, none⟩) s.v.length A.vc) := by rw [← hg]; exact (HH.out.only0 HO.out).head.2.2.1
    have b0 : wr.cell? ⟨n0, 0, none⟩ = some (.int .i64 id) := (HO.out.blk HB.out (fun h => h)).cell 0
    have b3 : wr.cell? ⟨n0, 3, none⟩ = some (.int .u64 beg) := (HO.out.blk HB.out (fun h => h)).cell 3
    by_cases hlt : k < s.v.length
    · have YES := Lib.hid (fun hp : rOwnB id key (s.v.getD k default) = true => (show res = some k from HF.out.symm.trans (by unfold RSt.sees; rw [fidx_some (p := rOwnB id key) hlt HN.out hp])))
      have NO := Lib.hid (fun hp : rOwnB id key (s.v.getD k default) = false => noStep (p := rOwnB id key) HN.out hp)
      obtain ⟨vk, hvk⟩ : ∃ vk, s.v.getD k default = vk := ⟨_, rfl⟩
      rw [hvk] at YES NO
      obtain ⟨kk, vv, by_, en, bg, fn, dd⟩ := vk
      have q0 : wr.cell? ⟨g, k * 7, none⟩ = some (.int .i64 kk) := by have := (HH.out.only0 HO.out).rowAt; rcases this with ⟨e, _⟩ | ⟨g', e, _, hc⟩; (rw [hg] at e; cases e); rw [hg] at e; injection e with e; injection e with e; subst e; have := hc k 0 hlt (by omega); simp only [hvk, rvCell] at this; exact this
      have q1 : wr.cell? ⟨g, k * 7 + 1, none⟩ = some (.int .i64 vv) := by have := (HH.out.only0 HO.out).rowAt; rcases this with ⟨e, _⟩ | ⟨g', e, _, hc⟩; (rw [hg] at e; cases e); rw [hg] at e; injection e with e; injection e with e; subst e; have := hc k 1 hlt (by omega); simp only [hvk, rvCell] at this; exact this
      have q2 : wr.cell? ⟨g, k * 7 + 2, none⟩ = some (.int .i64 by_) := by have := (HH.out.only0 HO.out).rowAt; rcases this with ⟨e, _⟩ | ⟨g', e, _, hc⟩; (rw [hg] at e; cases e); rw [hg] at e; injection e with e; injection e with e; subst e; have := hc k 2 hlt (by omega); simp only [hvk, rvCell] at this; exact this
      have q3 : wr.cell? ⟨g, k * 7 + 3, none⟩ = some (.int .i64 en) := by have := (HH.out.only0 HO.out).rowAt; rcases this with ⟨e, _⟩ | ⟨g', e, _, hc⟩; (rw [hg] at e; cases e); rw [hg] at e; injection e with e; injection e with e; subst e; have := hc k 3 hlt (by omega); simp only [hvk, rvCell] at this; exact this
      have q4 : wr.cell? ⟨g, k * 7 + 4, none⟩ = some (.int .u64 bg) := by have := (HH.out.only0 HO.out).rowAt; rcases this with ⟨e, _⟩ | ⟨g', e, _, hc⟩; (rw [hg] at e; cases e); rw [hg] at e; injection e with e; injection e with e; subst e; have := hc k 4 hlt (by omega); simp only [hvk, rvCell] at this; exact this
      have q5 : wr.cell? ⟨g, k * 7 + 5, none⟩ = some (.int .u64 fn) := by have := (HH.out.only0 HO.out).rowAt; rcases this with ⟨e, _⟩ | ⟨g', e, _, hc⟩; (rw [hg] at e; cases e); rw [hg] at e; injection e with e; injection e with e; subst e; have := hc k 5 hlt (by omega); simp only [hvk, rvCell] at this; exact this
      have q6 : wr.cell? ⟨g, k * 7 + 6, none⟩ = some (.bool dd) := by have := (HH.out.only0 HO.out).rowAt; rcases this with ⟨e, _⟩ | ⟨g', e, _, hc⟩; (rw [hg] at e; cases e); rw [hg] at e; injection e with e; injection e with e; subst e; have := hc k 6 hlt (by omega); simp only [hvk, rvCell] at this; exact this
      have d0 : (wr.alloc (.cells #[.int .i64 kk, .int .i64 vv, .int .i64 by_, .int .i64 en, .int .u64 bg, .int .u64 fn, .bool dd] 112)).cell? ⟨n0, 0, none⟩ = some (.int .i64 id) := ((HO.out.blk HB.out (fun h => h)).alloc _).cell 0
      have d3 : (wr.alloc (.cells #[.int .i64 kk, .int .i64 vv, .int .i64 by_, .int .i64 en, .int .u64 bg, .int .u64 fn, .bool dd] 112)).cell? ⟨n0, 3, none⟩ = some (.int .u64 beg) := ((HO.out.blk HB.out (fun h => h)).alloc _).cell 3
      clear HN hvk
      by_cases h1 : kk = key
      · subst h1
        by_cases h2 : dd = true
        · subst h2
          have R := Lib.hid (NO.out (by simp [rOwnB, *] <;> omega))
          clear YES NO
          go_wp2_with fail
          go_roundw
          case rel => exact ⟨k + 1, _, by omega, rfl, by go_num, Lib.hid (HO.out.alloc _), R⟩
          case measure => simp [intOf] <;> omega
        · have h2b : dd = false := by simpa using h2
          subst h2b
          by_cases h7 : en = id
          · subst h7
            have R := Lib.hid (NO.out (by simp [rOwnB, *] <;> omega))
            clear YES NO
            go_wp2_with fail
            go_roundw
            case rel => exact ⟨k + 1, _, by omega, rfl, by go_num, Lib.hid (HO.out.alloc _), R⟩
            case measure => simp [intOf] <;> omega
          · have h7b : (en == id) = false := by simpa using h7
            by_cases h3 : by_ = id
            · subst h3
              have R := Lib.hid (YES.out (by simp [rOwnB, *] <;> omega))
              clear YES NO
              go_wp2_with fail
              go_ret
              exact ⟨ret_val (by rw [R.out]; rfl), HW.out.trans (HO.out.alloc _)⟩
            · have h3b : (by_ == id) = false := by simpa using h3
              have R := Lib.hid (NO.out (by simp [rOwnB, *] <;> omega))
              clear YES NO
              go_wp2_with fail
              go_roundw
              case rel => exact ⟨k + 1, _, by omega, rfl, by go_num, Lib.hid (HO.out.alloc _), R⟩
              case measure => simp [intOf] <;> omega
      · have h1b : (kk == key) = false := by simpa using h1
        have R := Lib.hid (NO.out (by simp [rOwnB, *] <;> omega))
        clear YES NO
        go_wp2_with fail
        go_roundw
        case rel => exact ⟨k + 1, _, by omega, rfl, by go_num, Lib.hid (HO.out.alloc _), R⟩
        case measure => simp [intOf] <;> omega
    · obtain rfl : k = s.v.length := by omega
      have N1 : Hid (s.v.findIdx? (rOwnB id key) = none) := fidx_none (p := rOwnB id key) HN.out
      have HOO := HO
      clear HN HO b0 b3
      go_wp2_with fail
      go_loopw [9, 10] (fun s9 s10 wr => ∃ (k : Nat) (v10 : Value), k ≤ s.v.length ∧ s10 = v10 ∧ s9 = .int .i64 k ∧ Hid (Only0 W wr) ∧ Hid (∀ i, i < k → rVisB id beg key (s.v.getD i default) = false)) (fun s9 _ _ => s.v.length - (intOf s9).toNat)
      case atStart => exact ⟨0, _, Nat.zero_le _, rfl, rfl, HOO, Lib.hid (fun i hi => by omega)⟩
      case round =>
        obtain ⟨k, v10, hk, rfl, rfl, HO, HN⟩ := hrel
        clear HOO
        have c2 : wr.cell? ⟨m, 2, none⟩ = some (.slice (some ⟨g, 0, none⟩) s.v.length A.vc) := by rw [← hg]; exact (HH.out.only0 HO.out).head.2.2.1
        have b0 : wr.cell? ⟨n0, 0, none⟩ = some (.int .i64 id) := (HO.out.blk HB.out (fun h => h)).cell 0
        have b3 : wr.cell? ⟨n0, 3, none⟩ = some (.int .u64 beg) := (HO.out.blk HB.out (fun h => h)).cell 3
        by_cases hlt : k < s.v.length
        · have YES := Lib.hid (fun hp : rVisB id beg key (s.v.getD k default) = true => (show res = some k from HF.out.symm.trans (by unfold RSt.sees; rw [N1.out]; exact fidx_some (p := rVisB id beg key) hlt HN.out hp)))
          have NO := Lib.hid (fun hp : rVisB id beg key (s.v.getD k default) = false => noStep (p := rVisB id beg key) HN.out hp)
          obtain ⟨vk, hvk⟩ : ∃ vk, s.v.getD k default = vk := ⟨_, rfl⟩
          rw [hvk] at YES NO
          obtain ⟨kk, vv, by_, en, bg, fn, dd⟩ := vk
          have q0 : wr.cell? ⟨g, k * 7, none⟩ = some (.int .i64 kk) := by have := (HH.out.only0 HO.out).rowAt; rcases this with ⟨e, _⟩ | ⟨g', e, _, hc⟩; (rw [hg] at e; cases e); rw [hg] at e; injection e with e; injection e with e; subst e; have := hc k 0 hlt (by omega); simp only [hvk, rvCell] at this; exact this
          have q1 : wr.cell? ⟨g, k * 7 + 1, none⟩ = some (.int .i64 vv) := by have := (HH.out.only0 HO.out).rowAt; rcases this with ⟨e, _⟩ | ⟨g', e, _, hc⟩; (rw [hg] at e; cases e); rw [hg] at e; injection e with e; injection e with e; subst e; have := hc k 1 hlt (by omega); simp only [hvk, rvCell] at this; exact this
          have q2 : wr.cell? ⟨g, k * 7 + 2, none⟩ = some (.int .i64 by_) := by have := (HH.out.only0 HO.out).rowAt; rcases this with ⟨e, _⟩ | ⟨g', e, _, hc⟩; (rw [hg] at e; cases e); rw [hg] at e; injection e with e; injection e with e; subst e; have := hc k 2 hlt (by omega); simp only [hvk, rvCell] at this; exact this
          have q3 : wr.cell? ⟨g, k * 7 + 3, none⟩ = some (.int .i64 en) := by have := (HH.out.only0 HO.out).rowAt; rcases this with ⟨e, _⟩ | ⟨g', e, _, hc⟩; (rw [hg] at e; cases e); rw [hg] at e; injection e with e; injection e with e; subst e; have := hc k 3 hlt (by omega); simp only [hvk, rvCell] at this; exact this
          have q4 : wr.cell? ⟨g, k * 7 + 4, none⟩ = some (.int .u64 bg) := by have := (HH.out.only0 HO.out).rowAt; rcases this with ⟨e, _⟩ | ⟨g', e, _, hc⟩; (rw [hg] at e; cases e); rw [hg] at e; injection e with e; injection e with e; subst e; have := hc k 4 hlt (by omega); simp only [hvk, rvCell] at this; exact this
          have q5 : wr.cell? ⟨g, k * 7 + 5, none⟩ = some (.int .u64 fn) := by have := (HH.out.only0 HO.out).rowAt; rcases this with ⟨e, _⟩ | ⟨g', e, _, hc⟩; (rw [hg] at e; cases e); rw [hg] at e; injection e with e; injection e with e; subst e; have := hc k 5 hlt (by omega); simp only [hvk, rvCell] at this; exact this
          have q6 : wr.cell? ⟨g, k * 7 + 6, none⟩ = some (.bool dd) := by have := (HH.out.only0 HO.out).rowAt; rcases this with ⟨e, _⟩ | ⟨g', e, _, hc⟩; (rw [hg] at e; cases e); rw [hg] at e; injection e with e; injection e with e; subst e; have := hc k 6 hlt (by omega); simp only [hvk, rvCell] at this; exact this
          have d0 : (wr.alloc (.cells #[.int .i64 kk, .int .i64 vv, .int .i64 by_, .int .i64 en, .int .u64 bg, .int .u64 fn, .bool dd] 112)).cell? ⟨n0, 0, none⟩ = some (.int .i64 id) := ((HO.out.blk HB.out (fun h => h)).alloc _).cell 0
          have d3 : (wr.alloc (.cells #[.int .i64 kk, .int .i64 vv, .int .i64 by_, .int .i64 en, .int .u64 bg, .int .u64 fn, .bool dd] 112)).cell? ⟨n0, 3, none⟩ = some (.int .u64 beg) := ((HO.out.blk HB.out (fun h => h)).alloc _).cell 3
          clear HN hvk
          by_cases h1 : kk = key
          · subst h1
            by_cases h2 : dd = true
            · subst h2
              have R := Lib.hid (NO.out (by simp [rVisB, *] <;> omega))
              clear YES NO
              go_wp2_with fail
              go_roundw
              case rel => exact ⟨k + 1, _, by omega, rfl, by go_num, Lib.hid (HO.out.alloc _), R⟩
              case measure => simp [intOf] <;> omega
            · have h2b : dd = false := by simpa using h2
              subst h2b
              by_cases h7 : en = id
              · subst h7
                have R := Lib.hid (NO.out (by simp [rVisB, *] <;> omega))
                clear YES NO
                go_wp2_with fail
                go_roundw
                case rel => exact ⟨k + 1, _, by omega, rfl, by go_num, Lib.hid (HO.out.alloc _), R⟩
                case measure => simp [intOf] <;> omega
              · have h7b : (en == id) = false := by simpa using h7
                by_cases h3 : by_ = 0
                · subst h3
                  by_cases h4 : bg ≤ beg
                  · by_cases h8 : en = 0
                    · subst h8
                      by_cases h5 : fn = 0
                      · subst h5
                        have R := Lib.hid (YES.out (by simp [rVisB, *] <;> omega))
                        clear YES NO
                        go_wp2_with fail
                        go_ret
                        exact ⟨ret_val (by rw [R.out]; rfl), HW.out.trans (HO.out.alloc _)⟩
                      · have h5b : (fn == 0) = false := by simpa using h5
                        by_cases h6 : beg < fn
                        · have R := Lib.hid (YES.out (by simp [rVisB, *] <;> omega))
                          clear YES NO
                          go_wp2_with fail
                          go_ret
                          exact ⟨ret_val (by rw [R.out]; rfl), HW.out.trans (HO.out.alloc _)⟩
                        · have R := Lib.hid (NO.out (by simp [rVisB, *] <;> omega))
                          clear YES NO
                          go_wp2_with fail
                          go_roundw
                          case rel => exact ⟨k + 1, _, by omega, rfl, by go_num, Lib.hid (HO.out.alloc _), R⟩
                          case measure => simp [intOf] <;> omega
                    · have h8b : (en == 0) = false := by simpa using h8
                      have R := Lib.hid (YES.out (by simp [rVisB, *] <;> omega))
                      clear YES NO
                      go_wp2_with fail
                      go_ret
                      exact ⟨ret_val (by rw [R.out]; rfl), HW.out.trans (HO.out.alloc _)⟩
                  · have R := Lib.hid (NO.out (by simp [rVisB, *] <;> omega))
                    clear YES NO
                    go_wp2_with fail
                    go_roundw
                    case rel => exact ⟨k + 1, _, by omega, rfl, by go_num, Lib.hid (HO.out.alloc _), R⟩
                    case measure => simp [intOf] <;> omega
                · have h3b : (by_ == 0) = false := by simpa using h3
                  have R := Lib.hid (NO.out (by simp [rVisB, *] <;> omega))
                  clear YES NO
                  go_wp2_with fail
                  go_roundw
                  case rel => exact ⟨k + 1, _, by omega, rfl, by go_num, Lib.hid (HO.out.alloc _), R⟩
                  case measure => simp [intOf] <;> omega
          · have h1b : (kk == key) = false := by simpa using h1
            have R := Lib.hid (NO.out (by simp [rVisB, *] <;> omega))
            clear YES NO
            go_wp2_with fail
            go_roundw
            case rel => exact ⟨k + 1, _, by omega, rfl, by go_num, Lib.hid (HO.out.alloc _), R⟩
            case measure => simp [intOf] <;> omega
        · obtain rfl : k = s.v.length := by omega
          have R : Hid (res = none) := HF.out.symm.trans (by unfold RSt.sees; rw [N1.out]; exact fidx_none (p := rVisB id beg key) HN.out)
          clear HN
          go_wp2_with fail
          go_ret
          exact ⟨ret_val (by rw [R.out]; rfl), HW.out.trans HO.out⟩
end Go.Proofs.Ytcbhafddehipdaa

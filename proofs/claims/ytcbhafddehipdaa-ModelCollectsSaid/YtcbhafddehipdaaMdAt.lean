/-
  model.Model: at; ConfOk, LevelOk, SessionOk; Now, Used.
-/
import Derived.Test.YtcbhafddehipdaaMdIn
import Derived.Deep.QuietTactic
import Derived.BigQuiet
namespace Go.Proofs.Ytcbhafddehipdaa
open Go.RowKit
set_option linter.unusedVariables false
set_option linter.unusedSimpArgs false

theorem find_take_none {α : Type} {p : α → Bool} {l : List α} {k : Nat} (h : (l.take k).find? p = none) (hk : k < l.length) (hp : p l[k] = false) : (l.take (k + 1)).find? p = none := by
  rw [List.take_succ_eq_append_getElem hk, List.find?_append, h]; simp [hp]
theorem find_take_some {α : Type} {p : α → Bool} {l : List α} {k : Nat} (h : (l.take k).find? p = none) (hk : k < l.length) (hp : p l[k] = true) : l.find? p = some l[k] := by
  have e : l.take k ++ l[k] :: l.drop (k + 1) = l := by simp
  have e2 := congrArg (List.find? p) e
  rw [List.find?_append, h, Option.none_or, List.find?_cons_of_pos hp] at e2
  exact e2.symm
/-- The row of versions: nothing, or a block that holds their pointers. -/
theorem MIn.rowAt {B m : Nat} {w : World} {P : Nat → Prop} {s : St} {A : Ad} (h : MIn B w P m s A) : (A.la = none ∧ s.l.length = 0 ∧ A.lc = 0) ∨ ∃ g, A.la = some ⟨g, 0, none⟩ ∧ ∀ k, (hk : k < s.l.length) → w.cell? ⟨g, k, none⟩ = some (.pointer (some ⟨A.va s.l[k], 0, none⟩)) := by
  have hr := h.row
  rcases hr.2 with ⟨e, h0⟩ | ⟨g, cap, cur, hv, _⟩
  · injection e with e1 e2 e3
    exact .inl ⟨e1, h0, e3⟩
  · have ha : A.la = some ⟨g, 0, none⟩ := by injection hv
    rw [ha] at hr
    refine .inr ⟨g, ha, fun k hk => ?_⟩
    have hc := World.ownsRow.cellAt hr k (by omega)
    rw [List.getElem?_map, List.getElem?_eq_getElem hk] at hc
    exact hc
theorem MIn.verAt {B m : Nat} {w : World} {P : Nat → Prop} {s : St} {A : Ad} (h : MIn B w P m s A) (k : Nat) (hk : k < s.l.length) : Blk w (A.va s.l[k]) 117 (verCells (s.ver s.l[k])) := (h.vers.blk _ (h.ok.lin _ (List.getElem_mem hk))).1
theorem ret_val {a b : Value} (h : a = b) : Ending.returned a = .returned b := by rw [h]

set_option maxRecDepth 100000 in
set_option maxHeartbeats 4000000 in
theorem md_at {B m : Nat} {w : World} {P : Nat → Prop} {s : St} {A : Ad} (h : MIn B w P m s A) (key at_ : Int) :
    Calls Try.prog 65 #[.pointer (some ⟨m, 0, none⟩), .int .i64 key, .int .u64 at_] w fun e w' => e = .returned (ptrOf A.va (s.at key at_)) ∧ w = w' := by
  have c4 : w.cell? ⟨m, 4, none⟩ = some (.slice A.la s.l.length A.lc) := h.mod.cell 4
  have hlen : s.l.length ≤ 256 := by have := h.ok.few; have := h.ok.slots; omega
  have HH := Lib.hid h
  have HF := Lib.hid (show s.l.find? (fun i => visB (s.ver i) key at_) = s.at key at_ from rfl)
  generalize s.at key at_ = res at HF ⊢
  rcases h.rowAt with ⟨e1, e2, e3⟩ | ⟨g, hg, hrow⟩
  · rw [e1, e2, e3] at c4
    have HR := Lib.hid (show res = none by rw [← HF.out, List.eq_nil_of_length_eq_zero e2]; rfl)
    clear h e1 e2 e3 hlen
    go_enter Try.func65, Try.ntmps65
    go_wp2_with fail
    refine wp_loop_rounds 1 ?_; rw [rounds_succ]
    go_wp2_with fail
    go_ret
    exact ⟨ret_val (by rw [HR.out]; rfl), rfl⟩
  rw [hg] at c4
  have HW := Lib.hid hrow
  clear h hrow hg
  go_enter Try.func65, Try.ntmps65
  go_wp2_with fail
  go_loop [14] (fun i => ∃ k : Nat, k ≤ s.l.length ∧ i = .int .i64 k ∧ Hid ((s.l.take k).find? (fun i => visB (s.ver i) key at_) = none)) (fun i => s.l.length - (intOf i).toNat)
  case atStart => exact ⟨0, Nat.zero_le _, rfl, Lib.hid (by simp)⟩
  case round =>
    obtain ⟨k, hk, rfl, HN⟩ := hrel
    by_cases hlt : k < s.l.length
    · have hb := HH.out.verAt k hlt
      have hp := HW.out k hlt
      have q0 : w.cell? ⟨A.va s.l[k], 0, none⟩ = some (.int .i64 (s.ver s.l[k]).key) := hb.cell 0
      have q3 : w.cell? ⟨A.va s.l[k], 3, none⟩ = some (.int .u64 (s.ver s.l[k]).beg) := hb.cell 3
      have q4 : w.cell? ⟨A.va s.l[k], 4, none⟩ = some (.int .u64 (s.ver s.l[k]).fin) := hb.cell 4
      have HY := Lib.hid (fun hp : visB (s.ver s.l[k]) key at_ = true => HF.out.symm.trans (find_take_some HN.out hlt hp))
      have HZ := Lib.hid (fun hp : visB (s.ver s.l[k]) key at_ = false => find_take_none HN.out hlt hp)
      have HV := Lib.hid (show ptrOf A.va (some s.l[k]) = .pointer (some ⟨A.va s.l[k], 0, none⟩) from rfl)
      clear hb HN
      generalize A.va s.l[k] = a at *
      generalize s.ver s.l[k] = v at *
      obtain ⟨kk, vv, by_, bg, fn, dd⟩ := v
      dsimp only at q0 q3 q4
      have YES : ∀ hv : visB ⟨kk, vv, by_, bg, fn, dd⟩ key at_ = true, Hid (res = some s.l[k]) := fun hv => Lib.hid (HY.out hv)
      have NO : ∀ hv : visB ⟨kk, vv, by_, bg, fn, dd⟩ key at_ = false, Hid ((s.l.take (k + 1)).find? (fun i => visB (s.ver i) key at_) = none) := fun hv => Lib.hid (HZ.out hv)
      have YES' := Lib.hid YES
      have NO' := Lib.hid NO
      clear YES NO HY HZ HF
      by_cases h1 : kk = key
      · subst h1
        by_cases h2 : 0 < bg
        · by_cases h3 : bg ≤ at_
          · by_cases h4 : fn = 0
            · have R := YES'.out (by simp [visB, h2, h3, h4])
              subst h4
              go_wp2_with fail
              go_ret
              exact ⟨ret_val (by rw [R.out, HV.out]; rfl), rfl⟩
            · have h4b : (fn == 0) = false := by simpa using h4
              by_cases h5 : at_ < fn
              · have R := YES'.out (by simp [visB, h2, h3, h5])
                go_wp2_with fail
                go_ret
                exact ⟨ret_val (by rw [R.out, HV.out]; rfl), rfl⟩
              · have R := NO'.out (by simp [visB, h4]; omega)
                go_wp2_with fail
                go_round
                case rel => exact ⟨k + 1, by omega, by go_num, R⟩
                case measure => simp [intOf]; omega
          · have R := NO'.out (by simp [visB]; omega)
            go_wp2_with fail
            go_round
            case rel => exact ⟨k + 1, by omega, by go_num, R⟩
            case measure => simp [intOf]; omega
        · have R := NO'.out (by simp [visB]; omega)
          go_wp2_with fail
          go_round
          case rel => exact ⟨k + 1, by omega, by go_num, R⟩
          case measure => simp [intOf]; omega
      · have h1b : (kk == key) = false := by simpa using h1
        have R := NO'.out (by simp [visB, h1])
        clear h1
        go_wp2_with fail
        go_round
        case rel => exact ⟨k + 1, by omega, by go_num, R⟩
        case measure => simp [intOf]; omega
    · obtain rfl : k = s.l.length := by omega
      have R := Lib.hid (show res = none by rw [← HF.out, ← HN.out, List.take_length])
      go_wp2_with fail
      go_ret
      exact ⟨ret_val (by rw [R.out]; rfl), rfl⟩
end Go.Proofs.Ytcbhafddehipdaa

/-
  model.Model: Begin whole; Now, Used.
-/
import Derived.Test.YtcbhafddehipdaaMdBegin2
namespace Go.Proofs.Ytcbhafddehipdaa
open Go.RowKit
set_option linter.unusedVariables false
set_option linter.unusedSimpArgs false

theorem BeRes.no {B m : Nat} {w w' : World} {P : Nat → Prop} {s : St} {A : Ad} (h : MIn B w P m s A) (er : Int) (o : Only0 w w') : BeRes B m w P (0, er, s) (.returned (.tuple #[.int .i64 0, .int .i64 er])) w' := ⟨P, rfl, ⟨A, h.only0 o⟩, o.any _, Grew.refl _ _⟩
set_option maxRecDepth 100000 in
set_option maxHeartbeats 16000000 in
theorem md_begin {B m : Nat} {w : World} {P : Nat → Prop} {s : St} (h : MAt B w P m s) (j level : Int) :
    Calls Try.prog 23 #[.pointer (some ⟨m, 0, none⟩), .int .i64 j, .int .i64 level] w (BeRes B m w P (s.begin j level)) := by
  obtain ⟨A, h⟩ := h
  have CS := md_sess j w
  have CL := md_level level w
  have m1 : w.cell? ⟨m, 1, none⟩ = some (.int .u64 s.limit) := h.mod.cell 1
  have m2 : w.cell? ⟨m, 2, none⟩ = some (.int .u64 s.now) := h.mod.cell 2
  have m3 : w.cell? ⟨m, 3, none⟩ = some (.int .i64 s.made) := h.mod.cell 3
  have HH := Lib.hid h
  cases hs : sessB j with
  | false =>
    rw [show s.begin j level = (0, 1, s) by simp [St.begin, hs]]
    rw [hs] at CS
    clear hs h CL
    go_enter Try.func23, Try.ntmps23
    go_wp2_with fail
    refine CS.mono ?_
    rintro e w1 ⟨rfl, rfl⟩
    go_wp2_with fail
    go_ret2
    exact BeRes.no HH.out 1 (Only0.refl _)
  | true =>
    cases hl : levelB level with
    | false =>
      rw [show s.begin j level = (0, 1, s) by simp [St.begin, hs, hl]]
      rw [hs] at CS
      rw [hl] at CL
      clear hs h hl
      go_enter Try.func23, Try.ntmps23
      go_wp2_with fail
      refine CS.mono ?_
      rintro e w1 ⟨rfl, rfl⟩
      go_wp2_with fail
      refine CL.mono ?_
      rintro e w1 ⟨rfl, rfl⟩
      go_wp2_with fail
      go_ret2
      exact BeRes.no HH.out 1 (Only0.refl _)
    | true =>
      obtain ⟨jn, rfl, hjn⟩ : ∃ jn : Nat, j = (jn : Int) ∧ jn < 8 := by
        simp [sessB] at hs; exact ⟨j.toNat, by omega, by omega⟩
      have j8 : (jn : Int) < 8 := by omega
      have j0 : (0 : Int) ≤ (jn : Int) := by omega
      have cj := h.sess jn hjn
      cases htx : s.tx jn with
      | some t =>
        rw [show s.begin (jn : Int) level = (0, 9, s) by simp [St.begin, hs, hl, htx]]
        rw [show txPtr A s.tx jn = .pointer (some ⟨A.tb jn, 0, none⟩) by simp [txPtr, htx]] at cj
        rw [hs] at CS
        rw [hl] at CL
        clear hs h hl htx
        go_enter Try.func23, Try.ntmps23
        go_wp2_with fail
        refine CS.mono ?_
        rintro e w1 ⟨rfl, rfl⟩
        go_wp2_with fail
        refine CL.mono ?_
        rintro e w1 ⟨rfl, rfl⟩
        go_wp2_with fail
        go_ret2
        exact BeRes.no HH.out 9 (Only0.refl _)
      | none =>
        by_cases hm : 2000 ≤ s.made
        · rw [show s.begin (jn : Int) level = (0, 65, s) by simp [St.begin, hs, hl, htx, hm]]
          rw [show txPtr A s.tx jn = .pointer none by simp [txPtr, htx]] at cj
          rw [hs] at CS
          rw [hl] at CL
          clear hs h hl htx
          go_enter Try.func23, Try.ntmps23
          go_wp2_with fail
          refine CS.mono ?_
          rintro e w1 ⟨rfl, rfl⟩
          go_wp2_with fail
          refine CL.mono ?_
          rintro e w1 ⟨rfl, rfl⟩
          go_wp2_with fail
          go_ret2
          exact BeRes.no HH.out 65 (Only0.refl _)
        · by_cases hn : s.limit ≤ s.now
          · rw [show s.begin (jn : Int) level = (0, 16, s) by simp [St.begin, hs, hl, htx, hm, hn]]
            rw [show txPtr A s.tx jn = .pointer none by simp [txPtr, htx]] at cj
            rw [hs] at CS
            rw [hl] at CL
            clear hs h hl htx
            have hm' : s.made < 2000 := by omega
            clear hm
            go_enter Try.func23, Try.ntmps23
            go_wp2_with fail
            refine CS.mono ?_
            rintro e w1 ⟨rfl, rfl⟩
            go_wp2_with fail
            refine CL.mono ?_
            rintro e w1 ⟨rfl, rfl⟩
            go_wp2_with fail
            go_quiet (fail)
            go_wp2_with fail
            go_ret2
            exact BeRes.no HH.out 16 ((Only0.refl _).drewN _)
          · have := md_begin_ok h jn level hjn hl htx (by omega) (by omega)
            rw [show s.begin (jn : Int) level = (s.made + 1, 0, { s with made := s.made + 1, now := s.now + 1, tx := upd s.tx jn (some (newTx (s.made + 1) level (s.now + 1))) }) by simp [St.begin, hs, hl, htx, hm, hn]]
            exact this
set_option maxRecDepth 100000 in
set_option maxHeartbeats 4000000 in
theorem md_now {B m : Nat} {w : World} {P : Nat → Prop} {s : St} (h : MAt B w P m s) : Calls Try.prog 27 #[.pointer (some ⟨m, 0, none⟩)] w fun e w' => e = .returned (.int .u64 s.now) ∧ w = w' := by
  obtain ⟨A, h⟩ := h
  have m2 : w.cell? ⟨m, 2, none⟩ = some (.int .u64 s.now) := h.mod.cell 2
  clear h
  go_enter Try.func27, Try.ntmps27
  go_wp2_with fail
  go_ret
  exact ⟨rfl, rfl⟩
set_option maxRecDepth 100000 in
set_option maxHeartbeats 4000000 in
theorem md_used {B m : Nat} {w : World} {P : Nat → Prop} {s : St} (h : MAt B w P m s) : Calls Try.prog 33 #[.pointer (some ⟨m, 0, none⟩)] w fun e w' => e = .returned (.int .i64 s.l.length) ∧ w = w' := by
  obtain ⟨A, h⟩ := h
  have m4 : w.cell? ⟨m, 4, none⟩ = some (.slice A.la s.l.length A.lc) := h.mod.cell 4
  have hlen : s.l.length ≤ 256 := by have := h.ok.few; have := h.ok.slots; omega
  clear h
  go_enter Try.func33, Try.ntmps33
  go_wp2_with fail
  go_ret
  exact ⟨rfl, rfl⟩
end Go.Proofs.Ytcbhafddehipdaa

/-
  ModelTimes: the plain law and the walk.
-/
import Derived.Test.YtcbhafddehipdaaMdSkew
import Derived.Test.YtcbhafddehipdaaMdStat
import Derived.Test.YtcbhafddehipdaaInts
namespace Go.Proofs.Ytcbhafddehipdaa
open Go.RowKit
set_option linter.unusedVariables false
set_option linter.unusedSimpArgs false

structure TmI (s : St) (n now q : Nat) : Prop where
  lim : s.limit = (n : Int)
  nw : s.now = (now : Int)
  md : s.made ≤ (q : Int)
  lv : ∀ j t, s.tx j = some t → t.level = 1
theorem TmI.new (n : Nat) (N : Int) (hN : N = (n : Int)) : TmI (newSt 5 N) n 0 0 := ⟨hN, rfl, by simp [newSt], fun j t h => by cases h⟩
theorem sess_nat {j : Nat} (hj : j < 8) : sessB (j : Int) = true := by simp [sessB]; omega
theorem TmI.over {s : St} {n now q j : Nat} {t : Tx} (I : TmI s n now q) (hj : j < 8) (hu : s.tx j = some t) (h : n ≤ now) :
    s.do_ (j : Int) ⟨6, 0, 0, 0⟩ = (⟨14, 0, [], 4, 6⟩, 0, s.kill j t) ∧ TmI (s.kill j t) n now (q + 1) := by
  have hl : s.limit ≤ s.now := by rw [I.lim, I.nw]; omega
  refine ⟨by simp [St.do_, sess_nat hj, hu, opOkB, endsB, St.call, St.commit, hl, abortRes], ⟨I.lim, I.nw, ?_, fun i u hi => ?_⟩⟩
  · have := I.md
    show s.made ≤ _
    omega
  · simp only [St.kill, upd] at hi
    split at hi
    · cases hi
    · exact I.lv i u hi
theorem TmI.done {s : St} {n now q j : Nat} {t : Tx} (I : TmI s n now q) (hj : j < 8) (hu : s.tx j = some t) (h : now < n) :
    s.do_ (j : Int) ⟨6, 0, 0, 0⟩ = (⟨0, 0, [], 3, 0⟩, 0, s.tick.done j t) ∧ TmI (s.tick.done j t) n (now + 1) (q + 1) := by
  have hl : ¬ (s.limit ≤ s.now) := by rw [I.lim, I.nw]; omega
  refine ⟨by simp [St.do_, sess_nat hj, hu, opOkB, endsB, St.call, St.commit, hl, St.holds, I.lv j t hu], ⟨I.lim, ?_, ?_, fun i u hi => ?_⟩⟩
  · have := I.nw
    show s.now + 1 = _
    omega
  · have := I.md
    show s.made ≤ _
    omega
  · simp only [St.done, upd] at hi
    split at hi
    · cases hi
    · exact I.lv i u hi
theorem TmI.late {s : St} {n now q j : Nat} (I : TmI s n now q) (hj : j < 8) (hu : s.tx j = none) (hq : q ≤ 100) (h : n ≤ now) :
    s.begin (j : Int) 1 = (0, 16, s) ∧ TmI s n now (q + 1) := by
  have hl : s.limit ≤ s.now := by rw [I.lim, I.nw]; omega
  have hm : ¬ (2000 ≤ s.made) := by have := I.md; omega
  refine ⟨by simp [St.begin, sess_nat hj, levelB, hu, hm, hl], ⟨I.lim, I.nw, by have := I.md; omega, I.lv⟩⟩
theorem TmI.begun {s : St} {n now q j : Nat} (I : TmI s n now q) (hj : j < 8) (hu : s.tx j = none) (hq : q ≤ 100) (h : now < n) :
    ∃ (id : Int) (s' : St) (t : Tx), s.begin (j : Int) 1 = (id, 0, s') ∧ TmI s' n (now + 1) (q + 1) ∧ s'.tx j = some t ∧ t.beg = (now : Int) + 1 := by
  have hl : ¬ (s.limit ≤ s.now) := by rw [I.lim, I.nw]; omega
  have hm : ¬ (2000 ≤ s.made) := by have := I.md; omega
  refine ⟨s.made + 1, { s with made := s.made + 1, now := s.now + 1, tx := upd s.tx j (some (newTx (s.made + 1) 1 (s.now + 1))) }, newTx (s.made + 1) 1 (s.now + 1), ?_, ⟨I.lim, ?_, ?_, fun i u hi => ?_⟩, by simp [upd], by simp [newTx, I.nw]⟩
  · simp [St.begin, sess_nat hj, levelB, hu, hm, hl]
  · have := I.nw
    show s.now + 1 = _
    omega
  · have := I.md
    show s.made + 1 ≤ _
    omega
  · simp only [upd] at hi
    split at hi
    · injection hi with hi; subst hi; rfl
    · exact I.lv i u hi
theorem lev60 (x : Int) : ∃ q r : Nat, bits .and .i64 x 255 = (q : Int) ∧ q < 256 ∧ ((q : Int) % 60) = (r : Int) ∧ r < 60 := by
  have h := i64_and255 x
  refine ⟨(x % 256).toNat, (x % 256).toNat % 60, by rw [h]; omega, by omega, by omega, by omega⟩
theorem and7 (x : Int) : ∃ j : Nat, bits .and .i64 x 7 = (j : Int) ∧ j < 8 := by
  have h := i64_and7 x
  exact ⟨(x % 8).toNat, by rw [h]; omega, by omega⟩

theorem stat_live (a0 a1 a2 a3 a4 a5 a6 a7 a8 : Value) (w : World) : (Instr.field 53 (.agg #[a0, a1, a2, a3, a4, a5, a6, a7, a8]) 0).run Try.prog w = .ok a0 w := by kernel_rfl
theorem stat_beg (a0 a1 a2 a3 a4 a5 a6 a7 a8 : Value) (w : World) : (Instr.field 53 (.agg #[a0, a1, a2, a3, a4, a5, a6, a7, a8]) 6).run Try.prog w = .ok a6 w := by kernel_rfl

set_option maxRecDepth 100000 in
set_option maxHeartbeats 16000000 in
theorem times_none (limit : Int) (a : Option Addr) (c : Nat) (z : List Int) (w : World) (hz : z = []) (hl1 : z.length ≤ 17592186044000) :
    Calls Try.prog 6 #[.int .i64 limit, .slice a z.length c] w fun e w' => e = .returned (.bool true) ∧ Below w.heap.size w w' := by
  obtain ⟨q0, r, e0, hq0, f0, hr⟩ := lev60 limit
  subst hz
  go_enter Try.func6, Try.ntmps6
  go_wp2_with fail
  refine (md_new 5 ((r : Int) + 1) _ (by simp [confB]; omega)).mono ?_
  rintro e w1 ⟨m, rfl, h1, o1, -⟩
  have HI := Lib.hid (show LW w w1 (fun b => b = m) m (newSt 5 ((r : Int) + 1)) ∧ TmI (newSt 5 ((r : Int) + 1)) (r + 1) 0 0 from ⟨LW.made (Only0.refl w) h1 o1, TmI.new _ _ (by omega)⟩)
  clear h1 o1
  go_wp2_with fail
  go_loopw [8, 9] (fun s8 s9 wr => ∃ (q now : Nat) (P : Nat → Prop) (s : St), s8 = .int .u64 now ∧ s9 = .int .i64 q ∧ q ≤ 100 ∧ q ≤ 0 ∧ now ≤ r + 1 ∧ Hid (LW w wr P m s ∧ TmI s (r + 1) now q)) (fun _ s9 _ => 100 - (intOf s9).toNat)
  case atStart => exact ⟨0, 0, _, _, rfl, rfl, by omega, by omega, by omega, HI⟩
  case round =>
    obtain ⟨q, now, P, s, rfl, rfl, hq, hql, hn, HL⟩ := hrel
    obtain rfl : q = 0 := by omega
    clear HI
    go_wp2_with fail
    refine (awake19_any _).mono ?_
    rintro e w8 ⟨rfl, o8⟩
    have HO8 := Lib.hid (HL.out.1.o.trans o8)
    clear o8
    go_wp2_with fail
    go_ret
    exact ⟨rfl, HO8.out.below⟩
set_option maxRecDepth 100000 in
set_option maxHeartbeats 16000000 in
theorem times_some (limit : Int) (b off : Nat) (c : Nat) (z : List Int) (w : World) (hc : ∀ i, i < z.length → w.cell? ⟨b, off + i, none⟩ = some (.int .i64 (z.getD i 0))) (hl1 : z.length ≤ 17592186044000) :
    Calls Try.prog 6 #[.int .i64 limit, .slice (some ⟨b, off, none⟩) z.length c] w fun e w' => e = .returned (.bool true) ∧ Below w.heap.size w w' := by
  obtain ⟨q0, r, e0, hq0, f0, hr⟩ := lev60 limit
  have HC := Lib.hid hc
  clear hc
  go_enter Try.func6, Try.ntmps6
  go_wp2_with fail
  refine (md_new 5 ((r : Int) + 1) _ (by simp [confB]; omega)).mono ?_
  rintro e w1 ⟨m, rfl, h1, o1, -⟩
  have HI := Lib.hid (show LW w w1 (fun b => b = m) m (newSt 5 ((r : Int) + 1)) ∧ TmI (newSt 5 ((r : Int) + 1)) (r + 1) 0 0 from ⟨LW.made (Only0.refl w) h1 o1, TmI.new _ _ (by omega)⟩)
  clear h1 o1
  go_wp2_with fail
  go_loopw [8, 9] (fun s8 s9 wr => ∃ (q now : Nat) (P : Nat → Prop) (s : St), s8 = .int .u64 now ∧ s9 = .int .i64 q ∧ q ≤ 100 ∧ q ≤ z.length ∧ now ≤ r + 1 ∧ Hid (LW w wr P m s ∧ TmI s (r + 1) now q)) (fun _ s9 _ => 100 - (intOf s9).toNat)
  case atStart => exact ⟨0, 0, _, _, rfl, rfl, by omega, by omega, by omega, HI⟩
  case round =>
    obtain ⟨q, now, P, s, rfl, rfl, hq, hql, hn, HL⟩ := hrel
    by_cases hlt : q < z.length
    · by_cases hlt2 : q < 100
      · obtain ⟨j, ej, hj⟩ := and7 (z.getD q 0)
        have cq : wr.cell? ⟨b, off + q, none⟩ = some (.int .i64 (z.getD q 0)) := by rw [HL.out.1.o.below.cell (p := ⟨b, off + q, none⟩) (block_lt_of_cell (HC.out q hlt))]; exact HC.out q hlt
        have CS := md_status HL.out.1.mat j hj
        have F0 := stat_live
        have F6 := stat_beg
        clear HI
        generalize z.getD q 0 = zq at *
        cases hu : s.tx j with
        | some t =>
          rw [hu, show statV (some t) = #[.bool true, .bool false, .bool false, .int .i64 t.id, .int .i64 t.level, .int .i64 1, .int .u64 t.beg, .int .u64 0, .int .i64 t.ops] from rfl] at CS
          by_cases hlim : r + 1 ≤ now
          · have HD := Lib.hid (HL.out.2.over hj hu hlim)
            have cm1 : ¬ ((now : Int) < (r : Int) + 1) := by omega
            have cm2 : (r : Int) + 1 ≤ (now : Int) := by omega
            clear hu
            go_wp2_with fail
            refine CS.mono ?_
            rintro e w2 ⟨rfl, o2⟩
            have L2 := HL.out.1.only0 o2
            clear CS o2 HL cq
            go_wp2_with fail
            refine (lw_do L2 (j : Int) 6 0 0 0 HD.out.1).mono ?_
            rintro e w3 ⟨P3, a3, c3, rfl, L3, -, -⟩
            have HL3 := Lib.hid (And.intro (L3.alloc (.cells #[.int .i64 14, .int .i64 0, .slice a3 0 c3, .int .i64 4, .int .i64 6] 27)) HD.out.2)
            clear L2 L3 HD
            go_wp2_with fail
            refine (md_now HL3.out.1.mat).mono ?_
            rintro e w9 ⟨rfl, rfl⟩
            rw [HL3.out.2.nw]
            go_wp2_with fail
            go_roundw
            case rel => exact ⟨q + 1, now, _, _, by go_num, by go_num, by omega, by omega, by omega, HL3⟩
            case measure => simp [intOf]; omega
          · have HD := Lib.hid (HL.out.2.done hj hu (by omega))
            have cm1 : (now : Int) < (r : Int) + 1 := by omega
            have cm2 : ¬ ((r : Int) + 1 ≤ (now : Int)) := by omega
            clear hu
            go_wp2_with fail
            refine CS.mono ?_
            rintro e w2 ⟨rfl, o2⟩
            have L2 := HL.out.1.only0 o2
            clear CS o2 HL cq
            go_wp2_with fail
            refine (lw_do L2 (j : Int) 6 0 0 0 HD.out.1).mono ?_
            rintro e w3 ⟨P3, a3, c3, rfl, L3, -, -⟩
            have HL3 := Lib.hid (And.intro (L3.alloc (.cells #[.int .i64 0, .int .i64 0, .slice a3 0 c3, .int .i64 3, .int .i64 0] 27)) HD.out.2)
            clear L2 L3 HD
            go_wp2_with fail
            refine (md_now HL3.out.1.mat).mono ?_
            rintro e w9 ⟨rfl, rfl⟩
            rw [HL3.out.2.nw]
            go_wp2_with fail
            go_roundw
            case rel => exact ⟨q + 1, now + 1, _, _, by go_num, by go_num, by omega, by omega, by omega, HL3⟩
            case measure => simp [intOf]; omega
        | none =>
          rw [hu, show statV none = #[.bool false, .bool false, .bool false, .int .i64 0, .int .i64 0, .int .i64 0, .int .u64 0, .int .u64 0, .int .i64 0] from rfl] at CS
          by_cases hlim : r + 1 ≤ now
          · have HD := Lib.hid (HL.out.2.late hj hu hq hlim)
            have cm1 : ¬ ((now : Int) < (r : Int) + 1) := by omega
            have cm2 : (r : Int) + 1 ≤ (now : Int) := by omega
            clear hu
            go_wp2_with fail
            refine CS.mono ?_
            rintro e w2 ⟨rfl, o2⟩
            have L2 := HL.out.1.only0 o2
            clear CS o2 HL cq
            go_wp2_with fail
            refine (lw_begin L2 (j : Int) 1 HD.out.1).mono ?_
            rintro e w3 ⟨P3, rfl, L3, -, -⟩
            have HL3 := Lib.hid (And.intro L3 HD.out.2)
            clear L2 L3 HD
            go_wp2_with fail
            refine (md_now HL3.out.1.mat).mono ?_
            rintro e w9 ⟨rfl, rfl⟩
            rw [HL3.out.2.nw]
            go_wp2_with fail
            go_roundw
            case rel => exact ⟨q + 1, now, _, _, by go_num, by go_num, by omega, by omega, by omega, HL3⟩
            case measure => simp [intOf]; omega
          · obtain ⟨id, s', t, hb1, I1, ht1, hbg⟩ := HL.out.2.begun hj hu hq (by omega)
            have HD := Lib.hid (And.intro hb1 (And.intro I1 (And.intro ht1 hbg)))
            have cm1 : (now : Int) < (r : Int) + 1 := by omega
            have cm2 : ¬ ((r : Int) + 1 ≤ (now : Int)) := by omega
            clear hu hb1 I1 ht1 hbg
            go_wp2_with fail
            refine CS.mono ?_
            rintro e w2 ⟨rfl, o2⟩
            have L2 := HL.out.1.only0 o2
            clear CS o2 HL cq
            go_wp2_with fail
            refine (lw_begin L2 (j : Int) 1 HD.out.1).mono ?_
            rintro e w3 ⟨P3, rfl, L3, -, -⟩
            have CS2 := md_status L3.mat j hj
            rw [HD.out.2.2.1, show statV (some t) = #[.bool true, .bool false, .bool false, .int .i64 t.id, .int .i64 t.level, .int .i64 1, .int .u64 t.beg, .int .u64 0, .int .i64 t.ops] from rfl, HD.out.2.2.2] at CS2
            have HL4 := Lib.hid (And.intro L3 HD.out.2.1)
            clear L2 L3 HD
            go_wp2_with fail
            refine CS2.mono ?_
            rintro e w4 ⟨rfl, o4⟩
            have HL3 := Lib.hid (And.intro (HL4.out.1.only0 o4) HL4.out.2)
            clear HL4 o4 CS2
            go_wp2_with fail
            refine (md_now HL3.out.1.mat).mono ?_
            rintro e w9 ⟨rfl, rfl⟩
            rw [HL3.out.2.nw]
            go_wp2_with fail
            go_roundw
            case rel => exact ⟨q + 1, now + 1, _, _, by go_num, by go_num, by omega, by omega, by omega, HL3⟩
            case measure => simp [intOf]; omega
      · obtain rfl : q = 100 := by omega
        clear HI
        go_wp2_with fail
        refine (awake19_any _).mono ?_
        rintro e w8 ⟨rfl, o8⟩
        have HO8 := Lib.hid (HL.out.1.o.trans o8)
        clear o8
        go_wp2_with fail
        go_ret
        exact ⟨rfl, HO8.out.below⟩
    · obtain rfl : q = z.length := by omega
      clear HI
      go_wp2_with fail
      refine (awake19_any _).mono ?_
      rintro e w8 ⟨rfl, o8⟩
      have HO8 := Lib.hid (HL.out.1.o.trans o8)
      clear o8
      go_wp2_with fail
      go_ret
      exact ⟨rfl, HO8.out.below⟩
theorem modelTimes_walk (limit : Int) (a : Option Addr) (c : Nat) (z : List Int) (w : World) (_w0 : (Lit.int .i64 limit).wf = true) (i1 : Ints .i64 w a z) (_f1 : ∀ n ∈ z, (Lit.int .i64 n).wf = true) (s1 : z.length * 8 ≤ 140737488351232) (_l1 : z.length ≤ c) (_m1 : c ≤ 9223372036854775807) (_o1 : a = none → c = 0) :
    Calls Try.prog 6 #[.int .i64 limit, .slice a z.length c] w fun e w' => e = .returned (.bool true) ∧ Below w.heap.size w w' := by
  rcases i1 with hz | ⟨b, off, rfl, hc⟩
  · exact times_none limit a c z w hz (by omega)
  · exact times_some limit b off c z w hc (by omega)
end Go.Proofs.Ytcbhafddehipdaa

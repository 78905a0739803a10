/-
  The walk of TableOldest.
-/
import Derived.Test.YtccgpgikiagmiaaLaw5c
namespace Go.Proofs.Ytccgpgikiagmiaa
open Go.RowKit
set_option linter.unusedVariables false

/-- A block of another make than a Table's is none of the Table's. -/
theorem Tab.not_foot {B : Nat} {w : World} {t : Nat} {v : Value} {ps : List Nat} {most : Int} {ts : List TX} (h : Tab B w t v ps most ts) {b : Nat} {ty : TypeId} {cs : Array Value} (hb : Blk w b ty cs) (h1 : ty ≠ 60) (h2 : ty ≠ 61) (h3 : ty ≠ 78) : ¬ Foot t v ps b := by
  rintro (rfl | hk | hk)
  · exact hb.ne_ h.head h1 rfl
  · exact own_ne h.row hb (Ne.symm h2) hk
  · obtain ⟨i, hi, rfl⟩ := List.getElem_of_mem hk
    have := h.tx i (by rw [← h.len]; exact hi)
    simp only [List.getD_eq_getElem?_getD, List.getElem?_eq_getElem hi, Option.getD_some] at this
    exact hb.ne_ this h3 rfl
theorem own_keep {B B' : Nat} {w w' : World} {t : Nat} {v u : Value} {ps : List Nat} {most : Int} {ts : List TX} {n : Nat} {xs : List Value} (h : Tab B w t v ps most ts) (ho : Only (Foot t v ps) w w') (hu : w.ownsRow B' 3 1 u n xs) : w'.ownsRow B' 3 1 u n xs := by
  refine ownsRow_only hu ho (fun k hk hf => ?_)
  rcases hu.2 with ⟨rfl, _⟩ | ⟨g, cap, cur, rfl, hg, hh, r⟩
  · simp [Value.ownBlock] at hk
  · have : g = k := by simpa [Value.ownBlock] using hk
    subst this
    exact h.not_foot (show Blk w g _ cur from hh) (by decide) (by decide) (by decide) hf
/-- An append to a row of ints, or a new block, is beside a Table. -/
theorem Tab.beside {B B' : Nat} {w w' : World} {t : Nat} {v u : Value} {ps : List Nat} {most : Int} {ts : List TX} {n : Nat} {xs : List Value} {o : Obj} (h : Tab B w t v ps most ts) (hu : w.ownsRow B' 3 1 u n xs) (hg : (w.alloc o).grownBy w' u.ownBlock) : Tab B w' t v ps most ts := by
  have ho : Only (fun k => u.ownBlock = some k) w w' := by
    refine ⟨hg.os, hg.tape, hg.output, Nat.le_trans (by simp) hg.size, fun k hk hn => ?_⟩
    rw [hg.block k (by simp; omega) (fun e => hn e.symm)]
    exact Below.heap_alloc _ _ _ hk
  refine h.only ho (fun k hf hk => ?_)
  rcases hu.2 with ⟨rfl, _⟩ | ⟨g, cap, cur, rfl, hg, hh, r⟩
  · simp [Value.ownBlock] at hk
  · have : g = k := by simpa [Value.ownBlock] using hk
    subst this
    exact h.not_foot (show Blk w g _ cur from hh) (by decide) (by decide) (by decide) hf

theorem tput_id (ts : List TX) (x y : TX) : tput (ts ++ [x]) ((ts.length : Int) + 1) y = ts ++ [y] := by
  unfold tput
  rw [show ((ts.length : Int) + 1 - 1).toNat = ts.length by omega]
  simp
theorem tget_last (ts : List TX) (x : TX) : tget (ts ++ [x]) ((ts.length : Int) + 1) = some x := by
  unfold tget
  rw [if_pos ⟨by omega, by simp⟩, show ((ts.length : Int) + 1 - 1).toNat = ts.length by omega]
  simp
theorem turn_last (ts : List TX) (b : Int) : turnErr (ts ++ [⟨1, b, 0, 1⟩]) ((ts.length : Int) + 1) 4 = 0 ∧ turnTs (ts ++ [⟨1, b, 0, 1⟩]) ((ts.length : Int) + 1) 4 = ts ++ [⟨1, b, 0, 4⟩] := by
  unfold turnErr turnTs
  rw [tget_last]
  exact ⟨rfl, by show tput _ _ _ = _; rw [tput_id]⟩

/-- The first that lives: turned to be over, the others live on. -/
theorem liveFrom_head (l : List TX) (k : Int) (a : Int) (r : List Int) (h : liveFrom l k = a :: r) : ∃ i : Nat, i < l.length ∧ a = k + i ∧ (l.getD i TX.zero).lives = true ∧ ∀ y : TX, y.lives = false → liveFrom (l.set i y) k = r := by
  induction l generalizing k with
  | nil => simp [liveFrom] at h
  | cons x l ih =>
    simp only [liveFrom] at h
    cases hx : x.lives with
    | true =>
      rw [hx, if_pos rfl] at h
      injection h with h1 h2
      exact ⟨0, by simp, by simp [h1], by simpa using hx, fun y hy => by simp [liveFrom, hy, h2]⟩
    | false =>
      rw [hx, if_neg (by simp)] at h
      obtain ⟨i, h1, h2, h3, h4⟩ := ih _ h
      exact ⟨i + 1, by simp; omega, by rw [h2]; omega, by simpa using h3, fun y hy => by simp [liveFrom, hx, h4 y hy]⟩
theorem oldTs_none (l : List TX) (now : Int) (h : ∀ x ∈ l, x.lives = false) : oldTs l now = now := by
  induction l generalizing now with
  | nil => rfl
  | cons x l ih => simp only [oldTs]; rw [h x (by simp), if_neg (by simp), ih _ (fun y hy => h y (by simp [hy]))]
theorem live_none (l : List TX) (k : Int) (h : liveFrom l k = []) : ∀ x ∈ l, x.lives = false := by
  induction l generalizing k with
  | nil => simp
  | cons x l ih =>
    simp only [liveFrom] at h
    intro y hy
    split at h
    · cases h
    · rename_i hx
      rcases List.mem_cons.1 hy with rfl | hy
      · simpa using hx
      · exact ih _ h y hy

theorem row_at {w : World} {B : Nat} {g off n cap k : Nat} {zs : List Int} (h : w.ownsRow B 3 1 (.slice (some ⟨g, off, none⟩) n cap) n (zs.map (Value.int .i64))) (hk : k < zs.length) : w.cell? ⟨g, off + k, none⟩ = some (.int .i64 (zs.getD k 0)) := by
  obtain ⟨g', off', he, hc⟩ := (own_ints h).at (by omega)
  injection he with he
  injection he with e1 e2 e3
  subst e1 e2
  exact hc k hk
/-- The first that lives is turned to be aborted, and then done. -/
theorem over_step {ts : List TX} {a : Int} {r : List Int} (h : liveFrom ts 1 = a :: r) : ∃ ts1 ts2, turnErr ts a 4 = 0 ∧ turnTs ts a 4 = ts1 ∧ turnErr ts1 a 5 = 0 ∧ turnTs ts1 a 5 = ts2 ∧ ts2.length = ts.length ∧ liveFrom ts2 1 = r := by
  obtain ⟨i, h1, h2, h3, h4⟩ := liveFrom_head ts 1 a r h
  have e : (a - 1).toNat = i := by omega
  have g : tget ts a = some (ts.getD i TX.zero) := by rw [tget_some (by omega) (by omega), e]
  have hc : can (ts.getD i TX.zero).st 4 = true := by
    unfold TX.lives at h3
    simp only [Bool.or_eq_true, beq_iff_eq] at h3
    rcases h3 with h3 | h3 <;> rw [h3] <;> rfl
  have t1 : turnTs ts a 4 = ts.set i { ts.getD i TX.zero with st := 4 } := by unfold turnTs tput; rw [g]; dsimp only; rw [if_pos hc, e]
  have g1 : tget (ts.set i { ts.getD i TX.zero with st := 4 }) a = some { ts.getD i TX.zero with st := 4 } := by
    rw [tget_some (by omega) (by simp; omega), e, getD_set _ _ _ _ _ h1, if_pos rfl]
  refine ⟨_, _, by unfold turnErr; rw [g]; exact if_pos hc, t1, by unfold turnErr; rw [g1]; rfl, rfl, ?_, ?_⟩
  · unfold turnTs; rw [g1]; dsimp only; rw [if_pos (show can 4 5 = true from rfl), length_tput]; simp
  · unfold turnTs tput; rw [g1]; dsimp only; rw [if_pos (show can 4 5 = true from rfl), e, List.set_set]; exact h4 _ rfl
theorem drop_head {l : List Int} {k : Nat} (h : k < l.length) : l.drop k = l.getD k 0 :: l.drop (k + 1) := by
  rw [List.drop_eq_getElem_cons h]; simp [h]

set_option maxRecDepth 100000 in
set_option maxHeartbeats 3000000 in
theorem tableOldest_walk (a : Option Addr) (c : Nat) (l : List Int) (over now : Int) (w : World) (hl : Ints .u64 w a l) (hwf : ∀ n ∈ l, (Lit.int .u64 n).wf = true) (hr : l.length * 8 ≤ 140737488351232) (_h1 : l.length ≤ c) (_h2 : c ≤ 9223372036854775807) (ho : (Lit.int .u64 over).wf = true) (hno : (Lit.int .u64 now).wf = true) :
    Calls Try.prog 4 #[.slice a l.length c, .int .u64 over, .int .u64 now] w fun e w' => e = .returned (.bool true) ∧ Below w.heap.size w w' := by
  obtain ⟨n, hmin, hn1, hn2, hn3⟩ := min_named l.length 30
  rw [show ((30 : Nat) : Int) = 30 from rfl] at hmin
  obtain ⟨i0, hi, hz0, hz1, hz2⟩ := info_parts info_int
  obtain ⟨v0, v1⟩ := bounds_u64 ho
  obtain ⟨u0, u1⟩ := bounds_u64 hno
  clear ho hno
  go_enter Try.func4, Try.ntmps4
  go_wp2_with fail
  refine (table_new 40 (by omega) (by omega) w).mono ?_
  rintro e w1 ⟨t, rfl, h1, b1⟩
  unfold ptr
  go_wp2_with fail
  clear hmin
  go_loopw [10, 11, 12] (fun x y i wr => ∃ (k : Nat) (ts : List TX) (v : Value) (ps : List Nat), k ≤ n ∧ ts.length = k ∧ x = .int .u64 (oldTs ts now) ∧ i = .int .i64 k ∧ (∀ z ∈ ts, z.st = 1 ∨ z.st = 4) ∧ 0 ≤ oldTs ts now ∧ oldTs ts now ≤ 18446744073709551615 ∧ wr.ownsRow w.heap.size 3 1 y (liveTs ts).length ((liveTs ts).map (Value.int .i64)) ∧ Tab w.heap.size wr t v ps 40 ts ∧ Below w.heap.size w wr) (fun _ _ i _ => n - (intOf i).toNat)
  case atStart => exact ⟨0, [], _, _, by omega, rfl, rfl, rfl, by simp, u0, u1, World.ownsRow_nil _ _ _ _, h1, b1⟩
  case round =>
    obtain ⟨k, ts, v, ps, hk, hts, rfl, rfl, hst, old0, old1, hown, hT, hb⟩ := hrel
    subst hts
    by_cases hlt : ts.length < n
    · obtain ⟨b, off, rfl, hc⟩ := hl.at (by omega)
      have hc0 := hc ts.length (by omega)
      have hbw := block_lt_of_cell hc0
      have hc1 := (hb.cell (p := ⟨b, off + ts.length, none⟩) hbw).trans hc0
      generalize l.getD ts.length 0 = x at hc1
      clear hc hl hc0
      have hm := u64_and40 x
      have m0 : 0 ≤ x % 1099511627776 := by omega
      have m1 : x % 1099511627776 < 1099511627776 := by omega
      generalize x % 1099511627776 = y at hm m0 m1
      go_wp2_with fail
      refine (table_make_ok hT 1 y (by omega) (by omega) (by omega) (by omega)).mono ?_
      rintro e w2 ⟨rfl, v2, ps2, h2, o2⟩
      have hown2 := own_keep hT o2 hown
      have b2 := hb.trans (hT.below o2)
      clear hc1 hown hT o2 hb
      have hlen : (liveTs ts).length ≤ ts.length := liveFrom_length ts 1
      have L4 := Lib.hid (show liveTs (ts ++ [⟨1, y, 0, 4⟩]) = liveTs ts by unfold liveTs; rw [liveFrom_append]; simp [TX.lives])
      have L1 := Lib.hid (show liveTs (ts ++ [⟨1, y, 0, 1⟩]) = liveTs ts ++ [(ts.length : Int) + 1] by unfold liveTs; rw [liveFrom_append, Int.add_comm]; simp [TX.lives])
      have O4 := Lib.hid (show oldTs (ts ++ [⟨1, y, 0, 4⟩]) now = oldTs ts now by rw [oldTs_append]; rfl)
      have O1 := Lib.hid (show oldTs (ts ++ [⟨1, y, 0, 1⟩]) now = imin (oldTs ts now) y by rw [oldTs_append]; rfl)
      have HT := Lib.hid (turn_last ts y)
      have HS := Lib.hid hst
      clear hst
      go_wp2_with (at_builtin; refine wpList_append_own _ rfl _ _ 30 rfl w.heap.size 3 i0 (.int .i64 0) 1 8 Try.underlying30 hi hz0 hz1 hz2 rfl (by decide) _ _ _ rfl (hown2.alloc _) ⟨w2.heap.size, 0, none⟩ 1 1 [.int .i64 ((ts.length : Int) + 1)] rfl rfl ?c1 ?c2 ?c3 ?c4 ?c5 ?_)
      case c1 =>
        intro j u hj
        match j, hj with
        | 0, hj => simp at hj; subst hj; simp [Addr.add]
      case c2 => intro u hu; simp at hu; subst hu; rfl
      case c3 => unfold maxLen; omega
      case c4 => omega
      case c5 => have := b2.size; simp; omega
      · have T := table_turn h2 ((ts.length : Int) + 1) 4 (by omega)
        rw [HT.out.1, HT.out.2] at T
        refine T.mono ?_
        rintro e w3 ⟨rfl, h3, o3⟩
        have hown4 := own_keep h2 o3 hown2
        have b3 := b2.trans (h2.below o3)
        clear h2 o3 hown2 b2
        go_wp2_with fail
        go_roundw
        case rel => exact ⟨ts.length + 1, _, v2, ps2, by omega, by simp, by rw [O4.out], by go_num, by
          intro z hz
          rcases List.mem_append.1 hz with hz | hz
          · exact HS.out z hz
          · simp at hz; subst hz; exact .inr rfl, by rw [O4.out]; exact old0, by rw [O4.out]; exact old1, by rw [L4.out]; exact hown4, h3, b3⟩
        case measure => simp [intOf]; omega
      · intro v' w3 hown4 hgrow _
        have h3 := h2.beside hown2 hgrow
        have b3 : Below w.heap.size w w3 := (b2.alloc b2.size _).grown hgrow (by have := b2.size; simp; omega) (fun k hk => (hown2.lt k hk).1)
        have hown5 : w3.ownsRow w.heap.size 3 1 v' (liveTs ts ++ [(ts.length : Int) + 1]).length ((liveTs ts ++ [(ts.length : Int) + 1]).map (Value.int .i64)) := by simpa using hown4
        clear h2 hown2 hown4 b2 hgrow
        have him := Lib.hid (show imin (oldTs ts now) y = (if y < oldTs ts now then y else oldTs ts now) from rfl)
        generalize oldTs ts now = od at *
        by_cases hyo : y < od
        · have hi2 := Lib.hid (him.out.trans (if_pos hyo))
          go_wp2_with fail
          go_roundw
          case rel => exact ⟨ts.length + 1, _, v2, ps2, by omega, by simp, by rw [O1.out, hi2.out], by go_num, by
            intro z hz
            rcases List.mem_append.1 hz with hz | hz
            · exact HS.out z hz
            · simp at hz; subst hz; exact .inl rfl, by rw [O1.out, hi2.out]; exact m0, by rw [O1.out, hi2.out]; omega, by rw [L1.out]; exact hown5, h3, b3⟩
          case measure => simp [intOf]; omega
        · have hi2 := Lib.hid (him.out.trans (if_neg hyo))
          go_wp2_with fail
          go_roundw
          case rel => exact ⟨ts.length + 1, _, v2, ps2, by omega, by simp, by rw [O1.out, hi2.out], by go_num, by
            intro z hz
            rcases List.mem_append.1 hz with hz | hz
            · exact HS.out z hz
            · simp at hz; subst hz; exact .inl rfl, by rw [O1.out, hi2.out]; exact old0, by rw [O1.out, hi2.out]; exact old1, by rw [L1.out]; exact hown5, h3, b3⟩
          case measure => simp [intOf]; omega
    · have hkn : ts.length = n := by omega
      have HS := Lib.hid hst
      clear hst hlt
      have hlen : (liveTs ts).length ≤ ts.length := liveFrom_length ts 1
      obtain ⟨ao, cap, rfl⟩ := own_shape hown
      go_wp2_with fail
      refine (table_oldest hT now).mono ?_
      rintro e w2 ⟨rfl, rfl⟩
      go_wp2_with fail
      refine (table_live hT).mono ?_
      rintro e w2 ⟨u, rfl, hown2, o2⟩
      obtain ⟨ao2, cap2, rfl⟩ := own_shape hown2
      have hownb := ownsRow_only hown o2 (fun _ _ hf => hf)
      have hT2 := hT.only o2 (fun _ _ hf => hf)
      have b2 := hb.trans (o2.below.mono hb.size)
      clear hb hT o2 hown
      go_wp2_with fail
      refine (sameInts_any ao2 ao cap2 cap (liveTs ts) (liveTs ts) w2 (own_ints hown2) (own_ints hownb) (by omega) (by omega)).mono ?_
      rintro e w3 ⟨rfl, m, rfl⟩
      rw [show decide (liveTs ts = liveTs ts) = true from decide_eq_true rfl]
      have hT3 := hT2.only ((Only0.refl w2).drewN m) (fun _ _ hf => hf)
      have hown3 : (w2.drewN m).ownsRow w.heap.size 3 1 (.slice ao (liveTs ts).length cap) (liveTs ts).length ((liveTs ts).map (Value.int .i64)) := hownb
      have b3 := below_drewN b2 m
      clear hT2 hownb hown2 b2
      generalize w2.drewN m = w3 at hT3 hown3 b3 ⊢
      have hids : liveFrom ts 1 = (liveTs ts).drop 0 := rfl
      generalize liveTs ts = ids at hids hown3 hlen ⊢
      generalize oldTs ts now = od at *
      go_wp2_with fail
      go_loopw [16] (fun i wr => ∃ (k : Nat) (ts' : List TX), k ≤ ids.length ∧ i = .int .i64 k ∧ ts'.length = n ∧ liveFrom ts' 1 = ids.drop k ∧ wr.ownsRow w.heap.size 3 1 (.slice ao ids.length cap) ids.length (ids.map (Value.int .i64)) ∧ Tab w.heap.size wr t v ps 40 ts' ∧ Below w.heap.size w wr) (fun i _ => ids.length - (intOf i).toNat)
      case atStart => exact ⟨0, ts, by omega, rfl, hkn, hids, hown3, hT3, b3⟩
      case round =>
        obtain ⟨k, ts', hk, rfl, hts', hid, hown, hT, hb⟩ := hrel
        have HK := Lib.hid hts'
        clear hts' hids hown3 hT3 b3 hkn
        by_cases hlt : k < ids.length
        · rw [drop_head hlt] at hid
          obtain ⟨ts1, ts2, e1, e2, e3, e4, e5, e6⟩ := over_step hid
          have E5 := Lib.hid (e5.trans HK.out)
          have E6 := Lib.hid e6
          have T1 := fun hx => table_turn (w := wr) (B := w.heap.size) (t := t) (v := v) (ps := ps) (most := 40) (ts := ts') hx (ids.getD k 0) 4 (by omega)
          have T2 := fun w2 hx => table_turn (w := w2) (B := w.heap.size) (t := t) (v := v) (ps := ps) (most := 40) (ts := ts1) hx (ids.getD k 0) 5 (by omega)
          rw [e1, e2] at T1
          rw [e3, e4] at T2
          obtain ⟨g, off, hao, hcx⟩ := (own_ints hown).at (by omega)
          clear hcx
          subst hao
          have R := fun (wx : World) (hx : wx.ownsRow w.heap.size 3 1 (.slice (some ⟨g, off, none⟩) ids.length cap) ids.length (ids.map (Value.int .i64))) => row_at hx hlt
          have hc1 := R _ hown
          have hsm := T1 hT
          clear hid e1 e2 e3 e4 e5 e6 T1
          obtain ⟨a, ha⟩ : ∃ a, a = ids.getD k 0 := ⟨_, rfl⟩
          rw [← ha] at hc1 hsm
          simp only [← ha] at R T2
          clear ha
          go_wp2_with fail
          refine hsm.mono ?_
          rintro e w4 ⟨rfl, h4, o4⟩
          have hown4 := own_keep hT o4 hown
          have b4 := hb.trans (hT.below o4)
          have hc4 := R _ hown4
          clear hc1 hsm hown hT hb
          go_wp2_with fail
          refine (T2 w4 h4).mono ?_
          rintro e w5 ⟨rfl, h5, o5⟩
          have hown5 := own_keep h4 o5 hown4
          have b5 := b4.trans (h4.below o5)
          clear hc4 T2 R
          go_wp2_with fail
          go_roundw
          case rel => exact ⟨k + 1, ts2, by omega, by go_num, E5.out, E6.out, hown5, h5, b5⟩
          case measure => simp [intOf]; omega
        · have hke : k = ids.length := by omega
          rw [hke, List.drop_length] at hid
          have hl0 := Lib.hid (show (liveTs ts').length = 0 by unfold liveTs; rw [hid]; rfl)
          have ho0 := oldTs_none ts' now (live_none ts' 1 hid)
          have O := table_oldest hT now
          rw [ho0] at O
          clear ho0 hid hke
          go_wp2_with fail
          refine O.mono ?_
          rintro e w2 ⟨rfl, rfl⟩
          go_wp2_with fail
          refine (table_live hT).mono ?_
          rintro e w2 ⟨u, rfl, hown2, o2⟩
          obtain ⟨ao2, cap2, hu⟩ := own_shape hown2
          rw [hl0.out] at hu
          subst hu
          have b2 := hb.trans (o2.below.mono hb.size)
          go_wp2_with fail
          refine (awake5_any _).mono ?_
          rintro e w7 ⟨rfl, b7⟩
          go_wp2_with fail
          go_ret
          exact ⟨rfl, b2.trans (b7.mono b2.size)⟩
end Go.Proofs.Ytccgpgikiagmiaa

/-
  What package table's functions do, of a Table that lies in its struct, its row of pointers, and a block for each transaction.
-/
import Derived.Test.YtlomgbnggmaeeaaProg
import Derived.Test.YtlomgbnggmaeeaaTableM
import Derived.Test.YtlomgbnggmaeeaaAtoms
import Derived.Test.YtlomgbnggmaeeaaOnce
import Derived.Deep.QuietTactic
import Derived.BigQuiet
import Derived.Deep.RegionHeld3
namespace Go.Proofs.Ytlomgbnggmaeeaa
open Go.RowKit
set_option linter.unusedVariables false

def TX.cells (x : TX) : Array Value := #[.int .i64 x.level, .int .u64 x.beg, .int .u64 x.en, .int .i64 x.st, .int .u32 (if x.en = 0 then 0 else 1), .int .i32 0, .int .u32 0]
def ptr (p : Nat) : Value := .pointer (some ⟨p, 0, none⟩)

theorem Blk.ne_ {w : World} {g g' : Nat} {t t' : TypeId} {cs cs' : Array Value} (h : Blk w g t cs) (h' : Blk w g' t' cs') (hne : t ≠ t') : g ≠ g' := by
  rintro rfl
  exact hne (h.inj h').2

/-- A Table of the transactions ts: its struct in block t, its slice v, the transactions in the blocks ps. -/
structure Tab (B : Nat) (w : World) (t : Nat) (v : Value) (ps : List Nat) (most : Int) (ts : List TX) : Prop where
  head : Blk w t 55 #[.int .i64 most, v]
  row : w.ownsRow B 57 1 v ts.length (ps.map ptr)
  len : ps.length = ts.length
  tx : ∀ i, i < ts.length → Blk w (ps.getD i 0) 74 (TX.cells (ts.getD i TX.zero))
  nd : ps.Nodup
  most_ : most ≤ 65535
  small : ts.length ≤ 65535
  bt : B ≤ t
  bp : ∀ p ∈ ps, B ≤ p
/-- The blocks of a Table. -/
def Foot (t : Nat) (v : Value) (ps : List Nat) : Nat → Prop := fun k => k = t ∨ v.ownBlock = some k ∨ k ∈ ps

theorem ownsRow_only {B : Nat} {w w' : World} {e : TypeId} {v : Value} {n : Nat} {xs : List Value} {S : Nat → Prop} (h : w.ownsRow B e 1 v n xs) (ho : Only S w w') (hs : ∀ k, v.ownBlock = some k → ¬ S k) : w'.ownsRow B e 1 v n xs := by
  obtain ⟨h1, h2⟩ := h
  refine ⟨h1, ?_⟩
  rcases h2 with h2 | ⟨g, cap, cur, rfl, hg, hh, r⟩
  · exact .inl h2
  · exact .inr ⟨g, cap, cur, rfl, hg, by rw [ho.block g (lt_of_block hh) (hs g rfl)]; exact hh, r⟩

theorem Tab.only {B : Nat} {w w' : World} {t : Nat} {v : Value} {ps : List Nat} {most : Int} {ts : List TX} {S : Nat → Prop} (h : Tab B w t v ps most ts) (ho : Only S w w') (hs : ∀ k, Foot t v ps k → ¬ S k) : Tab B w' t v ps most ts :=
  ⟨ho.blk h.head (hs _ (.inl rfl)), ownsRow_only h.row ho (fun k hk => hs k (.inr (.inl hk))), h.len,
    fun i hi => ho.blk (h.tx i hi) (hs _ (.inr (.inr (by rw [List.getD_eq_getElem?_getD, List.getElem?_eq_getElem (by rw [h.len]; exact hi)]; exact List.getElem_mem _)))), h.nd, h.most_, h.small, h.bt, h.bp⟩
theorem Tab.foot_ge {B : Nat} {w : World} {t : Nat} {v : Value} {ps : List Nat} {most : Int} {ts : List TX} (h : Tab B w t v ps most ts) : ∀ k, Foot t v ps k → B ≤ k := by
  rintro k (rfl | hk | hk)
  · exact h.bt
  · exact (h.row.lt k hk).1
  · exact h.bp k hk
theorem Tab.below {B : Nat} {w w' : World} {t : Nat} {v : Value} {ps : List Nat} {most : Int} {ts : List TX} (h : Tab B w t v ps most ts) (ho : Only (Foot t v ps) w w') : Below B w w' :=
  ho.below B (by have := h.bt; have := h.head.lt; omega) h.foot_ge
theorem Tab.foot_lt {B : Nat} {w : World} {t : Nat} {v : Value} {ps : List Nat} {most : Int} {ts : List TX} (h : Tab B w t v ps most ts) : ∀ k, Foot t v ps k → k < w.heap.size := by
  rintro k (rfl | hk | hk)
  · exact h.head.lt
  · exact (h.row.lt k hk).2
  · obtain ⟨i, hi, rfl⟩ := List.getElem_of_mem hk
    have := (h.tx i (by rw [← h.len]; exact hi)).lt
    simpa [hi] using this

set_option maxHeartbeats 400000 in
theorem table_new (n : Int) (h0 : 1 ≤ n) (h1 : n ≤ 65535) (w : World) :
    Calls Try.prog 4 #[.int .i64 n] w fun e w' => ∃ t, e = .returned (.tuple #[ptr t, .int .i64 0]) ∧ Tab w.heap.size w' t (.slice none 0 0) [] n [] ∧ Below w.heap.size w w' := by
  go_enter Try.func4, Try.ntmps4
  go_wp2_with fail
  go_ret2
  exact ⟨w.heap.size, rfl, ⟨Blk.new _ _ _, World.ownsRow_nil _ _ _ _, rfl, by simp, by simp, h1, by simp, Nat.le_refl _, by simp⟩, (Below.refl _ _).alloc (Nat.le_refl _) _⟩
set_option maxHeartbeats 400000 in
theorem table_new_bad (n : Int) (h : n < 1 ∨ 65535 < n) (w : World) :
    Calls Try.prog 4 #[.int .i64 n] w fun e w' => e = .returned (.tuple #[.pointer none, .int .i64 1]) ∧ w = w' := by
  rcases h with h | h
  all_goals
    go_enter Try.func4, Try.ntmps4
    go_wp2_with fail
    go_ret2
    exact ⟨rfl, rfl⟩

set_option maxHeartbeats 1000000 in
theorem can_at (f t : Int) (w : World) : Calls Try.prog 19 #[.int .i64 f, .int .i64 t] w fun e w' => e = .returned (.bool (can f t)) ∧ w = w' := by
  have hc : f = 1 ∨ f = 2 ∨ f = 3 ∨ f = 4 ∨ (¬ f = 1 ∧ ¬ f = 2 ∧ ¬ f = 3 ∧ ¬ f = 4) := by omega
  rcases hc with rfl | rfl | rfl | rfl | ⟨h1, h2, h3, h4⟩
  · have H := Lib.hid (show can 1 t = (t == 2 || t == 4) from rfl)
    go_enter Try.func19, Try.ntmps19
    go_wp2_with fail
    all_goals (go_ret; first | exact ⟨ret_bool H.out.symm, rfl⟩ | exact ⟨ret_bool (by rw [H.out]; simp_all), rfl⟩)
  · have H := Lib.hid (show can 2 t = (t == 3 || t == 4) from rfl)
    go_enter Try.func19, Try.ntmps19
    go_wp2_with fail
    all_goals (go_ret; first | exact ⟨ret_bool H.out.symm, rfl⟩ | exact ⟨ret_bool (by rw [H.out]; simp_all), rfl⟩)
  · have H := Lib.hid (show can 3 t = (t == 5) from rfl)
    go_enter Try.func19, Try.ntmps19
    go_wp2_with fail
    all_goals (go_ret; first | exact ⟨ret_bool H.out.symm, rfl⟩ | exact ⟨ret_bool (by rw [H.out]; simp_all), rfl⟩)
  · have H := Lib.hid (show can 4 t = (t == 5) from rfl)
    go_enter Try.func19, Try.ntmps19
    go_wp2_with fail
    all_goals (go_ret; first | exact ⟨ret_bool H.out.symm, rfl⟩ | exact ⟨ret_bool (by rw [H.out]; simp_all), rfl⟩)
  · have H := Lib.hid (show can f t = false by simp [can, h1, h2, h3, h4])
    go_enter Try.func19, Try.ntmps19
    go_wp2_with fail
    all_goals (go_ret; first | exact ⟨ret_bool H.out.symm, rfl⟩ | exact ⟨ret_bool (by rw [H.out]; simp_all), rfl⟩)

theorem ptr_at {ps : List Nat} {i : Nat} (hi : i < ps.length) : (ps.map ptr)[i]? = some (ptr (ps.getD i 0)) := by simp [hi]

/-- get, in the row. -/
theorem Tab.cell {B : Nat} {w : World} {t : Nat} {v : Value} {ps : List Nat} {most : Int} {ts : List TX} (h : Tab B w t v ps most ts) (i : Nat) (hi : i < ts.length) :
    ∃ g cap, v = .slice (some ⟨g, 0, none⟩) ts.length cap ∧ w.cell? ⟨g, i, none⟩ = some (ptr (ps.getD i 0)) := by
  obtain ⟨h1, h2⟩ := h.row
  rcases h2 with ⟨_, h0⟩ | ⟨g, cap, cur, rfl, hg, hh, r⟩
  · omega
  · exact ⟨g, cap, rfl, by rw [h.row.cellAt i (by omega), ptr_at (by rw [h.len]; exact hi)]⟩
theorem Tab.nil_or {B : Nat} {w : World} {t : Nat} {v : Value} {ps : List Nat} {most : Int} {ts : List TX} (h : Tab B w t v ps most ts) : ∃ ao cap, v = .slice ao ts.length cap := by
  obtain ⟨h1, h2⟩ := h.row
  rcases h2 with ⟨rfl, h0⟩ | ⟨g, cap, cur, rfl, hg, hh, r⟩
  · exact ⟨none, 0, by rw [h0]⟩
  · exact ⟨_, cap, rfl⟩
theorem Tab.c0 {B : Nat} {w : World} {t : Nat} {v : Value} {ps : List Nat} {most : Int} {ts : List TX} (h : Tab B w t v ps most ts) : w.cell? ⟨t, 0, none⟩ = some (.int .i64 most) := by rw [h.head.cell]; rfl
theorem Tab.c1 {B : Nat} {w : World} {t : Nat} {v : Value} {ps : List Nat} {most : Int} {ts : List TX} (h : Tab B w t v ps most ts) : w.cell? ⟨t, 1, none⟩ = some v := by rw [h.head.cell]; rfl

set_option maxHeartbeats 400000 in
theorem get_on {B : Nat} {w : World} {t : Nat} {v : Value} {ps : List Nat} {most : Int} {ts : List TX} (h : Tab B w t v ps most ts) (id : Int) (h0 : 1 ≤ id) (h1 : id ≤ (ts.length : Int)) :
    Calls Try.prog 21 #[ptr t, .int .i64 id] w fun e w' => e = .returned (ptr (ps.getD (id - 1).toNat 0)) ∧ w = w' := by
  have hs := h.small
  obtain ⟨i, rfl⟩ : ∃ i : Nat, id = (i : Int) + 1 := ⟨(id - 1).toNat, by omega⟩
  obtain ⟨g, cap, rfl, hc⟩ := h.cell i (by omega)
  have c1 := h.c1
  have e : ((i : Int) + 1 - 1).toNat = i := by omega
  rw [e]
  unfold ptr at *
  generalize ps.getD i 0 = p at *
  clear e
  go_enter Try.func21, Try.ntmps21
  go_wp2_with fail
  go_ret
  exact ⟨rfl, rfl⟩
set_option maxHeartbeats 400000 in
theorem get_off {B : Nat} {w : World} {t : Nat} {v : Value} {ps : List Nat} {most : Int} {ts : List TX} (h : Tab B w t v ps most ts) (id : Int) (hi : id < 1 ∨ (ts.length : Int) < id) :
    Calls Try.prog 21 #[ptr t, .int .i64 id] w fun e w' => e = .returned (.pointer none) ∧ w = w' := by
  have hs := h.small
  obtain ⟨ao, cap, rfl⟩ := h.nil_or
  have c1 := h.c1
  unfold ptr at *
  rcases hi with hi | hi
  · go_enter Try.func21, Try.ntmps21
    go_wp2_with fail
    go_ret
    exact ⟨rfl, rfl⟩
  · have hi0 : ¬ id < 1 := by omega
    go_enter Try.func21, Try.ntmps21
    go_wp2_with fail
    go_ret
    exact ⟨rfl, rfl⟩

/-- A transaction's cells. -/
theorem tx_c {w : World} {p : Nat} {x : TX} (h : Blk w p 74 (TX.cells x)) : w.cell? ⟨p, 0, none⟩ = some (.int .i64 x.level) ∧ w.cell? ⟨p, 1, none⟩ = some (.int .u64 x.beg) ∧ w.cell? ⟨p, 2, none⟩ = some (.int .u64 x.en) ∧ w.cell? ⟨p, 3, none⟩ = some (.int .i64 x.st) := by
  refine ⟨?_, ?_, ?_, ?_⟩ <;> (rw [h.cell]; rfl)
theorem getD_set {α : Type} (l : List α) (i j : Nat) (x d : α) (hi : i < l.length) : (l.set i x).getD j d = if j = i then x else l.getD j d := by
  simp only [List.getD_eq_getElem?_getD, List.getElem?_set]
  by_cases h : i = j
  · subst h; simp [hi]
  · rw [if_neg h, if_neg (fun e => h e.symm)]
theorem nodup_getD {ps : List Nat} (h : ps.Nodup) {i j : Nat} (hi : i < ps.length) (hj : j < ps.length) (he : ps.getD i 0 = ps.getD j 0) : i = j := by
  simp only [List.getD_eq_getElem?_getD, List.getElem?_eq_getElem hi, List.getElem?_eq_getElem hj, Option.getD_some] at he
  have hp := List.pairwise_iff_getElem.1 h
  rcases Nat.lt_trichotomy i j with h1 | h1 | h1
  · exact absurd he (hp i j hi hj h1)
  · exact h1
  · exact absurd he.symm (hp j i hj hi h1)
theorem mem_getD {ps : List Nat} {i : Nat} (hi : i < ps.length) : ps.getD i 0 ∈ ps := by
  rw [List.getD_eq_getElem?_getD, List.getElem?_eq_getElem hi]; exact List.getElem_mem _

/-- A transaction's block is turned into another transaction's: the Table holds that one. -/
theorem Tab.put {B : Nat} {w w' : World} {t : Nat} {v : Value} {ps : List Nat} {most : Int} {ts : List TX} (h : Tab B w t v ps most ts) (i : Nat) (hi : i < ts.length) (x : TX) (ho : Only (fun k => k = ps.getD i 0) w w')
    (hb : Blk w' (ps.getD i 0) 74 (TX.cells x)) : Tab B w' t v ps most (ts.set i x) := by
  have hx := h.tx i hi
  have hps : i < ps.length := by rw [h.len]; exact hi
  refine ⟨ho.blk h.head (h.head.ne_ hx (by decide)), ?_, by rw [List.length_set]; exact h.len, fun j hj => ?_, h.nd, h.most_, by simpa using h.small, h.bt, h.bp⟩
  · rw [List.length_set]
    refine ownsRow_only h.row ho (fun k hk he => ?_)
    subst he
    rcases h.row.2 with ⟨rfl, _⟩ | ⟨g, cap, cur, rfl, hg, hh, r⟩
    · simp [Value.ownBlock] at hk
    · have : g = ps.getD i 0 := by simpa [Value.ownBlock] using hk
      subst this
      exact (Blk.ne_ (show Blk w (ps.getD i 0) _ cur from hh) hx (by decide)) rfl
  · rw [getD_set _ _ _ _ _ hi]
    simp only [List.length_set] at hj
    by_cases e : j = i
    · subst e; rw [if_pos rfl]; exact hb
    · rw [if_neg e]
      exact ho.blk (h.tx j hj) (fun he => e (nodup_getD h.nd (by rw [h.len]; exact hj) hps he))

theorem cells_st (x : TX) (s : Int) : (TX.cells x).setIfInBounds 3 (.int .i64 s) = TX.cells { x with st := s } := rfl

set_option maxHeartbeats 800000 in
theorem table_turn {B : Nat} {w : World} {t : Nat} {v : Value} {ps : List Nat} {most : Int} {ts : List TX} (h : Tab B w t v ps most ts) (id to : Int) (hto : -9223372036854775808 ≤ to ∧ to ≤ 9223372036854775807) :
    Calls Try.prog 8 #[ptr t, .int .i64 id, .int .i64 to] w fun e w' => e = .returned (.int .i64 (turnErr ts id to)) ∧ Tab B w' t v ps most (turnTs ts id to) ∧ Only (Foot t v ps) w w' := by
  rcases tget_cases ts id with ⟨h0, h1, hg⟩ | ⟨hi, hg⟩
  · have hil : (id - 1).toNat < ts.length := by omega
    have hx := h.tx _ hil
    have hgo := get_on h id h0 h1
    have hp := mem_getD (show (id - 1).toNat < ps.length by rw [h.len]; exact hil)
    have hput := fun w' => h.put (w' := w') (id - 1).toNat hil { ts.getD (id - 1).toNat TX.zero with st := to }
    unfold turnErr turnTs
    rw [hg]
    dsimp only
    unfold tput
    generalize ts.getD (id - 1).toNat TX.zero = x at *
    generalize ps.getD (id - 1).toNat 0 = p at *
    obtain ⟨c0, c1, c2, c3⟩ := tx_c hx
    have f3 := hx.free 3
    cases hc : can x.st to with
    | true =>
      have hb := hx.set 3 (.int .i64 to)
      rw [cells_st] at hb
      have ho : Only (fun k => k = p) w (w.setCell ⟨p, 3, none⟩ (.int .i64 to)) := (Only.refl (fun k => k = p) w).setCell (fun _ => rfl) _
      have hT := hput _ ho hb
      have hcan := can_at x.st to w
      rw [hc] at hcan
      have hcas := i64_cas p 3 x.st x.st to w c3 f3
      simp only [decide_true, if_true] at hcas
      have hld := i64_load p 3 x.st w c3
      clear hput hb hx c0 c1 c2 hc
      rw [if_pos rfl, if_pos rfl]
      unfold ptr at *
      obtain ⟨t0, t1⟩ := hto
      go_enter Try.func8, Try.ntmps8
      go_wp2_with fail
      refine hgo.mono ?_
      rintro e w1 ⟨rfl, rfl⟩
      go_wp2_with fail
      refine hld.mono ?_
      rintro e w1 ⟨rfl, rfl⟩
      go_wp2_with fail
      refine hcan.mono ?_
      rintro e w1 ⟨rfl, rfl⟩
      go_wp2_with fail
      refine hcas.mono ?_
      rintro e w1 ⟨rfl, rfl⟩
      go_wp2_with fail
      go_ret
      exact ⟨rfl, hT, ho.mono (fun k _ hk => by subst hk; exact .inr (.inr hp))⟩
    | false =>
      have hcan := can_at x.st to w
      rw [hc] at hcan
      have hld := i64_load p 3 x.st w c3
      clear hput hx c0 c1 c2 hc
      rw [if_neg (by simp), if_neg (by simp)]
      unfold ptr at *
      obtain ⟨t0, t1⟩ := hto
      go_enter Try.func8, Try.ntmps8
      go_wp2_with fail
      refine hgo.mono ?_
      rintro e w1 ⟨rfl, rfl⟩
      go_wp2_with fail
      refine hld.mono ?_
      rintro e w1 ⟨rfl, rfl⟩
      go_wp2_with fail
      refine hcan.mono ?_
      rintro e w1 ⟨rfl, rfl⟩
      go_wp2_with fail
      go_ret
      exact ⟨rfl, h, Only.refl _ _⟩
  · unfold turnErr turnTs
    rw [hg]
    dsimp only
    have hgo := get_off h id hi
    unfold ptr at *
    go_enter Try.func8, Try.ntmps8
    go_wp2_with fail
    refine hgo.mono ?_
    rintro e w1 ⟨rfl, rfl⟩
    go_wp2_with fail
    go_ret
    exact ⟨rfl, h, Only.refl _ _⟩

set_option maxHeartbeats 400000 in
theorem table_len {B : Nat} {w : World} {t : Nat} {v : Value} {ps : List Nat} {most : Int} {ts : List TX} (h : Tab B w t v ps most ts) :
    Calls Try.prog 13 #[ptr t] w fun e w' => e = .returned (.int .i64 ts.length) ∧ w = w' := by
  obtain ⟨ao, cap, rfl⟩ := h.nil_or
  have c1 := h.c1
  unfold ptr at *
  go_enter Try.func13, Try.ntmps13
  go_wp2_with fail
  go_ret
  exact ⟨rfl, rfl⟩

set_option maxHeartbeats 400000 in
theorem tx_lives {w : World} {p : Nat} {x : TX} (h : Blk w p 74 (TX.cells x)) :
    Calls Try.prog 28 #[ptr p] w fun e w' => e = .returned (.bool x.lives) ∧ w = w' := by
  obtain ⟨c0, c1, c2, c3⟩ := tx_c h
  unfold TX.lives ptr
  generalize x.st = s at c3
  have hld := i64_load p 3 s w c3
  by_cases h1 : s = 1
  · subst h1
    go_enter Try.func28, Try.ntmps28
    go_wp2_with fail
    refine hld.mono ?_
    rintro e w1 ⟨rfl, rfl⟩
    go_wp2_with fail
    go_ret
    exact ⟨rfl, rfl⟩
  · go_enter Try.func28, Try.ntmps28
    go_wp2_with fail
    refine hld.mono ?_
    rintro e w1 ⟨rfl, rfl⟩
    go_wp2_with fail
    go_ret
    exact ⟨rfl, rfl⟩

set_option maxHeartbeats 1000000 in
theorem table_make_bad {B : Nat} {w : World} {t : Nat} {v : Value} {ps : List Nat} {most : Int} {ts : List TX} (h : Tab B w t v ps most ts) (level beg : Int) (hb : level < 1 ∨ 3 < level ∨ 1099511627776 < beg) :
    Calls Try.prog 6 #[ptr t, .int .i64 level, .int .u64 beg] w fun e w' => e = .returned (.tuple #[.int .i64 0, .int .i64 1]) ∧ w = w' := by
  unfold ptr
  have hb' : level < 1 ∨ (1 ≤ level ∧ 3 < level) ∨ (1 ≤ level ∧ level ≤ 3 ∧ 1099511627776 < beg) := by omega
  rcases hb' with hb | ⟨h1, hb⟩ | ⟨h1, h2, hb⟩
  all_goals
    go_enter Try.func6, Try.ntmps6
    go_wp2_with fail
    go_ret2
    exact ⟨rfl, rfl⟩
set_option maxHeartbeats 1000000 in
theorem table_make_full {B : Nat} {w : World} {t : Nat} {v : Value} {ps : List Nat} {most : Int} {ts : List TX} (h : Tab B w t v ps most ts) (level beg : Int) (l0 : 1 ≤ level) (l1 : level ≤ 3) (b1 : beg ≤ 1099511627776) (hm : most ≤ (ts.length : Int)) :
    Calls Try.prog 6 #[ptr t, .int .i64 level, .int .u64 beg] w fun e w' => e = .returned (.tuple #[.int .i64 0, .int .i64 65]) ∧ ∃ n, w' = w.drewN n := by
  obtain ⟨ao, cap, rfl⟩ := h.nil_or
  have c0 := h.c0
  have c1 := h.c1
  unfold ptr
  go_enter Try.func6, Try.ntmps6
  go_wp2_with fail
  go_quiet (fail)
  go_wp2_with fail
  go_ret2
  exact ⟨rfl, _, rfl⟩
theorem info_ptr : (Try.prog.info? 57).map (fun i => (i.zero, i.size, i.bytes)) = some (some (.pointer none), 1, 8) := by kernel_rfl
theorem own_ne {B : Nat} {w : World} {e t : TypeId} {v : Value} {n b : Nat} {xs : List Value} {cs : Array Value} (h : w.ownsRow B e 1 v n xs) (hb : Blk w b t cs) (hne : e ≠ t) : v.ownBlock ≠ some b := by
  rcases h.2 with ⟨rfl, _⟩ | ⟨g, cap, cur, rfl, hg, hh, r⟩
  · simp [Value.ownBlock]
  · intro hk
    have : g = b := by simpa [Value.ownBlock] using hk
    subst this
    exact (Blk.ne_ (show Blk w g _ cur from hh) hb hne) rfl
theorem getD_append_lt {α : Type} (l : List α) (x d : α) (i : Nat) (h : i < l.length) : (l ++ [x]).getD i d = l.getD i d := by
  simp [List.getD_eq_getElem?_getD, List.getElem?_append_left h]
theorem getD_append_eq {α : Type} (l : List α) (x d : α) (i : Nat) (h : i = l.length) : (l ++ [x]).getD i d = x := by
  subst h; simp [List.getD_eq_getElem?_getD]
/-- What an append of a new transaction's pointer, and the store of the new slice, leave. -/
theorem Tab.grow {B : Nat} {w w3 : World} {t p : Nat} {v v' : Value} {ps : List Nat} {most : Int} {ts : List TX} {x : TX} {o : Obj} (h : Tab B w t v ps most ts) (hx : Blk w p 74 (TX.cells x)) (hp : ∀ k, Foot t v ps k → k ≠ p) (hs : ts.length + 1 ≤ 65535)
    (hown : w3.ownsRow B 57 1 v' (ts.length + 1) (ps.map ptr ++ [ptr p])) (hg : (w.alloc o).grownBy w3 v.ownBlock) :
    (B ≤ p → Tab B (w3.setCell ⟨t, 1, none⟩ v') t v' (ps ++ [p]) most (ts ++ [x])) ∧ Only (Foot t v ps) w (w3.setCell ⟨t, 1, none⟩ v') ∧ Blk w3 t 55 #[.int .i64 most, v] := by
  have keep : ∀ {b : Nat} {ty : TypeId} {cs : Array Value}, Blk w b ty cs → ty ≠ 57 → Blk w3 b ty cs := by
    intro b ty cs hb hty
    have hne := own_ne h.row hb (Ne.symm hty)
    have hb' := hb.alloc o
    unfold Blk at hb' ⊢
    rw [hg.block b (Blk.lt hb') (Ne.symm hne)]
    exact hb'
  have hH := keep h.head (by decide)
  have hH' : Blk (w3.setCell ⟨t, 1, none⟩ v') t 55 #[.int .i64 most, v'] := by simpa using hH.set 1 v'
  refine ⟨fun hBp => ⟨hH', ?_, ?_, ?_, ?_, h.most_, ?_, h.bt, ?_⟩, ?_, hH⟩
  · rw [List.length_append, List.map_append]
    refine ownsRow_only hown ((Only.refl (fun k => k = t) w3).setCell (fun _ => rfl) v') (fun k hk he => ?_)
    subst he
    exact own_ne hown hH (by decide) hk
  · simp [h.len]
  · intro i hi
    simp only [List.length_append, List.length_cons, List.length_nil] at hi
    by_cases hlt : i < ts.length
    · rw [getD_append_lt _ _ _ _ (by rw [h.len]; exact hlt), getD_append_lt _ _ _ _ hlt]
      exact (keep (h.tx i hlt) (by decide)).other _ _ (Ne.symm ((keep h.head (by decide)).ne_ (keep (h.tx i hlt) (by decide)) (by decide)))
    · obtain rfl : i = ts.length := by omega
      rw [getD_append_eq _ _ _ _ h.len.symm, getD_append_eq _ _ _ _ rfl]
      exact (keep hx (by decide)).other _ _ (fun e => hp t (.inl rfl) e.symm)
  · rw [List.nodup_append]
    refine ⟨h.nd, by simp, fun a ha b hb => ?_⟩
    simp at hb
    subst hb
    exact hp a (.inr (.inr ha))
  · simp; omega
  · intro q hq
    simp at hq
    rcases hq with hq | rfl
    · exact h.bp q hq
    · exact hBp
  · refine Only.setCell ?_ (fun _ => .inl rfl) v'
    refine ⟨hg.os, hg.tape, hg.output, Nat.le_trans (by simp) hg.size, fun k hk hn => ?_⟩
    rw [hg.block k (by simp; omega) (fun e => hn (.inr (.inl e.symm)))]
    exact Below.heap_alloc _ _ _ hk

set_option maxRecDepth 100000 in
set_option maxHeartbeats 1600000 in
theorem table_make_ok {B : Nat} {w : World} {t : Nat} {v : Value} {ps : List Nat} {most : Int} {ts : List TX} (h : Tab B w t v ps most ts) (level beg : Int) (l0 : 1 ≤ level) (l1 : level ≤ 3) (b1 : beg ≤ 1099511627776) (hm : (ts.length : Int) < most) :
    Calls Try.prog 6 #[ptr t, .int .i64 level, .int .u64 beg] w fun e w' => e = .returned (.tuple #[.int .i64 (ts.length + 1), .int .i64 0]) ∧
      ∃ v' ps', Tab B w' t v' ps' most (ts ++ [⟨level, beg, 0, 1⟩]) ∧ Only (Foot t v ps) w w' := by
  obtain ⟨ao, cap, hv⟩ := h.nil_or
  have c0 := h.c0
  have c1 := h.c1
  have hs := h.small
  obtain ⟨i0, hi, hz0, hz1, hz2⟩ := info_parts info_ptr
  have hlt := h.head.lt
  have hown := h.row
  have hm_ := h.most_
  unfold ptr
  subst hv
  go_enter Try.func6, Try.ntmps6
  go_wp2_with fail
  go_quiet (fail)
  go_wp2_with fail
  have o1 : Only (Foot t (.slice ao ts.length cap) ps) w ((w.drewN nq).alloc (.cells (TX.cells ⟨level, beg, 0, 0⟩) 74)) := ((Only.refl _ w).drewN nq).alloc _
  have hT1 : Tab B ((w.drewN nq).alloc (.cells (TX.cells ⟨level, beg, 0, 0⟩) 74)) t (.slice ao ts.length cap) ps most ts := h.only (((Only.refl (fun _ => False) w).drewN nq).alloc _) (fun _ _ hf => hf)
  have hX1 : Blk ((w.drewN nq).alloc (.cells (TX.cells ⟨level, beg, 0, 0⟩) 74)) w.heap.size 74 (TX.cells ⟨level, beg, 0, 0⟩) := Blk.new' _ _ _ _ rfl
  have hfl := h.foot_lt
  have z1 : w.heap.size < ((w.drewN nq).alloc (.cells (TX.cells ⟨level, beg, 0, 0⟩) 74)).heap.size := by simp
  change Calls _ _ _ ((w.drewN nq).alloc (.cells (TX.cells ⟨level, beg, 0, 0⟩) 74)) _
  generalize (w.drewN nq).alloc (.cells (TX.cells ⟨level, beg, 0, 0⟩) 74) = w1 at o1 hT1 hX1 z1 ⊢
  have c3 := (tx_c hX1).2.2.2
  have f3 := hX1.free 3
  have hX2 := hX1.set 3 (.int .i64 1)
  rw [cells_st] at hX2
  have hnf : ¬ Foot t (.slice ao ts.length cap) ps w.heap.size := fun hk => by have := hfl _ hk; omega
  have o2 : Only (fun k => k = w.heap.size) w1 (w1.setCell ⟨w.heap.size, 3, none⟩ (.int .i64 1)) := (Only.refl (fun k => k = w.heap.size) w1).setCell (fun _ => rfl) _
  have hT2 := hT1.only o2 (fun k hk he => hnf (he ▸ hk))
  have o3 : Only (Foot t (.slice ao ts.length cap) ps) w (w1.setCell ⟨w.heap.size, 3, none⟩ (.int .i64 1)) := o1.setCell (fun hk => absurd hk (by simp)) _
  have z2 := o2.size
  refine (i64_store w.heap.size 3 _ 1 w1 c3 f3).mono ?_
  rintro e w2 ⟨rfl, rfl⟩
  generalize w1.setCell ⟨w.heap.size, 3, none⟩ (.int .i64 1) = w2 at hX2 o2 hT2 o3 z2 ⊢
  clear c3 f3 hX1 hT1 o1 o2 hown c0 c1 h
  have c1 := hT2.c1
  have hown := hT2.row
  go_wp2_with (at_builtin; refine wpList_append_own _ rfl _ _ 53 rfl B 57 i0 (.pointer none) 1 8 Try.underlying53 hi hz0 hz1 hz2 rfl (by decide) _ _ _ rfl (hown.alloc _) ⟨w2.heap.size, 0, none⟩ 1 1 [ptr w.heap.size] rfl rfl ?c1 ?c2 ?c3 ?c4 ?c5 ?_)
  case c1 =>
    intro j u hj
    match j, hj with
    | 0, hj => simp at hj; subst hj; simp [Addr.add, ptr]
  case c2 => intro u hu; simp at hu; subst hu; rfl
  case c3 => unfold maxLen; omega
  case c4 => omega
  case c5 => have h1 := hT2.bt; have h2 := hT2.head.lt; simp; omega
  intro v' w3 hown3 hgrow _
  have R := hT2.grow hX2 (fun k hk => fun he => hnf (he ▸ hk)) (by omega) hown3 hgrow
  have hbg : B ≤ w.heap.size := by have := hT2.bt; omega
  have R1 := R.1 hbg
  have R2 := o3.trans R.2.1
  have hB3 := R.2.2
  have c31 := hB3.cell 1
  have f31 := hB3.free 1
  clear R hT2 hX2 hown hgrow hown3 c1 o3
  have hex := R1.nil_or
  obtain ⟨ao', cap', hv'⟩ := hex
  rw [List.length_append] at hv'
  subst hv'
  go_wp2_with fail
  go_ret2
  exact ⟨rfl, _, _, R1, R2⟩
end Go.Proofs.Ytlomgbnggmaeeaa

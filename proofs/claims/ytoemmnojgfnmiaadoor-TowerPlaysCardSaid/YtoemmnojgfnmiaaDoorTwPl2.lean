/-
  TowerPlays: both Towers, and the law's own struct variable: what each call does to them.
-/
import Derived.Test.YtoemmnojgfnmiaaDoorPlays
namespace Go.Proofs.YtoemmnojgfnmiaaDoor
open Go.RowKit Go.ChangeShapes Go.WideShapes Go.Deep
set_option linter.unusedVariables false
set_option linter.unusedSimpArgs false

def opKinds : List IntKind := [.i64, .i64, .i64]
theorem plain_op {H : Type} {enc : TypeId × Value → H} {W : World} : Plain enc Tryd.prog W 0 (fun _ => true) true 31 opKinds := by
  have i1 : Plain enc Tryd.prog W 0 (fun _ => true) true 3 [.i64] := Plain.int Tryd.underlying3 (by kernel_rfl)
  refine Plain.struct Tryd.underlying31 (by kernel_rfl) ?_
  change FP enc Tryd.prog W 0 _ true 0 [_, _, _] ([.i64] ++ ([.i64] ++ ([.i64] ++ [])))
  exact FP.cons i1 rfl (FP.cons i1 rfl (FP.cons i1 rfl (FP.nil _)))
theorem take_Op {H : Type} {enc : TypeId × Value → H} {W : World} {a : Option Addr} {len cap : Nat} {d : DataW H} {p : List MemPlace} {ts : List TypeId} {ds : List (DataW H)} (j : Nat)
    (h : DataW.Trod enc Tryd.prog W 0 (fun _ => true) true 22 (.slice a len cap) d p) (hsz : (DataW.weightsEach Tryd.prog ts ds).all (· ≤ reachBytes) = true) (hj : ts[j]? = some 22) (hd : ds[j]? = some d) :
    ∃ rows : List (List Int), rows.length = len ∧ (Recs opKinds W a rows ∧ ∀ r ∈ rows, r.length = opKinds.length ∧ wfs opKinds r) ∧ len * 24 ≤ 140737488351232 ∧ len ≤ cap ∧ cap ≤ 9223372036854775807 :=
  take_recs j Tryd.underlying22 plain_op (by decide) (by kernel_rfl) h hsz hj hd
theorem rec3 {r : List Int} (hl : r.length = 3) : ∃ K I N : Int, zipInts opKinds r = [.int .i64 K, .int .i64 I, .int .i64 N] := by
  match r, hl with
  | [K, I, N], _ => exact ⟨K, I, N, rfl⟩
theorem getD_mem' {l : List (List Int)} {k : Nat} (hk : k < l.length) : l.getD k [] ∈ l := by
  rw [List.getD_eq_getElem?_getD, List.getElem?_eq_getElem hk]; exact List.getElem_mem _
theorem RW.lts {w0 w : World} {t a b r : Nat} {H : Nat → Nat} (h : RW w0 w t a b r H) : a < w.heap.size ∧ b < w.heap.size ∧ r < w.heap.size :=
  ⟨h.tw.lts.2.1, h.tw.lts.2.2, Blk.lt h.rf⟩
/-- The keys of a level, of any number as a level. -/
def lvl (H : Nat → Nat) (h : Int) : List Nat := if 1 ≤ h ∧ h ≤ 4 then kl H (h - 1).toNat else []
theorem lvl_len (H : Nat → Nat) (h : Int) : (lvl H h).length ≤ 64 := by
  unfold lvl; split
  · exact kl_len H _
  · simp
theorem tw_lvl {w0 w : World} {t a b : Nat} {H : Nat → Nat} (h : TW w0 w t a b H) (hT : Tab w0) (N : Int) :
    Calls Tryd.prog 16 #[.pointer (some ⟨t, 0, none⟩), .int .i64 N] w fun e w' => ∃ x c, e = .returned (.slice x (lvl H N).length c) ∧ Told w.heap.size (.slice x (lvl H N).length c) w' (lvl H N) ∧ TW w0 w' t a b H ∧ Only (Two a b) w w' := by
  by_cases hN : 1 ≤ N ∧ N ≤ 4
  · obtain ⟨l, hl⟩ : ∃ l : Nat, N = (l : Int) + 1 := ⟨(N - 1).toNat, by omega⟩
    have hk : lvl H N = kl H l := by
      rw [lvl, if_pos hN, hl]; congr 1; omega
    rw [hk]; subst hl
    refine (tw_level h hT l (by omega) _ rfl).mono ?_
    rintro e w' ⟨x, c, rfl, _, _, q3, _, q4, q5⟩
    exact ⟨x, c, rfl, q3, q4, q5⟩
  · have hk : lvl H N = [] := if_neg hN
    rw [hk]
    refine (level_off N (by omega)).mono ?_
    rintro e w' ⟨rfl, rfl⟩
    exact ⟨none, 0, rfl, Told.nil _ _, h, Only.refl _ _⟩
theorem ref_lvl {w : World} {r : Nat} {H : Nat → Nat} (h : IsRef w r H) (N : Int) :
    Calls Tryd.prog 17 #[.pointer (some ⟨r, 0, none⟩), .int .i64 N] w fun e w' => ∃ x c, e = .returned (.slice x (lvl H N).length c) ∧ Told w.heap.size (.slice x (lvl H N).length c) w' (lvl H N) ∧ Only0 w w' := by
  by_cases hN : 1 ≤ N ∧ N ≤ 4
  · obtain ⟨l, hl⟩ : ∃ l : Nat, N = (l : Int) + 1 := ⟨(N - 1).toNat, by omega⟩
    have hk : lvl H N = kl H l := by
      rw [lvl, if_pos hN, hl]; congr 1; omega
    rw [hk]; subst hl
    refine (ref_level_on h l (by omega)).mono ?_
    rintro e w' ⟨v, rfl, q3, q4⟩
    obtain ⟨x, c, rfl, _, _, _, _⟩ := q3.form
    exact ⟨x, c, rfl, q3, q4⟩
  · have hk : lvl H N = [] := if_neg hN
    rw [hk]
    refine (ref_level_off N (by omega)).mono ?_
    rintro e w' ⟨rfl, rfl⟩
    exact ⟨none, 0, rfl, Told.nil _ _, Only0.refl _⟩
theorem ref_range_s {w : World} {r : Nat} {H : Nat → Nat} (h : IsRef w r H) (lo hi : Int) :
    Calls Tryd.prog 10 #[.pointer (some ⟨r, 0, none⟩), .int .i64 lo, .int .i64 hi] w fun e w' => ∃ x c, e = .returned (.slice x (rangeK H lo hi).length c) ∧ Told w.heap.size (.slice x (rangeK H lo hi).length c) w' (rangeK H lo hi) ∧ Only0 w w' := by
  refine (ref_range h lo hi).mono ?_
  rintro e w' ⟨v, rfl, q3, q4⟩
  obtain ⟨x, c, rfl, _, _, _, _⟩ := q3.form
  exact ⟨x, c, rfl, q3, q4⟩
theorem rangeK_len (H : Nat → Nat) (lo hi : Int) : (rangeK H lo hi).length ≤ 64 := by
  have := List.length_filter_le (inR lo hi) (kl H 0)
  have := kl_len H 0
  unfold rangeK; omega
theorem range_all (H : Nat → Nat) : rangeK H 0 63 = kl H 0 := by
  rw [rangeK]
  apply List.filter_eq_self.2
  intro k hk
  rw [kl, List.mem_filter, List.mem_range] at hk
  simp [inR]; omega
theorem fromK_lt' {H : Nat → Nat} {key : Int} {k : Nat} (h : fromK H key = some k) : k < 64 := by
  rw [fromK, List.find?_range_eq_some] at h; exact List.mem_range.1 h.2.1
theorem range_head {H : Nat → Nat} (key : Int) : (rangeK H key 63).head? = fromK H key := by
  rw [range_from]
  cases h : fromK H key with
  | none => rfl
  | some k => have := fromK_lt' h; simp only; rw [if_pos (by omega)]

/-- The Tower (of heights H), the document's Tower (of heights G), the law's own struct variable. -/
structure TY (w0 w : World) (t a b r ob : Nat) (H G : Nat → Nat) (Kd I N : Int) : Prop where
  tw : TW w0 w t a b H
  rf : IsRef w r G
  ox : Blk w ob 31 #[.int .i64 Kd, .int .i64 I, .int .i64 N]
  gr : w0.heap.size ≤ r
  nr : ¬ Two a b r
  nt : t ≠ r
  nob : ¬ Two a b ob
  nor : ob ≠ r
variable {w0 w : World} {t a b r ob : Nat} {H G : Nat → Nat} {Kd I N : Int}
theorem TY.c1 (h : TY w0 w t a b r ob H G Kd I N) : w.cell? ⟨ob, 1, none⟩ = some (.int .i64 I) := by rw [Blk.cell h.ox]; rfl
theorem TY.c2 (h : TY w0 w t a b r ob H G Kd I N) : w.cell? ⟨ob, 2, none⟩ = some (.int .i64 N) := by rw [Blk.cell h.ox]; rfl
theorem TY.c0 (h : TY w0 w t a b r ob H G Kd I N) : w.cell? ⟨ob, 0, none⟩ = some (.int .i64 Kd) := by rw [Blk.cell h.ox]; rfl
theorem TY.step {w' : World} {H' : Nat → Nat} (h : TY w0 w t a b r ob H G Kd I N) (h' : TW w0 w' t a b H') (o : Only (Two a b) w w') : TY w0 w' t a b r ob H' G Kd I N :=
  ⟨h', Only.blk o h.rf h.nr, Only.blk o h.ox h.nob, h.gr, h.nr, h.nt, h.nob, h.nor⟩
theorem TY.na (h : TY w0 w t a b r ob H G Kd I N) : a ≠ r := fun e => h.nr (.inl e.symm)
theorem TY.nb (h : TY w0 w t a b r ob H G Kd I N) : b ≠ r := fun e => h.nr (.inr e.symm)
theorem TY.stepR {w' : World} {G' : Nat → Nat} (h : TY w0 w t a b r ob H G Kd I N) (hT : Tab w0) (h' : IsRef w' r G') (o : Only (fun b => b = r) w w') : TY w0 w' t a b r ob H G' Kd I N :=
  ⟨h.tw.keep hT o (fun k hk => by subst hk; exact h.gr) h.nt h.na h.nb, h', Only.blk o h.ox h.nor, h.gr, h.nr, h.nt, h.nob, h.nor⟩
theorem TY.only0 {w' : World} (h : TY w0 w t a b r ob H G Kd I N) (hT : Tab w0) (o : Only0 w w') : TY w0 w' t a b r ob H G Kd I N :=
  ⟨h.tw.keep hT (S := fun _ => False) o (fun _ h => h.elim) (fun h => h) (fun h => h) (fun h => h), Only.blk o h.rf (fun h => h), Only.blk o h.ox (fun h => h), h.gr, h.nr, h.nt, h.nob, h.nor⟩
theorem TY.put (h : TY w0 w t a b r ob H G Kd I N) (hT : Tab w0) (k n : Nat) (hk : k < 64) : TY w0 (w.setCell ⟨r, k, none⟩ (.int .i64 (n : Nat))) t a b r ob H (upd G k n) Kd I N :=
  h.stepR hT (h.rf.set k n hk) (Only.setCell (p := ⟨r, k, none⟩) (Only.refl (fun b => b = r) w) (fun _ => rfl) _)
theorem TY.rcell (h : TY w0 w t a b r ob H G Kd I N) (k : Nat) (hk : k < 64) : w.cell? ⟨r, k, none⟩ = some (.int .i64 (G k)) := h.rf.cell k hk
theorem TY.rfree (h : TY w0 w t a b r ob H G Kd I N) (k : Nat) : w.frozen? ⟨r, k, none⟩ = false := Blk.free h.rf k
theorem any2 {w w' : World} (o : Only0 w w') : Only (Two a b) w w' := o.any _
theorem TY.c_put (h : TY w0 w t a b r ob H G Kd I N) (hT : Tab w0) (key n : Int) : Calls Tryd.prog 6 #[.pointer (some ⟨t, 0, none⟩), .int .i64 key, .int .i64 n] w fun e w' => e = .returned (.tuple #[.bool (putB H key n), .int .i64 (putE key n)]) ∧ TY w0 w' t a b r ob (putF H key n) G Kd I N := by
  refine (tw_put_f h.tw hT key n).mono ?_
  rintro e w' ⟨he, h', o⟩
  exact ⟨he, h.step h' o⟩
theorem TY.c_rput (h : TY w0 w t a b r ob H G Kd I N) (hT : Tab w0) (key n : Int) : Calls Tryd.prog 7 #[.pointer (some ⟨r, 0, none⟩), .int .i64 key, .int .i64 n] w fun e w' => e = .returned (.tuple #[.bool (putB G key n), .int .i64 (putE key n)]) ∧ TY w0 w' t a b r ob H (putF G key n) Kd I N := by
  refine (ref_put_f h.rf key n).mono ?_
  rintro e w' ⟨he, h', o⟩
  exact ⟨he, h.stepR hT h' o⟩
theorem TY.c_drop (h : TY w0 w t a b r ob H G Kd I N) (hT : Tab w0) (key : Int) : Calls Tryd.prog 8 #[.pointer (some ⟨t, 0, none⟩), .int .i64 key] w fun e w' => e = .returned (.bool (decide (0 < hgt H key))) ∧ TY w0 w' t a b r ob (dropF H key) G Kd I N ∧ Only (Two a b) w w' := by
  refine (tw_drop_f h.tw hT key).mono ?_
  rintro e w' ⟨he, h', o⟩
  exact ⟨he, h.step h' o, o⟩
theorem TY.c_from (h : TY w0 w t a b r ob H G Kd I N) (hT : Tab w0) (key : Int) : Calls Tryd.prog 9 #[.pointer (some ⟨t, 0, none⟩), .int .i64 key] w fun e w' => e = .returned (fromV (fromK H key)) ∧ TY w0 w' t a b r ob H G Kd I N := by
  refine (tw_from h.tw hT key _ rfl _ rfl).mono ?_
  rintro e w' ⟨he, h', o⟩
  exact ⟨he, h.step h' o⟩
theorem TY.c_rrange (h : TY w0 w t a b r ob H G Kd I N) (hT : Tab w0) (lo hi : Int) : Calls Tryd.prog 10 #[.pointer (some ⟨r, 0, none⟩), .int .i64 lo, .int .i64 hi] w fun e w' => (∃ x c, e = .returned (.slice x (rangeK G lo hi).length c) ∧ Told w.heap.size (.slice x (rangeK G lo hi).length c) w' (rangeK G lo hi)) ∧ TY w0 w' t a b r ob H G Kd I N ∧ Only (Two a b) w w' := by
  refine (ref_range_s h.rf lo hi).mono ?_
  rintro e w' ⟨x, c, he, ht, o⟩
  exact ⟨⟨x, c, he, ht⟩, h.only0 hT o, any2 o⟩
theorem TY.c_has (h : TY w0 w t a b r ob H G Kd I N) (hT : Tab w0) (key : Int) (v : Bool) (hv : decide (0 < hgt H key) = v) : Calls Tryd.prog 11 #[.pointer (some ⟨t, 0, none⟩), .int .i64 key] w fun e w' => e = .returned (.bool v) ∧ TY w0 w' t a b r ob H G Kd I N ∧ Only (Two a b) w w' := by
  refine (tw_has h.tw hT key v hv).mono ?_
  rintro e w' ⟨he, h', o⟩
  exact ⟨he, h.step h' o, o⟩
theorem TY.c_height (h : TY w0 w t a b r ob H G Kd I N) (hT : Tab w0) (key g : Int) (hg : g = (hgt H key : Int)) : Calls Tryd.prog 12 #[.pointer (some ⟨t, 0, none⟩), .int .i64 key] w fun e w' => e = .returned (.int .i64 g) ∧ TY w0 w' t a b r ob H G Kd I N ∧ Only (Two a b) w w' := by
  subst hg
  refine (tw_height h.tw hT key _ rfl).mono ?_
  rintro e w' ⟨he, h', o⟩
  exact ⟨he, h.step h' o, o⟩
theorem TY.c_steps (h : TY w0 w t a b r ob H G Kd I N) (hT : Tab w0) (key g : Int) (hg : g = (stepsK H key : Int)) : Calls Tryd.prog 13 #[.pointer (some ⟨t, 0, none⟩), .int .i64 key] w fun e w' => e = .returned (.int .i64 g) ∧ TY w0 w' t a b r ob H G Kd I N ∧ Only (Two a b) w w' := by
  subst hg
  refine (tw_steps h.tw hT key _ rfl).mono ?_
  rintro e w' ⟨he, h', o⟩
  exact ⟨he, h.step h' o, o⟩
theorem TY.c_rsteps (h : TY w0 w t a b r ob H G Kd I N) (hT : Tab w0) (key g : Int) (hg : g = (stepsK G key : Int)) : Calls Tryd.prog 14 #[.pointer (some ⟨r, 0, none⟩), .int .i64 key] w fun e w' => e = .returned (.int .i64 g) ∧ w = w' := by
  subst hg
  exact ref_steps h.rf key
theorem TY.c_level (h : TY w0 w t a b r ob H G Kd I N) (hT : Tab w0) (n : Int) (ks : List Nat) (hk : ks = lvl H n) : Calls Tryd.prog 16 #[.pointer (some ⟨t, 0, none⟩), .int .i64 n] w fun e w' => (∃ x c, e = .returned (.slice x ks.length c) ∧ Told w.heap.size (.slice x ks.length c) w' ks) ∧ TY w0 w' t a b r ob H G Kd I N ∧ Only (Two a b) w w' := by
  subst hk
  refine (tw_lvl h.tw hT n).mono ?_
  rintro e w' ⟨x, c, he, ht, h', o⟩
  exact ⟨⟨x, c, he, ht⟩, h.step h' o, o⟩
theorem TY.c_rlevel (h : TY w0 w t a b r ob H G Kd I N) (hT : Tab w0) (n : Int) (ks : List Nat) (hk : ks = lvl G n) {x : Option Addr} {c B : Nat} (h0 : Told B (.slice x ks.length c) w ks) : Calls Tryd.prog 17 #[.pointer (some ⟨r, 0, none⟩), .int .i64 n] w fun e w' => (∃ x' c', e = .returned (.slice x' ks.length c') ∧ Ints .i64 w' x' (toInts ks) ∧ Ints .i64 w' x (toInts ks)) ∧ TY w0 w' t a b r ob H G Kd I N ∧ Only (Two a b) w w' := by
  subst hk
  refine (ref_lvl h.rf n).mono ?_
  rintro e w' ⟨x', c', he, ht, o⟩
  obtain ⟨x2, c2, e2, _, _, i2, _⟩ := ht.form
  injection e2 with e2 _ _
  subst e2
  exact ⟨⟨_, _, he, i2, told_keep h0 o (fun _ h => h.elim)⟩, h.only0 hT o, any2 o⟩
theorem lvl_few (H : Nat → Nat) (n : Int) (ks : List Nat) (hk : ks = lvl H n) : ks.length ≤ 64 := by subst hk; exact lvl_len H n
theorem TY.c_same (h : TY w0 w t a b r ob H G Kd I N) (hT : Tab w0) {x x' : Option Addr} {c c' : Nat} {ks : List Nat} (hx : Ints .i64 w x (toInts ks)) (hy : Ints .i64 w x' (toInts ks)) (hk : ks.length ≤ 64) : Calls Tryd.prog 15 #[.slice x ks.length c, .slice x' ks.length c'] w fun e w' => e = .returned (.bool true) ∧ TY w0 w' t a b r ob H G Kd I N ∧ Only (Two a b) w w' := by
  have e1 : (toInts ks).length = ks.length := toInts_length ks
  have hc := sameInts_any x x' c c' (toInts ks) (toInts ks) w hx hy (by omega) (by omega)
  rw [e1] at hc
  refine hc.mono ?_
  rintro e w' ⟨rfl, m, rfl⟩
  exact ⟨by rw [decide_eq_true rfl], h.only0 hT ((Only0.refl w).drewN m), any2 ((Only0.refl w).drewN m)⟩
theorem nat_same {x x' : Option Addr} {c c' : Nat} {ks : List Nat} {w : World} (hx : Ints .i64 w x (toInts ks)) (hy : Ints .i64 w x' (toInts ks)) (hk : ks.length ≤ 64) : Calls Tryd.prog 15 #[.slice x ks.length c, .slice x' ks.length c'] w fun e w' => e = .returned (.bool true) ∧ Only0 w w' := by
  have e1 : (toInts ks).length = ks.length := toInts_length ks
  have hc := sameInts_any x x' c c' (toInts ks) (toInts ks) w hx hy (by omega) (by omega)
  rw [e1] at hc
  refine hc.mono ?_
  rintro e w' ⟨rfl, m, rfl⟩
  exact ⟨by rw [decide_eq_true rfl], (Only0.refl w).drewN m⟩
theorem TY.c_len (h : TY w0 w t a b r ob H G Kd I N) (hT : Tab w0) (n : Nat) (hn : n = (rangeK H 0 63).length) : Calls Tryd.prog 18 #[.pointer (some ⟨t, 0, none⟩)] w fun e w' => e = .returned (.int .i64 n) ∧ TY w0 w' t a b r ob H G Kd I N ∧ Only (Two a b) w w' := by
  refine (tw_len h.tw hT n (by rw [hn, range_all])).mono ?_
  rintro e w' ⟨he, h', o⟩
  exact ⟨he, h.step h' o, o⟩
theorem TY.c_rlen (h : TY w0 w t a b r ob H G Kd I N) (hT : Tab w0) (n : Nat) (hn : n = (rangeK G 0 63).length) : Calls Tryd.prog 10 #[.pointer (some ⟨r, 0, none⟩), .int .i64 0, .int .i64 63] w fun e w' => (∃ x c, e = .returned (.slice x n c)) ∧ TY w0 w' t a b r ob H G Kd I N ∧ Only (Two a b) w w' := by
  subst hn
  refine (h.c_rrange hT 0 63).mono ?_
  rintro e w' ⟨⟨x, c, he, ht⟩, h'⟩
  exact ⟨⟨x, c, he⟩, h'⟩
/-- Behind Range from a key to 63: what is next. -/
theorem TY.c_next (h : TY w0 w t a b r ob H G Kd I N) (hT : Tab w0) (key : Int) : Calls Tryd.prog 10 #[.pointer (some ⟨r, 0, none⟩), .int .i64 key, .int .i64 63] w fun e w' =>
    ((fromK G key = none ∧ ∃ x c, e = .returned (.slice x 0 c)) ∨ (∃ kk n g c, fromK G key = some kk ∧ 0 < n ∧ n ≤ 64 ∧ e = .returned (.slice (some ⟨g, 0, none⟩) n c) ∧ ¬ Two a b g ∧ w'.cell? ⟨g, 0, none⟩ = some (.int .i64 (kk : Nat)))) ∧ TY w0 w' t a b r ob H G Kd I N := by
  refine (h.c_rrange hT key 63).mono ?_
  rintro e w' ⟨⟨x, c, he, t4⟩, h', o⟩
  refine ⟨?_, h'⟩
  have hRl := rangeK_len G key 63
  have hRh := range_head (H := G) key
  generalize rangeK G key 63 = ks at he t4 hRl hRh
  cases hfr : fromK G key with
  | none =>
    rw [hfr] at hRh
    have : ks = [] := by cases ks with | nil => rfl | cons u v => cases hRh
    subst this
    exact .inl ⟨rfl, x, c, he⟩
  | some kk =>
    rw [hfr] at hRh
    have kl0 : 0 < ks.length := by cases ks with | nil => cases hRh | cons u v => simp
    have kd0 : ks.getD 0 0 = kk := by cases ks with | nil => cases hRh | cons u v => injection hRh
    obtain ⟨g, rfl, hc⟩ := t4.cellAt 0 kl0
    have hg3 := ((World.ownsRow.lt t4) g rfl).1
    have hl := h.tw.lts
    rw [kd0] at hc
    exact .inr ⟨kk, ks.length, g, c, rfl, kl0, hRl, he, (by rintro (e | e) <;> omega), hc⟩
theorem key3 (I : Int) : isKeyB I = false ∨ ∃ k : Nat, k < 64 ∧ I = k ∧ isKeyB I = true := by
  cases h : isKeyB I
  · exact .inl rfl
  · obtain ⟨h0, h1⟩ := (isKeyB_iff I).1 h
    exact .inr ⟨I.toNat, by omega, by omega, rfl⟩
theorem key_out {I : Int} (h : isKeyB I = false) : I < 0 ∨ (0 ≤ I ∧ 63 < I) := by
  by_cases hc : 0 ≤ I ∧ I ≤ 63
  · rw [(isKeyB_iff I).2 hc] at h; cases h
  · omega
theorem hgt_out {H : Nat → Nat} {I : Int} (h : isKeyB I = false) : hgt H I = 0 := by simp [hgt, h]
end Go.Proofs.YtoemmnojgfnmiaaDoor

/-
  ReadsPlays: all that it has in memory, and what the calls of a round do to it.
-/
import Derived.Test.YthjhhclgmkgigaaLaw13
import Derived.Test.YthjhhclgmkgigaaReadArg
import Derived.Deep.AppendLies
namespace Go.Proofs.Ythjhhclgmkgigaa
open Go.RowKit
set_option linter.unusedVariables false
set_option linter.unusedSimpArgs false

/-- The links of the keys, in order. -/
def lkRow (ks : List Int) (lk : Nat → Int) : List Int := ks.map (fun k => lk k.toNat)
theorem lkRow_len (ks : List Int) (lk : Nat → Int) : (lkRow ks lk).length = ks.length := by simp [lkRow]
/-- The law's own rows: the keys, their links, the ranges (their links lie in the argument's memory). -/
structure PR (w0 w : World) (P : Nat → Prop) (s : Nat) (kv lv sv : Value) (ks : List Int) (lk : Nat → Int) (rs : List Rg) (ss : List SP) : Prop where
  set : SW w0 w P s ks lk rs
  krow : w.ownsRow w0.heap.size 3 1 kv ks.length (ks.map (Value.int .i64))
  lrow : w.ownsRow w0.heap.size 22 1 lv ks.length ((lkRow ks lk).map (Value.int .u64))
  srow : w.ownsRow w0.heap.size 37 3 sv ss.length (spRow ss)
  len : ss.length = rs.length
  at_ : ∀ i, i < ss.length → (ss.getD i default).lo = (rs.getD i default).lo ∧ (ss.getD i default).hi = (rs.getD i default).hi ∧ (ss.getD i default).ln = (rs.getD i default).ls.length ∧ Ints .u64 w0 (ss.getD i default).la (rs.getD i default).ls ∧ (rs.getD i default).ls.length ≤ 100
  apk : Apart P (rowOf kv)
  apl : Apart P (rowOf lv)
  aps : Apart P (rowOf sv)
theorem PR.only0 {w0 w w' : World} {P : Nat → Prop} {s : Nat} {kv lv sv : Value} {ks : List Int} {lk : Nat → Int} {rs : List Rg} {ss : List SP} (h : PR w0 w P s kv lv sv ks lk rs ss) (o : Only0 w w') : PR w0 w' P s kv lv sv ks lk rs ss :=
  ⟨h.set.only0 o, rows_only h.krow (S := fun _ => False) o (fun _ _ hf => hf), rows_only h.lrow (S := fun _ => False) o (fun _ _ hf => hf), rows_only h.srow (S := fun _ => False) o (fun _ _ hf => hf), h.len, h.at_, h.apk, h.apl, h.aps⟩
theorem lkRow_add {ks : List Int} {lk : Nat → Int} (k : Nat) (x : Int) (kr : ∀ q ∈ ks, 0 ≤ q ∧ q ≤ 63) (hm : (k : Int) ∉ ks) : lkRow (ks ++ [(k : Int)]) (addL ks lk k x) = lkRow ks lk ++ [x] := by
  unfold lkRow addL
  rw [if_neg hm, List.map_append]
  congr 1
  · refine List.map_congr_left (fun q hq => ?_)
    have := kr q hq
    have h : ¬ q.toNat = k := fun e => hm (by rw [← e, Int.toNat_of_nonneg this.1]; exact hq)
    simp [lkSet, h]
  · simp [lkSet]
/-- Behind an Add of a key that was there, or of none: nothing of the rows has turned. -/
theorem PR.addOld {w0 w w' : World} {P P' : Nat → Prop} {s : Nat} {kv lv sv : Value} {ks : List Int} {lk : Nat → Int} {rs : List Rg} {ss : List SP} (h : PR w0 w P s kv lv sv ks lk rs ss) (h' : SetAt w0.heap.size w' P' s ks lk rs) (o : Only P w w') (g : Grew w.heap.size P P') : PR w0 w' P' s kv lv sv ks lk rs ss :=
  ⟨h.set.step h' o, rows_only h.krow o h.apk.symm, rows_only h.lrow o h.apl.symm, rows_only h.srow o h.aps.symm, h.len, h.at_, h.apk.grew g (rows_under h.krow), h.apl.grew g (rows_under h.lrow), h.aps.grew g (rows_under h.srow)⟩
/-- The rows while the set is ahead of them by one key. -/
structure PA (w0 w : World) (P : Nat → Prop) (s : Nat) (kv lv sv : Value) (ks : List Int) (ll : List Int) (ks' : List Int) (lk' : Nat → Int) (rs : List Rg) (ss : List SP) : Prop where
  set : SW w0 w P s ks' lk' rs
  krow : w.ownsRow w0.heap.size 3 1 kv ks.length (ks.map (Value.int .i64))
  lrow : w.ownsRow w0.heap.size 22 1 lv ll.length (ll.map (Value.int .u64))
  srow : w.ownsRow w0.heap.size 37 3 sv ss.length (spRow ss)
  len : ss.length = rs.length
  at_ : ∀ i, i < ss.length → (ss.getD i default).lo = (rs.getD i default).lo ∧ (ss.getD i default).hi = (rs.getD i default).hi ∧ (ss.getD i default).ln = (rs.getD i default).ls.length ∧ Ints .u64 w0 (ss.getD i default).la (rs.getD i default).ls ∧ (rs.getD i default).ls.length ≤ 100
  apk : Apart P (rowOf kv)
  apl : Apart P (rowOf lv)
  aps : Apart P (rowOf sv)
theorem PA.only0 {w0 w w' : World} {P : Nat → Prop} {s : Nat} {kv lv sv : Value} {ks ll ks' : List Int} {lk' : Nat → Int} {rs : List Rg} {ss : List SP} (h : PA w0 w P s kv lv sv ks ll ks' lk' rs ss) (o : Only0 w w') : PA w0 w' P s kv lv sv ks ll ks' lk' rs ss :=
  ⟨h.set.only0 o, rows_only h.krow (S := fun _ => False) o (fun _ _ hf => hf), rows_only h.lrow (S := fun _ => False) o (fun _ _ hf => hf), rows_only h.srow (S := fun _ => False) o (fun _ _ hf => hf), h.len, h.at_, h.apk, h.apl, h.aps⟩
theorem PR.addNew {w0 w w' : World} {P P' : Nat → Prop} {s : Nat} {kv lv sv : Value} {ks ks' : List Int} {lk lk' : Nat → Int} {rs : List Rg} {ss : List SP} (h : PR w0 w P s kv lv sv ks lk rs ss) (h' : SetAt w0.heap.size w' P' s ks' lk' rs) (o : Only P w w') (g : Grew w.heap.size P P') : PA w0 w' P' s kv lv sv ks (lkRow ks lk) ks' lk' rs ss :=
  ⟨h.set.step h' o, rows_only h.krow o h.apk.symm, by rw [lkRow_len]; exact rows_only h.lrow o h.apl.symm, rows_only h.srow o h.aps.symm, h.len, h.at_, h.apk.grew g (rows_under h.krow), h.apl.grew g (rows_under h.lrow), h.aps.grew g (rows_under h.srow)⟩
theorem own_app {w w2 : World} {v : Value} {n g cap : Nat} {ob : Obj} (hgrow : (w.alloc ob).grownBy w2 v.ownBlock) (hat : v.ownBlock = some g ∨ g = w.heap.size + 1) : Only (rowOf v) w w2 ∧ Grew w.heap.size (rowOf v) (rowOf (.slice (some ⟨g, 0, none⟩) n cap)) := by
  refine ⟨Only.grownP ((Only.refl _ w).alloc ob) hgrow (fun k hk _ => hk), fun b hb => ?_⟩
  have := rowOf_some.1 hb
  subst this
  rcases hat with h | h
  · exact .inl h
  · exact .inr (by omega)
/-- The key is put into its row. -/
theorem PA.appK {w0 w w2 : World} {P : Nat → Prop} {s g cap : Nat} {kv lv sv : Value} {ks ll ks' : List Int} {lk' : Nat → Int} {rs : List Rg} {ss : List SP} {ob : Obj} {x : Int} (h : PA w0 w P s kv lv sv ks ll ks' lk' rs ss)
    (hown : w2.ownsRow w0.heap.size 3 1 (.slice (some ⟨g, 0, none⟩) (ks.length + 1) cap) (ks.length + 1) (ks.map (Value.int .i64) ++ [.int .i64 x])) (hgrow : (w.alloc ob).grownBy w2 kv.ownBlock) (hat : kv.ownBlock = some g ∨ g = w.heap.size + 1) :
    PA w0 w2 P s (.slice (some ⟨g, 0, none⟩) (ks.length + 1) cap) lv sv (ks ++ [x]) ll ks' lk' rs ss := by
  obtain ⟨o, gr⟩ := own_app (n := ks.length + 1) (cap := cap) hgrow hat
  have hb := h.set.bel
  exact ⟨⟨h.set.set.only o h.apk, hb.trans (o.below _ hb.size (fun b hb => (h.krow.lt b hb).1))⟩, by simpa using hown, rows_only h.lrow o (rows_apart h.lrow h.krow (by decide)), rows_only h.srow o (rows_apart h.srow h.krow (by decide)), h.len, h.at_, h.apk.grew' gr h.set.set.under, h.apl, h.aps⟩
/-- The link is put into its row. -/
theorem PA.appL {w0 w w2 : World} {P : Nat → Prop} {s g cap : Nat} {kv lv sv : Value} {ks ll ks' : List Int} {lk' : Nat → Int} {rs : List Rg} {ss : List SP} {ob : Obj} {x : Int} (h : PA w0 w P s kv lv sv ks ll ks' lk' rs ss)
    (hown : w2.ownsRow w0.heap.size 22 1 (.slice (some ⟨g, 0, none⟩) (ll.length + 1) cap) (ll.length + 1) (ll.map (Value.int .u64) ++ [.int .u64 x])) (hgrow : (w.alloc ob).grownBy w2 lv.ownBlock) (hat : lv.ownBlock = some g ∨ g = w.heap.size + 1) :
    PA w0 w2 P s kv (.slice (some ⟨g, 0, none⟩) (ll.length + 1) cap) sv ks (ll ++ [x]) ks' lk' rs ss := by
  obtain ⟨o, gr⟩ := own_app (n := ll.length + 1) (cap := cap) hgrow hat
  have hb := h.set.bel
  exact ⟨⟨h.set.set.only o h.apl, hb.trans (o.below _ hb.size (fun b hb => (h.lrow.lt b hb).1))⟩, rows_only h.krow o (rows_apart h.krow h.lrow (by decide)), by simpa using hown, rows_only h.srow o (rows_apart h.srow h.lrow (by decide)), h.len, h.at_, h.apk, h.apl.grew' gr h.set.set.under, h.aps⟩
theorem PA.done {w0 w : World} {P : Nat → Prop} {s : Nat} {kv lv sv : Value} {ks ll : List Int} {lk : Nat → Int} {rs : List Rg} {ss : List SP} (h : PA w0 w P s kv lv sv ks ll ks lk rs ss) (hl : ll = lkRow ks lk) : PR w0 w P s kv lv sv ks lk rs ss :=
  ⟨h.set, h.krow, by have := h.lrow; rw [hl, lkRow_len] at this; exact this, h.srow, h.len, h.at_, h.apk, h.apl, h.aps⟩
/-- A range is put into its row, behind the Span that went. -/
theorem PR.span {w0 w w1 w2 : World} {P P' : Nat → Prop} {s g cap : Nat} {kv lv sv : Value} {ks : List Int} {lk : Nat → Int} {rs : List Rg} {ss : List SP} {ob : Obj} {lo hi : Int} {la : Option Addr} {ls : List Int} {lc : Nat} (h : PR w0 w P s kv lv sv ks lk rs ss)
    (h' : SetAt w0.heap.size w1 P' s ks lk (rs ++ [⟨lo, hi, ls⟩])) (o : Only P w w1) (gr : Grew w.heap.size P P') (hI : Ints .u64 w0 la ls) (hl : ls.length ≤ 100)
    (hown : w2.ownsRow w0.heap.size 37 3 (.slice (some ⟨g, 0, none⟩) (ss.length + 1) cap) (ss.length + 1) (spRow ss ++ [.int .i64 lo, .int .i64 hi, .slice la ls.length lc])) (hgrow : (w1.alloc ob).grownBy w2 sv.ownBlock) (hat : sv.ownBlock = some g ∨ g = w1.heap.size + 1) :
    PR w0 w2 P' s kv lv (.slice (some ⟨g, 0, none⟩) (ss.length + 1) cap) ks lk (rs ++ [⟨lo, hi, ls⟩]) (ss ++ [⟨lo, hi, la, ls.length, lc⟩]) := by
  have k1 := rows_only h.krow o h.apk.symm
  have l1 := rows_only h.lrow o h.apl.symm
  have s1 := rows_only h.srow o h.aps.symm
  have ak := h.apk.grew gr (rows_under h.krow)
  have al := h.apl.grew gr (rows_under h.lrow)
  have as_ := h.aps.grew gr (rows_under h.srow)
  have S1 := h.set.step h' o
  obtain ⟨o2, g2⟩ := own_app (n := ss.length + 1) (cap := cap) hgrow hat
  have hb := S1.bel
  refine ⟨⟨S1.set.only o2 as_, hb.trans (o2.below _ hb.size (fun b hb => (s1.lt b hb).1))⟩, rows_only k1 o2 (rows_apart k1 s1 (by decide)), rows_only l1 o2 (rows_apart l1 s1 (by decide)), by rw [spRow_snoc]; simpa [spCells] using hown, by simp [h.len], fun i hi' => ?_, ak, al, as_.grew' g2 S1.set.under⟩
  by_cases hi2 : i < ss.length
  · have hr2 : i < rs.length := by have := h.len; omega
    rw [show (ss ++ [(⟨lo, hi, la, ls.length, lc⟩ : SP)]).getD i default = ss.getD i default by simp [List.getD_eq_getElem?_getD, List.getElem?_append_left hi2], show (rs ++ [(⟨lo, hi, ls⟩ : Rg)]).getD i default = rs.getD i default by simp [List.getD_eq_getElem?_getD, List.getElem?_append_left hr2]]
    exact h.at_ i hi2
  · have e1 : i = ss.length := by simp at hi'; omega
    have e2 : i = rs.length := by have := h.len; omega
    rw [show (ss ++ [(⟨lo, hi, la, ls.length, lc⟩ : SP)]).getD i default = ⟨lo, hi, la, ls.length, lc⟩ by rw [e1]; simp [List.getD_eq_getElem?_getD], show (rs ++ [(⟨lo, hi, ls⟩ : Rg)]).getD i default = ⟨lo, hi, ls⟩ by rw [e2]; simp [List.getD_eq_getElem?_getD]]
    exact ⟨rfl, rfl, rfl, hI, hl⟩
theorem PR.under {w0 w : World} {P : Nat → Prop} {s : Nat} {kv lv sv : Value} {ks : List Int} {lk : Nat → Int} {rs : List Rg} {ss : List SP} (h : PR w0 w P s kv lv sv ks lk rs ss) : Under P w.heap.size := h.set.set.under
end Go.Proofs.Ythjhhclgmkgigaa

/-
  vinculumlaw15.made: a set of what was read, and its keys and ranges in order: the plain words.
-/
import Derived.Test.YtjkdofhlcdimcaaLaw15
import Derived.Test.YtjkdofhlcdimcaaReadArg
import Derived.Deep.AppendLies
namespace Go.Proofs.Ytjkdofhlcdimcaa
open Go.RowKit Go.ChangeShapes Go.WideShapes Go.Deep
set_option linter.unusedVariables false
set_option linter.unusedSimpArgs false

/-- What was read: a key, or a range. -/
structure RD where
  sp : Bool
  lo : Int
  hi : Int
  link : Int
  la : Option Addr
  ls : List Int
  lc : Nat
instance : Inhabited RD := ⟨⟨false, 0, 0, 0, none, [], 0⟩⟩
def rdCells (r : RD) : List Value := [.bool r.sp, .int .i64 r.lo, .int .i64 r.hi, .int .u64 r.link, .slice r.la r.ls.length r.lc]
def rdRow : List RD → List Value
  | [] => []
  | s :: l => rdCells s ++ rdRow l
theorem rdRow_len (ss : List RD) : (rdRow ss).length = ss.length * 5 := by
  induction ss with
  | nil => rfl
  | cons a l ih => simp only [rdRow, List.length_append, ih, rdCells, List.length_cons, List.length_nil]; omega
theorem rdRow_snoc (ss : List RD) (s : RD) : rdRow (ss ++ [s]) = rdRow ss ++ rdCells s := by
  induction ss with
  | nil => simp [rdRow]
  | cons a l ih => simp only [List.cons_append, rdRow, ih, List.append_assoc]
theorem rdRow_get (ss : List RD) : ∀ i, i < ss.length → ∀ j, j < 5 → (rdRow ss)[i * 5 + j]? = (rdCells (ss.getD i default))[j]? := by
  induction ss with
  | nil => intro i hi; simp at hi
  | cons a l ih =>
    intro i hi j hj
    cases i with
    | zero =>
      simp only [rdRow, Nat.zero_mul, Nat.zero_add, List.getD_cons_zero]
      rw [List.getElem?_append_left (by simp [rdCells]; omega)]
    | succ i =>
      have hi' : i < l.length := by simpa using hi
      have := ih i hi' j hj
      rw [rdRow, List.getElem?_append_right (by simp [rdCells]; omega), List.getD_cons_succ, ← this]
      congr 1
      simp [rdCells]; omega
def toRg (r : RD) : Rg := ⟨r.lo, r.hi, r.ls⟩
/-- A row of what was read lies at its place. -/
def RdOwn (B : Nat) (w : World) (v : Value) (l : List RD) : Prop := w.ownsRow B 64 5 v l.length (rdRow l)
theorem RdOwn.cell {B g n cap : Nat} {w : World} {l : List RD} (h : RdOwn B w (.slice (some ⟨g, 0, none⟩) n cap) l) (hn : n = l.length) (i : Nat) (hi : i < l.length) (j : Nat) (hj : j < 5) : w.cell? ⟨g, i * 5 + j, none⟩ = (rdCells (l.getD i default))[j]? := by
  subst hn
  rw [← rdRow_get l i hi j hj]
  exact World.ownsRow.cellAt h (i * 5 + j) (by omega)

/-- Rows of what was read, as they came in. -/
def RdsIn (w : World) (a : Option Addr) (l : List RD) : Prop :=
  (l = [] ∨ ∃ b off, a = some ⟨b, off, none⟩ ∧ ∀ i j, i < l.length → j < 5 → w.cell? ⟨b, off + i * 5 + j, none⟩ = (rdCells (l.getD i default))[j]?) ∧
  ∀ r ∈ l, (Lit.int .i64 r.lo).wf = true ∧ (Lit.int .i64 r.hi).wf = true ∧ (Lit.int .u64 r.link).wf = true ∧ Ints .u64 w r.la r.ls ∧ (∀ n ∈ r.ls, (Lit.int .u64 n).wf = true) ∧ r.ls.length ≤ r.lc ∧ r.lc ≤ 9223372036854775807 ∧ (r.la = none → r.lc = 0)
theorem rds_of_rows {w : World} {a : Option Addr} {rows : List (List Value)} (h : RowsAt readQs.length w a rows) (h' : ∀ r ∈ rows, r.length = readQs.length ∧ RowQ w readQs r) : ∃ l : List RD, l.length = rows.length ∧ RdsIn w a l := by
  have hx : ∀ i, i < rows.length → ∃ r : RD, rows.getD i [] = rdCells r ∧ (Lit.int .i64 r.lo).wf = true ∧ (Lit.int .i64 r.hi).wf = true ∧ (Lit.int .u64 r.link).wf = true ∧ Ints .u64 w r.la r.ls ∧ (∀ n ∈ r.ls, (Lit.int .u64 n).wf = true) ∧ r.ls.length ≤ r.lc ∧ r.lc ≤ 9223372036854775807 ∧ (r.la = none → r.lc = 0) := by
    intro i hi
    have hm : rows.getD i [] ∈ rows := by rw [List.getD_eq_getElem?_getD, List.getElem?_eq_getElem hi]; exact List.getElem_mem _
    obtain ⟨sp, lo, hi', lk, la, ls, lc, e, q⟩ := read_row (h' _ hm).1 (h' _ hm).2
    exact ⟨⟨sp, lo, hi', lk, la, ls, lc⟩, e, q⟩
  obtain ⟨F, hF⟩ := choose_lt (α := RD) hx
  refine ⟨(List.range rows.length).map F, by simp, ?_, ?_⟩
  · rcases h with rfl | ⟨b, off, rfl, hc⟩
    · left; rfl
    · refine .inr ⟨b, off, rfl, fun i j hi hj => ?_⟩
      simp at hi
      refine (hc i j hi hj).trans ?_
      rw [(hF i hi).1]
      simp [List.getD_eq_getElem?_getD, hi]
  · intro r hr
    obtain ⟨i, hi, rfl⟩ := List.mem_map.1 hr
    simp at hi
    exact (hF i hi).2

/-- What made makes of what was read. -/
def nrm (r : RD) : RD := ⟨r.sp, if r.hi % 64 < r.lo % 64 then r.hi % 64 else r.lo % 64, if r.hi % 64 < r.lo % 64 then r.lo % 64 else r.hi % 64, r.link % 4, r.la, r.ls.take 5, r.lc⟩
def hasKey (kl : List RD) (x : Int) : Bool := kl.any fun r => r.lo == x
def stepK (kl : List RD) (r : RD) : List RD := if (nrm r).sp then kl else if hasKey kl (nrm r).lo then kl else kl ++ [nrm r]
def stepS (sl : List RD) (r : RD) : List RD := if (nrm r).sp then sl ++ [nrm r] else sl
def madeK (l : List RD) : List RD := l.foldl stepK []
def madeS (l : List RD) : List RD := l.foldl stepS []
theorem madeK_snoc (l : List RD) (r : RD) : madeK (l ++ [r]) = stepK (madeK l) r := by simp [madeK]
theorem madeS_snoc (l : List RD) (r : RD) : madeS (l ++ [r]) = stepS (madeS l) r := by simp [madeS]
theorem madeK_succ {l : List RD} {k : Nat} (h : k < l.length) : madeK (l.take (k + 1)) = stepK (madeK (l.take k)) (l.getD k default) := by
  rw [List.take_succ_eq_append_getElem h, madeK_snoc, List.getD_eq_getElem?_getD, List.getElem?_eq_getElem h]; rfl
theorem madeS_succ {l : List RD} {k : Nat} (h : k < l.length) : madeS (l.take (k + 1)) = stepS (madeS (l.take k)) (l.getD k default) := by
  rw [List.take_succ_eq_append_getElem h, madeS_snoc, List.getD_eq_getElem?_getD, List.getElem?_eq_getElem h]; rfl
theorem hasKey_mem {kl : List RD} {x : Int} : hasKey kl x = true ↔ x ∈ kl.map (·.lo) := by
  simp [hasKey]

/-- All memory of made: the set, the rows of the keys and of the ranges. -/
structure MW (w0 w : World) (P : Nat → Prop) (s : Nat) (kv sv : Value) (kl sl : List RD) (lk : Nat → Int) : Prop where
  set : SW w0 w P s (kl.map (·.lo)) lk (sl.map toRg)
  krow : RdOwn w0.heap.size w kv kl
  srow : RdOwn w0.heap.size w sv sl
  apk : Apart P (rowOf kv)
  aps : Apart P (rowOf sv)
  aks : Apart (rowOf kv) (rowOf sv)
  lks : ∀ r ∈ kl, lk r.lo.toNat = r.link
  ints : ∀ r, r ∈ kl ∨ r ∈ sl → Ints .u64 w0 r.la r.ls ∧ r.ls.length ≤ 5 ∧ (r.la = none → r.ls = []) ∧ r.ls.length ≤ r.lc ∧ r.lc ≤ 9223372036854775807
theorem MW.only0 {w0 w w' : World} {P : Nat → Prop} {s : Nat} {kv sv : Value} {kl sl : List RD} {lk : Nat → Int} (h : MW w0 w P s kv sv kl sl lk) (o : Only0 w w') : MW w0 w' P s kv sv kl sl lk :=
  ⟨h.set.only0 o, rows_only h.krow (S := fun _ => False) o (fun _ _ hf => hf), rows_only h.srow (S := fun _ => False) o (fun _ _ hf => hf), h.apk, h.aps, h.aks, h.lks, h.ints⟩
/-- A row that was appended to. -/
theorem row_app {w w2 : World} {v : Value} {n g cap : Nat} {ob : Obj} (hgrow : (w.alloc ob).grownBy w2 v.ownBlock) (hat : v.ownBlock = some g ∨ g = w.heap.size + 1) : Only (rowOf v) w w2 ∧ Grew w.heap.size (rowOf v) (rowOf (.slice (some ⟨g, 0, none⟩) n cap)) := by
  refine ⟨Only.grownP ((Only.refl _ w).alloc ob) hgrow (fun k hk _ => hk), fun b hb => ?_⟩
  have := rowOf_some.1 hb
  subst this
  rcases hat with h | h
  · exact .inl h
  · exact .inr (by omega)
theorem MW.appS {w0 w w2 : World} {P : Nat → Prop} {s : Nat} {kv sv : Value} {kl sl : List RD} {lk : Nat → Int} {g cap : Nat} {ob : Obj} {r : RD} (hset : SW w0 w P s (kl.map (·.lo)) lk ((sl ++ [r]).map toRg)) (krow : RdOwn w0.heap.size w kv kl) (srow : RdOwn w0.heap.size w sv sl)
    (apk : Apart P (rowOf kv)) (aps : Apart P (rowOf sv)) (aks : Apart (rowOf kv) (rowOf sv)) (lks : ∀ r ∈ kl, lk r.lo.toNat = r.link) (ints : ∀ r, r ∈ kl ∨ r ∈ sl → Ints .u64 w0 r.la r.ls ∧ r.ls.length ≤ 5 ∧ (r.la = none → r.ls = []) ∧ r.ls.length ≤ r.lc ∧ r.lc ≤ 9223372036854775807) (ir : Ints .u64 w0 r.la r.ls ∧ r.ls.length ≤ 5 ∧ (r.la = none → r.ls = []) ∧ r.ls.length ≤ r.lc ∧ r.lc ≤ 9223372036854775807)
    (hown : w2.ownsRow w0.heap.size 64 5 (.slice (some ⟨g, 0, none⟩) (sl.length + 1) cap) (sl.length + 1) (rdRow sl ++ rdCells r)) (hgrow : (w.alloc ob).grownBy w2 sv.ownBlock) (hat : sv.ownBlock = some g ∨ g = w.heap.size + 1) :
    MW w0 w2 P s kv (.slice (some ⟨g, 0, none⟩) (sl.length + 1) cap) kl (sl ++ [r]) lk := by
  obtain ⟨o, gr⟩ := row_app (n := sl.length + 1) (cap := cap) hgrow hat
  have hb := hset.bel
  refine ⟨⟨hset.set.only o aps, hb.trans (o.below _ hb.size (fun b hb => (srow.lt b hb).1))⟩, rows_only krow o aks, by unfold RdOwn; rw [rdRow_snoc]; simpa using hown, apk, aps.grew' gr hset.set.under, aks.grew' gr (rows_under krow), lks, fun q hq => ?_⟩
  rcases hq with hq | hq
  · exact ints q (.inl hq)
  · rcases List.mem_append.1 hq with hq | hq
    · exact ints q (.inr hq)
    · obtain rfl : q = r := by simpa using hq
      exact ir
theorem MW.appK {w0 w w2 : World} {P : Nat → Prop} {s : Nat} {kv sv : Value} {kl sl : List RD} {lk : Nat → Int} {g cap : Nat} {ob : Obj} {r : RD} (hset : SW w0 w P s ((kl ++ [r]).map (·.lo)) lk (sl.map toRg)) (krow : RdOwn w0.heap.size w kv kl) (srow : RdOwn w0.heap.size w sv sl)
    (apk : Apart P (rowOf kv)) (aps : Apart P (rowOf sv)) (aks : Apart (rowOf kv) (rowOf sv)) (lks : ∀ q ∈ kl ++ [r], lk q.lo.toNat = q.link) (ints : ∀ r, r ∈ kl ∨ r ∈ sl → Ints .u64 w0 r.la r.ls ∧ r.ls.length ≤ 5 ∧ (r.la = none → r.ls = []) ∧ r.ls.length ≤ r.lc ∧ r.lc ≤ 9223372036854775807) (ir : Ints .u64 w0 r.la r.ls ∧ r.ls.length ≤ 5 ∧ (r.la = none → r.ls = []) ∧ r.ls.length ≤ r.lc ∧ r.lc ≤ 9223372036854775807)
    (hown : w2.ownsRow w0.heap.size 64 5 (.slice (some ⟨g, 0, none⟩) (kl.length + 1) cap) (kl.length + 1) (rdRow kl ++ rdCells r)) (hgrow : (w.alloc ob).grownBy w2 kv.ownBlock) (hat : kv.ownBlock = some g ∨ g = w.heap.size + 1) :
    MW w0 w2 P s (.slice (some ⟨g, 0, none⟩) (kl.length + 1) cap) sv (kl ++ [r]) sl lk := by
  obtain ⟨o, gr⟩ := row_app (n := kl.length + 1) (cap := cap) hgrow hat
  have hb := hset.bel
  refine ⟨⟨hset.set.only o apk, hb.trans (o.below _ hb.size (fun b hb => (krow.lt b hb).1))⟩, by unfold RdOwn; rw [rdRow_snoc]; simpa using hown, rows_only srow o aks.symm, apk.grew' gr hset.set.under, aps, aks.grew gr (rows_under srow), lks, fun q hq => ?_⟩
  rcases hq with hq | hq
  · rcases List.mem_append.1 hq with hq | hq
    · exact ints q (.inl hq)
    · obtain rfl : q = r := by simpa using hq
      exact ir
  · exact ints q (.inr hq)

theorem MW.pieces {w0 w w' : World} {P P' : Nat → Prop} {s : Nat} {kv sv : Value} {kl sl : List RD} {lk lk' : Nat → Int} {keys' : List Int} {rs' : List Rg} (h : MW w0 w P s kv sv kl sl lk) (h' : SetAt w0.heap.size w' P' s keys' lk' rs') (o : Only P w w') (g : Grew w.heap.size P P') :
    SW w0 w' P' s keys' lk' rs' ∧ RdOwn w0.heap.size w' kv kl ∧ RdOwn w0.heap.size w' sv sl ∧ Apart P' (rowOf kv) ∧ Apart P' (rowOf sv) ∧ Apart (rowOf kv) (rowOf sv) :=
  ⟨h.set.step h' o, rows_only h.krow o h.apk.symm, rows_only h.srow o h.aps.symm, h.apk.grew g (rows_under h.krow), h.aps.grew g (rows_under h.srow), h.aks⟩
theorem MW.lks_new {w0 w : World} {P : Nat → Prop} {s : Nat} {kv sv : Value} {kl sl : List RD} {lk : Nat → Int} (h : MW w0 w P s kv sv kl sl lk) (r : RD) (p : Nat) (hp : r.lo = (p : Int)) (hm : hasKey kl p = false) : ∀ q ∈ kl ++ [r], addL (kl.map (·.lo)) lk p r.link q.lo.toNat = q.link := by
  have hnm : (p : Int) ∉ kl.map (·.lo) := fun e => by rw [hasKey_mem.2 e] at hm; cases hm
  intro q hq
  unfold addL
  rw [if_neg hnm]
  rcases List.mem_append.1 hq with hq | hq
  · have hr := h.set.set.kr q.lo (List.mem_map.2 ⟨q, hq, rfl⟩)
    have : ¬ q.lo.toNat = p := fun e => hnm (List.mem_map.2 ⟨q, hq, by omega⟩)
    rw [lkSet, if_neg this]; exact h.lks q hq
  · obtain rfl : q = r := by simpa using hq
    simp [lkSet, hp]
theorem RdOwn.slice {B : Nat} {w : World} {v : Value} {l : List RD} (h : RdOwn B w v l) : ∃ a c, v = .slice a l.length c ∧ (0 < l.length → ∃ g, a = some ⟨g, 0, none⟩) := by
  obtain ⟨_, h2⟩ := h
  rcases h2 with ⟨h0, hz⟩ | ⟨g, cap, cur, hv, _⟩
  · exact ⟨none, 0, by rw [h0, hz], fun h => by omega⟩
  · exact ⟨_, _, hv, fun _ => ⟨g, rfl⟩⟩
end Go.Proofs.Ytjkdofhlcdimcaa

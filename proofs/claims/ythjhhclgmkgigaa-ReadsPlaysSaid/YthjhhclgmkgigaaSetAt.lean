/-
  The set of what was read (reads.Set) as one word: in which blocks it lies, which keys, links and ranges it holds.
-/
import Derived.Test.YthjhhclgmkgigaaSep
import Derived.Test.YthjhhclgmkgigaaReadsCon
namespace Go.Proofs.Ythjhhclgmkgigaa
open Go.RowKit
set_option linter.unusedVariables false
set_option linter.unusedSimpArgs false

/-- A range that was read. -/
structure Rg where
  lo : Int
  hi : Int
  ls : List Int
instance : Inhabited Rg := ⟨⟨0, 0, []⟩⟩

def spCells (s : SP) : List Value := [.int .i64 s.lo, .int .i64 s.hi, .slice s.la s.ln s.lc]
def spRow : List SP → List Value
  | [] => []
  | s :: l => spCells s ++ spRow l
theorem spRow_len (ss : List SP) : (spRow ss).length = ss.length * 3 := by
  induction ss with
  | nil => rfl
  | cons a l ih => simp only [spRow, List.length_append, ih, spCells, List.length_cons, List.length_nil]; omega
theorem spRow_snoc (ss : List SP) (s : SP) : spRow (ss ++ [s]) = spRow ss ++ spCells s := by
  induction ss with
  | nil => simp [spRow]
  | cons a l ih => simp only [List.cons_append, spRow, ih, List.append_assoc]
theorem spRow_get (ss : List SP) : ∀ i, i < ss.length → (spRow ss)[i * 3]? = some (.int .i64 (ss.getD i default).lo) ∧ (spRow ss)[i * 3 + 1]? = some (.int .i64 (ss.getD i default).hi) ∧ (spRow ss)[i * 3 + 2]? = some (.slice (ss.getD i default).la (ss.getD i default).ln (ss.getD i default).lc) := by
  induction ss with
  | nil => intro i hi; simp at hi
  | cons a l ih =>
    intro i hi
    cases i with
    | zero => simp [spRow, spCells]
    | succ i =>
      have hi' : i < l.length := by simpa using hi
      have := ih i hi'
      have e1 : (i + 1) * 3 = i * 3 + 3 := by omega
      have e2 : (i + 1) * 3 + 1 = i * 3 + 1 + 3 := by omega
      have e3 : (i + 1) * 3 + 2 = i * 3 + 2 + 3 := by omega
      simp only [spRow, spCells, e1, e2, e3, List.cons_append, List.nil_append, List.getElem?_cons_succ, List.getD_cons_succ]
      exact this
theorem spRow_one (ss : List SP) : ∀ u ∈ spRow ss, u.oneCell' = true := by
  induction ss with
  | nil => intro u hu; simp [spRow] at hu
  | cons a l ih =>
    intro u hu
    simp only [spRow, spCells, List.cons_append, List.nil_append, List.mem_cons] at hu
    rcases hu with rfl | rfl | rfl | hu
    · rfl
    · rfl
    · rfl
    · exact ih u hu

/-- One range lies at its place. -/
structure RgAt (B : Nat) (w : World) (P : Nat → Prop) (p : SP) (r : Rg) : Prop where
  lo : p.lo = r.lo
  hi : p.hi = r.hi
  n : p.ln = r.ls.length
  own : w.ownsRow B 22 1 (.slice p.la p.ln p.lc) r.ls.length (r.ls.map (Value.int .u64))
  fp : ∀ b, rowOf (.slice p.la p.ln p.lc) b → P b
  short : r.ls.length ≤ 1000000
/-- A row of ranges lies at its place. -/
structure SpansIn (B : Nat) (w : World) (P : Nat → Prop) (sa : Option Addr) (sc : Nat) (ss : List SP) (rs : List Rg) : Prop where
  own : w.ownsRow B 37 3 (.slice sa ss.length sc) ss.length (spRow ss)
  len : ss.length = rs.length
  at_ : ∀ i, i < ss.length → RgAt B w P (ss.getD i default) (rs.getD i default)
  fp : ∀ b, rowOf (.slice sa ss.length sc) b → P b
theorem RgAt.only {B : Nat} {w w' : World} {P Q : Nat → Prop} {p : SP} {r : Rg} (h : RgAt B w P p r) (o : Only Q w w') (ap : Apart P Q) : RgAt B w' P p r :=
  ⟨h.lo, h.hi, h.n, rows_only h.own o (fun b hb => ap b (h.fp b hb)), h.fp, h.short⟩
theorem RgAt.mono {B B' : Nat} {w : World} {P P' : Nat → Prop} {p : SP} {r : Rg} (h : RgAt B w P p r) (hB : B' ≤ B) (hp : ∀ b, P b → P' b) : RgAt B' w P' p r :=
  ⟨h.lo, h.hi, h.n, rows_base h.own hB, fun b hb => hp b (h.fp b hb), h.short⟩
theorem SpansIn.only {B : Nat} {w w' : World} {P Q : Nat → Prop} {sa : Option Addr} {sc : Nat} {ss : List SP} {rs : List Rg} (h : SpansIn B w P sa sc ss rs) (o : Only Q w w') (ap : Apart P Q) : SpansIn B w' P sa sc ss rs :=
  ⟨rows_only h.own o (fun b hb => ap b (h.fp b hb)), h.len, fun i hi => (h.at_ i hi).only o ap, h.fp⟩
theorem SpansIn.spans {B : Nat} {w : World} {P : Nat → Prop} {sa : Option Addr} {sc : Nat} {ss : List SP} {rs : List Rg} (h : SpansIn B w P sa sc ss rs) : Spans w sa ss := by
  rcases h.own.2 with ⟨h0, hz⟩ | ⟨g, cap, cur, hv, _, _, _⟩
  · exact .inl (List.eq_nil_of_length_eq_zero hz)
  · injection hv with h1 h2 h3
    subst h1 h3
    refine .inr ⟨g, 0, rfl, fun i hi => ?_⟩
    have G := spRow_get ss i hi
    have e0 := h.own.cellAt (i * 3) (by omega)
    have e1 := h.own.cellAt (i * 3 + 1) (by omega)
    have e2 := h.own.cellAt (i * 3 + 2) (by omega)
    rw [Nat.zero_add]
    exact ⟨e0.trans G.1, e1.trans G.2.1, e2.trans G.2.2⟩
/-- The ranges, of which a key may be in one. -/
def anyRg (rs : List Rg) (k : Int) : Bool := rs.any fun r => inSpan k r.lo r.hi
theorem SpansIn.any {B : Nat} {w : World} {P : Nat → Prop} {sa : Option Addr} {sc : Nat} {ss : List SP} {rs : List Rg} (h : SpansIn B w P sa sc ss rs) (k : Int) : anySpan ss k = anyRg rs k := by
  have hl := h.len
  have : ss.map (fun p => (p.lo, p.hi)) = rs.map (fun r => (r.lo, r.hi)) := by
    apply List.ext_getElem (by simp [hl])
    intro i h1 h2
    have h1' : i < ss.length := by simpa using h1
    have h2' : i < rs.length := by simpa using h2
    have := h.at_ i h1'
    have a := this.lo
    have b := this.hi
    simp only [List.getD_eq_getElem?_getD, List.getElem?_eq_getElem h1', List.getElem?_eq_getElem h2', Option.getD_some] at a b
    simp [a, b]
  have e1 : anySpan ss k = (ss.map (fun p => (p.lo, p.hi))).any (fun q => inSpan k q.1 q.2) := by simp [anySpan, List.any_map, Function.comp_def]
  have e2 : anyRg rs k = (rs.map (fun r => (r.lo, r.hi))).any (fun q => inSpan k q.1 q.2) := by simp [anyRg, List.any_map, Function.comp_def]
  rw [e1, e2, this]

/-- The set lies at s, in the blocks of P, all of them from B on. -/
structure SetIn (B : Nat) (w : World) (P : Nat → Prop) (s : Nat) (keys : List Int) (lk : Nat → Int) (rs : List Rg) (cs : Array Value) (ka sa : Option Addr) (kc sc : Nat) (ss : List SP) : Prop where
  blk : Blk w s 64 cs
  cells : SetCells cs keys lk ka kc (.slice sa ss.length sc)
  kown : w.ownsRow B 3 1 (.slice ka keys.length kc) keys.length (keys.map (Value.int .i64))
  sp : SpansIn B w P sa sc ss rs
  ps : P s
  pk : ∀ b, rowOf (.slice ka keys.length kc) b → P b
  under : Under P w.heap.size
  above : Above P B
  nd : keys.Nodup
  kr : ∀ k ∈ keys, 0 ≤ k ∧ k ≤ 63
  most : rs.length ≤ 64
def SetAt (B : Nat) (w : World) (P : Nat → Prop) (s : Nat) (keys : List Int) (lk : Nat → Int) (rs : List Rg) : Prop := ∃ cs ka sa kc sc ss, SetIn B w P s keys lk rs cs ka sa kc sc ss

theorem SetIn.only {B : Nat} {w w' : World} {P Q : Nat → Prop} {s : Nat} {keys : List Int} {lk : Nat → Int} {rs : List Rg} {cs : Array Value} {ka sa : Option Addr} {kc sc : Nat} {ss : List SP} (h : SetIn B w P s keys lk rs cs ka sa kc sc ss) (o : Only Q w w') (ap : Apart P Q) : SetIn B w' P s keys lk rs cs ka sa kc sc ss :=
  ⟨o.blk h.blk (ap s h.ps), h.cells, rows_only h.kown o (fun b hb => ap b (h.pk b hb)), h.sp.only o ap, h.ps, h.pk, h.under.mono o.size, h.above, h.nd, h.kr, h.most⟩
theorem SetAt.only {B : Nat} {w w' : World} {P Q : Nat → Prop} {s : Nat} {keys : List Int} {lk : Nat → Int} {rs : List Rg} (h : SetAt B w P s keys lk rs) (o : Only Q w w') (ap : Apart P Q) : SetAt B w' P s keys lk rs := by
  obtain ⟨cs, ka, sa, kc, sc, ss, h⟩ := h
  exact ⟨cs, ka, sa, kc, sc, ss, h.only o ap⟩
theorem SetAt.only0 {B : Nat} {w w' : World} {P : Nat → Prop} {s : Nat} {keys : List Int} {lk : Nat → Int} {rs : List Rg} (h : SetAt B w P s keys lk rs) (o : Only0 w w') : SetAt B w' P s keys lk rs := h.only (Q := fun _ => False) o (fun _ _ hf => hf)
theorem SetAt.under {B : Nat} {w : World} {P : Nat → Prop} {s : Nat} {keys : List Int} {lk : Nat → Int} {rs : List Rg} (h : SetAt B w P s keys lk rs) : Under P w.heap.size := by obtain ⟨_, _, _, _, _, _, h⟩ := h; exact h.under
theorem SetAt.above {B : Nat} {w : World} {P : Nat → Prop} {s : Nat} {keys : List Int} {lk : Nat → Int} {rs : List Rg} (h : SetAt B w P s keys lk rs) : Above P B := by obtain ⟨_, _, _, _, _, _, h⟩ := h; exact h.above
theorem SetAt.kr {B : Nat} {w : World} {P : Nat → Prop} {s : Nat} {keys : List Int} {lk : Nat → Int} {rs : List Rg} (h : SetAt B w P s keys lk rs) : ∀ k ∈ keys, 0 ≤ k ∧ k ≤ 63 := by obtain ⟨_, _, _, _, _, _, h⟩ := h; exact h.kr
theorem SetAt.nd {B : Nat} {w : World} {P : Nat → Prop} {s : Nat} {keys : List Int} {lk : Nat → Int} {rs : List Rg} (h : SetAt B w P s keys lk rs) : keys.Nodup := by obtain ⟨_, _, _, _, _, _, h⟩ := h; exact h.nd
theorem SetAt.most {B : Nat} {w : World} {P : Nat → Prop} {s : Nat} {keys : List Int} {lk : Nat → Int} {rs : List Rg} (h : SetAt B w P s keys lk rs) : rs.length ≤ 64 := by obtain ⟨_, _, _, _, _, _, h⟩ := h; exact h.most

/-- Numbers that are all unlike and below n are n at most. -/
theorem nodup_bound : ∀ (n : Nat) (l : List Nat), l.Nodup → (∀ x ∈ l, x < n) → l.length ≤ n := by
  intro n
  induction n with
  | zero =>
    intro l _ h
    cases l with
    | nil => simp
    | cons a l => exact absurd (h a (by simp)) (by omega)
  | succ n ih =>
    intro l nd h
    by_cases hm : n ∈ l
    · have h1 := ih (l.erase n) (nd.erase n) (fun x hx => by
        have hx' := (nd.mem_erase_iff).1 hx
        have := h x hx'.2
        have := hx'.1
        omega)
      have h2 := List.length_erase_of_mem hm
      omega
    · have h1 := ih l nd (fun x hx => by
        have := h x hx
        have : x ≠ n := fun e => hm (e ▸ hx)
        omega)
      omega
/-- Keys that are all unlike and from 0 to 63 are 64 at most. -/
theorem few_keys {keys : List Int} (nd : keys.Nodup) (kr : ∀ k ∈ keys, 0 ≤ k ∧ k ≤ 63) : keys.length ≤ 64 := by
  have h1 : (keys.map Int.toNat).Nodup := by
    rw [List.nodup_iff_pairwise_ne, List.pairwise_map]
    rw [List.nodup_iff_pairwise_ne] at nd
    refine (List.Pairwise.and_mem.1 nd).imp ?_
    rintro a b ⟨ha, hb, hne⟩ e
    have := kr a ha; have := kr b hb
    exact hne (by omega)
  have h2 := nodup_bound 64 _ h1 (fun x hx => by
    obtain ⟨k, hk, rfl⟩ := List.mem_map.1 hx
    have := kr k hk
    omega)
  simpa using h2
theorem SetAt.few {B : Nat} {w : World} {P : Nat → Prop} {s : Nat} {keys : List Int} {lk : Nat → Int} {rs : List Rg} (h : SetAt B w P s keys lk rs) : keys.length ≤ 64 := few_keys h.nd h.kr
end Go.Proofs.Ythjhhclgmkgigaa

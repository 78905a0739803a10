/-
  ReadsPlays: what each call does to the set, to the law's own rows, and to the round's own struct variable.
-/
import Derived.Test.YthjhhclgmkgigaaRPlays
namespace Go.Proofs.Ythjhhclgmkgigaa
open Go.RowKit
set_option linter.unusedVariables false
set_option linter.unusedSimpArgs false

theorem info_u64r : (Try.prog.info? 22).map (fun i => (i.zero, i.size, i.bytes)) = some (some (.int .u64 0), 1, 8) := by kernel_rfl
theorem own_slice {B z n : Nat} {w : World} {e : TypeId} {v : Value} {xs : List Value} (h : w.ownsRow B e z v n xs) : ∃ a c, v = .slice a n c ∧ n ≤ c ∧ (0 < n → ∃ g, a = some ⟨g, 0, none⟩) := by
  rcases h.2 with ⟨h0, hz⟩ | ⟨g, cap, cur, hv, _, _, hc, _⟩
  · exact ⟨none, 0, by rw [h0, hz], by omega, fun h => by omega⟩
  · exact ⟨_, _, hv, hc, fun _ => ⟨g, rfl⟩⟩
theorem krow_at {B kn kc : Nat} {w : World} {ka : Option Addr} {ks : List Int} (h : w.ownsRow B 3 1 (.slice ka kn kc) ks.length (ks.map (Value.int .i64))) (hn : ks.length = kn) (j : Nat) (hj : j < kn) : ∃ g, ka = some ⟨g, 0, none⟩ ∧ w.cell? ⟨g, j, none⟩ = some (.int .i64 (ks.getD j 0)) := by
  subst hn
  obtain ⟨a9, c9, e9, _, h9⟩ := own_slice h
  injection e9 with e9 _ _
  subst e9
  obtain ⟨g, rfl⟩ := h9 (by omega)
  have hb : j < ks.length * 1 := by omega
  have := World.ownsRow.cellAt h j hb
  refine ⟨g, rfl, ?_⟩
  rw [this]; simp [hj]
theorem lrow_at {B kn kc : Nat} {w : World} {ka : Option Addr} {ks : List Int} {lk : Nat → Int} (h : w.ownsRow B 22 1 (.slice ka kn kc) ks.length ((lkRow ks lk).map (Value.int .u64))) (hn : ks.length = kn) (j : Nat) (hj : j < kn) : ∃ g, ka = some ⟨g, 0, none⟩ ∧ w.cell? ⟨g, j, none⟩ = some (.int .u64 (lk (ks.getD j 0).toNat)) := by
  subst hn
  obtain ⟨a9, c9, e9, _, h9⟩ := own_slice h
  injection e9 with e9 _ _
  subst e9
  obtain ⟨g, rfl⟩ := h9 (by omega)
  have hb : j < ks.length * 1 := by omega
  have := World.ownsRow.cellAt h j hb
  refine ⟨g, rfl, ?_⟩
  rw [this]; simp [lkRow, hj]
theorem srow_at {B sn sc : Nat} {w : World} {sa : Option Addr} {ss : List SP} (h : w.ownsRow B 37 3 (.slice sa sn sc) ss.length (spRow ss)) (hn : ss.length = sn) (j : Nat) (hj : j < sn) : ∃ g, sa = some ⟨g, 0, none⟩ ∧ w.cell? ⟨g, j * 3, none⟩ = some (.int .i64 (ss.getD j default).lo) ∧ w.cell? ⟨g, j * 3 + 1, none⟩ = some (.int .i64 (ss.getD j default).hi) ∧ w.cell? ⟨g, j * 3 + 2, none⟩ = some (.slice (ss.getD j default).la (ss.getD j default).ln (ss.getD j default).lc) := by
  subst hn
  obtain ⟨a9, c9, e9, _, h9⟩ := own_slice h
  injection e9 with e9 _ _
  subst e9
  obtain ⟨g, rfl⟩ := h9 (by omega)
  obtain ⟨r0, r1, r2⟩ := spRow_get ss j hj
  have b0 : j * 3 < ss.length * 3 := by omega
  have b1 : j * 3 + 1 < ss.length * 3 := by omega
  have b2 : j * 3 + 2 < ss.length * 3 := by omega
  exact ⟨g, rfl, (World.ownsRow.cellAt h _ b0).trans r0, (World.ownsRow.cellAt h _ b1).trans r1, (World.ownsRow.cellAt h _ b2).trans r2⟩
theorem news_one {w : World} {t : TypeId} {v : Value} : ∀ j u, [v][j]? = some u → (w.alloc (.cells #[v] t)).cell? ((⟨w.heap.size, 0, none⟩ : Addr).add j) = some u := by
  intro j u hj
  match j, hj with
  | 0, hj =>
    simp at hj; subst hj
    rw [Addr.add_lit, Nat.zero_add, (Blk.new w t #[v]).cell]; rfl

/-- The set, the law's rows, the round's own struct variable. -/
def QS (w0 w : World) (s ob : Nat) (oc : Array Value) (kv lv sv : Value) (ks : List Int) (lk : Nat → Int) (rs : List Rg) (ss : List SP) : Prop :=
  ∃ P, PR w0 w P s kv lv sv ks lk rs ss ∧ Blk w ob 45 oc ∧ ¬ P ob
/-- The rows are behind the set by one key (ll: the links that are in their row). -/
def QA (w0 w : World) (s ob : Nat) (oc : Array Value) (kv lv sv : Value) (ks ll ks' : List Int) (lk' : Nat → Int) (rs : List Rg) (ss : List SP) : Prop :=
  ∃ P, PA w0 w P s kv lv sv ks ll ks' lk' rs ss ∧ Blk w ob 45 oc ∧ ¬ P ob
variable {w0 w : World} {s ob : Nat} {oc : Array Value} {kv lv sv : Value} {ks ll ks' : List Int} {lk lk' : Nat → Int} {rs : List Rg} {ss : List SP}
theorem QS.only0 {w' : World} (h : QS w0 w s ob oc kv lv sv ks lk rs ss) (o : Only0 w w') : QS w0 w' s ob oc kv lv sv ks lk rs ss := by
  obtain ⟨P, h1, h2, h3⟩ := h
  exact ⟨P, h1.only0 o, o.blk h2 (fun h => h), h3⟩
theorem QA.only0 {w' : World} (h : QA w0 w s ob oc kv lv sv ks ll ks' lk' rs ss) (o : Only0 w w') : QA w0 w' s ob oc kv lv sv ks ll ks' lk' rs ss := by
  obtain ⟨P, h1, h2, h3⟩ := h
  exact ⟨P, h1.only0 o, o.blk h2 (fun h => h), h3⟩
theorem QS.blk (h : QS w0 w s ob oc kv lv sv ks lk rs ss) : Blk w ob 45 oc := by obtain ⟨P, h1, h2, h3⟩ := h; exact h2
theorem QA.blk (h : QA w0 w s ob oc kv lv sv ks ll ks' lk' rs ss) : Blk w ob 45 oc := by obtain ⟨P, h1, h2, h3⟩ := h; exact h2
theorem QS.krow (h : QS w0 w s ob oc kv lv sv ks lk rs ss) : w.ownsRow w0.heap.size 3 1 kv ks.length (ks.map (Value.int .i64)) := by obtain ⟨P, h1, h2, h3⟩ := h; exact h1.krow
theorem QS.lrow (h : QS w0 w s ob oc kv lv sv ks lk rs ss) : w.ownsRow w0.heap.size 22 1 lv ks.length ((lkRow ks lk).map (Value.int .u64)) := by obtain ⟨P, h1, h2, h3⟩ := h; exact h1.lrow
theorem QS.srow (h : QS w0 w s ob oc kv lv sv ks lk rs ss) : w.ownsRow w0.heap.size 37 3 sv ss.length (spRow ss) := by obtain ⟨P, h1, h2, h3⟩ := h; exact h1.srow
theorem QA.krow (h : QA w0 w s ob oc kv lv sv ks ll ks' lk' rs ss) : w.ownsRow w0.heap.size 3 1 kv ks.length (ks.map (Value.int .i64)) := by obtain ⟨P, h1, h2, h3⟩ := h; exact h1.krow
theorem QA.lrow (h : QA w0 w s ob oc kv lv sv ks ll ks' lk' rs ss) : w.ownsRow w0.heap.size 22 1 lv ll.length (ll.map (Value.int .u64)) := by obtain ⟨P, h1, h2, h3⟩ := h; exact h1.lrow
theorem QS.few (h : QS w0 w s ob oc kv lv sv ks lk rs ss) : ks.length ≤ 64 ∧ rs.length ≤ 64 ∧ ss.length = rs.length := by obtain ⟨P, h1, h2, h3⟩ := h; exact ⟨h1.set.set.few, h1.set.set.most, h1.len⟩
theorem QA.few (h : QA w0 w s ob oc kv lv sv ks ll ks' lk' rs ss) : ks'.length ≤ 64 ∧ rs.length ≤ 64 ∧ ss.length = rs.length := by obtain ⟨P, h1, h2, h3⟩ := h; exact ⟨h1.set.set.few, h1.set.set.most, h1.len⟩
theorem QS.bel (h : QS w0 w s ob oc kv lv sv ks lk rs ss) : Below w0.heap.size w0 w := by obtain ⟨P, h1, h2, h3⟩ := h; exact h1.set.bel
theorem QA.bel (h : QA w0 w s ob oc kv lv sv ks ll ks' lk' rs ss) : Below w0.heap.size w0 w := by obtain ⟨P, h1, h2, h3⟩ := h; exact h1.set.bel
theorem QS.at_ (h : QS w0 w s ob oc kv lv sv ks lk rs ss) : ∀ i, i < ss.length → (ss.getD i default).lo = (rs.getD i default).lo ∧ (ss.getD i default).hi = (rs.getD i default).hi ∧ (ss.getD i default).ln = (rs.getD i default).ls.length ∧ Ints .u64 w0 (ss.getD i default).la (rs.getD i default).ls ∧ (rs.getD i default).ls.length ≤ 100 := by obtain ⟨P, h1, h2, h3⟩ := h; exact h1.at_
theorem QS.shape (h : QS w0 w s ob oc kv lv sv ks lk rs ss) : ∃ ka kc la lc sa sc, kv = .slice ka ks.length kc ∧ lv = .slice la ks.length lc ∧ sv = .slice sa ss.length sc ∧ ks.length ≤ kc ∧ ks.length ≤ lc ∧ ss.length ≤ sc := by
  obtain ⟨ka, kc, h1, h1', _⟩ := own_slice h.krow
  obtain ⟨la, lc, h2, h2', _⟩ := own_slice h.lrow
  obtain ⟨sa, sc, h3, h3', _⟩ := own_slice h.srow
  exact ⟨ka, kc, la, lc, sa, sc, h1, h2, h3, h1', h2', h3'⟩
theorem QS.begin {P : Nat → Prop} {oc' : Array Value} (h : PR w0 w P s kv lv sv ks lk rs ss) : QS w0 (w.alloc (.cells oc' 45)) s w.heap.size oc' kv lv sv ks lk rs ss :=
  ⟨P, h.only0 ((Only0.refl w).alloc _), Blk.new _ _ _, fun hp => by have := h.under _ hp; omega⟩
theorem QS.pr (h : QS w0 w s ob oc kv lv sv ks lk rs ss) : ∃ P, PR w0 w P s kv lv sv ks lk rs ss := by obtain ⟨P, h1, h2, h3⟩ := h; exact ⟨P, h1⟩

theorem QS.c_add_bad (h : QS w0 w s ob oc kv lv sv ks lk rs ss) (k : Int) (hk : isKey k = false) (x : Int) : Calls Try.prog 8 #[.pointer (some ⟨s, 0, none⟩), .int .i64 k, .int .u64 x] w fun e w' => e = .returned (.int .i64 1) ∧ QS w0 w' s ob oc kv lv sv ks lk rs ss := by
  obtain ⟨P, h1, h2, h3⟩ := h
  refine (set_add_bad h1.set.set k hk x).mono ?_
  rintro e w' ⟨he, -, o⟩
  exact ⟨he, P, h1.only0 o, o.blk h2 (fun h => h), h3⟩
theorem QS.c_add_old (h : QS w0 w s ob oc kv lv sv ks lk rs ss) (k : Nat) (hk : k < 64) (hm : (k : Int) ∈ ks) (x : Int) : Calls Try.prog 8 #[.pointer (some ⟨s, 0, none⟩), .int .i64 k, .int .u64 x] w fun e w' => e = .returned (.int .i64 0) ∧ QS w0 w' s ob oc kv lv sv ks lk rs ss := by
  obtain ⟨P, h1, h2, h3⟩ := h
  have A := set_add h1.set.set k hk x
  rw [show addK ks (k : Int) = ks from if_pos hm, show addL ks lk k x = lk from if_pos hm] at A
  refine A.mono ?_
  rintro e w' ⟨he, P', h', o, g⟩
  refine ⟨he, P', h1.addOld h' o g, o.blk h2 h3, fun hp => ?_⟩
  rcases g _ hp with hp | hp
  · exact h3 hp
  · have := h2.lt; omega
theorem QS.c_add_new (h : QS w0 w s ob oc kv lv sv ks lk rs ss) (k : Nat) (hk : k < 64) (hm : (k : Int) ∉ ks) (x : Int) : Calls Try.prog 8 #[.pointer (some ⟨s, 0, none⟩), .int .i64 k, .int .u64 x] w fun e w' => e = .returned (.int .i64 0) ∧ QA w0 w' s ob oc kv lv sv ks (lkRow ks lk) (ks ++ [(k : Int)]) (addL ks lk k x) rs ss := by
  obtain ⟨P, h1, h2, h3⟩ := h
  have A := set_add h1.set.set k hk x
  rw [show addK ks (k : Int) = ks ++ [(k : Int)] from if_neg hm] at A
  refine A.mono ?_
  rintro e w' ⟨he, P', h', o, g⟩
  refine ⟨he, P', h1.addNew h' o g, o.blk h2 h3, fun hp => ?_⟩
  rcases g _ hp with hp | hp
  · exact h3 hp
  · have := h2.lt; omega
theorem blk_grown {w w2 : World} {B z n b : Nat} {e t : TypeId} {v : Value} {xs : List Value} {cs : Array Value} {o : Obj} (h : w.ownsRow B e z v n xs) (hb : Blk w b t cs) (hne : e ≠ t) (hg : (w.alloc o).grownBy w2 v.ownBlock) : Blk w2 b t cs := by
  have hn := rows_ne h hb hne
  have hb' := hb.alloc o
  unfold Blk at hb' ⊢
  rw [hg.block b (Blk.lt hb') (fun e => hn e.symm)]
  exact hb'
theorem QA.appK {w2 : World} {g cap : Nat} {o : Obj} {x : Int} (h : QA w0 w s ob oc kv lv sv ks ll ks' lk' rs ss)
    (hown : w2.ownsRow w0.heap.size 3 1 (.slice (some ⟨g, 0, none⟩) (ks.length + 1) cap) (ks.length + 1) (ks.map (Value.int .i64) ++ [.int .i64 x])) (hgrow : (w.alloc o).grownBy w2 kv.ownBlock) (hat : kv.ownBlock = some g ∨ g = w.heap.size + 1) :
    QA w0 w2 s ob oc (.slice (some ⟨g, 0, none⟩) (ks.length + 1) cap) lv sv (ks ++ [x]) ll ks' lk' rs ss := by
  obtain ⟨P, h1, h2, h3⟩ := h
  exact ⟨P, h1.appK hown hgrow hat, blk_grown h1.krow h2 (by decide) hgrow, h3⟩
theorem QA.appL {w2 : World} {g cap : Nat} {o : Obj} {x : Int} (h : QA w0 w s ob oc kv lv sv ks ll ks' lk' rs ss)
    (hown : w2.ownsRow w0.heap.size 22 1 (.slice (some ⟨g, 0, none⟩) (ll.length + 1) cap) (ll.length + 1) (ll.map (Value.int .u64) ++ [.int .u64 x])) (hgrow : (w.alloc o).grownBy w2 lv.ownBlock) (hat : lv.ownBlock = some g ∨ g = w.heap.size + 1) :
    QA w0 w2 s ob oc kv (.slice (some ⟨g, 0, none⟩) (ll.length + 1) cap) sv ks (ll ++ [x]) ks' lk' rs ss := by
  obtain ⟨P, h1, h2, h3⟩ := h
  exact ⟨P, h1.appL hown hgrow hat, blk_grown h1.lrow h2 (by decide) hgrow, h3⟩
theorem QA.done (h : QA w0 w s ob oc kv lv sv ks ll ks lk' rs ss) (hl : ll = lkRow ks lk') : QS w0 w s ob oc kv lv sv ks lk' rs ss := by
  obtain ⟨P, h1, h2, h3⟩ := h
  exact ⟨P, h1.done hl, h2, h3⟩
theorem QS.links (h : QS w0 w s ob oc kv lv sv ks lk rs ss) (k : Nat) (x : Int) (hm : (k : Int) ∉ ks) : lkRow (ks ++ [(k : Int)]) (addL ks lk k x) = lkRow ks lk ++ [x] := by
  obtain ⟨P, h1, h2, h3⟩ := h
  exact lkRow_add k x h1.set.set.kr hm
theorem QS.c_span_bad (h : QS w0 w s ob oc kv lv sv ks lk rs ss) (lo hi : Int) (la : Option Addr) (lc : Nat) (ls : List Int) (hx : Ints .u64 w0 la ls) (hn : la = none → ls = []) (hls : ls.length ≤ 1000000) (r : Int) (hr : spanRes rs lo hi = r) (hrs : spanRs rs lo hi ls = rs) :
    Calls Try.prog 9 #[.pointer (some ⟨s, 0, none⟩), .int .i64 lo, .int .i64 hi, .slice la ls.length lc] w fun e w' => e = .returned (.int .i64 r) ∧ QS w0 w' s ob oc kv lv sv ks lk rs ss := by
  obtain ⟨P, h1, h2, h3⟩ := h
  have C := set_span h1.set.set lo hi la lc ls (hx.below h1.set.bel) hn hls
  rw [hr, hrs] at C
  refine C.mono ?_
  rintro e w' ⟨he, P', h', o, g⟩
  refine ⟨he, P', h1.addOld h' o g, o.blk h2 h3, fun hp => ?_⟩
  rcases g _ hp with hp | hp
  · exact h3 hp
  · have := h2.lt; omega
/-- Behind a Span that went, ahead of the append: what the append leaves. -/
theorem QS.c_span_ok (h : QS w0 w s ob oc kv lv sv ks lk rs ss) (lo hi : Int) (la : Option Addr) (lc : Nat) (ls : List Int) (hx : Ints .u64 w0 la ls) (hn : la = none → ls = []) (hls : ls.length ≤ 100) (hr : spanRes rs lo hi = 0) (hrs : spanRs rs lo hi ls = rs ++ [⟨lo, hi, ls⟩]) :
    Calls Try.prog 9 #[.pointer (some ⟨s, 0, none⟩), .int .i64 lo, .int .i64 hi, .slice la ls.length lc] w fun e w' => e = .returned (.int .i64 0) ∧ Blk w' ob 45 oc ∧ w'.ownsRow w0.heap.size 37 3 sv ss.length (spRow ss) ∧ w.heap.size ≤ w'.heap.size ∧
      ∀ (w2 : World) (g cap : Nat) (o : Obj), w2.ownsRow w0.heap.size 37 3 (.slice (some ⟨g, 0, none⟩) (ss.length + 1) cap) (ss.length + 1) (spRow ss ++ [.int .i64 lo, .int .i64 hi, .slice la ls.length lc]) → (w'.alloc o).grownBy w2 sv.ownBlock → (sv.ownBlock = some g ∨ g = w'.heap.size + 1) →
        QS w0 w2 s ob oc kv lv (.slice (some ⟨g, 0, none⟩) (ss.length + 1) cap) ks lk (rs ++ [⟨lo, hi, ls⟩]) (ss ++ [⟨lo, hi, la, ls.length, lc⟩]) := by
  obtain ⟨P, h1, h2, h3⟩ := h
  have C := set_span h1.set.set lo hi la lc ls (hx.below h1.set.bel) hn (by omega)
  rw [hr, hrs] at C
  refine C.mono ?_
  rintro e w' ⟨he, P', h', o, g⟩
  have hs1 := rows_only h1.srow o h1.aps.symm
  have hb1 := o.blk h2 h3
  refine ⟨he, hb1, hs1, o.size, fun w2 gg cap ob' hown hgrow hat => ⟨P', h1.span h' o g hx hls hown hgrow hat, blk_grown hs1 hb1 (by decide) hgrow, fun hp => ?_⟩⟩
  rcases g _ hp with hp | hp
  · exact h3 hp
  · have := h2.lt; omega
theorem QS.c_spans (h : QS w0 w s ob oc kv lv sv ks lk rs ss) : Calls Try.prog 12 #[.pointer (some ⟨s, 0, none⟩)] w fun e w' => (∃ a ss2, e = .returned (.slice a ss.length ss.length) ∧ (Spans w' a ss2 ∧ ss2.length = ss.length ∧ ∀ i, i < ss2.length → (ss2.getD i default).lo = (rs.getD i default).lo ∧ (ss2.getD i default).hi = (rs.getD i default).hi ∧ (ss2.getD i default).ln = (rs.getD i default).ls.length ∧ Ints .u64 w' (ss2.getD i default).la (rs.getD i default).ls)) ∧ Only0 w w' := by
  obtain ⟨P, h1, h2, h3⟩ := h
  refine (set_spans h1.set.set).mono ?_
  rintro e w' ⟨⟨a, ss2, he, ho, _⟩, b⟩
  refine ⟨⟨a, ss2, by rw [h1.len]; exact he, ho.spans, by rw [ho.len, h1.len], fun i hi => ?_⟩, Below.only0 b⟩
  have hh := ho.at_ i hi
  obtain ⟨cap, hc⟩ := hh.own
  exact ⟨hh.lo, hh.hi, hh.n, ints_of_own hc⟩
theorem QS.c_link (h : QS w0 w s ob oc kv lv sv ks lk rs ss) (k : Int) : Calls Try.prog 14 #[.pointer (some ⟨s, 0, none⟩), .int .i64 k] w fun e w' => e = .returned (.tuple #[.int .u64 (if k ∈ ks then lk k.toNat else 0), .bool (decide (k ∈ ks))]) ∧ Only0 w w' := by
  obtain ⟨P, h1, h2, h3⟩ := h
  refine (set_link h1.set.set k).mono ?_
  rintro e w' ⟨he, n, rfl⟩
  exact ⟨he, (Only0.refl w).drewN n⟩
theorem QS.c_len (h : QS w0 w s ob oc kv lv sv ks lk rs ss) : Calls Try.prog 16 #[.pointer (some ⟨s, 0, none⟩)] w fun e w' => e = .returned (.int .i64 ((ks.length : Int) + (ss.length : Int))) ∧ Only0 w w' := by
  obtain ⟨P, h1, h2, h3⟩ := h
  have C := set_len h1.set.set
  rw [← h1.len] at C
  refine C.mono ?_
  rintro e w' ⟨he, n, rfl⟩
  exact ⟨he, (Only0.refl w).drewN n⟩
theorem QS.c_keys (h : QS w0 w s ob oc kv lv sv ks lk rs ss) : Calls Try.prog 15 #[.pointer (some ⟨s, 0, none⟩)] w fun e w' => (∃ a, e = .returned (.slice a ks.length ks.length) ∧ Ints .i64 w' a ks) ∧ Only0 w w' := by
  obtain ⟨P, h1, h2, h3⟩ := h
  refine (set_keys h1.set.set).mono ?_
  rintro e w' ⟨⟨a, he, hi, _⟩, b⟩
  exact ⟨⟨a, he, hi⟩, Below.only0 b⟩
theorem QS.c_covers (h : QS w0 w s ob oc kv lv sv ks lk rs ss) (k : Int) : Calls Try.prog 10 #[.pointer (some ⟨s, 0, none⟩), .int .i64 k] w fun e w' => e = .returned (.bool (decide (k ∈ ks) || anyRg rs k)) ∧ Only0 w w' := by
  obtain ⟨P, h1, h2, h3⟩ := h
  exact set_covers h1.set.set k
theorem QS.kints {ka : Option Addr} {n c : Nat} (hn : n = ks.length) (h : QS w0 w s ob oc (.slice ka n c) lv sv ks lk rs ss) : Ints .i64 w ka ks := by
  subst hn
  exact ints_of_own h.krow
theorem ints_self (a a' : Option Addr) (c c' : Nat) (xs : List Int) (w : World) (hx : Ints .i64 w a xs) (hy : Ints .i64 w a' xs) (lx : xs.length ≤ 1000000000) :
    Calls Try.prog 17 #[.slice a xs.length c, .slice a' xs.length c'] w fun e w' => e = .returned (.bool true) ∧ Only0 w w' := by
  refine (sameInts_any a a' c c' xs xs w hx hy lx lx).mono ?_
  rintro e w' ⟨rfl, n, rfl⟩
  exact ⟨by rw [decide_eq_true rfl], (Only0.refl w).drewN n⟩
theorem u64_self (a a' : Option Addr) (c c' n : Nat) (xs : List Int) (w : World) (hn : n = xs.length) (hx : Ints .u64 w a xs) (hy : Ints .u64 w a' xs) (lx : xs.length ≤ 1000000000) :
    Calls Try.prog 13 #[.slice a n c, .slice a' n c'] w fun e w' => e = .returned (.bool true) ∧ Only0 w w' := by
  subst hn
  refine (same_any a a' c c' xs xs w hx hy lx lx).mono ?_
  rintro e w' ⟨rfl, n, rfl⟩
  exact ⟨by rw [decide_eq_true rfl], (Only0.refl w).drewN n⟩
/-- The keys that a loop has gone by. -/
def anyI (ks : List Int) (x : Int) (k : Nat) : Bool := (ks.take k).any (fun y => y == x)
theorem anyI_succ {ks : List Int} {x : Int} {k : Nat} (h : k < ks.length) : anyI ks x (k + 1) = (anyI ks x k || (ks.getD k 0 == x)) := by
  unfold anyI
  rw [List.take_succ_eq_append_getElem h, List.any_append, List.getD_eq_getElem?_getD, List.getElem?_eq_getElem h]; simp
theorem anyI_all (ks : List Int) (x : Int) : anyI ks x ks.length = decide (x ∈ ks) := by
  unfold anyI
  rw [List.take_length, Bool.eq_iff_iff]; simp
/-- Where a key was found last. -/
def AtI (ks : List Int) (x : Int) (k : Nat) (a : Int) : Prop := (a = -1 ∧ ∀ j, j < k → ks.getD j 0 ≠ x) ∨ ∃ j : Nat, j < k ∧ a = (j : Int) ∧ ks.getD j 0 = x
theorem AtI.start (ks : List Int) (x : Int) : AtI ks x 0 (-1) := .inl ⟨rfl, fun j hj => by omega⟩
theorem AtI.hit {ks : List Int} {x : Int} {k : Nat} (h : ks.getD k 0 = x) : AtI ks x (k + 1) (k : Int) := .inr ⟨k, by omega, rfl, h⟩
theorem AtI.miss {ks : List Int} {x : Int} {k : Nat} {a : Int} (h : AtI ks x k a) (hn : ks.getD k 0 ≠ x) : AtI ks x (k + 1) a := by
  rcases h with ⟨h1, h2⟩ | ⟨j, h1, h2, h3⟩
  · exact .inl ⟨h1, fun j hj => by
      rcases Nat.lt_succ_iff_lt_or_eq.mp hj with hj | rfl
      · exact h2 j hj
      · exact hn⟩
  · exact .inr ⟨j, by omega, h2, h3⟩
theorem AtI.fin {ks : List Int} {x a : Int} (h : AtI ks x ks.length a) : (a = -1 ∧ x ∉ ks) ∨ ∃ j : Nat, j < ks.length ∧ a = (j : Int) ∧ ks.getD j 0 = x ∧ x ∈ ks := by
  rcases h with ⟨h1, h2⟩ | ⟨j, h1, h2, h3⟩
  · refine .inl ⟨h1, fun hm => ?_⟩
    obtain ⟨i, hi, rfl⟩ := List.getElem_of_mem hm
    exact h2 i hi (by simp [List.getD_eq_getElem?_getD, hi])
  · exact .inr ⟨j, h1, h2, h3, by rw [← h3, List.getD_eq_getElem?_getD, List.getElem?_eq_getElem h1]; exact List.getElem_mem _⟩
def anyR (rs : List Rg) (x : Int) (k : Nat) : Bool := (rs.take k).any (fun r => inSpan x r.lo r.hi)
theorem anyR_succ {rs : List Rg} {x : Int} {k : Nat} (h : k < rs.length) : anyR rs x (k + 1) = (anyR rs x k || inSpan x (rs.getD k default).lo (rs.getD k default).hi) := by
  unfold anyR
  rw [List.take_succ_eq_append_getElem h, List.any_append, List.getD_eq_getElem?_getD, List.getElem?_eq_getElem h]; simp
theorem anyR_all (rs : List Rg) (x : Int) : anyR rs x rs.length = anyRg rs x := by unfold anyR anyRg; rw [List.take_length]
end Go.Proofs.Ythjhhclgmkgigaa

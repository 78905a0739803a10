/-
  reads.Set's Spans: the ranges, in memory of their own.
-/
import Derived.Test.YthjhhclgmkgigaaSetOps
namespace Go.Proofs.Ythjhhclgmkgigaa
open Go.RowKit
set_option linter.unusedVariables false
set_option linter.unusedSimpArgs false

theorem spRow_set (la : Option Addr) (ln lc : Nat) (ss : List SP) : ∀ i, i < ss.length → (spRow ss).set (i * 3 + 2) (.slice la ln lc) = spRow (ss.set i ⟨(ss.getD i default).lo, (ss.getD i default).hi, la, ln, lc⟩) := by
  induction ss with
  | nil => intro i hi; simp at hi
  | cons a l ih =>
    intro i hi
    cases i with
    | zero => simp [spRow, spCells]
    | succ i =>
      have hi' : i < l.length := by simpa using hi
      have e3 : (i + 1) * 3 + 2 = i * 3 + 2 + 3 := by omega
      simp only [spRow, spCells, e3, List.cons_append, List.nil_append, List.set_cons_succ, List.getD_cons_succ]
      rw [ih i hi']

/-- One range, told: its links' row may have room behind it. -/
structure OutAt (B : Nat) (w : World) (P : Nat → Prop) (p : SP) (r : Rg) : Prop where
  lo : p.lo = r.lo
  hi : p.hi = r.hi
  n : p.ln = r.ls.length
  own : ∃ cap, w.ownsRow B 22 1 (.slice p.la r.ls.length cap) r.ls.length (r.ls.map (Value.int .u64))
  fp : ∀ b, rowOf (.slice p.la p.ln p.lc) b → P b
  short : r.ls.length ≤ 1000000
theorem OutAt.only {B : Nat} {w w' : World} {P Q : Nat → Prop} {p : SP} {r : Rg} (h : OutAt B w P p r) (o : Only Q w w') (ap : Apart P Q) : OutAt B w' P p r := by
  obtain ⟨cap, hc⟩ := h.own
  refine ⟨h.lo, h.hi, h.n, ⟨cap, rows_only hc o (fun b hb => ap b (h.fp b ?_))⟩, h.fp, h.short⟩
  rw [h.n]
  rcases hla : p.la with _ | ad
  · rw [hla] at hb; exact absurd hb (by simp [rowOf, Value.ownBlock])
  · rw [hla] at hb; exact hb
theorem OutAt.mono {B : Nat} {w : World} {P P' : Nat → Prop} {p : SP} {r : Rg} (h : OutAt B w P p r) (hp : ∀ b, P b → P' b) : OutAt B w P' p r := ⟨h.lo, h.hi, h.n, h.own, fun b hb => hp b (h.fp b hb), h.short⟩
/-- The ranges, told. -/
structure SpansOut (B : Nat) (w : World) (P : Nat → Prop) (sa : Option Addr) (ss : List SP) (rs : List Rg) : Prop where
  own : ∃ cap, w.ownsRow B 37 3 (.slice sa ss.length cap) ss.length (spRow ss)
  len : ss.length = rs.length
  at_ : ∀ i, i < ss.length → OutAt B w P (ss.getD i default) (rs.getD i default)
theorem SpansOut.spans {B : Nat} {w : World} {P : Nat → Prop} {sa : Option Addr} {ss : List SP} {rs : List Rg} (h : SpansOut B w P sa ss rs) : Spans w sa ss := by
  obtain ⟨cap, hc⟩ := h.own
  rcases hc.2 with ⟨h0, hz⟩ | ⟨g, cap', cur, hv, _, _, _⟩
  · exact .inl (List.eq_nil_of_length_eq_zero hz)
  · injection hv with h1 h2 h3
    subst h1
    refine .inr ⟨g, 0, rfl, fun i hi => ?_⟩
    have G := spRow_get ss i hi
    have e0 := hc.cellAt (i * 3) (by omega)
    have e1 := hc.cellAt (i * 3 + 1) (by omega)
    have e2 := hc.cellAt (i * 3 + 2) (by omega)
    rw [Nat.zero_add]
    exact ⟨e0.trans G.1, e1.trans G.2.1, e2.trans G.2.2⟩

/-- What the loop of Spans keeps. -/
structure SpLoop (w wr : World) (g cap k : Nat) (ss ss2 : List SP) (rs : List Rg) : Prop where
  bel : Below w.heap.size w wr
  own : wr.ownsRow w.heap.size 37 3 (.slice (some ⟨g, 0, none⟩) ss.length cap) ss.length (spRow ss2)
  len : ss2.length = ss.length
  done : ∀ i, i < k → OutAt w.heap.size wr (fun b => w.heap.size ≤ b ∧ b < wr.heap.size ∧ b ≠ g) (ss2.getD i default) (rs.getD i default)
  todo : ∀ i, k ≤ i → ss2.getD i default = ss.getD i default

theorem SpLoop.step {w wr w2 : World} {g cap k : Nat} {ss ss2 : List SP} {rs : List Rg} {la : Option Addr} {lc : Nat} {ls : List Int} {lo hi : Int} (h : SpLoop w wr g cap k ss ss2 rs) (hk : k < ss.length) (hsh : ls.length ≤ 1000000)
    (hr : rs.getD k default = ⟨lo, hi, ls⟩) (hlo : (ss.getD k default).lo = lo) (hhi : (ss.getD k default).hi = hi)
    (b2 : Below wr.heap.size wr w2) (hown : w2.ownsRow wr.heap.size 22 1 (.slice la ls.length lc) ls.length (ls.map (Value.int .u64))) :
    SpLoop w (w2.setCell ⟨g, k * 3 + 2, none⟩ (.slice la ls.length ls.length)) g cap (k + 1) ss (ss2.set k ⟨lo, hi, la, ls.length, ls.length⟩) rs := by
  have hgw := h.own.lt g rfl
  have z2 := b2.size
  have o2 : Only0 wr w2 := Below.only0 b2
  have own2 := rows_only h.own (S := fun _ => False) o2 (fun _ _ hf => hf)
  have oS : Only (fun b => b = g) w2 (w2.setCell ⟨g, k * 3 + 2, none⟩ (.slice la ls.length ls.length)) := (Only.refl (fun b => b = g) w2).setCell (p := ⟨g, k * 3 + 2, none⟩) (fun _ => rfl) _
  have oA : Only (fun b => b = g) wr (w2.setCell ⟨g, k * 3 + 2, none⟩ (.slice la ls.length ls.length)) := (o2.any _).trans oS
  have hzz : (w2.setCell ⟨g, k * 3 + 2, none⟩ (.slice la ls.length ls.length)).heap.size = w2.heap.size := by simp [World.setCell]
  have e1 := spRow_set la ls.length ls.length ss2 k (by rw [h.len]; exact hk)
  rw [h.todo k (Nat.le_refl _), hlo, hhi] at e1
  refine ⟨h.bel.trans (oA.below w.heap.size h.bel.size (fun b hb => by omega)), ?_, by simp [h.len], fun i hi' => ?_, fun i hi' => ?_⟩
  · have := own2.stored (k * 3 + 2) (.slice la ls.length ls.length)
    rw [← e1]; exact this.1
  · by_cases e : i = k
    · subst e
      rw [hr, show (ss2.set i (⟨lo, hi, la, ls.length, ls.length⟩ : SP)).getD i default = ⟨lo, hi, la, ls.length, ls.length⟩ by simp [List.getD_eq_getElem?_getD, h.len, hk]]
      refine ⟨rfl, rfl, rfl, ⟨lc, ?_⟩, fun b hb => ?_, hsh⟩
      · exact rows_base (rows_only hown oS (fun b hb e => by have := (hown.lt b hb).1; omega)) h.bel.size
      · have hb' : rowOf (.slice la ls.length lc) b := by
          rcases hla : la with _ | ad
          · rw [hla] at hb; exact absurd hb (by simp [rowOf, Value.ownBlock])
          · rw [hla] at hb; exact hb
        have := hown.lt b hb'
        have := h.bel.size
        exact ⟨by omega, by rw [hzz]; omega, by omega⟩
    · rw [show (ss2.set k (⟨lo, hi, la, ls.length, ls.length⟩ : SP)).getD i default = ss2.getD i default by simp [List.getD_eq_getElem?_getD, List.getElem?_set, show ¬ k = i by omega]]
      refine ((h.done i (by omega)).only oA (fun b hb e => hb.2.2 e)).mono (fun b hb => ⟨hb.1, by rw [hzz]; omega, hb.2.2⟩)
  · rw [show (ss2.set k (⟨lo, hi, la, ls.length, ls.length⟩ : SP)).getD i default = ss2.getD i default by simp [List.getD_eq_getElem?_getD, List.getElem?_set, show ¬ k = i by omega]]
    exact h.todo i (by omega)

theorem SpansIn.links {B : Nat} {w : World} {P : Nat → Prop} {p : SP} {r : Rg} (h : RgAt B w P p r) : Ints .u64 w p.la r.ls ∧ (p.la = none → r.ls = []) := by
  have ho := h.own
  have hn := h.n
  rw [hn] at ho
  refine ⟨ints_of_own ho, fun e => ?_⟩
  rw [e] at ho
  exact List.eq_nil_of_length_eq_zero (own_none ho)

theorem rows_cap' {B s n cap m : Nat} {w : World} {e : TypeId} {a : Option Addr} {xs : List Value} (h : w.ownsRow B e s (.slice a n cap) m xs) : n ≤ cap ∧ cap ≤ maxLen := by
  rcases h.2 with ⟨h0, _⟩ | ⟨g', cap', cur, hv, _, _, h1, h2, _⟩
  · injection h0 with _ h1 h2
    subst h1 h2; simp [maxLen]
  · injection hv with h3 h4 h5
    subst h4 h5
    exact ⟨h1, h2⟩
set_option maxRecDepth 100000 in
set_option maxHeartbeats 6000000 in
theorem spans_any {B : Nat} {w : World} {P : Nat → Prop} {s : Nat} {keys : List Int} {lk : Nat → Int} {rs : List Rg} {cs : Array Value} {ka sa : Option Addr} {kc sc : Nat} {ss : List SP} (h : SetIn B w P s keys lk rs cs ka sa kc sc ss) :
    Calls Try.prog 12 #[.pointer (some ⟨s, 0, none⟩)] w fun e w' => (∃ a ss2, e = .returned (.slice a rs.length rs.length) ∧ SpansOut w.heap.size w' (fun b => w.heap.size ≤ b ∧ b < w'.heap.size) a ss2 rs ∧ ∀ x, a = some x → w.heap.size ≤ x.block) ∧ Below w.heap.size w w' := by
  have c1 := (h.blk.cell 257).trans h.cells.spans
  have hl := h.sp.len
  have hm := h.most
  rcases sa with _ | ad
  · have hz : ss.length = 0 := own_none h.sp.own
    have hz2 : rs.length = 0 := by omega
    obtain rfl := List.eq_nil_of_length_eq_zero hz
    obtain rfl := List.eq_nil_of_length_eq_zero hz2
    have C := clone_scan_nil 0 sc w
    have D := clip_scan none 0 0 w (by omega) (by omega)
    clear h
    go_enter Try.func12, Try.ntmps12
    go_wp2_with fail
    refine C.mono ?_
    rintro e w1 ⟨rfl, rfl⟩
    go_wp2_with fail
    refine D.mono ?_
    rintro e w1 ⟨rfl, rfl⟩
    go_wp2_with fail
    go_loopw [14] (fun i wr => i = .int .i64 0 ∧ w = wr) (fun _ _ => 0)
    case atStart => exact ⟨rfl, rfl⟩
    case round =>
      obtain ⟨rfl, rfl⟩ := hrel
      go_wp2_with fail
      go_ret
      exact ⟨⟨none, [], rfl, ⟨⟨0, World.ownsRow_nil _ _ _ _⟩, rfl, fun i hi => by simp at hi⟩, fun x hx => by cases hx⟩, Below.refl _ _⟩
  · obtain ⟨g0, rfl⟩ : ∃ g0, ad = ⟨g0, 0, none⟩ := by
      rcases h.sp.own.2 with ⟨h0, _⟩ | ⟨g, cap, cur, hv, _⟩
      · cases h0
      · injection hv with h1; injection h1 with h1; exact ⟨g, h1⟩
    have C := clone_scan B g0 sc ss w h.sp.own (by omega)
    have H := Lib.hid h
    have HL := Lib.hid hl
    clear h hl
    go_enter Try.func12, Try.ntmps12
    go_wp2_with fail
    refine C.mono ?_
    rintro e w1 ⟨⟨g, cap, rfl, hown⟩, b1⟩
    obtain ⟨hc1, hc2, _⟩ := rows_cap hown
    have D := clip_scan (some ⟨g, 0, none⟩) ss.length cap w1 hc1 (by unfold maxLen at hc2; omega)
    have L0 : SpLoop w w1 g cap 0 ss ss rs := ⟨b1, hown, rfl, fun i hi => absurd hi (by omega), fun _ _ => rfl⟩
    clear C hown hc2 hc1
    go_wp2_with fail
    refine D.mono ?_
    rintro e w2 ⟨rfl, rfl⟩
    clear D b1
    go_wp2_with fail
    have hsl : ss.length ≤ 64 := by have := HL.out; omega
    go_loopw [14] (fun i wr => ∃ (k : Nat) (ss2 : List SP), k ≤ ss.length ∧ i = .int .i64 k ∧ SpLoop w wr g cap k ss ss2 rs) (fun i _ => ss.length - (intOf i).toNat)
    case atStart => exact ⟨0, ss, by omega, rfl, L0⟩
    case round =>
      obtain ⟨k, ss2, hk, rfl, hL⟩ := hrel
      clear L0 c1
      by_cases hlt : k < ss.length
      · have R := H.out.sp.at_ k hlt
        have G := spRow_get ss2 k (by rw [hL.len]; exact hlt)
        have q0 := (hL.own.cellAt (k * 3) (by omega)).trans G.1
        have q1 := (hL.own.cellAt (k * 3 + 1) (by omega)).trans G.2.1
        have q2 := (hL.own.cellAt (k * 3 + 2) (by omega)).trans G.2.2
        have f2 := hL.own.frozenAt (k * 3 + 2)
        rw [hL.todo k (Nat.le_refl _)] at q0 q1 q2
        rw [R.n] at q2
        have hgw := hL.own.lt g rfl
        have hlo := R.lo
        have hhi := R.hi
        obtain ⟨lo, elo⟩ : ∃ x, x = (ss.getD k default).lo := ⟨_, rfl⟩
        obtain ⟨hi, ehi⟩ : ∃ x, x = (ss.getD k default).hi := ⟨_, rfl⟩
        obtain ⟨la, ela⟩ : ∃ x, x = (ss.getD k default).la := ⟨_, rfl⟩
        obtain ⟨lc, elc⟩ : ∃ x, x = (ss.getD k default).lc := ⟨_, rfl⟩
        obtain ⟨r, er⟩ : ∃ x, x = rs.getD k default := ⟨_, rfl⟩
        obtain ⟨I1, I2⟩ := SpansIn.links (R.only (Q := fun _ => False) (Below.only0 hL.bel) (fun _ _ hf => hf))
        have hsh := R.short
        rw [← ela, ← er] at I1 I2
        rw [← er] at hsh q2
        rw [← elo] at q0 hlo
        rw [← ehi] at q1 hhi
        rw [← ela, ← elc] at q2
        rw [← er] at hlo hhi
        have ER := Lib.hid (show rs.getD k default = ⟨lo, hi, r.ls⟩ by rw [← er, hlo, hhi])
        have ELO := Lib.hid elo.symm
        have EHI := Lib.hid ehi.symm
        obtain ⟨ls, els⟩ : ∃ x, x = r.ls := ⟨_, rfl⟩
        rw [← els] at I1 I2 q2 hsh ER
        clear hlo hhi elo ehi ela elc er els R G
        have CL := fun wx hx => clone_u64_any la lc ls wx hx I2 (by omega)
        have hfin := Lib.hid (show ∀ (w2 : World) la lc, Below wr.heap.size wr w2 → w2.ownsRow wr.heap.size 22 1 (.slice la ls.length lc) ls.length (ls.map (Value.int .u64)) → SpLoop w (w2.setCell ⟨g, k * 3 + 2, none⟩ (.slice la ls.length ls.length)) g cap (k + 1) ss (ss2.set k ⟨lo, hi, la, ls.length, ls.length⟩) rs from fun w2 la lc hb ho => hL.step hlt hsh ER.out ELO.out EHI.out hb ho)
        have bw := hL.bel.size
        have hok := hL.own.frozenAt (k * 3 + 2)
        obtain ⟨W, hW⟩ : ∃ W, W = (wr.alloc (.cells #[.int .i64 lo, .int .i64 hi, .slice la ls.length lc] 37)) := ⟨_, rfl⟩
        have oW : Only0 wr W := by rw [hW]; exact (Only0.refl wr).alloc _
        have hIW : Ints .u64 W la ls := I1.below oW.below
        have CLW := CL W hIW
        have CX := Lib.hid (show ∀ wx, Below wr.heap.size wr wx → wx.cell? ⟨g, k * 3 + 2, none⟩ = some (.slice la ls.length lc) ∧ wx.frozen? ⟨g, k * 3 + 2, none⟩ = false from fun wx o => ⟨(o.cell (p := ⟨g, k * 3 + 2, none⟩) hgw.2).trans q2, (o.frozen (p := ⟨g, k * 3 + 2, none⟩) hgw.2).trans f2⟩)
        rw [hW] at CLW
        have OW := Lib.hid oW.below
        clear hL I2 I1 CL hIW oW
        go_wp2_with fail
        refine CLW.mono ?_
        rintro e w2 ⟨⟨la2, lc2, rfl, hown2⟩, b2⟩
        have z1 : wr.heap.size ≤ (wr.alloc (.cells #[.int .i64 lo, .int .i64 hi, .slice la ls.length lc] 37)).heap.size := by simp
        have bb : Below wr.heap.size wr w2 := (hW ▸ OW.out).trans (b2.mono z1)
        obtain ⟨cc1, cc2⟩ := rows_cap' hown2
        have D := clip_u64 la2 ls.length lc2 w2 cc1 (by unfold maxLen at cc2; omega)
        have hS := Lib.hid (hfin.out w2 la2 lc2 bb (rows_base hown2 z1))
        obtain ⟨cz, fz⟩ := CX.out w2 bb
        clear CLW hown2 b2 cc1 cc2 hfin CX bb
        go_wp2_with fail
        refine D.mono ?_
        rintro e w3 ⟨rfl, rfl⟩
        clear D
        go_wp2_with fail
        go_roundw
        case rel => exact ⟨k + 1, _, by omega, by go_num, hS.out⟩
        case measure => simp [intOf]; omega
      · obtain rfl : k = ss.length := by omega
        have hD := hL.done
        have hT := hL.own
        have hB := hL.bel
        have hLn := hL.len
        have F := Lib.hid (show SpansOut w.heap.size wr (fun b => w.heap.size ≤ b ∧ b < wr.heap.size) (some ⟨g, 0, none⟩) ss2 rs from ⟨⟨cap, by rw [hLn]; exact hT⟩, by rw [hLn]; exact HL.out, fun i hi => (hD i (by omega)).mono (fun b hb => ⟨hb.1, hb.2.1⟩)⟩)
        have hg := (hT.lt g rfl).1
        have hl := HL.out
        clear hD hT hLn hL
        go_wp2_with fail
        go_ret
        rw [← hl]
        exact ⟨⟨_, ss2, rfl, F.out, fun x hx => by cases hx; exact hg⟩, hB⟩

theorem set_spans {B : Nat} {w : World} {P : Nat → Prop} {s : Nat} {keys : List Int} {lk : Nat → Int} {rs : List Rg} (h : SetAt B w P s keys lk rs) :
    Calls Try.prog 12 #[.pointer (some ⟨s, 0, none⟩)] w fun e w' => (∃ a ss2, e = .returned (.slice a rs.length rs.length) ∧ SpansOut w.heap.size w' (fun b => w.heap.size ≤ b ∧ b < w'.heap.size) a ss2 rs ∧ ∀ x, a = some x → w.heap.size ≤ x.block) ∧ Below w.heap.size w w' := by
  obtain ⟨cs, ka, sa, kc, sc, ss, h⟩ := h
  exact spans_any h
end Go.Proofs.Ythjhhclgmkgigaa

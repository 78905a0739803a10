/-
  ModelAlone: the walk.
-/
import Derived.Test.YtcbhafddehipdaaMdAlP
import Derived.Test.YtcbhafddehipdaaMdArg
import Derived.Test.YtcbhafddehipdaaMdAborted
import Derived.Test.YtcbhafddehipdaaMdSameR
import Derived.Test.YtcbhafddehipdaaMdRefOk
import Derived.Deep.RegionHeld3
import Derived.Deep.DrawnRows
import Derived.Deep.Cut
namespace Go.Proofs.Ytcbhafddehipdaa
open Go.RowKit
set_option linter.unusedVariables false
set_option linter.unusedSimpArgs false

/-- An array of 64. -/
def Arr64 (w : World) (b : Nat) (t : TypeId) (f : Nat → Value) : Prop := ∃ cs : Array Value, Blk w b t cs ∧ cs.size = 64 ∧ ∀ k, k < 64 → cs[k]? = some (f k)
theorem Arr64.cell {w : World} {b : Nat} {t : TypeId} {f : Nat → Value} (h : Arr64 w b t f) {k : Nat} (hk : k < 64) : w.cell? ⟨b, k, none⟩ = some (f k) := by
  obtain ⟨cs, B, _, hc⟩ := h
  rw [B.cell]; exact hc k hk
theorem Arr64.free {w : World} {b : Nat} {t : TypeId} {f : Nat → Value} (h : Arr64 w b t f) (i : Nat) : w.frozen? ⟨b, i, none⟩ = false := by
  obtain ⟨cs, B, _, hc⟩ := h
  exact B.free i
theorem Arr64.lt {w : World} {b : Nat} {t : TypeId} {f : Nat → Value} (h : Arr64 w b t f) : b < w.heap.size := by obtain ⟨cs, B, _, hc⟩ := h; exact B.lt
theorem Arr64.only {w w' : World} {b : Nat} {t : TypeId} {f : Nat → Value} {S : Nat → Prop} (h : Arr64 w b t f) (o : Only S w w') (hn : ¬ S b) : Arr64 w' b t f := by
  obtain ⟨cs, B, hs, hc⟩ := h
  exact ⟨cs, o.blk B hn, hs, hc⟩
theorem Arr64.set {w : World} {b : Nat} {t : TypeId} {f : Nat → Value} (h : Arr64 w b t f) (k : Nat) (v : Value) : Arr64 (w.setCell ⟨b, k, none⟩ v) b t (upd f k v) := by
  obtain ⟨cs, B, hs, hc⟩ := h
  refine ⟨_, B.set k v, by simp [hs], fun j hj => ?_⟩
  rw [Array.getElem?_setIfInBounds]
  by_cases e : k = j
  · subst e
    rw [if_pos rfl, if_pos (by omega), upd_same]
  · rw [if_neg e, upd_other _ _ _ (Ne.symm e)]; exact hc j hj
def bF (th : Nat → Bool) : Nat → Value := fun k => .bool (th k)
def iF (vl : Nat → Int) : Nat → Value := fun k => .int .i64 (vl k)
theorem bF_upd (th : Nat → Bool) (k : Nat) (b : Bool) : upd (bF th) k (.bool b) = bF (upd th k b) := by
  funext j; unfold bF upd; split <;> rfl
theorem iF_upd (vl : Nat → Int) (k : Nat) (x : Int) : upd (iF vl) k (.int .i64 x) = iF (upd vl k x) := by
  funext j; unfold iF upd; split <;> rfl
theorem Arr64.newB (w : World) : Arr64 (w.alloc (.cells #[.bool false, .bool false, .bool false, .bool false, .bool false, .bool false, .bool false, .bool false, .bool false, .bool false, .bool false, .bool false, .bool false, .bool false, .bool false, .bool false, .bool false, .bool false, .bool false, .bool false, .bool false, .bool false, .bool false, .bool false, .bool false, .bool false, .bool false, .bool false, .bool false, .bool false, .bool false, .bool false, .bool false, .bool false, .bool false, .bool false, .bool false, .bool false, .bool false, .bool false, .bool false, .bool false, .bool false, .bool false, .bool false, .bool false, .bool false, .bool false, .bool false, .bool false, .bool false, .bool false, .bool false, .bool false, .bool false, .bool false, .bool false, .bool false, .bool false, .bool false, .bool false, .bool false, .bool false, .bool false] 44)) w.heap.size 44 (bF fun _ => false) := by
  refine ⟨_, Blk.new w 44 _, rfl, fun k hk => ?_⟩
  have h : ∀ i : Fin 64, (#[.bool false, .bool false, .bool false, .bool false, .bool false, .bool false, .bool false, .bool false, .bool false, .bool false, .bool false, .bool false, .bool false, .bool false, .bool false, .bool false, .bool false, .bool false, .bool false, .bool false, .bool false, .bool false, .bool false, .bool false, .bool false, .bool false, .bool false, .bool false, .bool false, .bool false, .bool false, .bool false, .bool false, .bool false, .bool false, .bool false, .bool false, .bool false, .bool false, .bool false, .bool false, .bool false, .bool false, .bool false, .bool false, .bool false, .bool false, .bool false, .bool false, .bool false, .bool false, .bool false, .bool false, .bool false, .bool false, .bool false, .bool false, .bool false, .bool false, .bool false, .bool false, .bool false, .bool false, .bool false] : Array Value)[i.val]? = some (.bool false) := by
    intro i
    match i with
    | ⟨0, _⟩ => rfl
    | ⟨1, _⟩ => rfl
    | ⟨2, _⟩ => rfl
    | ⟨3, _⟩ => rfl
    | ⟨4, _⟩ => rfl
    | ⟨5, _⟩ => rfl
    | ⟨6, _⟩ => rfl
    | ⟨7, _⟩ => rfl
    | ⟨8, _⟩ => rfl
    | ⟨9, _⟩ => rfl
    | ⟨10, _⟩ => rfl
    | ⟨11, _⟩ => rfl
    | ⟨12, _⟩ => rfl
    | ⟨13, _⟩ => rfl
    | ⟨14, _⟩ => rfl
    | ⟨15, _⟩ => rfl
    | ⟨16, _⟩ => rfl
    | ⟨17, _⟩ => rfl
    | ⟨18, _⟩ => rfl
    | ⟨19, _⟩ => rfl
    | ⟨20, _⟩ => rfl
    | ⟨21, _⟩ => rfl
    | ⟨22, _⟩ => rfl
    | ⟨23, _⟩ => rfl
    | ⟨24, _⟩ => rfl
    | ⟨25, _⟩ => rfl
    | ⟨26, _⟩ => rfl
    | ⟨27, _⟩ => rfl
    | ⟨28, _⟩ => rfl
    | ⟨29, _⟩ => rfl
    | ⟨30, _⟩ => rfl
    | ⟨31, _⟩ => rfl
    | ⟨32, _⟩ => rfl
    | ⟨33, _⟩ => rfl
    | ⟨34, _⟩ => rfl
    | ⟨35, _⟩ => rfl
    | ⟨36, _⟩ => rfl
    | ⟨37, _⟩ => rfl
    | ⟨38, _⟩ => rfl
    | ⟨39, _⟩ => rfl
    | ⟨40, _⟩ => rfl
    | ⟨41, _⟩ => rfl
    | ⟨42, _⟩ => rfl
    | ⟨43, _⟩ => rfl
    | ⟨44, _⟩ => rfl
    | ⟨45, _⟩ => rfl
    | ⟨46, _⟩ => rfl
    | ⟨47, _⟩ => rfl
    | ⟨48, _⟩ => rfl
    | ⟨49, _⟩ => rfl
    | ⟨50, _⟩ => rfl
    | ⟨51, _⟩ => rfl
    | ⟨52, _⟩ => rfl
    | ⟨53, _⟩ => rfl
    | ⟨54, _⟩ => rfl
    | ⟨55, _⟩ => rfl
    | ⟨56, _⟩ => rfl
    | ⟨57, _⟩ => rfl
    | ⟨58, _⟩ => rfl
    | ⟨59, _⟩ => rfl
    | ⟨60, _⟩ => rfl
    | ⟨61, _⟩ => rfl
    | ⟨62, _⟩ => rfl
    | ⟨63, _⟩ => rfl
    | ⟨n + 64, h⟩ => exact absurd h (by omega)
  exact h ⟨k, hk⟩
theorem Arr64.newI (w : World) : Arr64 (w.alloc (.cells #[.int .i64 0, .int .i64 0, .int .i64 0, .int .i64 0, .int .i64 0, .int .i64 0, .int .i64 0, .int .i64 0, .int .i64 0, .int .i64 0, .int .i64 0, .int .i64 0, .int .i64 0, .int .i64 0, .int .i64 0, .int .i64 0, .int .i64 0, .int .i64 0, .int .i64 0, .int .i64 0, .int .i64 0, .int .i64 0, .int .i64 0, .int .i64 0, .int .i64 0, .int .i64 0, .int .i64 0, .int .i64 0, .int .i64 0, .int .i64 0, .int .i64 0, .int .i64 0, .int .i64 0, .int .i64 0, .int .i64 0, .int .i64 0, .int .i64 0, .int .i64 0, .int .i64 0, .int .i64 0, .int .i64 0, .int .i64 0, .int .i64 0, .int .i64 0, .int .i64 0, .int .i64 0, .int .i64 0, .int .i64 0, .int .i64 0, .int .i64 0, .int .i64 0, .int .i64 0, .int .i64 0, .int .i64 0, .int .i64 0, .int .i64 0, .int .i64 0, .int .i64 0, .int .i64 0, .int .i64 0, .int .i64 0, .int .i64 0, .int .i64 0, .int .i64 0] 45)) w.heap.size 45 (iF fun _ => 0) := by
  refine ⟨_, Blk.new w 45 _, rfl, fun k hk => ?_⟩
  have h : ∀ i : Fin 64, (#[.int .i64 0, .int .i64 0, .int .i64 0, .int .i64 0, .int .i64 0, .int .i64 0, .int .i64 0, .int .i64 0, .int .i64 0, .int .i64 0, .int .i64 0, .int .i64 0, .int .i64 0, .int .i64 0, .int .i64 0, .int .i64 0, .int .i64 0, .int .i64 0, .int .i64 0, .int .i64 0, .int .i64 0, .int .i64 0, .int .i64 0, .int .i64 0, .int .i64 0, .int .i64 0, .int .i64 0, .int .i64 0, .int .i64 0, .int .i64 0, .int .i64 0, .int .i64 0, .int .i64 0, .int .i64 0, .int .i64 0, .int .i64 0, .int .i64 0, .int .i64 0, .int .i64 0, .int .i64 0, .int .i64 0, .int .i64 0, .int .i64 0, .int .i64 0, .int .i64 0, .int .i64 0, .int .i64 0, .int .i64 0, .int .i64 0, .int .i64 0, .int .i64 0, .int .i64 0, .int .i64 0, .int .i64 0, .int .i64 0, .int .i64 0, .int .i64 0, .int .i64 0, .int .i64 0, .int .i64 0, .int .i64 0, .int .i64 0, .int .i64 0, .int .i64 0] : Array Value)[i.val]? = some (.int .i64 0) := by
    intro i
    match i with
    | ⟨0, _⟩ => rfl
    | ⟨1, _⟩ => rfl
    | ⟨2, _⟩ => rfl
    | ⟨3, _⟩ => rfl
    | ⟨4, _⟩ => rfl
    | ⟨5, _⟩ => rfl
    | ⟨6, _⟩ => rfl
    | ⟨7, _⟩ => rfl
    | ⟨8, _⟩ => rfl
    | ⟨9, _⟩ => rfl
    | ⟨10, _⟩ => rfl
    | ⟨11, _⟩ => rfl
    | ⟨12, _⟩ => rfl
    | ⟨13, _⟩ => rfl
    | ⟨14, _⟩ => rfl
    | ⟨15, _⟩ => rfl
    | ⟨16, _⟩ => rfl
    | ⟨17, _⟩ => rfl
    | ⟨18, _⟩ => rfl
    | ⟨19, _⟩ => rfl
    | ⟨20, _⟩ => rfl
    | ⟨21, _⟩ => rfl
    | ⟨22, _⟩ => rfl
    | ⟨23, _⟩ => rfl
    | ⟨24, _⟩ => rfl
    | ⟨25, _⟩ => rfl
    | ⟨26, _⟩ => rfl
    | ⟨27, _⟩ => rfl
    | ⟨28, _⟩ => rfl
    | ⟨29, _⟩ => rfl
    | ⟨30, _⟩ => rfl
    | ⟨31, _⟩ => rfl
    | ⟨32, _⟩ => rfl
    | ⟨33, _⟩ => rfl
    | ⟨34, _⟩ => rfl
    | ⟨35, _⟩ => rfl
    | ⟨36, _⟩ => rfl
    | ⟨37, _⟩ => rfl
    | ⟨38, _⟩ => rfl
    | ⟨39, _⟩ => rfl
    | ⟨40, _⟩ => rfl
    | ⟨41, _⟩ => rfl
    | ⟨42, _⟩ => rfl
    | ⟨43, _⟩ => rfl
    | ⟨44, _⟩ => rfl
    | ⟨45, _⟩ => rfl
    | ⟨46, _⟩ => rfl
    | ⟨47, _⟩ => rfl
    | ⟨48, _⟩ => rfl
    | ⟨49, _⟩ => rfl
    | ⟨50, _⟩ => rfl
    | ⟨51, _⟩ => rfl
    | ⟨52, _⟩ => rfl
    | ⟨53, _⟩ => rfl
    | ⟨54, _⟩ => rfl
    | ⟨55, _⟩ => rfl
    | ⟨56, _⟩ => rfl
    | ⟨57, _⟩ => rfl
    | ⟨58, _⟩ => rfl
    | ⟨59, _⟩ => rfl
    | ⟨60, _⟩ => rfl
    | ⟨61, _⟩ => rfl
    | ⟨62, _⟩ => rfl
    | ⟨63, _⟩ => rfl
    | ⟨n + 64, h⟩ => exact absurd h (by omega)
  exact h ⟨k, hk⟩
theorem op_fix {K k hh v : Int} (h : opOkB ⟨K, k, hh, v⟩ = true) : (K = 1 ∨ K = 4 ∨ False → hh = 0 ∧ v = 0) ∧ (K = 2 ∨ K = 3 → hh = 0) := by
  refine ⟨fun hK => ?_, fun hK => ?_⟩
  · rcases hK with rfl | rfl | h
    · simp [opOkB] at h; exact ⟨h.1.2, h.2⟩
    · simp [opOkB] at h; exact ⟨h.1.2, h.2⟩
    · exact h.elim
  · rcases hK with rfl | rfl
    · simp [opOkB] at h; exact h.1.1.2
    · simp [opOkB] at h; exact h.1.1.2
theorem op_fix5 {hh k v : Int} (h : opOkB ⟨5, k, hh, v⟩ = true) : v = 0 := by simp [opOkB] at h; exact h.2
/-- What a scan tells. -/
def alPs (th : Nat → Bool) (vl : Nat → Int) (lo n : Nat) : List (Int × Int) := (keysFrom lo n).filterMap fun k => if th k then some ((k : Int), vl k) else none
theorem alPs_few (th : Nat → Bool) (vl : Nat → Int) (lo n : Nat) (h : n ≤ 64) : (alPs th vl lo n).length ≤ 64 := by
  refine Nat.le_trans (List.length_filterMap_le _ _) ?_
  simp [keysFrom]; exact h
theorem alPs_false {th : Nat → Bool} {vl : Nat → Int} {lo n : Nat} (h : th (lo + n) = false) : alPs th vl lo (n + 1) = alPs th vl lo n := by
  unfold alPs
  rw [keysFrom_succ, List.filterMap_append]; simp [h]
theorem alPs_true {th : Nat → Bool} {vl : Nat → Int} {lo n : Nat} (h : th (lo + n) = true) : alPs th vl lo (n + 1) = alPs th vl lo n ++ [(((lo + n : Nat) : Int), vl (lo + n))] := by
  unfold alPs
  rw [keysFrom_succ, List.filterMap_append]; simp [h]
/-- The loop of a scan, under way: i keys are done; n1: the box of what is wanted. -/
structure AlQ (w4 W5 : World) (n1 : Nat) (wx : World) (th : Nat → Bool) (vl : Nat → Int) (lo i : Nat) (ra : Option Addr) (rc : Nat) : Prop where
  o : Only0 w4 wx
  bw : Blk wx n1 27 #[.int .i64 0, .int .i64 0, .slice ra (alPs th vl lo i).length rc, .int .i64 0, .int .i64 0]
  row : wx.ownsRow W5.heap.size 48 2 (.slice ra (alPs th vl lo i).length rc) (alPs th vl lo i).length (pairCells (alPs th vl lo i))
  size : W5.heap.size ≤ wx.heap.size
theorem AlQ.skip {w4 W5 wx : World} {n1 : Nat} {th : Nat → Bool} {vl : Nat → Int} {lo i : Nat} {ra : Option Addr} {rc : Nat} (h : AlQ w4 W5 n1 wx th vl lo i ra rc) (hf : th (lo + i) = false) : AlQ w4 W5 n1 wx th vl lo (i + 1) ra rc := by
  have e := alPs_false (vl := vl) hf
  exact ⟨h.o, by rw [e]; exact h.bw, by rw [e]; exact h.row, h.size⟩
theorem al_app {w4 W5 wx w1 : World} {n1 gg cap : Nat} {th : Nat → Bool} {vl : Nat → Int} {lo i : Nat} {ra : Option Addr} {rc : Nat} {qs : List (Int × Int)} {x : Int} (hqs : qs = alPs th vl lo i) (ht : th (lo + i) = true) (hx : x = vl (lo + i)) (h1 : n1 < W5.heap.size) (h2 : w4.heap.size ≤ n1) (hW2 : W5.heap.size ≤ wx.heap.size)
    (O : Only0 w4 wx) (B1 : Blk wx n1 27 #[.int .i64 0, .int .i64 0, .slice ra qs.length rc, .int .i64 0, .int .i64 0]) (hrow : wx.ownsRow W5.heap.size 48 2 (.slice ra qs.length rc) qs.length (pairCells qs))
    (hown2 : w1.ownsRow W5.heap.size 48 2 (.slice (some ⟨gg, 0, none⟩) (qs.length + 1) cap) (qs.length + 1) (pairCells qs ++ [.int .i64 ((lo + i : Nat) : Int), .int .i64 x]))
    (hgrow : ((wx.alloc (.cells #[.int .i64 ((lo + i : Nat) : Int), .int .i64 x] 48)).drew).grownBy w1 (Value.slice ra qs.length rc).ownBlock) :
    AlQ w4 W5 n1 (w1.setCell ⟨n1, 2, none⟩ (.slice (some ⟨gg, 0, none⟩) (qs.length + 1) cap)) th vl lo (i + 1) (some ⟨gg, 0, none⟩) cap := by
  obtain ⟨W6, hW6⟩ : ∃ W6, W6 = (wx.alloc (.cells #[.int .i64 ((lo + i : Nat) : Int), .int .i64 x] 48)).drew := ⟨_, rfl⟩
  rw [← hW6] at hgrow
  have o6 : Only0 wx W6 := by rw [hW6]; exact ((Only0.refl _).alloc _).drew
  have hab : ∀ b, rowOf (.slice ra qs.length rc) b → W5.heap.size ≤ b := fun b hb => rows_above hrow b hb
  have oR : Only (rowOf (.slice ra qs.length rc)) W6 w1 := ⟨hgrow.os, hgrow.tape, hgrow.output, hgrow.size, fun b hb hn => hgrow.block b hb (fun e => hn e.symm)⟩
  have O2 : Only (fun b => b = n1 ∨ rowOf (.slice ra qs.length rc) b) wx (w1.setCell ⟨n1, 2, none⟩ (.slice (some ⟨gg, 0, none⟩) (qs.length + 1) cap)) := ((o6.any _).trans (oR.toward (fun b hb => .inr hb))).setCell (fun _ => .inl rfl) _
  have C1 : Blk w1 n1 27 #[.int .i64 0, .int .i64 0, .slice ra qs.length rc, .int .i64 0, .int .i64 0] := oR.blk (o6.blk B1 (fun h => h)) (fun hb => by have := hab _ hb; omega)
  have hgn : gg ≠ n1 := by
    rintro rfl
    exact rows_ne hown2 C1 (by decide) (rowOf_some.2 rfl)
  have e : alPs th vl lo (i + 1) = qs ++ [(((lo + i : Nat) : Int), x)] := by rw [alPs_true ht, hqs, hx]
  refine ⟨⟨O2.os.trans O.os, O2.tape.trans O.tape, O2.output.trans O.output, Nat.le_trans O.size O2.size, fun k hk _ => ?_⟩, ?_, ?_, Nat.le_trans hW2 O2.size⟩
  · rw [O2.block k (Nat.lt_of_lt_of_le hk O.size) (fun hS => ?_)]
    · exact O.block k hk (fun h => h)
    · rcases hS with rfl | hS
      · omega
      · have := hab _ hS; omega
  · rw [e]
    have := C1.set 2 (.slice (some ⟨gg, 0, none⟩) (qs.length + 1) cap)
    simpa using this
  · rw [e]
    have := ownsRow_setCell_other hown2 (a := ⟨n1, 2, none⟩) (fun e => hgn (by simpa [Value.ownBlock] using e)) (.slice (some ⟨gg, 0, none⟩) (qs.length + 1) cap)
    rw [pairCells_snoc]
    simpa using this
/-- All of the law's memory. -/
structure AlM (w0 w : World) (P : Nat → Prop) (m : Nat) (s : St) (bt bv : Nat) (th : Nat → Bool) (vl : Nat → Int) : Prop where
  lw : LW w0 w P m s
  t : Arr64 w bt 44 (bF th)
  v : Arr64 w bv 45 (iF vl)
  pt : ¬ P bt
  pv : ¬ P bv
  nt : w0.heap.size ≤ bt
  nv : w0.heap.size ≤ bv
  ne : bt ≠ bv
theorem AlM.step {w0 w w' : World} {P P' : Nat → Prop} {m bt bv : Nat} {s s' : St} {th : Nat → Bool} {vl : Nat → Int} (h : AlM w0 w P m s bt bv th vl) (L : LW w0 w' P' m s') (o : Only P w w') (g : Grew w.heap.size P P') : AlM w0 w' P' m s' bt bv th vl :=
  ⟨L, h.t.only o h.pt, h.v.only o h.pv, fun hp => by
    rcases g _ hp with h1 | h1
    · exact h.pt h1
    · have := h.t.lt; omega, fun hp => by
    rcases g _ hp with h1 | h1
    · exact h.pv h1
    · have := h.v.lt; omega, h.nt, h.nv, h.ne⟩
theorem AlM.only0 {w0 w w' : World} {P : Nat → Prop} {m bt bv : Nat} {s : St} {th : Nat → Bool} {vl : Nat → Int} (h : AlM w0 w P m s bt bv th vl) (o : Only0 w w') : AlM w0 w' P m s bt bv th vl :=
  ⟨h.lw.only0 o, h.t.only o (fun h => h), h.v.only o (fun h => h), h.pt, h.pv, h.nt, h.nv, h.ne⟩
theorem AlM.alloc {w0 w : World} {P : Nat → Prop} {m bt bv : Nat} {s : St} {th : Nat → Bool} {vl : Nat → Int} (h : AlM w0 w P m s bt bv th vl) (o : Obj) : AlM w0 (w.alloc o) P m s bt bv th vl := h.only0 ((Only0.refl _).alloc _)
theorem LW.poke1 {w0 w w' : World} {P : Nat → Prop} {m n : Nat} {s : St} (h : LW w0 w P m s) (o : Only (fun c => c = n) w w') (hn : ¬ P n) (hw : w0.heap.size ≤ n) : LW w0 w' P m s := by
  obtain ⟨⟨A, M⟩, o0⟩ := h
  refine ⟨⟨A, M.only o (fun b hb e => hn (e ▸ hb))⟩, ⟨o.os.trans o0.os, o.tape.trans o0.tape, o.output.trans o0.output, Nat.le_trans o0.size o.size, fun k hk _ => ?_⟩⟩
  rw [o.block k (Nat.lt_of_lt_of_le hk o0.size) (fun e => by omega)]
  exact o0.block k hk (fun h => h)
theorem AlM.setT {w0 w : World} {P : Nat → Prop} {m bt bv : Nat} {s : St} {th : Nat → Bool} {vl : Nat → Int} (h : AlM w0 w P m s bt bv th vl) (k : Nat) (b : Bool) : AlM w0 (w.setCell ⟨bt, k, none⟩ (.bool b)) P m s bt bv (upd th k b) vl :=
  ⟨h.lw.poke1 (Only.set1 w bt k _) h.pt h.nt, by rw [← bF_upd]; exact h.t.set k _, h.v.only (Only.set1 w bt k _) (fun e => h.ne e.symm), h.pt, h.pv, h.nt, h.nv, h.ne⟩
theorem AlM.setV {w0 w : World} {P : Nat → Prop} {m bt bv : Nat} {s : St} {th : Nat → Bool} {vl : Nat → Int} (h : AlM w0 w P m s bt bv th vl) (k : Nat) (x : Int) : AlM w0 (w.setCell ⟨bv, k, none⟩ (.int .i64 x)) P m s bt bv th (upd vl k x) :=
  ⟨h.lw.poke1 (Only.set1 w bv k _) h.pv h.nv, h.t.only (Only.set1 w bv k _) h.ne, by rw [← iF_upd]; exact h.v.set k _, h.pt, h.pv, h.nt, h.nv, h.ne⟩
/-- Do, in a law, with its pairs. -/
theorem lw_dopp {w0 w : World} {P : Nat → Prop} {m : Nat} {s : St} (h : LW w0 w P m s) (j kind key hi value : Int) {re rv ro rr er : Int} {ps : List (Int × Int)} {s' : St} (hs : s.do_ j ⟨kind, key, hi, value⟩ = (⟨re, rv, ps, ro, rr⟩, er, s')) :
    Calls Try.prog 19 #[.pointer (some ⟨m, 0, none⟩), .int .i64 j, .agg #[.int .i64 kind, .int .i64 key, .int .i64 hi, .int .i64 value]] w fun e w' => ∃ (P' : Nat → Prop) (a : Option Addr) (c : Nat), e = .returned (.tuple #[.agg #[.int .i64 re, .int .i64 rv, .slice a ps.length c, .int .i64 ro, .int .i64 rr], .int .i64 er]) ∧ LW w0 w' P' m s' ∧ Only P w w' ∧ Grew w.heap.size P P' ∧ PairsIn w' a ps := by
  refine (md_do h.mat j kind key hi value).mono ?_
  rintro e w' ⟨P', a, c, he, h', o, g, p, _⟩
  rw [hs] at he h' p
  exact ⟨P', a, c, he, h.step h' o, o, g, p⟩
/-- All that a round has, and the law's memory. -/
def AlR (w0 w : World) (P : Nat → Prop) (m : Nat) (s : St) (bt bv n : Nat) (th : Nat → Bool) (vl : Nat → Int) : Prop := AlM w0 w P m s bt bv th vl ∧ AlI n th vl s
set_option maxRecDepth 100000 in
set_option maxHeartbeats 16000000 in
theorem modelAlone_walk (lv : Int) (a2 : Option Addr) (cc : Nat) (rows : List (List Int)) (w : World) (_w0 : (Lit.int .i64 lv).wf = true)
    (i2 : Recs opKinds w a2 rows ∧ ∀ r ∈ rows, r.length = opKinds.length ∧ wfs opKinds r) (s2 : rows.length * 32 ≤ 140737488351232) (_l2 : rows.length ≤ cc) (_m2 : cc ≤ 9223372036854775807) :
    Calls Try.prog 5 #[.int .i64 lv, .slice a2 rows.length cc] w fun e w' => e = .returned (.bool true) ∧ Below w.heap.size w w' := by
  have hrl : rows.length ≤ 17592186044000 := by omega
  have HR := Lib.hid i2
  clear i2 s2
  obtain ⟨q0, r, e0, hq0, f0, hr⟩ := lev3 lv
  obtain ⟨s1, hb, I0⟩ := AlI.start (L := (r : Int) + 1) (by simp [levelB]; omega)
  have HB := Lib.hid hb
  have HI := Lib.hid I0
  clear hb I0
  go_enter Try.func5, Try.ntmps5
  go_wp2_with fail
  refine (md_new 200 50 _ (by decide)).mono ?_
  rintro e w1 ⟨m, rfl, h1, o1, -⟩
  have L1 := LW.made (Only0.refl w) h1 o1
  clear h1 o1
  go_wp2_with fail
  refine (lw_begin L1 3 ((r : Int) + 1) HB.out).mono ?_
  rintro e w2 ⟨P2, rfl, L2, -, -⟩
  have HM : Hid (AlR w ((w2.alloc (.cells #[.bool false, .bool false, .bool false, .bool false, .bool false, .bool false, .bool false, .bool false, .bool false, .bool false, .bool false, .bool false, .bool false, .bool false, .bool false, .bool false, .bool false, .bool false, .bool false, .bool false, .bool false, .bool false, .bool false, .bool false, .bool false, .bool false, .bool false, .bool false, .bool false, .bool false, .bool false, .bool false, .bool false, .bool false, .bool false, .bool false, .bool false, .bool false, .bool false, .bool false, .bool false, .bool false, .bool false, .bool false, .bool false, .bool false, .bool false, .bool false, .bool false, .bool false, .bool false, .bool false, .bool false, .bool false, .bool false, .bool false, .bool false, .bool false, .bool false, .bool false, .bool false, .bool false, .bool false, .bool false] 44)).alloc (.cells #[.int .i64 0, .int .i64 0, .int .i64 0, .int .i64 0, .int .i64 0, .int .i64 0, .int .i64 0, .int .i64 0, .int .i64 0, .int .i64 0, .int .i64 0, .int .i64 0, .int .i64 0, .int .i64 0, .int .i64 0, .int .i64 0, .int .i64 0, .int .i64 0, .int .i64 0, .int .i64 0, .int .i64 0, .int .i64 0, .int .i64 0, .int .i64 0, .int .i64 0, .int .i64 0, .int .i64 0, .int .i64 0, .int .i64 0, .int .i64 0, .int .i64 0, .int .i64 0, .int .i64 0, .int .i64 0, .int .i64 0, .int .i64 0, .int .i64 0, .int .i64 0, .int .i64 0, .int .i64 0, .int .i64 0, .int .i64 0, .int .i64 0, .int .i64 0, .int .i64 0, .int .i64 0, .int .i64 0, .int .i64 0, .int .i64 0, .int .i64 0, .int .i64 0, .int .i64 0, .int .i64 0, .int .i64 0, .int .i64 0, .int .i64 0, .int .i64 0, .int .i64 0, .int .i64 0, .int .i64 0, .int .i64 0, .int .i64 0, .int .i64 0, .int .i64 0] 45)) P2 m s1 w2.heap.size (w2.heap.size + 1) 0 (fun _ => false) (fun _ => 0)) := by
    have hsz : (w2.alloc (.cells #[.bool false, .bool false, .bool false, .bool false, .bool false, .bool false, .bool false, .bool false, .bool false, .bool false, .bool false, .bool false, .bool false, .bool false, .bool false, .bool false, .bool false, .bool false, .bool false, .bool false, .bool false, .bool false, .bool false, .bool false, .bool false, .bool false, .bool false, .bool false, .bool false, .bool false, .bool false, .bool false, .bool false, .bool false, .bool false, .bool false, .bool false, .bool false, .bool false, .bool false, .bool false, .bool false, .bool false, .bool false, .bool false, .bool false, .bool false, .bool false, .bool false, .bool false, .bool false, .bool false, .bool false, .bool false, .bool false, .bool false, .bool false, .bool false, .bool false, .bool false, .bool false, .bool false, .bool false, .bool false] 44)).heap.size = w2.heap.size + 1 := by simp
    have hT := (Arr64.newB w2).only (Only0.alloc (Only0.refl _) (.cells #[.int .i64 0, .int .i64 0, .int .i64 0, .int .i64 0, .int .i64 0, .int .i64 0, .int .i64 0, .int .i64 0, .int .i64 0, .int .i64 0, .int .i64 0, .int .i64 0, .int .i64 0, .int .i64 0, .int .i64 0, .int .i64 0, .int .i64 0, .int .i64 0, .int .i64 0, .int .i64 0, .int .i64 0, .int .i64 0, .int .i64 0, .int .i64 0, .int .i64 0, .int .i64 0, .int .i64 0, .int .i64 0, .int .i64 0, .int .i64 0, .int .i64 0, .int .i64 0, .int .i64 0, .int .i64 0, .int .i64 0, .int .i64 0, .int .i64 0, .int .i64 0, .int .i64 0, .int .i64 0, .int .i64 0, .int .i64 0, .int .i64 0, .int .i64 0, .int .i64 0, .int .i64 0, .int .i64 0, .int .i64 0, .int .i64 0, .int .i64 0, .int .i64 0, .int .i64 0, .int .i64 0, .int .i64 0, .int .i64 0, .int .i64 0, .int .i64 0, .int .i64 0, .int .i64 0, .int .i64 0, .int .i64 0, .int .i64 0, .int .i64 0, .int .i64 0] 45)) (fun h => h)
    have hV := Arr64.newI (w2.alloc (.cells #[.bool false, .bool false, .bool false, .bool false, .bool false, .bool false, .bool false, .bool false, .bool false, .bool false, .bool false, .bool false, .bool false, .bool false, .bool false, .bool false, .bool false, .bool false, .bool false, .bool false, .bool false, .bool false, .bool false, .bool false, .bool false, .bool false, .bool false, .bool false, .bool false, .bool false, .bool false, .bool false, .bool false, .bool false, .bool false, .bool false, .bool false, .bool false, .bool false, .bool false, .bool false, .bool false, .bool false, .bool false, .bool false, .bool false, .bool false, .bool false, .bool false, .bool false, .bool false, .bool false, .bool false, .bool false, .bool false, .bool false, .bool false, .bool false, .bool false, .bool false, .bool false, .bool false, .bool false, .bool false] 44))
    rw [hsz] at hV
    have hu := L2.mat.under
    have ho := L2.o.size
    exact ⟨⟨(L2.alloc _).alloc _, hT, hV, fun hp => by have := hu _ hp; omega, fun hp => by have := hu _ hp; omega, ho, by omega, by omega⟩, HI.out⟩
  obtain ⟨bt, hbt⟩ : ∃ b, b = w2.heap.size := ⟨_, rfl⟩
  obtain ⟨bv, hbv⟩ : ∃ b, b = w2.heap.size + 1 := ⟨_, rfl⟩
  rw [← hbv, ← hbt] at HM
  have HBT := Lib.hid hbt
  have HBV := Lib.hid hbv
  clear L1 L2 HB HI hbt hbv
  go_wp2_with fail
  rw [← HBV.out, ← HBT.out]
  clear HBT HBV
  go_loopw [11, 12, 13, 14, 15, 16, 17] (fun s11 s12 s13 s14 s15 s16 s17 wr => ∃ (n q : Nat) (v13 v14 v15 v16 v17 : Value) (P : Nat → Prop) (s : St) (th : Nat → Bool) (vl : Nat → Int), s13 = v13 ∧ s14 = v14 ∧ s15 = v15 ∧ s16 = v16 ∧ s17 = v17 ∧ s11 = .int .i64 n ∧ s12 = .int .i64 q ∧ n ≤ 12 ∧ q ≤ 30 ∧ q ≤ rows.length ∧ Hid (AlR w wr P m s bt bv n th vl)) (fun _ s12 _ _ _ _ _ _ => 100 - (intOf s12).toNat)
  case atStart => exact ⟨0, 0, _, _, _, _, _, _, _, _, _, rfl, rfl, rfl, rfl, rfl, rfl, rfl, by omega, by omega, by omega, HM⟩
  case round =>
    obtain ⟨n, q, v13, v14, v15, v16, v17, P, s, th, vl, rfl, rfl, rfl, rfl, rfl, rfl, rfl, hn, hq, hql, HL⟩ := hrel
    clear HM
    by_cases hlr : q < rows.length
    · by_cases hlt : q < 30
      · obtain ⟨b, off, K, k, hh, v, rfl, d0, d1, d2, d3⟩ := Recs.op HR.out hlr
        have x0 := HL.out.1.lw.old' d0
        have x1 := HL.out.1.lw.old' d1
        have x2 := HL.out.1.lw.old' d2
        have x3 := HL.out.1.lw.old' d3
        clear d0 d1 d2 d3
        by_cases h6 : 6 ≤ K
        · have HF := Lib.hid (And.intro (HL.out.1.alloc (.cells #[.int .i64 K, .int .i64 k, .int .i64 hh, .int .i64 v] 31)) HL.out.2)
          go_wp2_with fail
          go_roundw
          case rel => exact ⟨n, q + 1, _, _, _, _, _, _, _, _, _, rfl, rfl, rfl, rfl, rfl, by go_num, by go_num, by omega, by omega, by omega, HF⟩
          case measure => simp [intOf] <;> omega
        · cases hok : opOkB ⟨K, k, hh, v⟩ with
          | false =>
            have HOK := Lib.hid (show opOkB ⟨K, k, hh, v⟩ = false by simpa using hok)
            have HD := Lib.hid (HL.out.2.bad (o := ⟨K, k, hh, v⟩) HOK.out)
            have HII := Lib.hid HL.out.2
            have HA := Lib.hid (HL.out.1.alloc (.cells #[.int .i64 K, .int .i64 k, .int .i64 hh, .int .i64 v] 31))
            have BO := Lib.hid (HL.out.1.lw.box 31 #[.int .i64 K, .int .i64 k, .int .i64 hh, .int .i64 v])
            clear HL
            go_wp2_with fail
            refine (lw_dopp HA.out.lw 3 K k hh v HD.out).mono ?_
            rintro e w3 ⟨P3, a3, c3, rfl, L3, o3, g3, p3⟩
            have HA3 := Lib.hid (HA.out.step L3 o3 g3)
            have HB3 := Lib.hid (HA3.out.alloc (.cells #[.int .i64 0, .int .i64 0, .slice a3 0 c3, .int .i64 0, .int .i64 0] 27))
            have BR := Lib.hid (L3.box 27 #[.int .i64 0, .int .i64 0, .slice a3 0 c3, .int .i64 0, .int .i64 0])
            have BO3 := Lib.hid ((BO.out.step o3 g3).alloc (.cells #[.int .i64 0, .int .i64 0, .slice a3 0 c3, .int .i64 0, .int .i64 0] 27))
            have PP := Lib.hid (p3.only ((Only0.refl w3).alloc (.cells #[.int .i64 0, .int .i64 0, .slice a3 0 c3, .int .i64 0, .int .i64 0] 27)) (fun _ _ h => h))
            obtain ⟨nr, hnr⟩ : ∃ b, b = w3.heap.size := ⟨_, rfl⟩
            have HNR := Lib.hid hnr
            rw [← hnr] at BR
            have y0 : (w3.alloc (.cells #[.int .i64 0, .int .i64 0, .slice a3 0 c3, .int .i64 0, .int .i64 0] 27)).cell? ⟨wr.heap.size, 0, none⟩ = some (.int .i64 K) := BO3.out.1.cell 0
            have y1 : (w3.alloc (.cells #[.int .i64 0, .int .i64 0, .slice a3 0 c3, .int .i64 0, .int .i64 0] 27)).cell? ⟨wr.heap.size, 1, none⟩ = some (.int .i64 k) := BO3.out.1.cell 1
            have y2 : (w3.alloc (.cells #[.int .i64 0, .int .i64 0, .slice a3 0 c3, .int .i64 0, .int .i64 0] 27)).cell? ⟨wr.heap.size, 2, none⟩ = some (.int .i64 hh) := BO3.out.1.cell 2
            have y3 : (w3.alloc (.cells #[.int .i64 0, .int .i64 0, .slice a3 0 c3, .int .i64 0, .int .i64 0] 27)).cell? ⟨wr.heap.size, 3, none⟩ = some (.int .i64 v) := BO3.out.1.cell 3
            clear HA BO L3 o3 g3 p3 hnr
            go_wp2_with fail
            rw [← HNR.out]
            refine (ref_opOk K k hh v _).mono ?_
            rintro e w4 ⟨rfl, o4⟩
            rw [HOK.out]
            have HC := Lib.hid (HB3.out.only0 o4)
            have BR4 := Lib.hid (BR.out.only0 o4)
            have BO4 := Lib.hid (BO3.out.only0 o4)
            have PP4 := Lib.hid (PP.out.only o4 (fun _ _ h => h))
            clear HB3 BR BO3 PP y0 y1 y2 y3 o4 HNR HA3
            have HF : Hid (AlR w w4 P3 m s bt bv n th vl) := ⟨HC.out, HII.out⟩
            go_wp2_with fail
            go_roundw
            case rel => exact ⟨n, q + 1, _, _, _, _, _, _, _, _, _, rfl, rfl, rfl, rfl, rfl, by go_num, by go_num, by omega, by omega, by omega, HF⟩
            case measure => simp [intOf] <;> omega
          | true =>
            by_cases hn12 : n < 12
            · obtain ⟨hK, hk0, hk1, h5⟩ := op_kinds hok (by show K < 6; omega)
              have HOK0 := Lib.hid hok
              obtain ⟨kn, rfl⟩ : ∃ kn : Nat, k = (kn : Int) := ⟨k.toNat, by simp only at hk0; omega⟩
              have hk64 : kn < 64 := by simp only at hk1; omega
              have hkZ : (kn : Int) < 64 := by omega
              have H5 := Lib.hid h5
              have hhv := op_fix hok
              clear hok hk0 hk1 h5
              simp only at hK
              have hK' : K = 1 ∨ K = 2 ∨ K = 3 ∨ K = 4 ∨ K = 5 := by omega
              clear hK h6
              rcases hK' with rfl | rfl | rfl | rfl | rfl
              · obtain ⟨rfl, rfl⟩ := hhv.1 (.inl rfl)
                have HOK := HOK0
                clear HOK0 hhv H5
                obtain ⟨s', hd, I1⟩ := HL.out.2.step hn12 (o := ⟨1, (kn : Int), 0, 0⟩) HOK.out (by show (1 : Int) < 6; decide)
                cases hth : th kn with
                | true =>
                  have HD : Hid (s.do_ 3 ⟨1, (kn : Int), 0, 0⟩ = (⟨0, (vl kn), [], 0, 0⟩, 0, s')) := by
                    have := hd
                    rw [show alRes th vl ⟨1, (kn : Int), 0, 0⟩ = ⟨0, (vl kn), [], 0, 0⟩ by simp [alRes, Res.err, Res.zero, hth]] at this
                    exact this
                  have HS : Hid (AlI (n + 1) th vl s') := by
                    have := I1
                    rw [show alTh th ⟨1, (kn : Int), 0, 0⟩ = th by simp [alTh], show alVl th vl ⟨1, (kn : Int), 0, 0⟩ = vl by simp [alVl, hth]] at this
                    exact this
                  clear hd I1
                  have HA := Lib.hid (HL.out.1.alloc (.cells #[.int .i64 1, .int .i64 (kn : Int), .int .i64 0, .int .i64 0] 31))
                  have BO := Lib.hid (HL.out.1.lw.box 31 #[.int .i64 1, .int .i64 (kn : Int), .int .i64 0, .int .i64 0])
                  clear HL
                  go_wp2_with fail
                  refine (lw_dopp HA.out.lw 3 1 (kn : Int) 0 0 HD.out).mono ?_
                  rintro e w3 ⟨P3, a3, c3, rfl, L3, o3, g3, p3⟩
                  have HA3 := Lib.hid (HA.out.step L3 o3 g3)
                  have HB3 := Lib.hid (HA3.out.alloc (.cells #[.int .i64 0, .int .i64 (vl kn), .slice a3 0 c3, .int .i64 0, .int .i64 0] 27))
                  have BR := Lib.hid (L3.box 27 #[.int .i64 0, .int .i64 (vl kn), .slice a3 0 c3, .int .i64 0, .int .i64 0])
                  have BO3 := Lib.hid ((BO.out.step o3 g3).alloc (.cells #[.int .i64 0, .int .i64 (vl kn), .slice a3 0 c3, .int .i64 0, .int .i64 0] 27))
                  have PP := Lib.hid (p3.only ((Only0.refl w3).alloc (.cells #[.int .i64 0, .int .i64 (vl kn), .slice a3 0 c3, .int .i64 0, .int .i64 0] 27)) (fun _ _ h => h))
                  obtain ⟨nr, hnr⟩ : ∃ b, b = w3.heap.size := ⟨_, rfl⟩
                  have HNR := Lib.hid hnr
                  rw [← hnr] at BR
                  have y0 : (w3.alloc (.cells #[.int .i64 0, .int .i64 (vl kn), .slice a3 0 c3, .int .i64 0, .int .i64 0] 27)).cell? ⟨wr.heap.size, 0, none⟩ = some (.int .i64 1) := BO3.out.1.cell 0
                  have y1 : (w3.alloc (.cells #[.int .i64 0, .int .i64 (vl kn), .slice a3 0 c3, .int .i64 0, .int .i64 0] 27)).cell? ⟨wr.heap.size, 1, none⟩ = some (.int .i64 (kn : Int)) := BO3.out.1.cell 1
                  have y2 : (w3.alloc (.cells #[.int .i64 0, .int .i64 (vl kn), .slice a3 0 c3, .int .i64 0, .int .i64 0] 27)).cell? ⟨wr.heap.size, 2, none⟩ = some (.int .i64 0) := BO3.out.1.cell 2
                  have y3 : (w3.alloc (.cells #[.int .i64 0, .int .i64 (vl kn), .slice a3 0 c3, .int .i64 0, .int .i64 0] 27)).cell? ⟨wr.heap.size, 3, none⟩ = some (.int .i64 0) := BO3.out.1.cell 3
                  clear HA BO L3 o3 g3 p3 hnr
                  go_wp2_with fail
                  rw [← HNR.out]
                  refine (ref_opOk 1 (kn : Int) 0 0 _).mono ?_
                  rintro e w4 ⟨rfl, o4⟩
                  rw [HOK.out]
                  have HC := Lib.hid (HB3.out.only0 o4)
                  have BR4 := Lib.hid (BR.out.only0 o4)
                  have BO4 := Lib.hid (BO3.out.only0 o4)
                  have PP4 := Lib.hid (PP.out.only o4 (fun _ _ h => h))
                  clear HB3 BR BO3 PP y0 y1 y2 y3 o4 HNR HA3
                  have za0 : (w4.alloc (.cells #[.int .i64 0, .int .i64 0, .slice none 0 0, .int .i64 0, .int .i64 0] 27)).cell? ⟨wr.heap.size, 0, none⟩ = some (.int .i64 1) := (BO4.out.alloc _).1.cell 0
                  have za1 : (w4.alloc (.cells #[.int .i64 0, .int .i64 0, .slice none 0 0, .int .i64 0, .int .i64 0] 27)).cell? ⟨wr.heap.size, 1, none⟩ = some (.int .i64 (kn : Int)) := (BO4.out.alloc _).1.cell 1
                  have za2 : (w4.alloc (.cells #[.int .i64 0, .int .i64 0, .slice none 0 0, .int .i64 0, .int .i64 0] 27)).cell? ⟨wr.heap.size, 2, none⟩ = some (.int .i64 0) := (BO4.out.alloc _).1.cell 2
                  have za3 : (w4.alloc (.cells #[.int .i64 0, .int .i64 0, .slice none 0 0, .int .i64 0, .int .i64 0] 27)).cell? ⟨wr.heap.size, 3, none⟩ = some (.int .i64 0) := (BO4.out.alloc _).1.cell 3
                  have ra0 : (w4.alloc (.cells #[.int .i64 0, .int .i64 0, .slice none 0 0, .int .i64 0, .int .i64 0] 27)).cell? ⟨nr, 0, none⟩ = some (.int .i64 0) := (BR4.out.alloc _).1.cell 0
                  have ra1 : (w4.alloc (.cells #[.int .i64 0, .int .i64 0, .slice none 0 0, .int .i64 0, .int .i64 0] 27)).cell? ⟨nr, 1, none⟩ = some (.int .i64 (vl kn)) := (BR4.out.alloc _).1.cell 1
                  have ra2 : (w4.alloc (.cells #[.int .i64 0, .int .i64 0, .slice none 0 0, .int .i64 0, .int .i64 0] 27)).cell? ⟨nr, 2, none⟩ = some (.slice a3 0 c3) := (BR4.out.alloc _).1.cell 2
                  have ra3 : (w4.alloc (.cells #[.int .i64 0, .int .i64 0, .slice none 0 0, .int .i64 0, .int .i64 0] 27)).cell? ⟨nr, 3, none⟩ = some (.int .i64 0) := (BR4.out.alloc _).1.cell 3
                  have ra4 : (w4.alloc (.cells #[.int .i64 0, .int .i64 0, .slice none 0 0, .int .i64 0, .int .i64 0] 27)).cell? ⟨nr, 4, none⟩ = some (.int .i64 0) := (BR4.out.alloc _).1.cell 4
                  have tka : (w4.alloc (.cells #[.int .i64 0, .int .i64 0, .slice none 0 0, .int .i64 0, .int .i64 0] 27)).cell? ⟨bt, kn, none⟩ = some (.bool (th kn)) := (HC.out.alloc _).t.cell hk64
                  have vka : (w4.alloc (.cells #[.int .i64 0, .int .i64 0, .slice none 0 0, .int .i64 0, .int .i64 0] 27)).cell? ⟨bv, kn, none⟩ = some (.int .i64 (vl kn)) := (HC.out.alloc _).v.cell hk64
                  have tfa : ∀ i, (w4.alloc (.cells #[.int .i64 0, .int .i64 0, .slice none 0 0, .int .i64 0, .int .i64 0] 27)).frozen? ⟨bt, i, none⟩ = false := fun i => (HC.out.alloc _).t.free i
                  have vfa : ∀ i, (w4.alloc (.cells #[.int .i64 0, .int .i64 0, .slice none 0 0, .int .i64 0, .int .i64 0] 27)).frozen? ⟨bv, i, none⟩ = false := fun i => (HC.out.alloc _).v.free i
                  rw [hth] at tka
                  have zb0 : (w4.alloc (.cells #[.int .i64 0, .int .i64 (vl kn), .slice none 0 0, .int .i64 0, .int .i64 0] 27)).cell? ⟨wr.heap.size, 0, none⟩ = some (.int .i64 1) := (BO4.out.alloc _).1.cell 0
                  have zb1 : (w4.alloc (.cells #[.int .i64 0, .int .i64 (vl kn), .slice none 0 0, .int .i64 0, .int .i64 0] 27)).cell? ⟨wr.heap.size, 1, none⟩ = some (.int .i64 (kn : Int)) := (BO4.out.alloc _).1.cell 1
                  have zb2 : (w4.alloc (.cells #[.int .i64 0, .int .i64 (vl kn), .slice none 0 0, .int .i64 0, .int .i64 0] 27)).cell? ⟨wr.heap.size, 2, none⟩ = some (.int .i64 0) := (BO4.out.alloc _).1.cell 2
                  have zb3 : (w4.alloc (.cells #[.int .i64 0, .int .i64 (vl kn), .slice none 0 0, .int .i64 0, .int .i64 0] 27)).cell? ⟨wr.heap.size, 3, none⟩ = some (.int .i64 0) := (BO4.out.alloc _).1.cell 3
                  have rb0 : (w4.alloc (.cells #[.int .i64 0, .int .i64 (vl kn), .slice none 0 0, .int .i64 0, .int .i64 0] 27)).cell? ⟨nr, 0, none⟩ = some (.int .i64 0) := (BR4.out.alloc _).1.cell 0
                  have rb1 : (w4.alloc (.cells #[.int .i64 0, .int .i64 (vl kn), .slice none 0 0, .int .i64 0, .int .i64 0] 27)).cell? ⟨nr, 1, none⟩ = some (.int .i64 (vl kn)) := (BR4.out.alloc _).1.cell 1
                  have rb2 : (w4.alloc (.cells #[.int .i64 0, .int .i64 (vl kn), .slice none 0 0, .int .i64 0, .int .i64 0] 27)).cell? ⟨nr, 2, none⟩ = some (.slice a3 0 c3) := (BR4.out.alloc _).1.cell 2
                  have rb3 : (w4.alloc (.cells #[.int .i64 0, .int .i64 (vl kn), .slice none 0 0, .int .i64 0, .int .i64 0] 27)).cell? ⟨nr, 3, none⟩ = some (.int .i64 0) := (BR4.out.alloc _).1.cell 3
                  have rb4 : (w4.alloc (.cells #[.int .i64 0, .int .i64 (vl kn), .slice none 0 0, .int .i64 0, .int .i64 0] 27)).cell? ⟨nr, 4, none⟩ = some (.int .i64 0) := (BR4.out.alloc _).1.cell 4
                  go_wp2_with fail
                  refine (sameRes_same 0 (vl kn) 0 0 _ _ _ _ [] _ (.inl rfl) (.inl rfl) (by simp)).mono ?_
                  rintro e w6 ⟨rfl, o6⟩
                  have HF : Hid (AlR w w6 P3 m s' bt bv (n + 1) th vl) := ⟨(HC.out.alloc (.cells #[.int .i64 0, .int .i64 (vl kn), .slice none 0 0, .int .i64 0, .int .i64 0] 27)).only0 o6, HS.out⟩
                  clear o6 HC
                  go_wp2_with fail
                  go_roundw
                  case rel => exact ⟨n + 1, q + 1, _, _, _, _, _, _, _, _, _, rfl, rfl, rfl, rfl, rfl, by go_num, by go_num, by omega, by omega, by omega, HF⟩
                  case measure => simp [intOf] <;> omega
                | false =>
                  have HD : Hid (s.do_ 3 ⟨1, (kn : Int), 0, 0⟩ = (⟨11, 0, [], 0, 0⟩, 0, s')) := by
                    have := hd
                    rw [show alRes th vl ⟨1, (kn : Int), 0, 0⟩ = ⟨11, 0, [], 0, 0⟩ by simp [alRes, Res.err, Res.zero, hth]] at this
                    exact this
                  have HS : Hid (AlI (n + 1) th vl s') := by
                    have := I1
                    rw [show alTh th ⟨1, (kn : Int), 0, 0⟩ = th by simp [alTh], show alVl th vl ⟨1, (kn : Int), 0, 0⟩ = vl by simp [alVl, hth]] at this
                    exact this
                  clear hd I1
                  have HA := Lib.hid (HL.out.1.alloc (.cells #[.int .i64 1, .int .i64 (kn : Int), .int .i64 0, .int .i64 0] 31))
                  have BO := Lib.hid (HL.out.1.lw.box 31 #[.int .i64 1, .int .i64 (kn : Int), .int .i64 0, .int .i64 0])
                  clear HL
                  go_wp2_with fail
                  refine (lw_dopp HA.out.lw 3 1 (kn : Int) 0 0 HD.out).mono ?_
                  rintro e w3 ⟨P3, a3, c3, rfl, L3, o3, g3, p3⟩
                  have HA3 := Lib.hid (HA.out.step L3 o3 g3)
                  have HB3 := Lib.hid (HA3.out.alloc (.cells #[.int .i64 11, .int .i64 0, .slice a3 0 c3, .int .i64 0, .int .i64 0] 27))
                  have BR := Lib.hid (L3.box 27 #[.int .i64 11, .int .i64 0, .slice a3 0 c3, .int .i64 0, .int .i64 0])
                  have BO3 := Lib.hid ((BO.out.step o3 g3).alloc (.cells #[.int .i64 11, .int .i64 0, .slice a3 0 c3, .int .i64 0, .int .i64 0] 27))
                  have PP := Lib.hid (p3.only ((Only0.refl w3).alloc (.cells #[.int .i64 11, .int .i64 0, .slice a3 0 c3, .int .i64 0, .int .i64 0] 27)) (fun _ _ h => h))
                  obtain ⟨nr, hnr⟩ : ∃ b, b = w3.heap.size := ⟨_, rfl⟩
                  have HNR := Lib.hid hnr
                  rw [← hnr] at BR
                  have y0 : (w3.alloc (.cells #[.int .i64 11, .int .i64 0, .slice a3 0 c3, .int .i64 0, .int .i64 0] 27)).cell? ⟨wr.heap.size, 0, none⟩ = some (.int .i64 1) := BO3.out.1.cell 0
                  have y1 : (w3.alloc (.cells #[.int .i64 11, .int .i64 0, .slice a3 0 c3, .int .i64 0, .int .i64 0] 27)).cell? ⟨wr.heap.size, 1, none⟩ = some (.int .i64 (kn : Int)) := BO3.out.1.cell 1
                  have y2 : (w3.alloc (.cells #[.int .i64 11, .int .i64 0, .slice a3 0 c3, .int .i64 0, .int .i64 0] 27)).cell? ⟨wr.heap.size, 2, none⟩ = some (.int .i64 0) := BO3.out.1.cell 2
                  have y3 : (w3.alloc (.cells #[.int .i64 11, .int .i64 0, .slice a3 0 c3, .int .i64 0, .int .i64 0] 27)).cell? ⟨wr.heap.size, 3, none⟩ = some (.int .i64 0) := BO3.out.1.cell 3
                  clear HA BO L3 o3 g3 p3 hnr
                  go_wp2_with fail
                  rw [← HNR.out]
                  refine (ref_opOk 1 (kn : Int) 0 0 _).mono ?_
                  rintro e w4 ⟨rfl, o4⟩
                  rw [HOK.out]
                  have HC := Lib.hid (HB3.out.only0 o4)
                  have BR4 := Lib.hid (BR.out.only0 o4)
                  have BO4 := Lib.hid (BO3.out.only0 o4)
                  have PP4 := Lib.hid (PP.out.only o4 (fun _ _ h => h))
                  clear HB3 BR BO3 PP y0 y1 y2 y3 o4 HNR HA3
                  have za0 : (w4.alloc (.cells #[.int .i64 0, .int .i64 0, .slice none 0 0, .int .i64 0, .int .i64 0] 27)).cell? ⟨wr.heap.size, 0, none⟩ = some (.int .i64 1) := (BO4.out.alloc _).1.cell 0
                  have za1 : (w4.alloc (.cells #[.int .i64 0, .int .i64 0, .slice none 0 0, .int .i64 0, .int .i64 0] 27)).cell? ⟨wr.heap.size, 1, none⟩ = some (.int .i64 (kn : Int)) := (BO4.out.alloc _).1.cell 1
                  have za2 : (w4.alloc (.cells #[.int .i64 0, .int .i64 0, .slice none 0 0, .int .i64 0, .int .i64 0] 27)).cell? ⟨wr.heap.size, 2, none⟩ = some (.int .i64 0) := (BO4.out.alloc _).1.cell 2
                  have za3 : (w4.alloc (.cells #[.int .i64 0, .int .i64 0, .slice none 0 0, .int .i64 0, .int .i64 0] 27)).cell? ⟨wr.heap.size, 3, none⟩ = some (.int .i64 0) := (BO4.out.alloc _).1.cell 3
                  have ra0 : (w4.alloc (.cells #[.int .i64 0, .int .i64 0, .slice none 0 0, .int .i64 0, .int .i64 0] 27)).cell? ⟨nr, 0, none⟩ = some (.int .i64 11) := (BR4.out.alloc _).1.cell 0
                  have ra1 : (w4.alloc (.cells #[.int .i64 0, .int .i64 0, .slice none 0 0, .int .i64 0, .int .i64 0] 27)).cell? ⟨nr, 1, none⟩ = some (.int .i64 0) := (BR4.out.alloc _).1.cell 1
                  have ra2 : (w4.alloc (.cells #[.int .i64 0, .int .i64 0, .slice none 0 0, .int .i64 0, .int .i64 0] 27)).cell? ⟨nr, 2, none⟩ = some (.slice a3 0 c3) := (BR4.out.alloc _).1.cell 2
                  have ra3 : (w4.alloc (.cells #[.int .i64 0, .int .i64 0, .slice none 0 0, .int .i64 0, .int .i64 0] 27)).cell? ⟨nr, 3, none⟩ = some (.int .i64 0) := (BR4.out.alloc _).1.cell 3
                  have ra4 : (w4.alloc (.cells #[.int .i64 0, .int .i64 0, .slice none 0 0, .int .i64 0, .int .i64 0] 27)).cell? ⟨nr, 4, none⟩ = some (.int .i64 0) := (BR4.out.alloc _).1.cell 4
                  have tka : (w4.alloc (.cells #[.int .i64 0, .int .i64 0, .slice none 0 0, .int .i64 0, .int .i64 0] 27)).cell? ⟨bt, kn, none⟩ = some (.bool (th kn)) := (HC.out.alloc _).t.cell hk64
                  have vka : (w4.alloc (.cells #[.int .i64 0, .int .i64 0, .slice none 0 0, .int .i64 0, .int .i64 0] 27)).cell? ⟨bv, kn, none⟩ = some (.int .i64 (vl kn)) := (HC.out.alloc _).v.cell hk64
                  have tfa : ∀ i, (w4.alloc (.cells #[.int .i64 0, .int .i64 0, .slice none 0 0, .int .i64 0, .int .i64 0] 27)).frozen? ⟨bt, i, none⟩ = false := fun i => (HC.out.alloc _).t.free i
                  have vfa : ∀ i, (w4.alloc (.cells #[.int .i64 0, .int .i64 0, .slice none 0 0, .int .i64 0, .int .i64 0] 27)).frozen? ⟨bv, i, none⟩ = false := fun i => (HC.out.alloc _).v.free i
                  rw [hth] at tka
                  have zb0 : (w4.alloc (.cells #[.int .i64 11, .int .i64 0, .slice none 0 0, .int .i64 0, .int .i64 0] 27)).cell? ⟨wr.heap.size, 0, none⟩ = some (.int .i64 1) := (BO4.out.alloc _).1.cell 0
                  have zb1 : (w4.alloc (.cells #[.int .i64 11, .int .i64 0, .slice none 0 0, .int .i64 0, .int .i64 0] 27)).cell? ⟨wr.heap.size, 1, none⟩ = some (.int .i64 (kn : Int)) := (BO4.out.alloc _).1.cell 1
                  have zb2 : (w4.alloc (.cells #[.int .i64 11, .int .i64 0, .slice none 0 0, .int .i64 0, .int .i64 0] 27)).cell? ⟨wr.heap.size, 2, none⟩ = some (.int .i64 0) := (BO4.out.alloc _).1.cell 2
                  have zb3 : (w4.alloc (.cells #[.int .i64 11, .int .i64 0, .slice none 0 0, .int .i64 0, .int .i64 0] 27)).cell? ⟨wr.heap.size, 3, none⟩ = some (.int .i64 0) := (BO4.out.alloc _).1.cell 3
                  have rb0 : (w4.alloc (.cells #[.int .i64 11, .int .i64 0, .slice none 0 0, .int .i64 0, .int .i64 0] 27)).cell? ⟨nr, 0, none⟩ = some (.int .i64 11) := (BR4.out.alloc _).1.cell 0
                  have rb1 : (w4.alloc (.cells #[.int .i64 11, .int .i64 0, .slice none 0 0, .int .i64 0, .int .i64 0] 27)).cell? ⟨nr, 1, none⟩ = some (.int .i64 0) := (BR4.out.alloc _).1.cell 1
                  have rb2 : (w4.alloc (.cells #[.int .i64 11, .int .i64 0, .slice none 0 0, .int .i64 0, .int .i64 0] 27)).cell? ⟨nr, 2, none⟩ = some (.slice a3 0 c3) := (BR4.out.alloc _).1.cell 2
                  have rb3 : (w4.alloc (.cells #[.int .i64 11, .int .i64 0, .slice none 0 0, .int .i64 0, .int .i64 0] 27)).cell? ⟨nr, 3, none⟩ = some (.int .i64 0) := (BR4.out.alloc _).1.cell 3
                  have rb4 : (w4.alloc (.cells #[.int .i64 11, .int .i64 0, .slice none 0 0, .int .i64 0, .int .i64 0] 27)).cell? ⟨nr, 4, none⟩ = some (.int .i64 0) := (BR4.out.alloc _).1.cell 4
                  go_wp2_with fail
                  refine (sameRes_same 11 0 0 0 _ _ _ _ [] _ (.inl rfl) (.inl rfl) (by simp)).mono ?_
                  rintro e w6 ⟨rfl, o6⟩
                  have HF : Hid (AlR w w6 P3 m s' bt bv (n + 1) th vl) := ⟨(HC.out.alloc (.cells #[.int .i64 11, .int .i64 0, .slice none 0 0, .int .i64 0, .int .i64 0] 27)).only0 o6, HS.out⟩
                  clear o6 HC
                  go_wp2_with fail
                  go_roundw
                  case rel => exact ⟨n + 1, q + 1, _, _, _, _, _, _, _, _, _, rfl, rfl, rfl, rfl, rfl, by go_num, by go_num, by omega, by omega, by omega, HF⟩
                  case measure => simp [intOf] <;> omega
              · obtain rfl := hhv.2 (.inl rfl)
                have HOK := HOK0
                clear HOK0 hhv H5
                obtain ⟨s', hd, I1⟩ := HL.out.2.step hn12 (o := ⟨2, (kn : Int), 0, v⟩) HOK.out (by show (2 : Int) < 6; decide)
                cases hth : th kn with
                | true =>
                  have HD : Hid (s.do_ 3 ⟨2, (kn : Int), 0, v⟩ = (⟨12, 0, [], 0, 0⟩, 0, s')) := by
                    have := hd
                    rw [show alRes th vl ⟨2, (kn : Int), 0, v⟩ = ⟨12, 0, [], 0, 0⟩ by simp [alRes, Res.err, Res.zero, hth]] at this
                    exact this
                  have HS : Hid (AlI (n + 1) (upd th kn true) vl s') := by
                    have := I1
                    rw [show alTh th ⟨2, (kn : Int), 0, v⟩ = (upd th kn true) by simp [alTh], show alVl th vl ⟨2, (kn : Int), 0, v⟩ = vl by simp [alVl, hth]] at this
                    exact this
                  clear hd I1
                  have HA := Lib.hid (HL.out.1.alloc (.cells #[.int .i64 2, .int .i64 (kn : Int), .int .i64 0, .int .i64 v] 31))
                  have BO := Lib.hid (HL.out.1.lw.box 31 #[.int .i64 2, .int .i64 (kn : Int), .int .i64 0, .int .i64 v])
                  clear HL
                  go_wp2_with fail
                  refine (lw_dopp HA.out.lw 3 2 (kn : Int) 0 v HD.out).mono ?_
                  rintro e w3 ⟨P3, a3, c3, rfl, L3, o3, g3, p3⟩
                  have HA3 := Lib.hid (HA.out.step L3 o3 g3)
                  have HB3 := Lib.hid (HA3.out.alloc (.cells #[.int .i64 12, .int .i64 0, .slice a3 0 c3, .int .i64 0, .int .i64 0] 27))
                  have BR := Lib.hid (L3.box 27 #[.int .i64 12, .int .i64 0, .slice a3 0 c3, .int .i64 0, .int .i64 0])
                  have BO3 := Lib.hid ((BO.out.step o3 g3).alloc (.cells #[.int .i64 12, .int .i64 0, .slice a3 0 c3, .int .i64 0, .int .i64 0] 27))
                  have PP := Lib.hid (p3.only ((Only0.refl w3).alloc (.cells #[.int .i64 12, .int .i64 0, .slice a3 0 c3, .int .i64 0, .int .i64 0] 27)) (fun _ _ h => h))
                  obtain ⟨nr, hnr⟩ : ∃ b, b = w3.heap.size := ⟨_, rfl⟩
                  have HNR := Lib.hid hnr
                  rw [← hnr] at BR
                  have y0 : (w3.alloc (.cells #[.int .i64 12, .int .i64 0, .slice a3 0 c3, .int .i64 0, .int .i64 0] 27)).cell? ⟨wr.heap.size, 0, none⟩ = some (.int .i64 2) := BO3.out.1.cell 0
                  have y1 : (w3.alloc (.cells #[.int .i64 12, .int .i64 0, .slice a3 0 c3, .int .i64 0, .int .i64 0] 27)).cell? ⟨wr.heap.size, 1, none⟩ = some (.int .i64 (kn : Int)) := BO3.out.1.cell 1
                  have y2 : (w3.alloc (.cells #[.int .i64 12, .int .i64 0, .slice a3 0 c3, .int .i64 0, .int .i64 0] 27)).cell? ⟨wr.heap.size, 2, none⟩ = some (.int .i64 0) := BO3.out.1.cell 2
                  have y3 : (w3.alloc (.cells #[.int .i64 12, .int .i64 0, .slice a3 0 c3, .int .i64 0, .int .i64 0] 27)).cell? ⟨wr.heap.size, 3, none⟩ = some (.int .i64 v) := BO3.out.1.cell 3
                  clear HA BO L3 o3 g3 p3 hnr
                  go_wp2_with fail
                  rw [← HNR.out]
                  refine (ref_opOk 2 (kn : Int) 0 v _).mono ?_
                  rintro e w4 ⟨rfl, o4⟩
                  rw [HOK.out]
                  have HC := Lib.hid (HB3.out.only0 o4)
                  have BR4 := Lib.hid (BR.out.only0 o4)
                  have BO4 := Lib.hid (BO3.out.only0 o4)
                  have PP4 := Lib.hid (PP.out.only o4 (fun _ _ h => h))
                  clear HB3 BR BO3 PP y0 y1 y2 y3 o4 HNR HA3
                  have za0 : (w4.alloc (.cells #[.int .i64 0, .int .i64 0, .slice none 0 0, .int .i64 0, .int .i64 0] 27)).cell? ⟨wr.heap.size, 0, none⟩ = some (.int .i64 2) := (BO4.out.alloc _).1.cell 0
                  have za1 : (w4.alloc (.cells #[.int .i64 0, .int .i64 0, .slice none 0 0, .int .i64 0, .int .i64 0] 27)).cell? ⟨wr.heap.size, 1, none⟩ = some (.int .i64 (kn : Int)) := (BO4.out.alloc _).1.cell 1
                  have za2 : (w4.alloc (.cells #[.int .i64 0, .int .i64 0, .slice none 0 0, .int .i64 0, .int .i64 0] 27)).cell? ⟨wr.heap.size, 2, none⟩ = some (.int .i64 0) := (BO4.out.alloc _).1.cell 2
                  have za3 : (w4.alloc (.cells #[.int .i64 0, .int .i64 0, .slice none 0 0, .int .i64 0, .int .i64 0] 27)).cell? ⟨wr.heap.size, 3, none⟩ = some (.int .i64 v) := (BO4.out.alloc _).1.cell 3
                  have ra0 : (w4.alloc (.cells #[.int .i64 0, .int .i64 0, .slice none 0 0, .int .i64 0, .int .i64 0] 27)).cell? ⟨nr, 0, none⟩ = some (.int .i64 12) := (BR4.out.alloc _).1.cell 0
                  have ra1 : (w4.alloc (.cells #[.int .i64 0, .int .i64 0, .slice none 0 0, .int .i64 0, .int .i64 0] 27)).cell? ⟨nr, 1, none⟩ = some (.int .i64 0) := (BR4.out.alloc _).1.cell 1
                  have ra2 : (w4.alloc (.cells #[.int .i64 0, .int .i64 0, .slice none 0 0, .int .i64 0, .int .i64 0] 27)).cell? ⟨nr, 2, none⟩ = some (.slice a3 0 c3) := (BR4.out.alloc _).1.cell 2
                  have ra3 : (w4.alloc (.cells #[.int .i64 0, .int .i64 0, .slice none 0 0, .int .i64 0, .int .i64 0] 27)).cell? ⟨nr, 3, none⟩ = some (.int .i64 0) := (BR4.out.alloc _).1.cell 3
                  have ra4 : (w4.alloc (.cells #[.int .i64 0, .int .i64 0, .slice none 0 0, .int .i64 0, .int .i64 0] 27)).cell? ⟨nr, 4, none⟩ = some (.int .i64 0) := (BR4.out.alloc _).1.cell 4
                  have tka : (w4.alloc (.cells #[.int .i64 0, .int .i64 0, .slice none 0 0, .int .i64 0, .int .i64 0] 27)).cell? ⟨bt, kn, none⟩ = some (.bool (th kn)) := (HC.out.alloc _).t.cell hk64
                  have vka : (w4.alloc (.cells #[.int .i64 0, .int .i64 0, .slice none 0 0, .int .i64 0, .int .i64 0] 27)).cell? ⟨bv, kn, none⟩ = some (.int .i64 (vl kn)) := (HC.out.alloc _).v.cell hk64
                  have tfa : ∀ i, (w4.alloc (.cells #[.int .i64 0, .int .i64 0, .slice none 0 0, .int .i64 0, .int .i64 0] 27)).frozen? ⟨bt, i, none⟩ = false := fun i => (HC.out.alloc _).t.free i
                  have vfa : ∀ i, (w4.alloc (.cells #[.int .i64 0, .int .i64 0, .slice none 0 0, .int .i64 0, .int .i64 0] 27)).frozen? ⟨bv, i, none⟩ = false := fun i => (HC.out.alloc _).v.free i
                  rw [hth] at tka
                  have zb0 : (w4.alloc (.cells #[.int .i64 12, .int .i64 0, .slice none 0 0, .int .i64 0, .int .i64 0] 27)).cell? ⟨wr.heap.size, 0, none⟩ = some (.int .i64 2) := (BO4.out.alloc _).1.cell 0
                  have zb1 : (w4.alloc (.cells #[.int .i64 12, .int .i64 0, .slice none 0 0, .int .i64 0, .int .i64 0] 27)).cell? ⟨wr.heap.size, 1, none⟩ = some (.int .i64 (kn : Int)) := (BO4.out.alloc _).1.cell 1
                  have zb2 : (w4.alloc (.cells #[.int .i64 12, .int .i64 0, .slice none 0 0, .int .i64 0, .int .i64 0] 27)).cell? ⟨wr.heap.size, 2, none⟩ = some (.int .i64 0) := (BO4.out.alloc _).1.cell 2
                  have zb3 : (w4.alloc (.cells #[.int .i64 12, .int .i64 0, .slice none 0 0, .int .i64 0, .int .i64 0] 27)).cell? ⟨wr.heap.size, 3, none⟩ = some (.int .i64 v) := (BO4.out.alloc _).1.cell 3
                  have rb0 : (w4.alloc (.cells #[.int .i64 12, .int .i64 0, .slice none 0 0, .int .i64 0, .int .i64 0] 27)).cell? ⟨nr, 0, none⟩ = some (.int .i64 12) := (BR4.out.alloc _).1.cell 0
                  have rb1 : (w4.alloc (.cells #[.int .i64 12, .int .i64 0, .slice none 0 0, .int .i64 0, .int .i64 0] 27)).cell? ⟨nr, 1, none⟩ = some (.int .i64 0) := (BR4.out.alloc _).1.cell 1
                  have rb2 : (w4.alloc (.cells #[.int .i64 12, .int .i64 0, .slice none 0 0, .int .i64 0, .int .i64 0] 27)).cell? ⟨nr, 2, none⟩ = some (.slice a3 0 c3) := (BR4.out.alloc _).1.cell 2
                  have rb3 : (w4.alloc (.cells #[.int .i64 12, .int .i64 0, .slice none 0 0, .int .i64 0, .int .i64 0] 27)).cell? ⟨nr, 3, none⟩ = some (.int .i64 0) := (BR4.out.alloc _).1.cell 3
                  have rb4 : (w4.alloc (.cells #[.int .i64 12, .int .i64 0, .slice none 0 0, .int .i64 0, .int .i64 0] 27)).cell? ⟨nr, 4, none⟩ = some (.int .i64 0) := (BR4.out.alloc _).1.cell 4
                  go_wp2_with fail
                  refine (sameRes_same 12 0 0 0 _ _ _ _ [] _ (.inl rfl) (.inl rfl) (by simp)).mono ?_
                  rintro e w6 ⟨rfl, o6⟩
                  have HF : Hid (AlR w w6 P3 m s' bt bv (n + 1) (upd th kn true) vl) := ⟨by rw [upd_id _ _ _ hth]; exact (HC.out.alloc (.cells #[.int .i64 12, .int .i64 0, .slice none 0 0, .int .i64 0, .int .i64 0] 27)).only0 o6, HS.out⟩
                  clear o6 HC
                  go_wp2_with fail
                  go_roundw
                  case rel => exact ⟨n + 1, q + 1, _, _, _, _, _, _, _, _, _, rfl, rfl, rfl, rfl, rfl, by go_num, by go_num, by omega, by omega, by omega, HF⟩
                  case measure => simp [intOf] <;> omega
                | false =>
                  have HD : Hid (s.do_ 3 ⟨2, (kn : Int), 0, v⟩ = (⟨0, 0, [], 0, 0⟩, 0, s')) := by
                    have := hd
                    rw [show alRes th vl ⟨2, (kn : Int), 0, v⟩ = ⟨0, 0, [], 0, 0⟩ by simp [alRes, Res.err, Res.zero, hth]] at this
                    exact this
                  have HS : Hid (AlI (n + 1) (upd th kn true) (upd vl kn v) s') := by
                    have := I1
                    rw [show alTh th ⟨2, (kn : Int), 0, v⟩ = (upd th kn true) by simp [alTh], show alVl th vl ⟨2, (kn : Int), 0, v⟩ = (upd vl kn v) by simp [alVl, hth]] at this
                    exact this
                  clear hd I1
                  have HA := Lib.hid (HL.out.1.alloc (.cells #[.int .i64 2, .int .i64 (kn : Int), .int .i64 0, .int .i64 v] 31))
                  have BO := Lib.hid (HL.out.1.lw.box 31 #[.int .i64 2, .int .i64 (kn : Int), .int .i64 0, .int .i64 v])
                  clear HL
                  go_wp2_with fail
                  refine (lw_dopp HA.out.lw 3 2 (kn : Int) 0 v HD.out).mono ?_
                  rintro e w3 ⟨P3, a3, c3, rfl, L3, o3, g3, p3⟩
                  have HA3 := Lib.hid (HA.out.step L3 o3 g3)
                  have HB3 := Lib.hid (HA3.out.alloc (.cells #[.int .i64 0, .int .i64 0, .slice a3 0 c3, .int .i64 0, .int .i64 0] 27))
                  have BR := Lib.hid (L3.box 27 #[.int .i64 0, .int .i64 0, .slice a3 0 c3, .int .i64 0, .int .i64 0])
                  have BO3 := Lib.hid ((BO.out.step o3 g3).alloc (.cells #[.int .i64 0, .int .i64 0, .slice a3 0 c3, .int .i64 0, .int .i64 0] 27))
                  have PP := Lib.hid (p3.only ((Only0.refl w3).alloc (.cells #[.int .i64 0, .int .i64 0, .slice a3 0 c3, .int .i64 0, .int .i64 0] 27)) (fun _ _ h => h))
                  obtain ⟨nr, hnr⟩ : ∃ b, b = w3.heap.size := ⟨_, rfl⟩
                  have HNR := Lib.hid hnr
                  rw [← hnr] at BR
                  have y0 : (w3.alloc (.cells #[.int .i64 0, .int .i64 0, .slice a3 0 c3, .int .i64 0, .int .i64 0] 27)).cell? ⟨wr.heap.size, 0, none⟩ = some (.int .i64 2) := BO3.out.1.cell 0
                  have y1 : (w3.alloc (.cells #[.int .i64 0, .int .i64 0, .slice a3 0 c3, .int .i64 0, .int .i64 0] 27)).cell? ⟨wr.heap.size, 1, none⟩ = some (.int .i64 (kn : Int)) := BO3.out.1.cell 1
                  have y2 : (w3.alloc (.cells #[.int .i64 0, .int .i64 0, .slice a3 0 c3, .int .i64 0, .int .i64 0] 27)).cell? ⟨wr.heap.size, 2, none⟩ = some (.int .i64 0) := BO3.out.1.cell 2
                  have y3 : (w3.alloc (.cells #[.int .i64 0, .int .i64 0, .slice a3 0 c3, .int .i64 0, .int .i64 0] 27)).cell? ⟨wr.heap.size, 3, none⟩ = some (.int .i64 v) := BO3.out.1.cell 3
                  clear HA BO L3 o3 g3 p3 hnr
                  go_wp2_with fail
                  rw [← HNR.out]
                  refine (ref_opOk 2 (kn : Int) 0 v _).mono ?_
                  rintro e w4 ⟨rfl, o4⟩
                  rw [HOK.out]
                  have HC := Lib.hid (HB3.out.only0 o4)
                  have BR4 := Lib.hid (BR.out.only0 o4)
                  have BO4 := Lib.hid (BO3.out.only0 o4)
                  have PP4 := Lib.hid (PP.out.only o4 (fun _ _ h => h))
                  clear HB3 BR BO3 PP y0 y1 y2 y3 o4 HNR HA3
                  have za0 : (w4.alloc (.cells #[.int .i64 0, .int .i64 0, .slice none 0 0, .int .i64 0, .int .i64 0] 27)).cell? ⟨wr.heap.size, 0, none⟩ = some (.int .i64 2) := (BO4.out.alloc _).1.cell 0
                  have za1 : (w4.alloc (.cells #[.int .i64 0, .int .i64 0, .slice none 0 0, .int .i64 0, .int .i64 0] 27)).cell? ⟨wr.heap.size, 1, none⟩ = some (.int .i64 (kn : Int)) := (BO4.out.alloc _).1.cell 1
                  have za2 : (w4.alloc (.cells #[.int .i64 0, .int .i64 0, .slice none 0 0, .int .i64 0, .int .i64 0] 27)).cell? ⟨wr.heap.size, 2, none⟩ = some (.int .i64 0) := (BO4.out.alloc _).1.cell 2
                  have za3 : (w4.alloc (.cells #[.int .i64 0, .int .i64 0, .slice none 0 0, .int .i64 0, .int .i64 0] 27)).cell? ⟨wr.heap.size, 3, none⟩ = some (.int .i64 v) := (BO4.out.alloc _).1.cell 3
                  have ra0 : (w4.alloc (.cells #[.int .i64 0, .int .i64 0, .slice none 0 0, .int .i64 0, .int .i64 0] 27)).cell? ⟨nr, 0, none⟩ = some (.int .i64 0) := (BR4.out.alloc _).1.cell 0
                  have ra1 : (w4.alloc (.cells #[.int .i64 0, .int .i64 0, .slice none 0 0, .int .i64 0, .int .i64 0] 27)).cell? ⟨nr, 1, none⟩ = some (.int .i64 0) := (BR4.out.alloc _).1.cell 1
                  have ra2 : (w4.alloc (.cells #[.int .i64 0, .int .i64 0, .slice none 0 0, .int .i64 0, .int .i64 0] 27)).cell? ⟨nr, 2, none⟩ = some (.slice a3 0 c3) := (BR4.out.alloc _).1.cell 2
                  have ra3 : (w4.alloc (.cells #[.int .i64 0, .int .i64 0, .slice none 0 0, .int .i64 0, .int .i64 0] 27)).cell? ⟨nr, 3, none⟩ = some (.int .i64 0) := (BR4.out.alloc _).1.cell 3
                  have ra4 : (w4.alloc (.cells #[.int .i64 0, .int .i64 0, .slice none 0 0, .int .i64 0, .int .i64 0] 27)).cell? ⟨nr, 4, none⟩ = some (.int .i64 0) := (BR4.out.alloc _).1.cell 4
                  have tka : (w4.alloc (.cells #[.int .i64 0, .int .i64 0, .slice none 0 0, .int .i64 0, .int .i64 0] 27)).cell? ⟨bt, kn, none⟩ = some (.bool (th kn)) := (HC.out.alloc _).t.cell hk64
                  have vka : (w4.alloc (.cells #[.int .i64 0, .int .i64 0, .slice none 0 0, .int .i64 0, .int .i64 0] 27)).cell? ⟨bv, kn, none⟩ = some (.int .i64 (vl kn)) := (HC.out.alloc _).v.cell hk64
                  have tfa : ∀ i, (w4.alloc (.cells #[.int .i64 0, .int .i64 0, .slice none 0 0, .int .i64 0, .int .i64 0] 27)).frozen? ⟨bt, i, none⟩ = false := fun i => (HC.out.alloc _).t.free i
                  have vfa : ∀ i, (w4.alloc (.cells #[.int .i64 0, .int .i64 0, .slice none 0 0, .int .i64 0, .int .i64 0] 27)).frozen? ⟨bv, i, none⟩ = false := fun i => (HC.out.alloc _).v.free i
                  rw [hth] at tka
                  have nb : ¬ bt = wr.heap.size := fun e => by obtain ⟨cs, B, _⟩ := HC.out.t; have h := BO4.out.1; rw [← e] at h; exact absurd (B.inj h).2 (by decide)
                  have nb2 : ¬ bv = wr.heap.size := fun e => by obtain ⟨cs, B, _⟩ := HC.out.v; have h := BO4.out.1; rw [← e] at h; exact absurd (B.inj h).2 (by decide)
                  have nb3 : ¬ bt = bv := HC.out.ne
                  have nb4 : ¬ bv = bt := fun e => HC.out.ne e.symm
                  have nr1 : Hid (nr ≠ bt) := fun e => by obtain ⟨cs, B, _⟩ := HC.out.t; have h := BR4.out.1; rw [e] at h; exact absurd (B.inj h).2 (by decide)
                  have nr2 : Hid (nr ≠ bv) := fun e => by obtain ⟨cs, B, _⟩ := HC.out.v; have h := BR4.out.1; rw [e] at h; exact absurd (B.inj h).2 (by decide)
                  have nw1 : Hid (w4.heap.size ≠ bt) := fun e => by have h := HC.out.t.lt; omega
                  have nw2 : Hid (w4.heap.size ≠ bv) := fun e => by have h := HC.out.v.lt; omega
                  have q0 : (((w4.alloc (.cells #[.int .i64 0, .int .i64 0, .slice none 0 0, .int .i64 0, .int .i64 0] 27)).setCell ⟨bt, kn, none⟩ (.bool true)).setCell ⟨bv, kn, none⟩ (.int .i64 v)).cell? ⟨nr, 0, none⟩ = some (.int .i64 0) := (((((BR4.out.alloc _).1).other _ _ nr1.out).other _ _ nr2.out)).cell 0
                  have q1 : (((w4.alloc (.cells #[.int .i64 0, .int .i64 0, .slice none 0 0, .int .i64 0, .int .i64 0] 27)).setCell ⟨bt, kn, none⟩ (.bool true)).setCell ⟨bv, kn, none⟩ (.int .i64 v)).cell? ⟨nr, 1, none⟩ = some (.int .i64 0) := (((((BR4.out.alloc _).1).other _ _ nr1.out).other _ _ nr2.out)).cell 1
                  have q2 : (((w4.alloc (.cells #[.int .i64 0, .int .i64 0, .slice none 0 0, .int .i64 0, .int .i64 0] 27)).setCell ⟨bt, kn, none⟩ (.bool true)).setCell ⟨bv, kn, none⟩ (.int .i64 v)).cell? ⟨nr, 2, none⟩ = some (.slice a3 0 c3) := (((((BR4.out.alloc _).1).other _ _ nr1.out).other _ _ nr2.out)).cell 2
                  have q3 : (((w4.alloc (.cells #[.int .i64 0, .int .i64 0, .slice none 0 0, .int .i64 0, .int .i64 0] 27)).setCell ⟨bt, kn, none⟩ (.bool true)).setCell ⟨bv, kn, none⟩ (.int .i64 v)).cell? ⟨nr, 3, none⟩ = some (.int .i64 0) := (((((BR4.out.alloc _).1).other _ _ nr1.out).other _ _ nr2.out)).cell 3
                  have q4 : (((w4.alloc (.cells #[.int .i64 0, .int .i64 0, .slice none 0 0, .int .i64 0, .int .i64 0] 27)).setCell ⟨bt, kn, none⟩ (.bool true)).setCell ⟨bv, kn, none⟩ (.int .i64 v)).cell? ⟨nr, 4, none⟩ = some (.int .i64 0) := (((((BR4.out.alloc _).1).other _ _ nr1.out).other _ _ nr2.out)).cell 4
                  have p0 : (((w4.alloc (.cells #[.int .i64 0, .int .i64 0, .slice none 0 0, .int .i64 0, .int .i64 0] 27)).setCell ⟨bt, kn, none⟩ (.bool true)).setCell ⟨bv, kn, none⟩ (.int .i64 v)).cell? ⟨w4.heap.size, 0, none⟩ = some (.int .i64 0) := ((((Blk.new w4 27 #[.int .i64 0, .int .i64 0, .slice none 0 0, .int .i64 0, .int .i64 0]).other _ _ nw1.out).other _ _ nw2.out)).cell 0
                  have p1 : (((w4.alloc (.cells #[.int .i64 0, .int .i64 0, .slice none 0 0, .int .i64 0, .int .i64 0] 27)).setCell ⟨bt, kn, none⟩ (.bool true)).setCell ⟨bv, kn, none⟩ (.int .i64 v)).cell? ⟨w4.heap.size, 1, none⟩ = some (.int .i64 0) := ((((Blk.new w4 27 #[.int .i64 0, .int .i64 0, .slice none 0 0, .int .i64 0, .int .i64 0]).other _ _ nw1.out).other _ _ nw2.out)).cell 1
                  have p2 : (((w4.alloc (.cells #[.int .i64 0, .int .i64 0, .slice none 0 0, .int .i64 0, .int .i64 0] 27)).setCell ⟨bt, kn, none⟩ (.bool true)).setCell ⟨bv, kn, none⟩ (.int .i64 v)).cell? ⟨w4.heap.size, 2, none⟩ = some (.slice none 0 0) := ((((Blk.new w4 27 #[.int .i64 0, .int .i64 0, .slice none 0 0, .int .i64 0, .int .i64 0]).other _ _ nw1.out).other _ _ nw2.out)).cell 2
                  have p3 : (((w4.alloc (.cells #[.int .i64 0, .int .i64 0, .slice none 0 0, .int .i64 0, .int .i64 0] 27)).setCell ⟨bt, kn, none⟩ (.bool true)).setCell ⟨bv, kn, none⟩ (.int .i64 v)).cell? ⟨w4.heap.size, 3, none⟩ = some (.int .i64 0) := ((((Blk.new w4 27 #[.int .i64 0, .int .i64 0, .slice none 0 0, .int .i64 0, .int .i64 0]).other _ _ nw1.out).other _ _ nw2.out)).cell 3
                  have p4 : (((w4.alloc (.cells #[.int .i64 0, .int .i64 0, .slice none 0 0, .int .i64 0, .int .i64 0] 27)).setCell ⟨bt, kn, none⟩ (.bool true)).setCell ⟨bv, kn, none⟩ (.int .i64 v)).cell? ⟨w4.heap.size, 4, none⟩ = some (.int .i64 0) := ((((Blk.new w4 27 #[.int .i64 0, .int .i64 0, .slice none 0 0, .int .i64 0, .int .i64 0]).other _ _ nw1.out).other _ _ nw2.out)).cell 4
                  go_wp2_with fail
                  go_region_held3 (fun w' => w'.cell? ⟨wr.heap.size, 1, none⟩ = some (.int .i64 (kn : Int)) ∧ w'.cell? ⟨wr.heap.size, 3, none⟩ = some (.int .i64 v)) (go_keep) (first | fail)
                  go_wp2_with fail
                  refine (sameRes_same 0 0 0 0 _ _ _ _ [] _ (.inl rfl) (.inl rfl) (by simp)).mono ?_
                  rintro e w6 ⟨rfl, o6⟩
                  have HF : Hid (AlR w w6 P3 m s' bt bv (n + 1) (upd th kn true) (upd vl kn v)) := ⟨((((HC.out.alloc (.cells #[.int .i64 0, .int .i64 0, .slice none 0 0, .int .i64 0, .int .i64 0] 27)).setT kn true).setV kn v).only0 ((Only0.refl _).drew)).only0 o6, HS.out⟩
                  clear o6 HC
                  go_wp2_with fail
                  go_roundw
                  case rel => exact ⟨n + 1, q + 1, _, _, _, _, _, _, _, _, _, rfl, rfl, rfl, rfl, rfl, by go_num, by go_num, by omega, by omega, by omega, HF⟩
                  case measure => simp [intOf] <;> omega
              · obtain rfl := hhv.2 (.inr rfl)
                have HOK := HOK0
                clear HOK0 hhv H5
                obtain ⟨s', hd, I1⟩ := HL.out.2.step hn12 (o := ⟨3, (kn : Int), 0, v⟩) HOK.out (by show (3 : Int) < 6; decide)
                cases hth : th kn with
                | true =>
                  have HD : Hid (s.do_ 3 ⟨3, (kn : Int), 0, v⟩ = (⟨0, 0, [], 0, 0⟩, 0, s')) := by
                    have := hd
                    rw [show alRes th vl ⟨3, (kn : Int), 0, v⟩ = ⟨0, 0, [], 0, 0⟩ by simp [alRes, Res.err, Res.zero, hth]] at this
                    exact this
                  have HS : Hid (AlI (n + 1) th (upd vl kn v) s') := by
                    have := I1
                    rw [show alTh th ⟨3, (kn : Int), 0, v⟩ = th by simp [alTh], show alVl th vl ⟨3, (kn : Int), 0, v⟩ = (upd vl kn v) by simp [alVl, hth]] at this
                    exact this
                  clear hd I1
                  have HA := Lib.hid (HL.out.1.alloc (.cells #[.int .i64 3, .int .i64 (kn : Int), .int .i64 0, .int .i64 v] 31))
                  have BO := Lib.hid (HL.out.1.lw.box 31 #[.int .i64 3, .int .i64 (kn : Int), .int .i64 0, .int .i64 v])
                  clear HL
                  go_wp2_with fail
                  refine (lw_dopp HA.out.lw 3 3 (kn : Int) 0 v HD.out).mono ?_
                  rintro e w3 ⟨P3, a3, c3, rfl, L3, o3, g3, p3⟩
                  have HA3 := Lib.hid (HA.out.step L3 o3 g3)
                  have HB3 := Lib.hid (HA3.out.alloc (.cells #[.int .i64 0, .int .i64 0, .slice a3 0 c3, .int .i64 0, .int .i64 0] 27))
                  have BR := Lib.hid (L3.box 27 #[.int .i64 0, .int .i64 0, .slice a3 0 c3, .int .i64 0, .int .i64 0])
                  have BO3 := Lib.hid ((BO.out.step o3 g3).alloc (.cells #[.int .i64 0, .int .i64 0, .slice a3 0 c3, .int .i64 0, .int .i64 0] 27))
                  have PP := Lib.hid (p3.only ((Only0.refl w3).alloc (.cells #[.int .i64 0, .int .i64 0, .slice a3 0 c3, .int .i64 0, .int .i64 0] 27)) (fun _ _ h => h))
                  obtain ⟨nr, hnr⟩ : ∃ b, b = w3.heap.size := ⟨_, rfl⟩
                  have HNR := Lib.hid hnr
                  rw [← hnr] at BR
                  have y0 : (w3.alloc (.cells #[.int .i64 0, .int .i64 0, .slice a3 0 c3, .int .i64 0, .int .i64 0] 27)).cell? ⟨wr.heap.size, 0, none⟩ = some (.int .i64 3) := BO3.out.1.cell 0
                  have y1 : (w3.alloc (.cells #[.int .i64 0, .int .i64 0, .slice a3 0 c3, .int .i64 0, .int .i64 0] 27)).cell? ⟨wr.heap.size, 1, none⟩ = some (.int .i64 (kn : Int)) := BO3.out.1.cell 1
                  have y2 : (w3.alloc (.cells #[.int .i64 0, .int .i64 0, .slice a3 0 c3, .int .i64 0, .int .i64 0] 27)).cell? ⟨wr.heap.size, 2, none⟩ = some (.int .i64 0) := BO3.out.1.cell 2
                  have y3 : (w3.alloc (.cells #[.int .i64 0, .int .i64 0, .slice a3 0 c3, .int .i64 0, .int .i64 0] 27)).cell? ⟨wr.heap.size, 3, none⟩ = some (.int .i64 v) := BO3.out.1.cell 3
                  clear HA BO L3 o3 g3 p3 hnr
                  go_wp2_with fail
                  rw [← HNR.out]
                  refine (ref_opOk 3 (kn : Int) 0 v _).mono ?_
                  rintro e w4 ⟨rfl, o4⟩
                  rw [HOK.out]
                  have HC := Lib.hid (HB3.out.only0 o4)
                  have BR4 := Lib.hid (BR.out.only0 o4)
                  have BO4 := Lib.hid (BO3.out.only0 o4)
                  have PP4 := Lib.hid (PP.out.only o4 (fun _ _ h => h))
                  clear HB3 BR BO3 PP y0 y1 y2 y3 o4 HNR HA3
                  have za0 : (w4.alloc (.cells #[.int .i64 0, .int .i64 0, .slice none 0 0, .int .i64 0, .int .i64 0] 27)).cell? ⟨wr.heap.size, 0, none⟩ = some (.int .i64 3) := (BO4.out.alloc _).1.cell 0
                  have za1 : (w4.alloc (.cells #[.int .i64 0, .int .i64 0, .slice none 0 0, .int .i64 0, .int .i64 0] 27)).cell? ⟨wr.heap.size, 1, none⟩ = some (.int .i64 (kn : Int)) := (BO4.out.alloc _).1.cell 1
                  have za2 : (w4.alloc (.cells #[.int .i64 0, .int .i64 0, .slice none 0 0, .int .i64 0, .int .i64 0] 27)).cell? ⟨wr.heap.size, 2, none⟩ = some (.int .i64 0) := (BO4.out.alloc _).1.cell 2
                  have za3 : (w4.alloc (.cells #[.int .i64 0, .int .i64 0, .slice none 0 0, .int .i64 0, .int .i64 0] 27)).cell? ⟨wr.heap.size, 3, none⟩ = some (.int .i64 v) := (BO4.out.alloc _).1.cell 3
                  have ra0 : (w4.alloc (.cells #[.int .i64 0, .int .i64 0, .slice none 0 0, .int .i64 0, .int .i64 0] 27)).cell? ⟨nr, 0, none⟩ = some (.int .i64 0) := (BR4.out.alloc _).1.cell 0
                  have ra1 : (w4.alloc (.cells #[.int .i64 0, .int .i64 0, .slice none 0 0, .int .i64 0, .int .i64 0] 27)).cell? ⟨nr, 1, none⟩ = some (.int .i64 0) := (BR4.out.alloc _).1.cell 1
                  have ra2 : (w4.alloc (.cells #[.int .i64 0, .int .i64 0, .slice none 0 0, .int .i64 0, .int .i64 0] 27)).cell? ⟨nr, 2, none⟩ = some (.slice a3 0 c3) := (BR4.out.alloc _).1.cell 2
                  have ra3 : (w4.alloc (.cells #[.int .i64 0, .int .i64 0, .slice none 0 0, .int .i64 0, .int .i64 0] 27)).cell? ⟨nr, 3, none⟩ = some (.int .i64 0) := (BR4.out.alloc _).1.cell 3
                  have ra4 : (w4.alloc (.cells #[.int .i64 0, .int .i64 0, .slice none 0 0, .int .i64 0, .int .i64 0] 27)).cell? ⟨nr, 4, none⟩ = some (.int .i64 0) := (BR4.out.alloc _).1.cell 4
                  have tka : (w4.alloc (.cells #[.int .i64 0, .int .i64 0, .slice none 0 0, .int .i64 0, .int .i64 0] 27)).cell? ⟨bt, kn, none⟩ = some (.bool (th kn)) := (HC.out.alloc _).t.cell hk64
                  have vka : (w4.alloc (.cells #[.int .i64 0, .int .i64 0, .slice none 0 0, .int .i64 0, .int .i64 0] 27)).cell? ⟨bv, kn, none⟩ = some (.int .i64 (vl kn)) := (HC.out.alloc _).v.cell hk64
                  have tfa : ∀ i, (w4.alloc (.cells #[.int .i64 0, .int .i64 0, .slice none 0 0, .int .i64 0, .int .i64 0] 27)).frozen? ⟨bt, i, none⟩ = false := fun i => (HC.out.alloc _).t.free i
                  have vfa : ∀ i, (w4.alloc (.cells #[.int .i64 0, .int .i64 0, .slice none 0 0, .int .i64 0, .int .i64 0] 27)).frozen? ⟨bv, i, none⟩ = false := fun i => (HC.out.alloc _).v.free i
                  rw [hth] at tka
                  have nb : ¬ bt = wr.heap.size := fun e => by obtain ⟨cs, B, _⟩ := HC.out.t; have h := BO4.out.1; rw [← e] at h; exact absurd (B.inj h).2 (by decide)
                  have nb2 : ¬ bv = wr.heap.size := fun e => by obtain ⟨cs, B, _⟩ := HC.out.v; have h := BO4.out.1; rw [← e] at h; exact absurd (B.inj h).2 (by decide)
                  have nb3 : ¬ bt = bv := HC.out.ne
                  have nb4 : ¬ bv = bt := fun e => HC.out.ne e.symm
                  have nr1 : Hid (nr ≠ bt) := fun e => by obtain ⟨cs, B, _⟩ := HC.out.t; have h := BR4.out.1; rw [e] at h; exact absurd (B.inj h).2 (by decide)
                  have nr2 : Hid (nr ≠ bv) := fun e => by obtain ⟨cs, B, _⟩ := HC.out.v; have h := BR4.out.1; rw [e] at h; exact absurd (B.inj h).2 (by decide)
                  have nw1 : Hid (w4.heap.size ≠ bt) := fun e => by have h := HC.out.t.lt; omega
                  have nw2 : Hid (w4.heap.size ≠ bv) := fun e => by have h := HC.out.v.lt; omega
                  have q0 : ((w4.alloc (.cells #[.int .i64 0, .int .i64 0, .slice none 0 0, .int .i64 0, .int .i64 0] 27)).setCell ⟨bv, kn, none⟩ (.int .i64 v)).cell? ⟨nr, 0, none⟩ = some (.int .i64 0) := ((((BR4.out.alloc _).1).other _ _ nr2.out)).cell 0
                  have q1 : ((w4.alloc (.cells #[.int .i64 0, .int .i64 0, .slice none 0 0, .int .i64 0, .int .i64 0] 27)).setCell ⟨bv, kn, none⟩ (.int .i64 v)).cell? ⟨nr, 1, none⟩ = some (.int .i64 0) := ((((BR4.out.alloc _).1).other _ _ nr2.out)).cell 1
                  have q2 : ((w4.alloc (.cells #[.int .i64 0, .int .i64 0, .slice none 0 0, .int .i64 0, .int .i64 0] 27)).setCell ⟨bv, kn, none⟩ (.int .i64 v)).cell? ⟨nr, 2, none⟩ = some (.slice a3 0 c3) := ((((BR4.out.alloc _).1).other _ _ nr2.out)).cell 2
                  have q3 : ((w4.alloc (.cells #[.int .i64 0, .int .i64 0, .slice none 0 0, .int .i64 0, .int .i64 0] 27)).setCell ⟨bv, kn, none⟩ (.int .i64 v)).cell? ⟨nr, 3, none⟩ = some (.int .i64 0) := ((((BR4.out.alloc _).1).other _ _ nr2.out)).cell 3
                  have q4 : ((w4.alloc (.cells #[.int .i64 0, .int .i64 0, .slice none 0 0, .int .i64 0, .int .i64 0] 27)).setCell ⟨bv, kn, none⟩ (.int .i64 v)).cell? ⟨nr, 4, none⟩ = some (.int .i64 0) := ((((BR4.out.alloc _).1).other _ _ nr2.out)).cell 4
                  have p0 : ((w4.alloc (.cells #[.int .i64 0, .int .i64 0, .slice none 0 0, .int .i64 0, .int .i64 0] 27)).setCell ⟨bv, kn, none⟩ (.int .i64 v)).cell? ⟨w4.heap.size, 0, none⟩ = some (.int .i64 0) := (((Blk.new w4 27 #[.int .i64 0, .int .i64 0, .slice none 0 0, .int .i64 0, .int .i64 0]).other _ _ nw2.out)).cell 0
                  have p1 : ((w4.alloc (.cells #[.int .i64 0, .int .i64 0, .slice none 0 0, .int .i64 0, .int .i64 0] 27)).setCell ⟨bv, kn, none⟩ (.int .i64 v)).cell? ⟨w4.heap.size, 1, none⟩ = some (.int .i64 0) := (((Blk.new w4 27 #[.int .i64 0, .int .i64 0, .slice none 0 0, .int .i64 0, .int .i64 0]).other _ _ nw2.out)).cell 1
                  have p2 : ((w4.alloc (.cells #[.int .i64 0, .int .i64 0, .slice none 0 0, .int .i64 0, .int .i64 0] 27)).setCell ⟨bv, kn, none⟩ (.int .i64 v)).cell? ⟨w4.heap.size, 2, none⟩ = some (.slice none 0 0) := (((Blk.new w4 27 #[.int .i64 0, .int .i64 0, .slice none 0 0, .int .i64 0, .int .i64 0]).other _ _ nw2.out)).cell 2
                  have p3 : ((w4.alloc (.cells #[.int .i64 0, .int .i64 0, .slice none 0 0, .int .i64 0, .int .i64 0] 27)).setCell ⟨bv, kn, none⟩ (.int .i64 v)).cell? ⟨w4.heap.size, 3, none⟩ = some (.int .i64 0) := (((Blk.new w4 27 #[.int .i64 0, .int .i64 0, .slice none 0 0, .int .i64 0, .int .i64 0]).other _ _ nw2.out)).cell 3
                  have p4 : ((w4.alloc (.cells #[.int .i64 0, .int .i64 0, .slice none 0 0, .int .i64 0, .int .i64 0] 27)).setCell ⟨bv, kn, none⟩ (.int .i64 v)).cell? ⟨w4.heap.size, 4, none⟩ = some (.int .i64 0) := (((Blk.new w4 27 #[.int .i64 0, .int .i64 0, .slice none 0 0, .int .i64 0, .int .i64 0]).other _ _ nw2.out)).cell 4
                  go_wp2_with fail
                  refine (sameRes_same 0 0 0 0 _ _ _ _ [] _ (.inl rfl) (.inl rfl) (by simp)).mono ?_
                  rintro e w6 ⟨rfl, o6⟩
                  have HF : Hid (AlR w w6 P3 m s' bt bv (n + 1) th (upd vl kn v)) := ⟨((HC.out.alloc (.cells #[.int .i64 0, .int .i64 0, .slice none 0 0, .int .i64 0, .int .i64 0] 27)).setV kn v).only0 o6, HS.out⟩
                  clear o6 HC
                  go_wp2_with fail
                  go_roundw
                  case rel => exact ⟨n + 1, q + 1, _, _, _, _, _, _, _, _, _, rfl, rfl, rfl, rfl, rfl, by go_num, by go_num, by omega, by omega, by omega, HF⟩
                  case measure => simp [intOf] <;> omega
                | false =>
                  have HD : Hid (s.do_ 3 ⟨3, (kn : Int), 0, v⟩ = (⟨11, 0, [], 0, 0⟩, 0, s')) := by
                    have := hd
                    rw [show alRes th vl ⟨3, (kn : Int), 0, v⟩ = ⟨11, 0, [], 0, 0⟩ by simp [alRes, Res.err, Res.zero, hth]] at this
                    exact this
                  have HS : Hid (AlI (n + 1) th vl s') := by
                    have := I1
                    rw [show alTh th ⟨3, (kn : Int), 0, v⟩ = th by simp [alTh], show alVl th vl ⟨3, (kn : Int), 0, v⟩ = vl by simp [alVl, hth]] at this
                    exact this
                  clear hd I1
                  have HA := Lib.hid (HL.out.1.alloc (.cells #[.int .i64 3, .int .i64 (kn : Int), .int .i64 0, .int .i64 v] 31))
                  have BO := Lib.hid (HL.out.1.lw.box 31 #[.int .i64 3, .int .i64 (kn : Int), .int .i64 0, .int .i64 v])
                  clear HL
                  go_wp2_with fail
                  refine (lw_dopp HA.out.lw 3 3 (kn : Int) 0 v HD.out).mono ?_
                  rintro e w3 ⟨P3, a3, c3, rfl, L3, o3, g3, p3⟩
                  have HA3 := Lib.hid (HA.out.step L3 o3 g3)
                  have HB3 := Lib.hid (HA3.out.alloc (.cells #[.int .i64 11, .int .i64 0, .slice a3 0 c3, .int .i64 0, .int .i64 0] 27))
                  have BR := Lib.hid (L3.box 27 #[.int .i64 11, .int .i64 0, .slice a3 0 c3, .int .i64 0, .int .i64 0])
                  have BO3 := Lib.hid ((BO.out.step o3 g3).alloc (.cells #[.int .i64 11, .int .i64 0, .slice a3 0 c3, .int .i64 0, .int .i64 0] 27))
                  have PP := Lib.hid (p3.only ((Only0.refl w3).alloc (.cells #[.int .i64 11, .int .i64 0, .slice a3 0 c3, .int .i64 0, .int .i64 0] 27)) (fun _ _ h => h))
                  obtain ⟨nr, hnr⟩ : ∃ b, b = w3.heap.size := ⟨_, rfl⟩
                  have HNR := Lib.hid hnr
                  rw [← hnr] at BR
                  have y0 : (w3.alloc (.cells #[.int .i64 11, .int .i64 0, .slice a3 0 c3, .int .i64 0, .int .i64 0] 27)).cell? ⟨wr.heap.size, 0, none⟩ = some (.int .i64 3) := BO3.out.1.cell 0
                  have y1 : (w3.alloc (.cells #[.int .i64 11, .int .i64 0, .slice a3 0 c3, .int .i64 0, .int .i64 0] 27)).cell? ⟨wr.heap.size, 1, none⟩ = some (.int .i64 (kn : Int)) := BO3.out.1.cell 1
                  have y2 : (w3.alloc (.cells #[.int .i64 11, .int .i64 0, .slice a3 0 c3, .int .i64 0, .int .i64 0] 27)).cell? ⟨wr.heap.size, 2, none⟩ = some (.int .i64 0) := BO3.out.1.cell 2
                  have y3 : (w3.alloc (.cells #[.int .i64 11, .int .i64 0, .slice a3 0 c3, .int .i64 0, .int .i64 0] 27)).cell? ⟨wr.heap.size, 3, none⟩ = some (.int .i64 v) := BO3.out.1.cell 3
                  clear HA BO L3 o3 g3 p3 hnr
                  go_wp2_with fail
                  rw [← HNR.out]
                  refine (ref_opOk 3 (kn : Int) 0 v _).mono ?_
                  rintro e w4 ⟨rfl, o4⟩
                  rw [HOK.out]
                  have HC := Lib.hid (HB3.out.only0 o4)
                  have BR4 := Lib.hid (BR.out.only0 o4)
                  have BO4 := Lib.hid (BO3.out.only0 o4)
                  have PP4 := Lib.hid (PP.out.only o4 (fun _ _ h => h))
                  clear HB3 BR BO3 PP y0 y1 y2 y3 o4 HNR HA3
                  have za0 : (w4.alloc (.cells #[.int .i64 0, .int .i64 0, .slice none 0 0, .int .i64 0, .int .i64 0] 27)).cell? ⟨wr.heap.size, 0, none⟩ = some (.int .i64 3) := (BO4.out.alloc _).1.cell 0
                  have za1 : (w4.alloc (.cells #[.int .i64 0, .int .i64 0, .slice none 0 0, .int .i64 0, .int .i64 0] 27)).cell? ⟨wr.heap.size, 1, none⟩ = some (.int .i64 (kn : Int)) := (BO4.out.alloc _).1.cell 1
                  have za2 : (w4.alloc (.cells #[.int .i64 0, .int .i64 0, .slice none 0 0, .int .i64 0, .int .i64 0] 27)).cell? ⟨wr.heap.size, 2, none⟩ = some (.int .i64 0) := (BO4.out.alloc _).1.cell 2
                  have za3 : (w4.alloc (.cells #[.int .i64 0, .int .i64 0, .slice none 0 0, .int .i64 0, .int .i64 0] 27)).cell? ⟨wr.heap.size, 3, none⟩ = some (.int .i64 v) := (BO4.out.alloc _).1.cell 3
                  have ra0 : (w4.alloc (.cells #[.int .i64 0, .int .i64 0, .slice none 0 0, .int .i64 0, .int .i64 0] 27)).cell? ⟨nr, 0, none⟩ = some (.int .i64 11) := (BR4.out.alloc _).1.cell 0
                  have ra1 : (w4.alloc (.cells #[.int .i64 0, .int .i64 0, .slice none 0 0, .int .i64 0, .int .i64 0] 27)).cell? ⟨nr, 1, none⟩ = some (.int .i64 0) := (BR4.out.alloc _).1.cell 1
                  have ra2 : (w4.alloc (.cells #[.int .i64 0, .int .i64 0, .slice none 0 0, .int .i64 0, .int .i64 0] 27)).cell? ⟨nr, 2, none⟩ = some (.slice a3 0 c3) := (BR4.out.alloc _).1.cell 2
                  have ra3 : (w4.alloc (.cells #[.int .i64 0, .int .i64 0, .slice none 0 0, .int .i64 0, .int .i64 0] 27)).cell? ⟨nr, 3, none⟩ = some (.int .i64 0) := (BR4.out.alloc _).1.cell 3
                  have ra4 : (w4.alloc (.cells #[.int .i64 0, .int .i64 0, .slice none 0 0, .int .i64 0, .int .i64 0] 27)).cell? ⟨nr, 4, none⟩ = some (.int .i64 0) := (BR4.out.alloc _).1.cell 4
                  have tka : (w4.alloc (.cells #[.int .i64 0, .int .i64 0, .slice none 0 0, .int .i64 0, .int .i64 0] 27)).cell? ⟨bt, kn, none⟩ = some (.bool (th kn)) := (HC.out.alloc _).t.cell hk64
                  have vka : (w4.alloc (.cells #[.int .i64 0, .int .i64 0, .slice none 0 0, .int .i64 0, .int .i64 0] 27)).cell? ⟨bv, kn, none⟩ = some (.int .i64 (vl kn)) := (HC.out.alloc _).v.cell hk64
                  have tfa : ∀ i, (w4.alloc (.cells #[.int .i64 0, .int .i64 0, .slice none 0 0, .int .i64 0, .int .i64 0] 27)).frozen? ⟨bt, i, none⟩ = false := fun i => (HC.out.alloc _).t.free i
                  have vfa : ∀ i, (w4.alloc (.cells #[.int .i64 0, .int .i64 0, .slice none 0 0, .int .i64 0, .int .i64 0] 27)).frozen? ⟨bv, i, none⟩ = false := fun i => (HC.out.alloc _).v.free i
                  rw [hth] at tka
                  have zb0 : (w4.alloc (.cells #[.int .i64 11, .int .i64 0, .slice none 0 0, .int .i64 0, .int .i64 0] 27)).cell? ⟨wr.heap.size, 0, none⟩ = some (.int .i64 3) := (BO4.out.alloc _).1.cell 0
                  have zb1 : (w4.alloc (.cells #[.int .i64 11, .int .i64 0, .slice none 0 0, .int .i64 0, .int .i64 0] 27)).cell? ⟨wr.heap.size, 1, none⟩ = some (.int .i64 (kn : Int)) := (BO4.out.alloc _).1.cell 1
                  have zb2 : (w4.alloc (.cells #[.int .i64 11, .int .i64 0, .slice none 0 0, .int .i64 0, .int .i64 0] 27)).cell? ⟨wr.heap.size, 2, none⟩ = some (.int .i64 0) := (BO4.out.alloc _).1.cell 2
                  have zb3 : (w4.alloc (.cells #[.int .i64 11, .int .i64 0, .slice none 0 0, .int .i64 0, .int .i64 0] 27)).cell? ⟨wr.heap.size, 3, none⟩ = some (.int .i64 v) := (BO4.out.alloc _).1.cell 3
                  have rb0 : (w4.alloc (.cells #[.int .i64 11, .int .i64 0, .slice none 0 0, .int .i64 0, .int .i64 0] 27)).cell? ⟨nr, 0, none⟩ = some (.int .i64 11) := (BR4.out.alloc _).1.cell 0
                  have rb1 : (w4.alloc (.cells #[.int .i64 11, .int .i64 0, .slice none 0 0, .int .i64 0, .int .i64 0] 27)).cell? ⟨nr, 1, none⟩ = some (.int .i64 0) := (BR4.out.alloc _).1.cell 1
                  have rb2 : (w4.alloc (.cells #[.int .i64 11, .int .i64 0, .slice none 0 0, .int .i64 0, .int .i64 0] 27)).cell? ⟨nr, 2, none⟩ = some (.slice a3 0 c3) := (BR4.out.alloc _).1.cell 2
                  have rb3 : (w4.alloc (.cells #[.int .i64 11, .int .i64 0, .slice none 0 0, .int .i64 0, .int .i64 0] 27)).cell? ⟨nr, 3, none⟩ = some (.int .i64 0) := (BR4.out.alloc _).1.cell 3
                  have rb4 : (w4.alloc (.cells #[.int .i64 11, .int .i64 0, .slice none 0 0, .int .i64 0, .int .i64 0] 27)).cell? ⟨nr, 4, none⟩ = some (.int .i64 0) := (BR4.out.alloc _).1.cell 4
                  go_wp2_with fail
                  refine (sameRes_same 11 0 0 0 _ _ _ _ [] _ (.inl rfl) (.inl rfl) (by simp)).mono ?_
                  rintro e w6 ⟨rfl, o6⟩
                  have HF : Hid (AlR w w6 P3 m s' bt bv (n + 1) th vl) := ⟨(HC.out.alloc (.cells #[.int .i64 11, .int .i64 0, .slice none 0 0, .int .i64 0, .int .i64 0] 27)).only0 o6, HS.out⟩
                  clear o6 HC
                  go_wp2_with fail
                  go_roundw
                  case rel => exact ⟨n + 1, q + 1, _, _, _, _, _, _, _, _, _, rfl, rfl, rfl, rfl, rfl, by go_num, by go_num, by omega, by omega, by omega, HF⟩
                  case measure => simp [intOf] <;> omega
              · obtain ⟨rfl, rfl⟩ := hhv.1 (.inr (.inl rfl))
                have HOK := HOK0
                clear HOK0 hhv H5
                obtain ⟨s', hd, I1⟩ := HL.out.2.step hn12 (o := ⟨4, (kn : Int), 0, 0⟩) HOK.out (by show (4 : Int) < 6; decide)
                cases hth : th kn with
                | true =>
                  have HD : Hid (s.do_ 3 ⟨4, (kn : Int), 0, 0⟩ = (⟨0, 0, [], 0, 0⟩, 0, s')) := by
                    have := hd
                    rw [show alRes th vl ⟨4, (kn : Int), 0, 0⟩ = ⟨0, 0, [], 0, 0⟩ by simp [alRes, Res.err, Res.zero, hth]] at this
                    exact this
                  have HS : Hid (AlI (n + 1) (upd th kn false) vl s') := by
                    have := I1
                    rw [show alTh th ⟨4, (kn : Int), 0, 0⟩ = (upd th kn false) by simp [alTh], show alVl th vl ⟨4, (kn : Int), 0, 0⟩ = vl by simp [alVl, hth]] at this
                    exact this
                  clear hd I1
                  have HA := Lib.hid (HL.out.1.alloc (.cells #[.int .i64 4, .int .i64 (kn : Int), .int .i64 0, .int .i64 0] 31))
                  have BO := Lib.hid (HL.out.1.lw.box 31 #[.int .i64 4, .int .i64 (kn : Int), .int .i64 0, .int .i64 0])
                  clear HL
                  go_wp2_with fail
                  refine (lw_dopp HA.out.lw 3 4 (kn : Int) 0 0 HD.out).mono ?_
                  rintro e w3 ⟨P3, a3, c3, rfl, L3, o3, g3, p3⟩
                  have HA3 := Lib.hid (HA.out.step L3 o3 g3)
                  have HB3 := Lib.hid (HA3.out.alloc (.cells #[.int .i64 0, .int .i64 0, .slice a3 0 c3, .int .i64 0, .int .i64 0] 27))
                  have BR := Lib.hid (L3.box 27 #[.int .i64 0, .int .i64 0, .slice a3 0 c3, .int .i64 0, .int .i64 0])
                  have BO3 := Lib.hid ((BO.out.step o3 g3).alloc (.cells #[.int .i64 0, .int .i64 0, .slice a3 0 c3, .int .i64 0, .int .i64 0] 27))
                  have PP := Lib.hid (p3.only ((Only0.refl w3).alloc (.cells #[.int .i64 0, .int .i64 0, .slice a3 0 c3, .int .i64 0, .int .i64 0] 27)) (fun _ _ h => h))
                  obtain ⟨nr, hnr⟩ : ∃ b, b = w3.heap.size := ⟨_, rfl⟩
                  have HNR := Lib.hid hnr
                  rw [← hnr] at BR
                  have y0 : (w3.alloc (.cells #[.int .i64 0, .int .i64 0, .slice a3 0 c3, .int .i64 0, .int .i64 0] 27)).cell? ⟨wr.heap.size, 0, none⟩ = some (.int .i64 4) := BO3.out.1.cell 0
                  have y1 : (w3.alloc (.cells #[.int .i64 0, .int .i64 0, .slice a3 0 c3, .int .i64 0, .int .i64 0] 27)).cell? ⟨wr.heap.size, 1, none⟩ = some (.int .i64 (kn : Int)) := BO3.out.1.cell 1
                  have y2 : (w3.alloc (.cells #[.int .i64 0, .int .i64 0, .slice a3 0 c3, .int .i64 0, .int .i64 0] 27)).cell? ⟨wr.heap.size, 2, none⟩ = some (.int .i64 0) := BO3.out.1.cell 2
                  have y3 : (w3.alloc (.cells #[.int .i64 0, .int .i64 0, .slice a3 0 c3, .int .i64 0, .int .i64 0] 27)).cell? ⟨wr.heap.size, 3, none⟩ = some (.int .i64 0) := BO3.out.1.cell 3
                  clear HA BO L3 o3 g3 p3 hnr
                  go_wp2_with fail
                  rw [← HNR.out]
                  refine (ref_opOk 4 (kn : Int) 0 0 _).mono ?_
                  rintro e w4 ⟨rfl, o4⟩
                  rw [HOK.out]
                  have HC := Lib.hid (HB3.out.only0 o4)
                  have BR4 := Lib.hid (BR.out.only0 o4)
                  have BO4 := Lib.hid (BO3.out.only0 o4)
                  have PP4 := Lib.hid (PP.out.only o4 (fun _ _ h => h))
                  clear HB3 BR BO3 PP y0 y1 y2 y3 o4 HNR HA3
                  have za0 : (w4.alloc (.cells #[.int .i64 0, .int .i64 0, .slice none 0 0, .int .i64 0, .int .i64 0] 27)).cell? ⟨wr.heap.size, 0, none⟩ = some (.int .i64 4) := (BO4.out.alloc _).1.cell 0
                  have za1 : (w4.alloc (.cells #[.int .i64 0, .int .i64 0, .slice none 0 0, .int .i64 0, .int .i64 0] 27)).cell? ⟨wr.heap.size, 1, none⟩ = some (.int .i64 (kn : Int)) := (BO4.out.alloc _).1.cell 1
                  have za2 : (w4.alloc (.cells #[.int .i64 0, .int .i64 0, .slice none 0 0, .int .i64 0, .int .i64 0] 27)).cell? ⟨wr.heap.size, 2, none⟩ = some (.int .i64 0) := (BO4.out.alloc _).1.cell 2
                  have za3 : (w4.alloc (.cells #[.int .i64 0, .int .i64 0, .slice none 0 0, .int .i64 0, .int .i64 0] 27)).cell? ⟨wr.heap.size, 3, none⟩ = some (.int .i64 0) := (BO4.out.alloc _).1.cell 3
                  have ra0 : (w4.alloc (.cells #[.int .i64 0, .int .i64 0, .slice none 0 0, .int .i64 0, .int .i64 0] 27)).cell? ⟨nr, 0, none⟩ = some (.int .i64 0) := (BR4.out.alloc _).1.cell 0
                  have ra1 : (w4.alloc (.cells #[.int .i64 0, .int .i64 0, .slice none 0 0, .int .i64 0, .int .i64 0] 27)).cell? ⟨nr, 1, none⟩ = some (.int .i64 0) := (BR4.out.alloc _).1.cell 1
                  have ra2 : (w4.alloc (.cells #[.int .i64 0, .int .i64 0, .slice none 0 0, .int .i64 0, .int .i64 0] 27)).cell? ⟨nr, 2, none⟩ = some (.slice a3 0 c3) := (BR4.out.alloc _).1.cell 2
                  have ra3 : (w4.alloc (.cells #[.int .i64 0, .int .i64 0, .slice none 0 0, .int .i64 0, .int .i64 0] 27)).cell? ⟨nr, 3, none⟩ = some (.int .i64 0) := (BR4.out.alloc _).1.cell 3
                  have ra4 : (w4.alloc (.cells #[.int .i64 0, .int .i64 0, .slice none 0 0, .int .i64 0, .int .i64 0] 27)).cell? ⟨nr, 4, none⟩ = some (.int .i64 0) := (BR4.out.alloc _).1.cell 4
                  have tka : (w4.alloc (.cells #[.int .i64 0, .int .i64 0, .slice none 0 0, .int .i64 0, .int .i64 0] 27)).cell? ⟨bt, kn, none⟩ = some (.bool (th kn)) := (HC.out.alloc _).t.cell hk64
                  have vka : (w4.alloc (.cells #[.int .i64 0, .int .i64 0, .slice none 0 0, .int .i64 0, .int .i64 0] 27)).cell? ⟨bv, kn, none⟩ = some (.int .i64 (vl kn)) := (HC.out.alloc _).v.cell hk64
                  have tfa : ∀ i, (w4.alloc (.cells #[.int .i64 0, .int .i64 0, .slice none 0 0, .int .i64 0, .int .i64 0] 27)).frozen? ⟨bt, i, none⟩ = false := fun i => (HC.out.alloc _).t.free i
                  have vfa : ∀ i, (w4.alloc (.cells #[.int .i64 0, .int .i64 0, .slice none 0 0, .int .i64 0, .int .i64 0] 27)).frozen? ⟨bv, i, none⟩ = false := fun i => (HC.out.alloc _).v.free i
                  rw [hth] at tka
                  have nb : ¬ bt = wr.heap.size := fun e => by obtain ⟨cs, B, _⟩ := HC.out.t; have h := BO4.out.1; rw [← e] at h; exact absurd (B.inj h).2 (by decide)
                  have nb2 : ¬ bv = wr.heap.size := fun e => by obtain ⟨cs, B, _⟩ := HC.out.v; have h := BO4.out.1; rw [← e] at h; exact absurd (B.inj h).2 (by decide)
                  have nb3 : ¬ bt = bv := HC.out.ne
                  have nb4 : ¬ bv = bt := fun e => HC.out.ne e.symm
                  have nr1 : Hid (nr ≠ bt) := fun e => by obtain ⟨cs, B, _⟩ := HC.out.t; have h := BR4.out.1; rw [e] at h; exact absurd (B.inj h).2 (by decide)
                  have nr2 : Hid (nr ≠ bv) := fun e => by obtain ⟨cs, B, _⟩ := HC.out.v; have h := BR4.out.1; rw [e] at h; exact absurd (B.inj h).2 (by decide)
                  have nw1 : Hid (w4.heap.size ≠ bt) := fun e => by have h := HC.out.t.lt; omega
                  have nw2 : Hid (w4.heap.size ≠ bv) := fun e => by have h := HC.out.v.lt; omega
                  have q0 : ((w4.alloc (.cells #[.int .i64 0, .int .i64 0, .slice none 0 0, .int .i64 0, .int .i64 0] 27)).setCell ⟨bt, kn, none⟩ (.bool false)).cell? ⟨nr, 0, none⟩ = some (.int .i64 0) := ((((BR4.out.alloc _).1).other _ _ nr1.out)).cell 0
                  have q1 : ((w4.alloc (.cells #[.int .i64 0, .int .i64 0, .slice none 0 0, .int .i64 0, .int .i64 0] 27)).setCell ⟨bt, kn, none⟩ (.bool false)).cell? ⟨nr, 1, none⟩ = some (.int .i64 0) := ((((BR4.out.alloc _).1).other _ _ nr1.out)).cell 1
                  have q2 : ((w4.alloc (.cells #[.int .i64 0, .int .i64 0, .slice none 0 0, .int .i64 0, .int .i64 0] 27)).setCell ⟨bt, kn, none⟩ (.bool false)).cell? ⟨nr, 2, none⟩ = some (.slice a3 0 c3) := ((((BR4.out.alloc _).1).other _ _ nr1.out)).cell 2
                  have q3 : ((w4.alloc (.cells #[.int .i64 0, .int .i64 0, .slice none 0 0, .int .i64 0, .int .i64 0] 27)).setCell ⟨bt, kn, none⟩ (.bool false)).cell? ⟨nr, 3, none⟩ = some (.int .i64 0) := ((((BR4.out.alloc _).1).other _ _ nr1.out)).cell 3
                  have q4 : ((w4.alloc (.cells #[.int .i64 0, .int .i64 0, .slice none 0 0, .int .i64 0, .int .i64 0] 27)).setCell ⟨bt, kn, none⟩ (.bool false)).cell? ⟨nr, 4, none⟩ = some (.int .i64 0) := ((((BR4.out.alloc _).1).other _ _ nr1.out)).cell 4
                  have p0 : ((w4.alloc (.cells #[.int .i64 0, .int .i64 0, .slice none 0 0, .int .i64 0, .int .i64 0] 27)).setCell ⟨bt, kn, none⟩ (.bool false)).cell? ⟨w4.heap.size, 0, none⟩ = some (.int .i64 0) := (((Blk.new w4 27 #[.int .i64 0, .int .i64 0, .slice none 0 0, .int .i64 0, .int .i64 0]).other _ _ nw1.out)).cell 0
                  have p1 : ((w4.alloc (.cells #[.int .i64 0, .int .i64 0, .slice none 0 0, .int .i64 0, .int .i64 0] 27)).setCell ⟨bt, kn, none⟩ (.bool false)).cell? ⟨w4.heap.size, 1, none⟩ = some (.int .i64 0) := (((Blk.new w4 27 #[.int .i64 0, .int .i64 0, .slice none 0 0, .int .i64 0, .int .i64 0]).other _ _ nw1.out)).cell 1
                  have p2 : ((w4.alloc (.cells #[.int .i64 0, .int .i64 0, .slice none 0 0, .int .i64 0, .int .i64 0] 27)).setCell ⟨bt, kn, none⟩ (.bool false)).cell? ⟨w4.heap.size, 2, none⟩ = some (.slice none 0 0) := (((Blk.new w4 27 #[.int .i64 0, .int .i64 0, .slice none 0 0, .int .i64 0, .int .i64 0]).other _ _ nw1.out)).cell 2
                  have p3 : ((w4.alloc (.cells #[.int .i64 0, .int .i64 0, .slice none 0 0, .int .i64 0, .int .i64 0] 27)).setCell ⟨bt, kn, none⟩ (.bool false)).cell? ⟨w4.heap.size, 3, none⟩ = some (.int .i64 0) := (((Blk.new w4 27 #[.int .i64 0, .int .i64 0, .slice none 0 0, .int .i64 0, .int .i64 0]).other _ _ nw1.out)).cell 3
                  have p4 : ((w4.alloc (.cells #[.int .i64 0, .int .i64 0, .slice none 0 0, .int .i64 0, .int .i64 0] 27)).setCell ⟨bt, kn, none⟩ (.bool false)).cell? ⟨w4.heap.size, 4, none⟩ = some (.int .i64 0) := (((Blk.new w4 27 #[.int .i64 0, .int .i64 0, .slice none 0 0, .int .i64 0, .int .i64 0]).other _ _ nw1.out)).cell 4
                  go_wp2_with fail
                  refine (sameRes_same 0 0 0 0 _ _ _ _ [] _ (.inl rfl) (.inl rfl) (by simp)).mono ?_
                  rintro e w6 ⟨rfl, o6⟩
                  have HF : Hid (AlR w w6 P3 m s' bt bv (n + 1) (upd th kn false) vl) := ⟨((HC.out.alloc (.cells #[.int .i64 0, .int .i64 0, .slice none 0 0, .int .i64 0, .int .i64 0] 27)).setT kn false).only0 o6, HS.out⟩
                  clear o6 HC
                  go_wp2_with fail
                  go_roundw
                  case rel => exact ⟨n + 1, q + 1, _, _, _, _, _, _, _, _, _, rfl, rfl, rfl, rfl, rfl, by go_num, by go_num, by omega, by omega, by omega, HF⟩
                  case measure => simp [intOf] <;> omega
                | false =>
                  have HD : Hid (s.do_ 3 ⟨4, (kn : Int), 0, 0⟩ = (⟨11, 0, [], 0, 0⟩, 0, s')) := by
                    have := hd
                    rw [show alRes th vl ⟨4, (kn : Int), 0, 0⟩ = ⟨11, 0, [], 0, 0⟩ by simp [alRes, Res.err, Res.zero, hth]] at this
                    exact this
                  have HS : Hid (AlI (n + 1) (upd th kn false) vl s') := by
                    have := I1
                    rw [show alTh th ⟨4, (kn : Int), 0, 0⟩ = (upd th kn false) by simp [alTh], show alVl th vl ⟨4, (kn : Int), 0, 0⟩ = vl by simp [alVl, hth]] at this
                    exact this
                  clear hd I1
                  have HA := Lib.hid (HL.out.1.alloc (.cells #[.int .i64 4, .int .i64 (kn : Int), .int .i64 0, .int .i64 0] 31))
                  have BO := Lib.hid (HL.out.1.lw.box 31 #[.int .i64 4, .int .i64 (kn : Int), .int .i64 0, .int .i64 0])
                  clear HL
                  go_wp2_with fail
                  refine (lw_dopp HA.out.lw 3 4 (kn : Int) 0 0 HD.out).mono ?_
                  rintro e w3 ⟨P3, a3, c3, rfl, L3, o3, g3, p3⟩
                  have HA3 := Lib.hid (HA.out.step L3 o3 g3)
                  have HB3 := Lib.hid (HA3.out.alloc (.cells #[.int .i64 11, .int .i64 0, .slice a3 0 c3, .int .i64 0, .int .i64 0] 27))
                  have BR := Lib.hid (L3.box 27 #[.int .i64 11, .int .i64 0, .slice a3 0 c3, .int .i64 0, .int .i64 0])
                  have BO3 := Lib.hid ((BO.out.step o3 g3).alloc (.cells #[.int .i64 11, .int .i64 0, .slice a3 0 c3, .int .i64 0, .int .i64 0] 27))
                  have PP := Lib.hid (p3.only ((Only0.refl w3).alloc (.cells #[.int .i64 11, .int .i64 0, .slice a3 0 c3, .int .i64 0, .int .i64 0] 27)) (fun _ _ h => h))
                  obtain ⟨nr, hnr⟩ : ∃ b, b = w3.heap.size := ⟨_, rfl⟩
                  have HNR := Lib.hid hnr
                  rw [← hnr] at BR
                  have y0 : (w3.alloc (.cells #[.int .i64 11, .int .i64 0, .slice a3 0 c3, .int .i64 0, .int .i64 0] 27)).cell? ⟨wr.heap.size, 0, none⟩ = some (.int .i64 4) := BO3.out.1.cell 0
                  have y1 : (w3.alloc (.cells #[.int .i64 11, .int .i64 0, .slice a3 0 c3, .int .i64 0, .int .i64 0] 27)).cell? ⟨wr.heap.size, 1, none⟩ = some (.int .i64 (kn : Int)) := BO3.out.1.cell 1
                  have y2 : (w3.alloc (.cells #[.int .i64 11, .int .i64 0, .slice a3 0 c3, .int .i64 0, .int .i64 0] 27)).cell? ⟨wr.heap.size, 2, none⟩ = some (.int .i64 0) := BO3.out.1.cell 2
                  have y3 : (w3.alloc (.cells #[.int .i64 11, .int .i64 0, .slice a3 0 c3, .int .i64 0, .int .i64 0] 27)).cell? ⟨wr.heap.size, 3, none⟩ = some (.int .i64 0) := BO3.out.1.cell 3
                  clear HA BO L3 o3 g3 p3 hnr
                  go_wp2_with fail
                  rw [← HNR.out]
                  refine (ref_opOk 4 (kn : Int) 0 0 _).mono ?_
                  rintro e w4 ⟨rfl, o4⟩
                  rw [HOK.out]
                  have HC := Lib.hid (HB3.out.only0 o4)
                  have BR4 := Lib.hid (BR.out.only0 o4)
                  have BO4 := Lib.hid (BO3.out.only0 o4)
                  have PP4 := Lib.hid (PP.out.only o4 (fun _ _ h => h))
                  clear HB3 BR BO3 PP y0 y1 y2 y3 o4 HNR HA3
                  have za0 : (w4.alloc (.cells #[.int .i64 0, .int .i64 0, .slice none 0 0, .int .i64 0, .int .i64 0] 27)).cell? ⟨wr.heap.size, 0, none⟩ = some (.int .i64 4) := (BO4.out.alloc _).1.cell 0
                  have za1 : (w4.alloc (.cells #[.int .i64 0, .int .i64 0, .slice none 0 0, .int .i64 0, .int .i64 0] 27)).cell? ⟨wr.heap.size, 1, none⟩ = some (.int .i64 (kn : Int)) := (BO4.out.alloc _).1.cell 1
                  have za2 : (w4.alloc (.cells #[.int .i64 0, .int .i64 0, .slice none 0 0, .int .i64 0, .int .i64 0] 27)).cell? ⟨wr.heap.size, 2, none⟩ = some (.int .i64 0) := (BO4.out.alloc _).1.cell 2
                  have za3 : (w4.alloc (.cells #[.int .i64 0, .int .i64 0, .slice none 0 0, .int .i64 0, .int .i64 0] 27)).cell? ⟨wr.heap.size, 3, none⟩ = some (.int .i64 0) := (BO4.out.alloc _).1.cell 3
                  have ra0 : (w4.alloc (.cells #[.int .i64 0, .int .i64 0, .slice none 0 0, .int .i64 0, .int .i64 0] 27)).cell? ⟨nr, 0, none⟩ = some (.int .i64 11) := (BR4.out.alloc _).1.cell 0
                  have ra1 : (w4.alloc (.cells #[.int .i64 0, .int .i64 0, .slice none 0 0, .int .i64 0, .int .i64 0] 27)).cell? ⟨nr, 1, none⟩ = some (.int .i64 0) := (BR4.out.alloc _).1.cell 1
                  have ra2 : (w4.alloc (.cells #[.int .i64 0, .int .i64 0, .slice none 0 0, .int .i64 0, .int .i64 0] 27)).cell? ⟨nr, 2, none⟩ = some (.slice a3 0 c3) := (BR4.out.alloc _).1.cell 2
                  have ra3 : (w4.alloc (.cells #[.int .i64 0, .int .i64 0, .slice none 0 0, .int .i64 0, .int .i64 0] 27)).cell? ⟨nr, 3, none⟩ = some (.int .i64 0) := (BR4.out.alloc _).1.cell 3
                  have ra4 : (w4.alloc (.cells #[.int .i64 0, .int .i64 0, .slice none 0 0, .int .i64 0, .int .i64 0] 27)).cell? ⟨nr, 4, none⟩ = some (.int .i64 0) := (BR4.out.alloc _).1.cell 4
                  have tka : (w4.alloc (.cells #[.int .i64 0, .int .i64 0, .slice none 0 0, .int .i64 0, .int .i64 0] 27)).cell? ⟨bt, kn, none⟩ = some (.bool (th kn)) := (HC.out.alloc _).t.cell hk64
                  have vka : (w4.alloc (.cells #[.int .i64 0, .int .i64 0, .slice none 0 0, .int .i64 0, .int .i64 0] 27)).cell? ⟨bv, kn, none⟩ = some (.int .i64 (vl kn)) := (HC.out.alloc _).v.cell hk64
                  have tfa : ∀ i, (w4.alloc (.cells #[.int .i64 0, .int .i64 0, .slice none 0 0, .int .i64 0, .int .i64 0] 27)).frozen? ⟨bt, i, none⟩ = false := fun i => (HC.out.alloc _).t.free i
                  have vfa : ∀ i, (w4.alloc (.cells #[.int .i64 0, .int .i64 0, .slice none 0 0, .int .i64 0, .int .i64 0] 27)).frozen? ⟨bv, i, none⟩ = false := fun i => (HC.out.alloc _).v.free i
                  rw [hth] at tka
                  have zb0 : (w4.alloc (.cells #[.int .i64 11, .int .i64 0, .slice none 0 0, .int .i64 0, .int .i64 0] 27)).cell? ⟨wr.heap.size, 0, none⟩ = some (.int .i64 4) := (BO4.out.alloc _).1.cell 0
                  have zb1 : (w4.alloc (.cells #[.int .i64 11, .int .i64 0, .slice none 0 0, .int .i64 0, .int .i64 0] 27)).cell? ⟨wr.heap.size, 1, none⟩ = some (.int .i64 (kn : Int)) := (BO4.out.alloc _).1.cell 1
                  have zb2 : (w4.alloc (.cells #[.int .i64 11, .int .i64 0, .slice none 0 0, .int .i64 0, .int .i64 0] 27)).cell? ⟨wr.heap.size, 2, none⟩ = some (.int .i64 0) := (BO4.out.alloc _).1.cell 2
                  have zb3 : (w4.alloc (.cells #[.int .i64 11, .int .i64 0, .slice none 0 0, .int .i64 0, .int .i64 0] 27)).cell? ⟨wr.heap.size, 3, none⟩ = some (.int .i64 0) := (BO4.out.alloc _).1.cell 3
                  have rb0 : (w4.alloc (.cells #[.int .i64 11, .int .i64 0, .slice none 0 0, .int .i64 0, .int .i64 0] 27)).cell? ⟨nr, 0, none⟩ = some (.int .i64 11) := (BR4.out.alloc _).1.cell 0
                  have rb1 : (w4.alloc (.cells #[.int .i64 11, .int .i64 0, .slice none 0 0, .int .i64 0, .int .i64 0] 27)).cell? ⟨nr, 1, none⟩ = some (.int .i64 0) := (BR4.out.alloc _).1.cell 1
                  have rb2 : (w4.alloc (.cells #[.int .i64 11, .int .i64 0, .slice none 0 0, .int .i64 0, .int .i64 0] 27)).cell? ⟨nr, 2, none⟩ = some (.slice a3 0 c3) := (BR4.out.alloc _).1.cell 2
                  have rb3 : (w4.alloc (.cells #[.int .i64 11, .int .i64 0, .slice none 0 0, .int .i64 0, .int .i64 0] 27)).cell? ⟨nr, 3, none⟩ = some (.int .i64 0) := (BR4.out.alloc _).1.cell 3
                  have rb4 : (w4.alloc (.cells #[.int .i64 11, .int .i64 0, .slice none 0 0, .int .i64 0, .int .i64 0] 27)).cell? ⟨nr, 4, none⟩ = some (.int .i64 0) := (BR4.out.alloc _).1.cell 4
                  have tkb : (w4.alloc (.cells #[.int .i64 11, .int .i64 0, .slice none 0 0, .int .i64 0, .int .i64 0] 27)).cell? ⟨bt, kn, none⟩ = some (.bool (th kn)) := (HC.out.alloc _).t.cell hk64
                  have vkb : (w4.alloc (.cells #[.int .i64 11, .int .i64 0, .slice none 0 0, .int .i64 0, .int .i64 0] 27)).cell? ⟨bv, kn, none⟩ = some (.int .i64 (vl kn)) := (HC.out.alloc _).v.cell hk64
                  have tfb : ∀ i, (w4.alloc (.cells #[.int .i64 11, .int .i64 0, .slice none 0 0, .int .i64 0, .int .i64 0] 27)).frozen? ⟨bt, i, none⟩ = false := fun i => (HC.out.alloc _).t.free i
                  have vfb : ∀ i, (w4.alloc (.cells #[.int .i64 11, .int .i64 0, .slice none 0 0, .int .i64 0, .int .i64 0] 27)).frozen? ⟨bv, i, none⟩ = false := fun i => (HC.out.alloc _).v.free i
                  rw [hth] at tkb
                  have nb : ¬ bt = wr.heap.size := fun e => by obtain ⟨cs, B, _⟩ := HC.out.t; have h := BO4.out.1; rw [← e] at h; exact absurd (B.inj h).2 (by decide)
                  have nb2 : ¬ bv = wr.heap.size := fun e => by obtain ⟨cs, B, _⟩ := HC.out.v; have h := BO4.out.1; rw [← e] at h; exact absurd (B.inj h).2 (by decide)
                  have nb3 : ¬ bt = bv := HC.out.ne
                  have nb4 : ¬ bv = bt := fun e => HC.out.ne e.symm
                  have nr1 : Hid (nr ≠ bt) := fun e => by obtain ⟨cs, B, _⟩ := HC.out.t; have h := BR4.out.1; rw [e] at h; exact absurd (B.inj h).2 (by decide)
                  have nr2 : Hid (nr ≠ bv) := fun e => by obtain ⟨cs, B, _⟩ := HC.out.v; have h := BR4.out.1; rw [e] at h; exact absurd (B.inj h).2 (by decide)
                  have nw1 : Hid (w4.heap.size ≠ bt) := fun e => by have h := HC.out.t.lt; omega
                  have nw2 : Hid (w4.heap.size ≠ bv) := fun e => by have h := HC.out.v.lt; omega
                  have q0 : ((w4.alloc (.cells #[.int .i64 11, .int .i64 0, .slice none 0 0, .int .i64 0, .int .i64 0] 27)).setCell ⟨bt, kn, none⟩ (.bool false)).cell? ⟨nr, 0, none⟩ = some (.int .i64 11) := ((((BR4.out.alloc _).1).other _ _ nr1.out)).cell 0
                  have q1 : ((w4.alloc (.cells #[.int .i64 11, .int .i64 0, .slice none 0 0, .int .i64 0, .int .i64 0] 27)).setCell ⟨bt, kn, none⟩ (.bool false)).cell? ⟨nr, 1, none⟩ = some (.int .i64 0) := ((((BR4.out.alloc _).1).other _ _ nr1.out)).cell 1
                  have q2 : ((w4.alloc (.cells #[.int .i64 11, .int .i64 0, .slice none 0 0, .int .i64 0, .int .i64 0] 27)).setCell ⟨bt, kn, none⟩ (.bool false)).cell? ⟨nr, 2, none⟩ = some (.slice a3 0 c3) := ((((BR4.out.alloc _).1).other _ _ nr1.out)).cell 2
                  have q3 : ((w4.alloc (.cells #[.int .i64 11, .int .i64 0, .slice none 0 0, .int .i64 0, .int .i64 0] 27)).setCell ⟨bt, kn, none⟩ (.bool false)).cell? ⟨nr, 3, none⟩ = some (.int .i64 0) := ((((BR4.out.alloc _).1).other _ _ nr1.out)).cell 3
                  have q4 : ((w4.alloc (.cells #[.int .i64 11, .int .i64 0, .slice none 0 0, .int .i64 0, .int .i64 0] 27)).setCell ⟨bt, kn, none⟩ (.bool false)).cell? ⟨nr, 4, none⟩ = some (.int .i64 0) := ((((BR4.out.alloc _).1).other _ _ nr1.out)).cell 4
                  have p0 : ((w4.alloc (.cells #[.int .i64 11, .int .i64 0, .slice none 0 0, .int .i64 0, .int .i64 0] 27)).setCell ⟨bt, kn, none⟩ (.bool false)).cell? ⟨w4.heap.size, 0, none⟩ = some (.int .i64 11) := (((Blk.new w4 27 #[.int .i64 11, .int .i64 0, .slice none 0 0, .int .i64 0, .int .i64 0]).other _ _ nw1.out)).cell 0
                  have p1 : ((w4.alloc (.cells #[.int .i64 11, .int .i64 0, .slice none 0 0, .int .i64 0, .int .i64 0] 27)).setCell ⟨bt, kn, none⟩ (.bool false)).cell? ⟨w4.heap.size, 1, none⟩ = some (.int .i64 0) := (((Blk.new w4 27 #[.int .i64 11, .int .i64 0, .slice none 0 0, .int .i64 0, .int .i64 0]).other _ _ nw1.out)).cell 1
                  have p2 : ((w4.alloc (.cells #[.int .i64 11, .int .i64 0, .slice none 0 0, .int .i64 0, .int .i64 0] 27)).setCell ⟨bt, kn, none⟩ (.bool false)).cell? ⟨w4.heap.size, 2, none⟩ = some (.slice none 0 0) := (((Blk.new w4 27 #[.int .i64 11, .int .i64 0, .slice none 0 0, .int .i64 0, .int .i64 0]).other _ _ nw1.out)).cell 2
                  have p3 : ((w4.alloc (.cells #[.int .i64 11, .int .i64 0, .slice none 0 0, .int .i64 0, .int .i64 0] 27)).setCell ⟨bt, kn, none⟩ (.bool false)).cell? ⟨w4.heap.size, 3, none⟩ = some (.int .i64 0) := (((Blk.new w4 27 #[.int .i64 11, .int .i64 0, .slice none 0 0, .int .i64 0, .int .i64 0]).other _ _ nw1.out)).cell 3
                  have p4 : ((w4.alloc (.cells #[.int .i64 11, .int .i64 0, .slice none 0 0, .int .i64 0, .int .i64 0] 27)).setCell ⟨bt, kn, none⟩ (.bool false)).cell? ⟨w4.heap.size, 4, none⟩ = some (.int .i64 0) := (((Blk.new w4 27 #[.int .i64 11, .int .i64 0, .slice none 0 0, .int .i64 0, .int .i64 0]).other _ _ nw1.out)).cell 4
                  go_wp2_with fail
                  refine (sameRes_same 11 0 0 0 _ _ _ _ [] _ (.inl rfl) (.inl rfl) (by simp)).mono ?_
                  rintro e w6 ⟨rfl, o6⟩
                  have HF : Hid (AlR w w6 P3 m s' bt bv (n + 1) (upd th kn false) vl) := ⟨((HC.out.alloc (.cells #[.int .i64 11, .int .i64 0, .slice none 0 0, .int .i64 0, .int .i64 0] 27)).setT kn false).only0 o6, HS.out⟩
                  clear o6 HC
                  go_wp2_with fail
                  go_roundw
                  case rel => exact ⟨n + 1, q + 1, _, _, _, _, _, _, _, _, _, rfl, rfl, rfl, rfl, rfl, by go_num, by go_num, by omega, by omega, by omega, HF⟩
                  case measure => simp [intOf] <;> omega
              · have HOK := HOK0
                obtain ⟨hn, rfl⟩ : ∃ hn : Nat, hh = (hn : Int) := ⟨hh.toNat, by have h := H5.out rfl; simp only at h; omega⟩
                obtain rfl : v = 0 := op_fix5 HOK.out
                have hhn : kn ≤ hn ∧ hn ≤ 63 := by have h := H5.out rfl; simp only at h; omega
                clear HOK0 hhv H5
                obtain ⟨s', hd, I1⟩ := HL.out.2.step hn12 (o := ⟨5, (kn : Int), (hn : Int), 0⟩) HOK.out (by show (5 : Int) < 6; decide)
                obtain ⟨ps, hps⟩ : ∃ ps, ps = alPs th vl kn (hn + 1 - kn) := ⟨_, rfl⟩
                have HD : Hid (s.do_ 3 ⟨5, (kn : Int), (hn : Int), 0⟩ = (⟨0, 0, ps, 0, 0⟩, 0, s')) := by
                  have := hd
                  rw [show alRes th vl ⟨5, (kn : Int), (hn : Int), 0⟩ = ⟨0, 0, ps, 0, 0⟩ by rw [hps]; simp [alRes, alPs] <;> (congr 1; omega)] at this
                  exact this
                have HS : Hid (AlI (n + 1) th vl s') := by
                  have := I1
                  rw [show alTh th ⟨5, (kn : Int), (hn : Int), 0⟩ = th by simp [alTh], show alVl th vl ⟨5, (kn : Int), (hn : Int), 0⟩ = vl by simp [alVl]] at this
                  exact this
                have hpl : ps.length ≤ 64 := by rw [hps]; exact alPs_few _ _ _ _ (by omega)
                have HPS := Lib.hid hps
                have HPL := Lib.hid hpl
                clear hd I1 hps hpl
                have hn12b : ((n : Int) == 12) = false := by simp; omega
                have HA := Lib.hid (HL.out.1.alloc (.cells #[.int .i64 5, .int .i64 (kn : Int), .int .i64 (hn : Int), .int .i64 0] 31))
                have BO := Lib.hid (HL.out.1.lw.box 31 #[.int .i64 5, .int .i64 (kn : Int), .int .i64 (hn : Int), .int .i64 0])
                clear HL
                go_wp2_with fail
                refine (lw_dopp HA.out.lw 3 5 (kn : Int) (hn : Int) 0 HD.out).mono ?_
                rintro e w3 ⟨P3, a3, c3, rfl, L3, o3, g3, p3⟩
                have HA3 := Lib.hid (HA.out.step L3 o3 g3)
                have HB3 := Lib.hid (HA3.out.alloc (.cells #[.int .i64 0, .int .i64 0, .slice a3 ps.length c3, .int .i64 0, .int .i64 0] 27))
                have BR := Lib.hid (L3.box 27 #[.int .i64 0, .int .i64 0, .slice a3 ps.length c3, .int .i64 0, .int .i64 0])
                have BO3 := Lib.hid ((BO.out.step o3 g3).alloc (.cells #[.int .i64 0, .int .i64 0, .slice a3 ps.length c3, .int .i64 0, .int .i64 0] 27))
                have PP := Lib.hid (p3.only ((Only0.refl w3).alloc (.cells #[.int .i64 0, .int .i64 0, .slice a3 ps.length c3, .int .i64 0, .int .i64 0] 27)) (fun _ _ h => h))
                obtain ⟨nr, hnr⟩ : ∃ b, b = w3.heap.size := ⟨_, rfl⟩
                have HNR := Lib.hid hnr
                rw [← hnr] at BR
                have y0 : (w3.alloc (.cells #[.int .i64 0, .int .i64 0, .slice a3 ps.length c3, .int .i64 0, .int .i64 0] 27)).cell? ⟨wr.heap.size, 0, none⟩ = some (.int .i64 5) := BO3.out.1.cell 0
                have y1 : (w3.alloc (.cells #[.int .i64 0, .int .i64 0, .slice a3 ps.length c3, .int .i64 0, .int .i64 0] 27)).cell? ⟨wr.heap.size, 1, none⟩ = some (.int .i64 (kn : Int)) := BO3.out.1.cell 1
                have y2 : (w3.alloc (.cells #[.int .i64 0, .int .i64 0, .slice a3 ps.length c3, .int .i64 0, .int .i64 0] 27)).cell? ⟨wr.heap.size, 2, none⟩ = some (.int .i64 (hn : Int)) := BO3.out.1.cell 2
                have y3 : (w3.alloc (.cells #[.int .i64 0, .int .i64 0, .slice a3 ps.length c3, .int .i64 0, .int .i64 0] 27)).cell? ⟨wr.heap.size, 3, none⟩ = some (.int .i64 0) := BO3.out.1.cell 3
                clear HA BO L3 o3 g3 p3 hnr
                go_wp2_with fail
                rw [← HNR.out]
                refine (ref_opOk 5 (kn : Int) (hn : Int) 0 _).mono ?_
                rintro e w4 ⟨rfl, o4⟩
                rw [HOK.out]
                have HC := Lib.hid (HB3.out.only0 o4)
                have BR4 := Lib.hid (BR.out.only0 o4)
                have BO4 := Lib.hid (BO3.out.only0 o4)
                have PP4 := Lib.hid (PP.out.only o4 (fun _ _ h => h))
                clear HB3 BR BO3 PP y0 y1 y2 y3 o4 HNR HA3
                obtain ⟨no, hno⟩ : ∃ no, no = wr.heap.size := ⟨_, rfl⟩
                rw [← hno] at BO4
                have HNO := Lib.hid hno
                clear hno
                obtain ⟨n1, hn1⟩ : ∃ n1, n1 = w4.heap.size := ⟨_, rfl⟩
                obtain ⟨W5, hW5⟩ : ∃ W5, W5 = w4.alloc (.cells #[.int .i64 0, .int .i64 0, .slice none 0 0, .int .i64 0, .int .i64 0] 27) := ⟨_, rfl⟩
                have HQ : Hid (AlQ w4 W5 n1 W5 th vl kn 0 none 0) := by
                  rw [hW5, hn1]
                  exact ⟨(Only0.refl _).alloc _, Blk.new _ _ _, World.ownsRow_nil _ _ _ _, Nat.le_refl _⟩
                have HN1 := Lib.hid hn1
                have h51 : Hid (n1 < W5.heap.size ∧ w4.heap.size ≤ n1) := by
                  rw [hW5, hn1]; exact ⟨by simp, Nat.le_refl _⟩
                have HW5 := Lib.hid hW5
                have zz0 : W5.cell? ⟨no, 0, none⟩ = some (.int .i64 5) := by rw [hW5]; exact (BO4.out.alloc _).1.cell 0
                have zz1 : W5.cell? ⟨no, 1, none⟩ = some (.int .i64 kn) := by rw [hW5]; exact (BO4.out.alloc _).1.cell 1
                obtain ⟨i0, hi0, hz0, hz1, hz2⟩ := info_parts info_pair
                clear hn1 hW5
                go_upto_region 25 with (fail)
                rw [← HW5.out, ← HN1.out, ← HNO.out]
                clear HW5
                go_wp2_with fail
                go_loopw [17] (fun s17 wx => ∃ (i kk : Nat) (ra : Option Addr) (rc : Nat), s17 = .int .i64 kk ∧ Hid (kk = kn + i ∧ i ≤ hn + 1 - kn) ∧ kk ≤ hn + 1 ∧ Hid (AlQ w4 W5 n1 wx th vl kn i ra rc)) (fun s17 _ => hn + 1 - (intOf s17).toNat)
                case atStart => exact ⟨0, kn, none, 0, rfl, Lib.hid ⟨rfl, by omega⟩, by omega, HQ⟩
                case round =>
                  obtain ⟨i, kk, ra, rc, rfl, HK, hkb, HR5⟩ := hrel
                  have z2 : wr.cell? ⟨no, 2, none⟩ = some (.int .i64 hn) := (BO4.out.only0 HR5.out.o).1.cell 2
                  by_cases hlt5 : kk ≤ hn
                  · have hk64' : kk < 64 := by omega
                    have hkZ' : (kk : Int) < 64 := by omega
                    have tk : wr.cell? ⟨bt, kk, none⟩ = some (.bool (th kk)) := (HC.out.only0 HR5.out.o).t.cell hk64'
                    have vk : wr.cell? ⟨bv, kk, none⟩ = some (.int .i64 (vl kk)) := (HC.out.only0 HR5.out.o).v.cell hk64'
                    cases hth : th kk with
                    | false =>
                      rw [hth] at tk
                      have HE : Hid (AlQ w4 W5 n1 wr th vl kn (i + 1) ra rc) := HR5.out.skip (by rw [← HK.out.1]; exact hth)
                      have HK' := Lib.hid (show kk + 1 = kn + (i + 1) ∧ i + 1 ≤ hn + 1 - kn by have := HK.out; omega)
                      clear HR5
                      go_wp2_with fail
                      go_roundw
                      case rel => exact ⟨i + 1, kk + 1, ra, rc, by go_num, HK', by omega, HE⟩
                      case measure => simp [intOf]; omega
                    | true =>
                      rw [hth] at tk
                      have HTH := Lib.hid hth
                      obtain ⟨qs, hqs⟩ : ∃ qs, qs = alPs th vl kn i := ⟨_, rfl⟩
                      have hql : qs.length ≤ 64 := by rw [hqs]; exact alPs_few _ _ _ _ (by have := HK.out; omega)
                      have B1 := HR5.out.bw
                      have RW := HR5.out.row
                      rw [← hqs] at B1 RW
                      have HQS := Lib.hid hqs
                      have O4 := Lib.hid HR5.out.o
                      have nrow : ¬ rowOf (.slice ra qs.length rc) n1 := fun hb => by have := rows_above RW _ hb; have := h51.out.1; omega
                      have hW2 : W5.heap.size ≤ wr.heap.size := HR5.out.size
                      have d2 : wr.cell? ⟨n1, 2, none⟩ = some (.slice ra qs.length rc) := B1.cell 2
                      obtain ⟨x, hx⟩ : ∃ x, x = vl kk := ⟨_, rfl⟩
                      rw [← hx] at vk
                      have HX := Lib.hid hx
                      obtain ⟨W6, hW6⟩ : ∃ W6, W6 = (wr.alloc (.cells #[.int .i64 kk, .int .i64 x] 48)).drew := ⟨_, rfl⟩
                      have o6 : Only0 wr W6 := by rw [hW6]; exact ((Only0.refl _).alloc _).drew
                      have m6 : W6.cell? ⟨n1, 2, none⟩ = some (.slice ra qs.length rc) := (o6.blk B1 (fun h => h)).cell 2
                      have f6 := (o6.blk B1 (fun h => h)).free 2
                      have R6 := rows_only RW o6 (fun _ _ hf => hf)
                      have hn6 : n1 < W6.heap.size := Nat.lt_of_lt_of_le B1.lt o6.size
                      rw [hW6] at m6 f6 R6 hn6
                      have APP : Hid (∀ (gg cap : Nat) (w1 : World), w1.ownsRow W5.heap.size 48 2 (.slice (some ⟨gg, 0, none⟩) (qs.length + 1) cap) (qs.length + 1) (pairCells qs ++ [.int .i64 kk, .int .i64 x]) → ((wr.alloc (.cells #[.int .i64 kk, .int .i64 x] 48)).drew).grownBy w1 (Value.slice ra qs.length rc).ownBlock →
                          AlQ w4 W5 n1 (w1.setCell ⟨n1, 2, none⟩ (.slice (some ⟨gg, 0, none⟩) (qs.length + 1) cap)) th vl kn (i + 1) (some ⟨gg, 0, none⟩) cap) := by
                        intro gg cap w1 ha hb
                        exact al_app (qs := qs) (ra := ra) (rc := rc) (x := x) HQS.out (by rw [← HK.out.1]; exact HTH.out) (by rw [← HK.out.1]; exact HX.out) h51.out.1 h51.out.2 hW2 O4.out B1 RW (by rw [← HK.out.1]; exact ha) (by rw [← HK.out.1]; exact hb)
                      clear o6 hW6 B1 RW hqs hx hth
                      go_wp2_with fail
                      go_region_law
                        ((refine step_append_lies _ (by rfl) _ _ _ (by rfl) W5.heap.size 48 i0 _ 2 16 Try.underlying25 hi0 hz0 hz1 hz2 rfl (by omega) (.slice ra qs.length rc) qs.length (pairCells qs) (by rfl) R6
                            ⟨wr.heap.size, 0, none⟩ 1 1 [.int .i64 kk, .int .i64 x] (by rfl) (by rfl) (World.news_of_block (cs := #[.int .i64 kk, .int .i64 x]) (t := 48) (fr := (0, 0)) (heap_alloc_new wr _)) (by simp [Value.oneCell'])
                            (by omega) (by unfold maxLen; omega) (by omega) (by simp; omega) (wr.heap.size + 1) (by simp) ?_; intro gg cap w1 hown2 hgrow hat hlt2
                          have cz : w1.cell? ⟨n1, 2, none⟩ = some (.slice ra qs.length rc) := (hgrow.cell_far ⟨n1, 2, none⟩ hn6 (fun e => nrow e.symm)).trans m6
                          have fz1 : w1.frozen? ⟨n1, 2, none⟩ = false := (hgrow.frozen_far ⟨n1, 2, none⟩ hn6 (fun e => nrow e.symm)).trans f6))
                      all_goals
                        have HE := Lib.hid (APP.out gg cap w1 hown2 hgrow)
                        have HK' := Lib.hid (show kk + 1 = kn + (i + 1) ∧ i + 1 ≤ hn + 1 - kn by have := HK.out; omega)
                        generalize hW7 : World.setCell w1 _ _ = W7 at *
                        clear hown2 hgrow hat hlt2 cz fz1 hW7 APP HR5 HK
                        go_wp2_with fail
                        go_roundw
                        case rel => exact ⟨i + 1, kk + 1, _, cap, by go_num, HK', by omega, HE⟩
                        case measure => simp [intOf]; omega
                  · have hin : i = hn + 1 - kn := by have := HK.out; omega
                    have HQ5 := HR5.out
                    rw [hin] at HQ5
                    have BW := HQ5.bw
                    have RW := HQ5.row
                    have OX := HQ5.o
                    rw [show alPs th vl kn (hn + 1 - kn) = ps from HPS.out.symm] at BW RW
                    have r0 : wr.cell? ⟨nr, 0, none⟩ = some (.int .i64 0) := (BR4.out.only0 OX).1.cell 0
                    have r1 : wr.cell? ⟨nr, 1, none⟩ = some (.int .i64 0) := (BR4.out.only0 OX).1.cell 1
                    have r2 : wr.cell? ⟨nr, 2, none⟩ = some (.slice a3 ps.length c3) := (BR4.out.only0 OX).1.cell 2
                    have r3 : wr.cell? ⟨nr, 3, none⟩ = some (.int .i64 0) := (BR4.out.only0 OX).1.cell 3
                    have r4 : wr.cell? ⟨nr, 4, none⟩ = some (.int .i64 0) := (BR4.out.only0 OX).1.cell 4
                    have b0 : wr.cell? ⟨n1, 0, none⟩ = some (.int .i64 0) := BW.cell 0
                    have b1 : wr.cell? ⟨n1, 1, none⟩ = some (.int .i64 0) := BW.cell 1
                    have b2 : wr.cell? ⟨n1, 2, none⟩ = some (.slice ra ps.length rc) := BW.cell 2
                    have b3 : wr.cell? ⟨n1, 3, none⟩ = some (.int .i64 0) := BW.cell 3
                    have b4 : wr.cell? ⟨n1, 4, none⟩ = some (.int .i64 0) := BW.cell 4
                    have PX := Lib.hid (PP4.out.only OX (fun _ _ h => h))
                    have PY := Lib.hid (PairsIn.of_own RW)
                    have HX := Lib.hid (HC.out.only0 OX)
                    clear HQ5 BW RW OX HR5 HK hin HC PP4 BR4
                    go_wp2_with fail
                    refine (sameRes_same 0 0 0 0 a3 ra c3 rc ps _ PX.out PY.out (by have := HPL.out; omega)).mono ?_
                    rintro e w6 ⟨rfl, o6⟩
                    have HF : Hid (AlR w w6 P3 m s' bt bv (n + 1) th vl) := ⟨HX.out.only0 o6, HS.out⟩
                    clear o6 HX
                    go_wp2_with fail
                    go_roundw
                    case rel => exact ⟨n + 1, q + 1, _, _, _, _, _, _, _, _, _, rfl, rfl, rfl, rfl, rfl, by go_num, by go_num, by omega, by omega, by omega, HF⟩
                    case measure => simp [intOf] <;> omega
            · have HOK := Lib.hid hok
              obtain rfl : n = 12 := by omega
              have HD := Lib.hid (HL.out.2.many (o := ⟨K, k, hh, v⟩) HOK.out (by show K < 6; omega))
              have HII := Lib.hid HL.out.2
              have HA := Lib.hid (HL.out.1.alloc (.cells #[.int .i64 K, .int .i64 k, .int .i64 hh, .int .i64 v] 31))
              have BO := Lib.hid (HL.out.1.lw.box 31 #[.int .i64 K, .int .i64 k, .int .i64 hh, .int .i64 v])
              clear HL
              go_wp2_with fail
              refine (lw_dopp HA.out.lw 3 K k hh v HD.out).mono ?_
              rintro e w3 ⟨P3, a3, c3, rfl, L3, o3, g3, p3⟩
              have HA3 := Lib.hid (HA.out.step L3 o3 g3)
              have HB3 := Lib.hid (HA3.out.alloc (.cells #[.int .i64 0, .int .i64 0, .slice a3 0 c3, .int .i64 0, .int .i64 0] 27))
              have BR := Lib.hid (L3.box 27 #[.int .i64 0, .int .i64 0, .slice a3 0 c3, .int .i64 0, .int .i64 0])
              have BO3 := Lib.hid ((BO.out.step o3 g3).alloc (.cells #[.int .i64 0, .int .i64 0, .slice a3 0 c3, .int .i64 0, .int .i64 0] 27))
              have PP := Lib.hid (p3.only ((Only0.refl w3).alloc (.cells #[.int .i64 0, .int .i64 0, .slice a3 0 c3, .int .i64 0, .int .i64 0] 27)) (fun _ _ h => h))
              obtain ⟨nr, hnr⟩ : ∃ b, b = w3.heap.size := ⟨_, rfl⟩
              have HNR := Lib.hid hnr
              rw [← hnr] at BR
              have y0 : (w3.alloc (.cells #[.int .i64 0, .int .i64 0, .slice a3 0 c3, .int .i64 0, .int .i64 0] 27)).cell? ⟨wr.heap.size, 0, none⟩ = some (.int .i64 K) := BO3.out.1.cell 0
              have y1 : (w3.alloc (.cells #[.int .i64 0, .int .i64 0, .slice a3 0 c3, .int .i64 0, .int .i64 0] 27)).cell? ⟨wr.heap.size, 1, none⟩ = some (.int .i64 k) := BO3.out.1.cell 1
              have y2 : (w3.alloc (.cells #[.int .i64 0, .int .i64 0, .slice a3 0 c3, .int .i64 0, .int .i64 0] 27)).cell? ⟨wr.heap.size, 2, none⟩ = some (.int .i64 hh) := BO3.out.1.cell 2
              have y3 : (w3.alloc (.cells #[.int .i64 0, .int .i64 0, .slice a3 0 c3, .int .i64 0, .int .i64 0] 27)).cell? ⟨wr.heap.size, 3, none⟩ = some (.int .i64 v) := BO3.out.1.cell 3
              clear HA BO L3 o3 g3 p3 hnr
              go_wp2_with fail
              rw [← HNR.out]
              refine (ref_opOk K k hh v _).mono ?_
              rintro e w4 ⟨rfl, o4⟩
              rw [HOK.out]
              have HC := Lib.hid (HB3.out.only0 o4)
              have BR4 := Lib.hid (BR.out.only0 o4)
              have BO4 := Lib.hid (BO3.out.only0 o4)
              have PP4 := Lib.hid (PP.out.only o4 (fun _ _ h => h))
              clear HB3 BR BO3 PP y0 y1 y2 y3 o4 HNR HA3
              have HF : Hid (AlR w w4 P3 m s bt bv 12 th vl) := ⟨HC.out, HII.out⟩
              go_wp2_with fail
              go_roundw
              case rel => exact ⟨12, q + 1, _, _, _, _, _, _, _, _, _, rfl, rfl, rfl, rfl, rfl, by go_num, by go_num, by omega, by omega, by omega, HF⟩
              case measure => simp [intOf] <;> omega
      · obtain rfl : q = 30 := by omega
        obtain ⟨s', hd⟩ := HL.out.2.commit
        have HD := Lib.hid hd
        have HLL := Lib.hid HL.out.1.lw
        clear hd HL
        go_wp2_with fail
        refine (lw_do HLL.out 3 6 0 0 0 HD.out).mono ?_
        rintro e w3 ⟨P3, a3, c3, rfl, L3, -, -⟩
        have HO := Lib.hid (L3.alloc (.cells #[.int .i64 0, .int .i64 0, .slice a3 0 c3, .int .i64 3, .int .i64 0] 27)).o
        clear HD HLL L3
        go_wp2_with fail
        refine (awake19_any _).mono ?_
        rintro e w8 ⟨rfl, o8⟩
        have HO8 := Lib.hid (HO.out.trans o8)
        clear o8
        go_wp2_with fail
        go_ret
        exact ⟨rfl, HO8.out.below⟩
    · obtain rfl : q = rows.length := by omega
      obtain ⟨s', hd⟩ := HL.out.2.commit
      have HD := Lib.hid hd
      have HLL := Lib.hid HL.out.1.lw
      clear hd HL
      go_wp2_with fail
      refine (lw_do HLL.out 3 6 0 0 0 HD.out).mono ?_
      rintro e w3 ⟨P3, a3, c3, rfl, L3, -, -⟩
      have HO := Lib.hid (L3.alloc (.cells #[.int .i64 0, .int .i64 0, .slice a3 0 c3, .int .i64 3, .int .i64 0] 27)).o
      clear HD HLL L3
      go_wp2_with fail
      refine (awake19_any _).mono ?_
      rintro e w8 ⟨rfl, o8⟩
      have HO8 := Lib.hid (HO.out.trans o8)
      clear o8
      go_wp2_with fail
      go_ret
      exact ⟨rfl, HO8.out.below⟩
end Go.Proofs.Ytcbhafddehipdaa

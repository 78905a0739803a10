/-
  The laws of layer 19: what a law holds in memory; awake.
-/
import Derived.Test.YtcbhafddehipdaaMdSame
namespace Go.Proofs.Ytcbhafddehipdaa
open Go.RowKit
set_option linter.unusedVariables false
set_option linter.unusedSimpArgs false

theorem MIn.base {B B' m : Nat} {w : World} {P : Nat → Prop} {s : St} {A : Ad} (h : MIn B w P m s A) (hB : B' ≤ B) : MIn B' w P m s A :=
  ⟨h.mod, rows_base h.row hB, h.vers, h.txs, h.ok, h.pm, h.pr, h.under, fun b hb => Nat.le_trans hB (h.above b hb)⟩
/-- A law's Model, all of it in memory of its own. -/
structure LW (w0 w : World) (P : Nat → Prop) (m : Nat) (s : St) : Prop where
  mat : MAt w0.heap.size w P m s
  o : Only0 w0 w
theorem LW.made {w0 w w' : World} {m : Nat} {s : St} (o : Only0 w0 w) (h : MAt w.heap.size w' (fun b => b = m) m s) (o' : Only0 w w') : LW w0 w' (fun b => b = m) m s := by
  obtain ⟨A, h⟩ := h
  exact ⟨⟨A, h.base o.size⟩, o.trans o'⟩
theorem LW.step {w0 w w' : World} {P P' : Nat → Prop} {m : Nat} {s s' : St} (h : LW w0 w P m s) (h' : MAt w0.heap.size w' P' m s') (o : Only P w w') : LW w0 w' P' m s' := by
  refine ⟨h', ⟨o.os.trans h.o.os, o.tape.trans h.o.tape, o.output.trans h.o.output, Nat.le_trans h.o.size o.size, fun k hk hn => ?_⟩⟩
  rw [o.block k (Nat.lt_of_lt_of_le hk h.o.size) (fun hp => by have := h.mat.above k hp; omega)]
  exact h.o.block k hk hn
theorem LW.only0 {w0 w w' : World} {P : Nat → Prop} {m : Nat} {s : St} (h : LW w0 w P m s) (o : Only0 w w') : LW w0 w' P m s := ⟨h.mat.only0 o, h.o.trans o⟩
theorem LW.alloc {w0 w : World} {P : Nat → Prop} {m : Nat} {s : St} (h : LW w0 w P m s) (o : Obj) : LW w0 (w.alloc o) P m s := h.only0 ((Only0.refl _).alloc _)
/-- A box of the law's own, beside the Model. -/
def Bx (w : World) (P : Nat → Prop) (b : Nat) (t : TypeId) (cs : Array Value) : Prop := Blk w b t cs ∧ ¬ P b
theorem Bx.step {w w' : World} {P P' : Nat → Prop} {b : Nat} {t : TypeId} {cs : Array Value} (h : Bx w P b t cs) (o : Only P w w') (g : Grew w.heap.size P P') : Bx w' P' b t cs :=
  ⟨o.blk h.1 h.2, fun hp => by
    rcases g b hp with h1 | h1
    · exact h.2 h1
    · have := h.1.lt; omega⟩
theorem Bx.only0 {w w' : World} {P : Nat → Prop} {b : Nat} {t : TypeId} {cs : Array Value} (h : Bx w P b t cs) (o : Only0 w w') : Bx w' P b t cs := ⟨o.blk h.1 (fun h => h), h.2⟩
theorem Bx.alloc {w : World} {P : Nat → Prop} {b : Nat} {t : TypeId} {cs : Array Value} (h : Bx w P b t cs) (o : Obj) : Bx (w.alloc o) P b t cs := ⟨h.1.alloc o, h.2⟩
theorem LW.box {w0 w : World} {P : Nat → Prop} {m : Nat} {s : St} (h : LW w0 w P m s) (t : TypeId) (cs : Array Value) : Bx (w.alloc (.cells cs t)) P w.heap.size t cs := ⟨Blk.new _ _ _, fun hp => by have := h.mat.under _ hp; omega⟩
/-- Begin, Do, in a law. -/
theorem lw_begin {w0 w : World} {P : Nat → Prop} {m : Nat} {s : St} (h : LW w0 w P m s) (j level : Int) {id er : Int} {s' : St} (hs : s.begin j level = (id, er, s')) :
    Calls Try.prog 23 #[.pointer (some ⟨m, 0, none⟩), .int .i64 j, .int .i64 level] w fun e w' => ∃ P' : Nat → Prop, e = .returned (.tuple #[.int .i64 id, .int .i64 er]) ∧ LW w0 w' P' m s' ∧ Only P w w' ∧ Grew w.heap.size P P' := by
  refine (md_begin h.mat j level).mono ?_
  rintro e w' ⟨P', he, h', o, g⟩
  rw [hs] at he h'
  exact ⟨P', he, h.step h' o, o, g⟩
theorem lw_do {w0 w : World} {P : Nat → Prop} {m : Nat} {s : St} (h : LW w0 w P m s) (j kind key hi value : Int) {re rv ro rr er : Int} {s' : St} (hs : s.do_ j ⟨kind, key, hi, value⟩ = (⟨re, rv, [], ro, rr⟩, er, s')) :
    Calls Try.prog 19 #[.pointer (some ⟨m, 0, none⟩), .int .i64 j, .agg #[.int .i64 kind, .int .i64 key, .int .i64 hi, .int .i64 value]] w fun e w' => ∃ (P' : Nat → Prop) (a : Option Addr) (c : Nat), e = .returned (.tuple #[.agg #[.int .i64 re, .int .i64 rv, .slice a 0 c, .int .i64 ro, .int .i64 rr], .int .i64 er]) ∧ LW w0 w' P' m s' ∧ Only P w w' ∧ Grew w.heap.size P P' := by
  refine (md_do h.mat j kind key hi value).mono ?_
  rintro e w' ⟨P', a, c, he, h', o, g, _, _⟩
  rw [hs] at he h'
  exact ⟨P', a, c, he, h.step h' o, o, g⟩

theorem PairsIn.lit (w : World) (ps : List (Int × Int)) : PairsIn (w.alloc (.cells (pairCells ps).toArray 48)) (some ⟨w.heap.size, 0, none⟩) ps := by
  by_cases h : ps = []
  · exact .inl h
  · refine .inr ⟨w.heap.size, 0, rfl, fun i hi => ?_⟩
    have G := pairCells_get ps i hi
    rw [Nat.zero_add, Nat.zero_add, (Blk.new w 48 _).cell, (Blk.new w 48 _).cell]
    simpa using G
/-! ### awake -/
def aw1 : St := ((newSt 4 100).begin 0 3).2.2
theorem aw1_eq : (newSt 4 100).begin 0 3 = (1, 0, aw1) := rfl
def aw2 : St := (aw1.do_ 0 ⟨2, 5, 0, 7⟩).2.2
theorem aw2_eq : aw1.do_ 0 ⟨2, 5, 0, 7⟩ = (⟨0, 0, [], 0, 0⟩, 0, aw2) := by rfl
def aw3 : St := (aw2.do_ 0 ⟨6, 0, 0, 0⟩).2.2
theorem aw3_eq : aw2.do_ 0 ⟨6, 0, 0, 0⟩ = (⟨0, 0, [], 3, 0⟩, 0, aw3) := by rfl
theorem aw3_pairs : aw3.pairs 9 = [(5, 7)] := by rfl
theorem aw3_now : aw3.now = 2 := by rfl
set_option maxRecDepth 100000 in
set_option maxHeartbeats 8000000 in
theorem awake19_any (w : World) : Calls Try.prog 20 #[] w fun e w' => e = .returned (.bool true) ∧ Only0 w w' := by
  have hp9 := aw3_pairs
  have hn9 := aw3_now
  go_enter Try.func20, Try.ntmps20
  go_wp2_with fail
  refine (md_new 4 100 _ (by decide)).mono ?_
  rintro e w1 ⟨m, rfl, h1, o1, -⟩
  have L1 := LW.made (Only0.refl w) h1 o1
  clear h1 o1
  go_wp2_with fail
  refine (lw_begin L1 0 3 aw1_eq).mono ?_
  rintro e w2 ⟨P2, rfl, L2, -, -⟩
  clear L1
  go_wp2_with fail
  refine (lw_do L2 0 2 5 0 7 aw2_eq).mono ?_
  rintro e w3 ⟨P3, a3, c3, rfl, L3, -, -⟩
  clear L2
  have X5 := L3.box 27 #[.int .i64 0, .int .i64 0, .slice a3 0 c3, .int .i64 0, .int .i64 0]
  have L3' := L3.alloc (.cells #[.int .i64 0, .int .i64 0, .slice a3 0 c3, .int .i64 0, .int .i64 0] 27)
  obtain ⟨b5, hb5⟩ : ∃ b, b = w3.heap.size := ⟨_, rfl⟩
  rw [← hb5] at X5
  go_wp2_with fail
  refine (lw_do L3' 0 6 0 0 0 aw3_eq).mono ?_
  rintro e w4 ⟨P4, a4, c4, rfl, L4, o4, g4⟩
  have X5' := (X5.step o4 g4).alloc (.cells #[.int .i64 0, .int .i64 0, .slice a4 0 c4, .int .i64 3, .int .i64 0] 27)
  have r0 : (w4.alloc (.cells #[.int .i64 0, .int .i64 0, .slice a4 0 c4, .int .i64 3, .int .i64 0] 27)).cell? ⟨b5, 0, none⟩ = some (.int .i64 0) := X5'.1.cell 0
  have L4' := L4.alloc (.cells #[.int .i64 0, .int .i64 0, .slice a4 0 c4, .int .i64 3, .int .i64 0] 27)
  rw [← hb5]
  have HP9 := Lib.hid hp9
  have HN9 := Lib.hid hn9
  clear L3 L3' X5 X5' o4 g4 hb5 L4 hp9 hn9
  go_wp2_with fail
  refine (md_pairs L4'.mat 9).mono ?_
  rintro e w5 ⟨⟨a5, c5, rfl, hp5, -⟩, o5⟩
  rw [HP9.out] at hp5 ⊢
  have L5 := L4'.only0 o5
  clear L4' r0 o5
  go_wp2_with fail
  refine (samePairs_any a5 (some ⟨w5.heap.size, 0, none⟩) c5 1 [(5, 7)] [(5, 7)] _ (hp5.only (S := fun _ => False) ((Only0.refl w5).alloc _) (fun _ _ h => h)) (PairsIn.lit w5 _) (by decide) (by decide)).mono ?_
  rintro e w6 ⟨rfl, n6, rfl⟩
  have L6 := (L5.alloc (.cells #[.int .i64 5, .int .i64 7] 48)).only0 ((Only0.refl _).drewN n6)
  clear L5 hp5
  go_wp2_with fail
  refine (md_now L6.mat).mono ?_
  rintro e w7 ⟨rfl, rfl⟩
  rw [HN9.out]
  have HO := Lib.hid L6.o
  go_wp2_with fail
  go_ret
  exact ⟨rfl, HO.out⟩
end Go.Proofs.Ytcbhafddehipdaa

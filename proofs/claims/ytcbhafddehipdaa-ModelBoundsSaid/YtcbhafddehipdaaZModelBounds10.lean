/-
  ModelBounds: what its proof rests on, part 10.
-/
import Derived.Test.YtcbhafddehipdaaZModelBounds5
import Derived.Test.YtcbhafddehipdaaZModelBounds6
import Derived.Test.YtcbhafddehipdaaZModelBounds7
import Derived.Test.YtcbhafddehipdaaZModelBounds8
import Derived.Test.YtcbhafddehipdaaZModelBounds9
namespace Go.Proofs.Ytcbhafddehipdaa
open Go.RowKit
set_option linter.unusedVariables false
set_option linter.unusedSimpArgs false
/-- What Do leaves. -/
def RDoRes (B m : Nat) (w : World) (P : Nat → Prop) (x : Res × Int × RSt) (e : Ending) (w' : World) : Prop :=
  ∃ (P' : Nat → Prop) (a : Option Addr) (c : Nat), e = .returned (.tuple #[resAgg x.1 a c, .int .i64 x.2.1]) ∧ RAt B w' P' m x.2.2 ∧ Only P w w' ∧ Grew w.heap.size P P' ∧ PairsIn w' a x.1.pairs ∧ ∀ y, a = some y → w.heap.size ≤ y.block ∧ ¬ P' y.block
theorem RcI.re {B : Nat} {w : World} {P0 : Nat → Prop} {m n0 : Nat} {bs : List OwnB} {s : RSt} {P : Nat → Prop} {A : RAd} {wr w9 : World} {t : TypeId} {cs : Array Value} {r : Res} {a : Option Addr} {c : Nat} {er : Int} (h : RcI B w P0 m bs s P A wr) (hm : ⟨n0, t, cs⟩ ∈ bs) (o9 : Only (fun c => c = n0) wr w9)
    (hp : PairsIn wr a r.pairs) (hy : ∀ y, a = some y → w.heap.size ≤ y.block ∧ ¬ P y.block ∧ y.block ≠ n0) : RDoRes B m w P0 (r, er, s) (.returned (.tuple #[resAgg r a c, .int .i64 er])) w9 := by
  obtain ⟨P', _, M', o', g'⟩ := h.done (v := .bool true) hm o9
  have hM : RAt B w9 P m s := ⟨A, h.mod.only o9 (fun b hb e => by subst e; exact (h.own _ hm).2.1 hb)⟩
  exact ⟨P, a, c, rfl, hM, o', h.grew, hp.only o9 (fun x hx e => (hy x hx).2.2 e), fun y hya => ⟨(hy y hya).1, (hy y hya).2.1⟩⟩
theorem RcI.app {B : Nat} {w : World} {P0 : Nat → Prop} {m gg : Nat} {bs : List OwnB} {s s' : RSt} {P : Nat → Prop} {A A' : RAd} {wr W6 W7 : World} {v : Value} (h : RcI B w P0 m bs s P A wr) (o6 : Only0 wr W6) (hv : ∀ b, rowOf v b → P b) (hat : v.ownBlock = some gg ∨ W6.heap.size ≤ gg)
    (M : RIn B W7 (fun b => P b ∨ b = gg) m s' A') (O : Only (fun b => b = m ∨ rowOf v b) W6 W7) : RcI B w P0 m bs s' (fun b => P b ∨ b = gg) A' W7 := by
  refine h.step M ((o6.any P).trans (O.toward (fun b hb => ?_))) (fun b hb => ?_)
  · rcases hb with rfl | hb
    · exact h.mod.pm
    · exact hv b hb
  · rcases hb with hb | rfl
    · exact .inl hb
    · rcases hat with h1 | h1
      · exact .inl (hv b h1)
      · exact .inr (by have := o6.size; omega)
/-- A session counts one call more. -/
theorem RIn.opUp {B m : Nat} {w : World} {P : Nat → Prop} {s : RSt} {A : RAd} (h : RIn B w P m s A) {j : Nat} (hj : j < 8) (ho : (s.s j).ops < 12) : RIn B (w.setCell ⟨m, 3 + j * 6 + 2, none⟩ (.int .i64 ((s.s j).ops + 1))) P m (s.setS j (s.s j).op) A ∧ Only P w (w.setCell ⟨m, 3 + j * 6 + 2, none⟩ (.int .i64 ((s.s j).ops + 1))) := by
  have hb := h.mod.set (3 + j * 6 + 2) (.int .i64 ((s.s j).ops + 1))
  have off : ∀ i, i ≠ j → (s.setS j (s.s j).op).s i = s.s i := fun i hi => upd_other _ _ _ hi
  have on : (s.setS j (s.s j).op).s j = (s.s j).op := upd_same _ _ _
  rw [← rm_set A A s (s.setS j (s.s j).op) hj 2 (by decide) _ ⟨rfl, rfl, rfl, rfl⟩ ⟨rfl, rfl, rfl⟩ (fun i hi => by rw [off i hi]) (by rw [on]; rfl)] at hb
  have h0 := h.ok
  refine ⟨h.setMod (Only.set1 w m _ _) hb ⟨rfl, rfl, rfl⟩ (fun i hi => .inl ?_) ⟨h0.slots, h0.limit, h0.time, h0.made, h0.few, fun i => ?_, fun i => ?_, fun i => ?_, fun i r hr => ?_⟩, (Only.set1 w m _ _).toward (fun b hb => by subst hb; exact h.pm)⟩
  · by_cases e : i = j
    · subst e; rw [on]; exact ⟨rfl, rfl, rfl, rfl, rfl, rfl⟩
    · rw [off i e]; exact ⟨rfl, rfl, rfl, rfl, rfl, rfl⟩
  · by_cases e : i = j
    · subst e; rw [on]; have := h0.ops i; show 0 ≤ (s.s i).ops + 1 ∧ (s.s i).ops + 1 ≤ 12; omega
    · rw [off i e]; exact h0.ops i
  · by_cases e : i = j
    · subst e; rw [on]; have := h0.wrote i; show ((s.s i).wrote.length : Int) ≤ (s.s i).ops + 1; omega
    · rw [off i e]; exact h0.wrote i
  · by_cases e : i = j
    · subst e; rw [on]; have := h0.reads i; show ((s.s i).reads.length : Int) ≤ (s.s i).ops + 1; omega
    · rw [off i e]; exact h0.reads i
  · by_cases e : i = j
    · subst e; rw [on] at hr; exact h0.span i r hr
    · rw [off i e] at hr; exact h0.span i r hr
theorem rcommit_pairs (s : RSt) (j : Nat) : (s.commit j).1.pairs = [] := by
  unfold RSt.commit
  split
  · rfl
  · split <;> rfl
theorem rwrite_pairs (s : RSt) (j : Nat) (kind key x : Int) : (s.write j kind key x).1.pairs = [] := by
  unfold RSt.write
  split
  · rfl
  · split
    · rfl
    · split <;> rfl
theorem ref_write {B m : Nat} {w : World} {P0 : Nat → Prop} {s : RSt} (h : RAt B w P0 m s) (j : Nat) (hj : j < 8) (kind key hi x : Int) (hk : kind = 2 ∨ kind = 3 ∨ kind = 4) (hk0 : 0 ≤ key) (hk1 : key ≤ 63) (hw : ((s.s j).wrote.length : Int) + 1 ≤ (s.s j).ops) (hr : ((s.s j).reads.length : Int) + 1 ≤ (s.s j).ops) :
    Calls Try.prog 62 #[.pointer (some ⟨m, 0, none⟩), .int .i64 j, .agg #[.int .i64 kind, .int .i64 key, .int .i64 hi, .int .i64 x]] w (RRes B m w P0 (resV (s.write j kind key x).1) (s.write j kind key x).2) := by
  rcases hk with rfl | rfl | rfl
  · exact ref_write2 h j hj key hi x hk0 hk1 hw hr
  · exact ref_write3 h j hj key hi x hk0 hk1 hw hr
  · exact ref_write4 h j hj key hi x hk0 hk1 hw hr
theorem ref_scanI {B m : Nat} {w : World} {P : Nat → Prop} {s : RSt} {A : RAd} (h : RIn B w P m s A) (id level ops beg : Int) (wa : Option Addr) (wl wc : Nat) (ra : Option Addr) (rl rc : Nat) (lo hi : Int) (h0 : 0 ≤ lo) (hlo : lo ≤ hi) (hhi : hi ≤ 63) :
    Calls Try.prog 61 #[.pointer (some ⟨m, 0, none⟩), .agg #[.int .i64 id, .int .i64 level, .int .i64 ops, .int .u64 beg, .slice wa wl wc, .slice ra rl rc], .int .i64 lo, .int .i64 hi] w fun e w' => (∃ a c, e = .returned (.slice a ((rKeys lo hi).filterMap (s.pairOf id beg)).length c) ∧ PairsIn w' a ((rKeys lo hi).filterMap (s.pairOf id beg)) ∧ ∀ x, a = some x → w.heap.size ≤ x.block) ∧ Only0 w w' := by
  obtain ⟨l, rfl⟩ : ∃ n : Nat, lo = n := ⟨lo.toNat, by omega⟩
  obtain ⟨h', rfl⟩ : ∃ n : Nat, hi = n := ⟨hi.toNat, by omega⟩
  exact ref_scan h id level ops beg wa wl wc ra rl rc l h' (by omega) (by omega)
end Go.Proofs.Ytcbhafddehipdaa

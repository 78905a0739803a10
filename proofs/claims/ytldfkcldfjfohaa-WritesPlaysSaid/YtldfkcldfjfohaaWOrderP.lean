/-
  WritesOrder: the two sets as plain functions of the bits; both sets in memory; '!=' of two writes that are alike.
-/
import Derived.Test.YtldfkcldfjfohaaWLaw2
namespace Go.Proofs.Ytldfkcldfjfohaa
open Go.RowKit
set_option linter.unusedVariables false
set_option linter.unusedSimpArgs false

def ordV (Y : Nat) (k : Int) : Int := if Y.testBit k.toNat then 0 else k + 100
def ordG (Y : Nat) (k : Int) : Bool := Y.testBit k.toNat
/-- A set holds just these keys, each as the bits of Y say. -/
structure IsW (Y : Nat) (s : Wr) (ks : List Int) : Prop where
  keys : s.keys = ks
  val : ∀ k ∈ ks, s.val k = ordV Y k
  gone : ∀ k ∈ ks, s.gone k = ordG Y k
theorem IsW.new (Y : Nat) : IsW Y Wr.new [] := ⟨rfl, fun k hk => (by cases hk), fun k hk => (by cases hk)⟩
theorem IsW.put {Y : Nat} {s : Wr} {ks : List Int} (h : IsW Y s ks) {k : Int} (hk : 0 ≤ k ∧ k ≤ 63) (hn : k ∉ ks) : IsW Y (s.write k (ordV Y k) (ordG Y k)) (ks ++ [k]) := by
  have hok : wrOkB k (ordV Y k) = true := by unfold wrOkB ordV; split <;> simp <;> omega
  have hno : hasK s.keys k = false := by cases e : hasK s.keys k; rfl; exact absurd (hasK_iff.1 e) (by rw [h.keys]; exact hn)
  unfold Wr.write Wr.put
  rw [if_pos hok, hno]
  simp only [Bool.false_eq_true, if_false]
  refine ⟨by simp [h.keys], fun j hj => ?_, fun j hj => ?_⟩
  · by_cases e : j = k
    · subst e; simp [updK]
    · have hj' : j ∈ ks := by rcases List.mem_append.1 hj with h | h; exact h; simp at h; exact absurd h e
      simp only [updK, e, if_false]; exact h.val j hj'
  · by_cases e : j = k
    · subst e; simp [updK]
    · have hj' : j ∈ ks := by rcases List.mem_append.1 hj with h | h; exact h; simp at h; exact absurd h e
      simp only [updK, e, if_false]; exact h.gone j hj'
theorem ord_code {Y : Nat} {k : Int} (hk : 0 ≤ k ∧ k ≤ 63) : wrCode k (ordV Y k) = 0 := by
  have hok : wrOkB k (ordV Y k) = true := by unfold wrOkB ordV; split <;> simp <;> omega
  unfold wrCode; rw [if_pos hok]
def keysUp (X n : Nat) : List Int := ((List.range n).filter fun k => X.testBit k).map Int.ofNat
def keysDn (X n : Nat) : List Int := (((List.range n).map fun i => 63 - i).filter fun k => X.testBit k).map Int.ofNat
theorem keysUp_yes {X k : Nat} (h : X.testBit k = true) : keysUp X (k + 1) = keysUp X k ++ [(k : Int)] := by
  unfold keysUp; rw [List.range_succ, List.filter_append, List.map_append]; simp [h]
theorem keysUp_no {X k : Nat} (h : X.testBit k = false) : keysUp X (k + 1) = keysUp X k := by
  unfold keysUp; rw [List.range_succ, List.filter_append, List.map_append]; simp [h]
theorem keysDn_yes {X k : Nat} (h : X.testBit (63 - k) = true) : keysDn X (k + 1) = keysDn X k ++ [((63 - k : Nat) : Int)] := by
  unfold keysDn; rw [List.range_succ, List.map_append, List.filter_append, List.map_append]; simp [h]
theorem keysDn_no {X k : Nat} (h : X.testBit (63 - k) = false) : keysDn X (k + 1) = keysDn X k := by
  unfold keysDn; rw [List.range_succ, List.map_append, List.filter_append, List.map_append]; simp [h]
theorem keysUp_new {X k : Nat} : ((k : Nat) : Int) ∉ keysUp X k := by
  unfold keysUp
  simp only [List.mem_map, List.mem_filter, List.mem_range, not_exists, not_and, and_imp]
  intro x hx _ e
  have : (x : Int) = (k : Int) := e
  omega
theorem keysDn_new {X k : Nat} (hk : k < 64) : ((63 - k : Nat) : Int) ∉ keysDn X k := by
  unfold keysDn
  simp only [List.mem_map, List.mem_filter, List.mem_range, not_exists, not_and, and_imp, forall_exists_index]
  intro x y hy e1 _ e
  have : (x : Int) = ((63 - k : Nat) : Int) := e
  omega
theorem keys_rev (X : Nat) : keysDn X 64 = (keysUp X 64).reverse := by
  unfold keysDn keysUp
  rw [show (List.range 64).map (fun i => 63 - i) = (List.range 64).reverse by decide, List.filter_reverse, List.map_reverse]
theorem keysUp_len (X n : Nat) : (keysUp X n).length ≤ n := by
  unfold keysUp
  rw [List.length_map]
  exact Nat.le_trans (List.length_filter_le _ _) (by simp)
theorem ord_over {Y X : Nat} {s t : Wr} (hs : IsW Y s (keysUp X 64)) (ht : IsW Y t (keysDn X 64)) {l o p : PL} {lo hi : Int} (h : IsOver s l lo hi o) (h' : IsOver t l lo hi p) : o = p := by
  refine over_congr h h' (fun k => ?_) (fun k hk => ?_)
  · rw [hs.keys, ht.keys, keys_rev, List.mem_reverse]
  · rw [hs.keys] at hk
    have hk' : k ∈ keysDn X 64 := by rw [keys_rev, List.mem_reverse]; exact hk
    exact ⟨(hs.val k hk).trans (ht.val k hk').symm, (hs.gone k hk).trans (ht.gone k hk').symm⟩

/-- Two sets of the law's own; ext: blocks that lie apart from both. -/
def W2 (w0 w : World) (b c : Nat) (s z : Wr) (ext : Nat → Prop) : Prop :=
  ∃ P Q, SW w0 w P b s ∧ SW w0 w Q c z ∧ Apart P Q ∧ ∀ x, ext x → x < w.heap.size ∧ ¬ P x ∧ ¬ Q x
theorem SW.beside {w0 w w' : World} {P Q : Nat → Prop} {c : Nat} {z : Wr} (h : SW w0 w Q c z) (o : Only P w w') (hP : Above P w0.heap.size) (ap : Apart P Q) : SW w0 w' Q c z :=
  ⟨h.set.only o ap.symm, ((h.o.any P).trans o).mono (fun k hk hp => by have := hP k hp; omega)⟩
theorem W2.swap {w0 w : World} {b c : Nat} {s z : Wr} {ext : Nat → Prop} (h : W2 w0 w b c s z ext) : W2 w0 w c b z s ext := by
  obtain ⟨P, Q, h1, h2, h3, h4⟩ := h
  exact ⟨Q, P, h2, h1, h3.symm, fun x hx => ⟨(h4 x hx).1, (h4 x hx).2.2, (h4 x hx).2.1⟩⟩
theorem W2.only0 {w0 w w' : World} {b c : Nat} {s z : Wr} {ext : Nat → Prop} (h : W2 w0 w b c s z ext) (o : Only0 w w') : W2 w0 w' b c s z ext := by
  obtain ⟨P, Q, h1, h2, h3, h4⟩ := h
  exact ⟨P, Q, h1.only0 o, h2.only0 o, h3, fun x hx => ⟨Nat.lt_of_lt_of_le (h4 x hx).1 o.size, (h4 x hx).2⟩⟩
theorem W2.less {w0 w : World} {b c : Nat} {s z : Wr} {ext : Nat → Prop} (h : W2 w0 w b c s z ext) : W2 w0 w b c s z (fun _ => False) := by
  obtain ⟨P, Q, h1, h2, h3, h4⟩ := h
  exact ⟨P, Q, h1, h2, h3, fun x hx => hx.elim⟩
theorem W2.alloc {w0 w : World} {b c : Nat} {s z : Wr} {ext : Nat → Prop} (h : W2 w0 w b c s z ext) (o : Obj) : W2 w0 (w.alloc o) b c s z (fun x => x = w.heap.size) := by
  obtain ⟨P, Q, h1, h2, h3, h4⟩ := h
  refine ⟨P, Q, h1.only0 ((Only0.refl w).alloc o), h2.only0 ((Only0.refl w).alloc o), h3, fun x hx => ?_⟩
  subst hx
  exact ⟨by simp, fun hp => by have := h1.set.under _ hp; omega, fun hp => by have := h2.set.under _ hp; omega⟩
theorem w2_write {w0 w : World} {b c : Nat} {s z s' : Wr} {ext : Nat → Prop} {F : FuncId} {args : Array Value} {v : Value} (h : W2 w0 w b c s z ext)
    (C : ∀ P, WAt w0.heap.size w P b s → Calls Try.prog F args w fun e w' => e = .returned v ∧ ∃ P', WAt w0.heap.size w' P' b s' ∧ Only P w w' ∧ Grew w.heap.size P P') :
    Calls Try.prog F args w fun e w' => e = .returned v ∧ W2 w0 w' b c s' z ext ∧ Only (fun x => ¬ ext x) w w' := by
  obtain ⟨P, Q, h1, h2, h3, h4⟩ := h
  refine (C P h1.set).mono ?_
  rintro e w' ⟨rfl, P', k1, k2, k3⟩
  refine ⟨rfl, ⟨P', Q, h1.step k1 k2, h2.beside k2 h1.set.above h3, h3.grew k3 h2.set.under, fun x hx => ?_⟩, k2.toward (fun x hx he => (h4 x he).2.1 hx)⟩
  obtain ⟨q1, q2, q3⟩ := h4 x hx
  refine ⟨Nat.lt_of_lt_of_le q1 k2.size, fun hp => ?_, q3⟩
  rcases k3 x hp with h | h
  · exact q2 h
  · omega
theorem w2_put {w0 w : World} {b c : Nat} {s z : Wr} {ext : Nat → Prop} (h : W2 w0 w b c s z ext) (k x : Int) :
    Calls Try.prog 9 #[.pointer (some ⟨b, 0, none⟩), .int .i64 k, .int .i64 x] w fun e w' => e = .returned (.int .i64 (wrCode k x)) ∧ W2 w0 w' b c (s.write k x false) z ext ∧ Only (fun x => ¬ ext x) w w' := w2_write h (fun P hP => wr_put hP k x)
theorem w2_drop {w0 w : World} {b c : Nat} {s z : Wr} {ext : Nat → Prop} (h : W2 w0 w b c s z ext) (k : Int) :
    Calls Try.prog 8 #[.pointer (some ⟨b, 0, none⟩), .int .i64 k] w fun e w' => e = .returned (.int .i64 (wrCode k 0)) ∧ W2 w0 w' b c (s.write k 0 true) z ext ∧ Only (fun x => ¬ ext x) w w' := w2_write h (fun P hP => wr_drop hP k)
theorem W2.o {w0 w : World} {b c : Nat} {s z : Wr} {ext : Nat → Prop} (h : W2 w0 w b c s z ext) : Only0 w0 w := by obtain ⟨P, Q, h1, _⟩ := h; exact h1.o

set_option maxRecDepth 100000 in
theorem wpart0 (a b : Int) (g : Bool) (w : World) : (part 3 #[.int .i64 a, .int .i64 b, .bool g] 0).run Try.prog w = .ok (.int .i64 a) w := by kernel_rfl
set_option maxRecDepth 100000 in
theorem wpart1 (a b : Int) (g : Bool) (w : World) : (part 3 #[.int .i64 a, .int .i64 b, .bool g] 1).run Try.prog w = .ok (.int .i64 b) w := by kernel_rfl
set_option maxRecDepth 100000 in
theorem wpart2 (a b : Int) (g : Bool) (w : World) : (part 4 #[.int .i64 a, .int .i64 b, .bool g] 2).run Try.prog w = .ok (.bool g) w := by kernel_rfl
set_option maxRecDepth 100000 in
theorem stood_write : Try.prog.stoodInHeld 38 = false := by kernel_rfl
set_option maxRecDepth 100000 in
theorem fields_write : Try.prog.underlying 38 = some (.struct (Try.prog.fieldsOf 38)) := by kernel_rfl
set_option maxRecDepth 100000 in
theorem guardt_write : Try.prog.eqGuardType Try.prog.depth 38 = false := by kernel_rfl
set_option maxRecDepth 100000 in
set_option maxHeartbeats 2000000 in
theorem write_equalIn (a b c d : Int) (g h : Bool) (w : World) : (Op.equalIn 10000 38 (.agg #[.int .i64 a, .int .i64 b, .bool g]) (.agg #[.int .i64 c, .int .i64 d, .bool h])).run Try.prog w = .ok (decide (a = c) && (decide (b = d) && decide (g = h))) w := by
  rw [run_equalIn_agg w 9999 _ _ _ fields_write stood_write]
  have e : ∀ (x y : Int), (Op.equalIn 9999 3 (.int .i64 x) (.int .i64 y)).run Try.prog w = .ok (x == y) w := fun x y => run_equalIn_int w 9998 _ _ _ x y Try.underlying3
  have eb : ∀ (x y : Bool), (Op.equalIn 9999 4 (.bool x) (.bool y)).run Try.prog w = .ok (x == y) w := fun x y => run_equalIn_bool w 9998 _ x y Try.underlying4
  unfold Program.fieldsOf
  rw [Try.underlying38]
  by_cases e1 : a = c <;> by_cases e2 : b = d <;> by_cases e3 : g = h <;> simp [Op.eqFields, wpart0, wpart1, wpart2, e, eb, e1, e2, e3, Result.andThen]
set_option maxRecDepth 100000 in
set_option maxHeartbeats 2000000 in
theorem write_neq (a b c d : Int) (g h : Bool) (w : World) : (binOp .neq 38 (.agg #[.int .i64 a, .int .i64 b, .bool g]) (.agg #[.int .i64 c, .int .i64 d, .bool h])).run Try.prog w = .ok (.bool (!(decide (a = c) && (decide (b = d) && decide (g = h))))) w := by
  rw [run_neq_struct, write_equalIn]
  rfl
end Go.Proofs.Ytldfkcldfjfohaa

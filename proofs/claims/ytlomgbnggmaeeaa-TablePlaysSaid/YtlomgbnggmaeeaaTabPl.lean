/-
  Both Tables of the law TablePlays: the program's and the document's, side by side; what the law's script holds.
-/
import Derived.Test.YtlomgbnggmaeeaaTabRef3
import Derived.Test.YtlomgbnggmaeeaaOpenS
import Derived.Laws.StructEq
namespace Go.Proofs.Ytlomgbnggmaeeaa
open Go.RowKit Go.ChangeShapes Go.WideShapes Go.Deep
set_option linter.unusedVariables false
set_option linter.unusedSimpArgs false

/-- Both Tables. -/
structure TP (w0 w : World) (t : Nat) (v : Value) (ps : List Nat) (r : Nat) (u : Value) (most : Int) (ts rs : List TX) : Prop where
  tab : Tab w0.heap.size w t v ps most ts
  ref : RT w0.heap.size w r u most rs
  below : Below w0.heap.size w0 w
  pos : ∀ x ∈ ts, 0 ≤ x.en
theorem RT.foot_ty {B : Nat} {w : World} {r : Nat} {v : Value} {most : Int} {ts : List TX} (h : RT B w r v most ts) {k : Nat} (hk : RFoot r v k) : (∃ cs, Blk w k 31 cs) ∨ ∃ cs, Blk w k 44 cs := by
  rcases hk with rfl | hk
  · exact .inl ⟨_, h.head⟩
  · rcases h.row.2 with ⟨rfl, _⟩ | ⟨g, cap, cur, rfl, hg, hh, r⟩
    · simp [Value.ownBlock] at hk
    · have : g = k := by simpa [Value.ownBlock] using hk
      subst this
      exact .inr ⟨cur, hh⟩
theorem TP.apart {w0 w : World} {t r : Nat} {v u : Value} {ps : List Nat} {most : Int} {ts rs : List TX} (h : TP w0 w t v ps r u most ts rs) {k : Nat} (h1 : RFoot r u k) : ¬ Foot t v ps k := by
  rcases h.ref.foot_ty h1 with ⟨cs, hb⟩ | ⟨cs, hb⟩
  · exact h.tab.not_foot hb (by decide) (by decide) (by decide)
  · exact h.tab.not_foot hb (by decide) (by decide) (by decide)
theorem RT.not_foot {B : Nat} {w : World} {r : Nat} {v : Value} {most : Int} {ts : List TX} (h : RT B w r v most ts) {b : Nat} {ty : TypeId} {cs : Array Value} (hb : Blk w b ty cs) (h1 : ty ≠ 31) (h2 : ty ≠ 44) : ¬ RFoot r v b := by
  intro hk
  rcases h.foot_ty hk with ⟨cs, hb'⟩ | ⟨cs, hb'⟩
  · exact hb.ne_ hb' h1 rfl
  · exact hb.ne_ hb' h2 rfl
theorem RT.foot_ge {B : Nat} {w : World} {r : Nat} {v : Value} {most : Int} {ts : List TX} (h : RT B w r v most ts) : ∀ k, RFoot r v k → B ≤ k := by
  rintro k (rfl | hk)
  · exact h.br
  · rcases h.row.2 with ⟨rfl, _⟩ | ⟨g, cap, cur, rfl, hg, hh, r⟩
    · simp [Value.ownBlock] at hk
    · have : g = k := by simpa [Value.ownBlock] using hk
      omega
theorem TP.only0 {w0 w w' : World} {t r : Nat} {v u : Value} {ps : List Nat} {most : Int} {ts rs : List TX} (h : TP w0 w t v ps r u most ts rs) (o : Only0 w w') : TP w0 w' t v ps r u most ts rs :=
  ⟨h.tab.only o (fun _ _ hf => hf), h.ref.only o (fun _ _ hf => hf), h.below.trans (Only.below (S := fun _ => False) o _ (by have := h.tab.bt; have := h.tab.head.lt; omega) (fun _ hf => hf.elim)), h.pos⟩
theorem TP.turned {w0 w w' : World} {t r : Nat} {v v' u : Value} {ps ps' : List Nat} {most : Int} {ts ts' rs : List TX} (h : TP w0 w t v ps r u most ts rs) (h' : Tab w0.heap.size w' t v' ps' most ts') (o : Only (Foot t v ps) w w') (hp : ∀ x ∈ ts', 0 ≤ x.en) : TP w0 w' t v' ps' r u most ts' rs :=
  ⟨h', h.ref.only o (fun k hk => h.apart hk), h.below.trans (h.tab.below o), hp⟩
theorem TP.refd {w0 w w' : World} {t r : Nat} {v u u' : Value} {ps : List Nat} {most : Int} {ts rs rs' : List TX} (h : TP w0 w t v ps r u most ts rs) (h' : RT w0.heap.size w' r u' most rs') (o : Only (RFoot r u) w w') : TP w0 w' t v ps r u' most ts rs' :=
  ⟨h.tab.only o (fun k hk hk' => h.apart hk' hk), h', h.below.trans (o.below _ (by have := h.tab.bt; have := h.tab.head.lt; omega) h.ref.foot_ge), h.pos⟩
theorem TP.begun {w0 w : World} {t r : Nat} {v : Value} {ps : List Nat} {most : Int} {ts : List TX} (h : Tab w0.heap.size w t v ps most ts) (hb : Below w0.heap.size w0 w) (hp : ∀ x ∈ ts, 0 ≤ x.en) (hr : Blk w r 31 #[.int .i64 most, .slice none 0 0]) (br : w0.heap.size ≤ r) : TP w0 w t v ps r (.slice none 0 0) most ts [] :=
  ⟨h, ⟨hr, World.ownsRow_nil _ _ _ _, br, by simp⟩, hb, hp⟩
theorem mk_pos {most : Int} {ts : List TX} {level beg : Int} (h : ∀ x ∈ ts, 0 ≤ x.en) : ∀ x ∈ mkTs most ts level beg, 0 ≤ x.en := by
  intro x hx
  unfold mkTs at hx
  split at hx
  · rcases List.mem_append.1 hx with hx | hx
    · exact h x hx
    · simp at hx; subst hx; exact Int.le_refl 0
  · exact h x hx
theorem tput_pos {ts : List TX} {id : Int} {y : TX} (h : ∀ x ∈ ts, 0 ≤ x.en) (hy : 0 ≤ y.en) : ∀ x ∈ tput ts id y, 0 ≤ x.en := by
  intro x hx
  rcases List.mem_or_eq_of_mem_set hx with hx | rfl
  · exact h x hx
  · exact hy
theorem tget_mem {ts : List TX} {id : Int} {x : TX} (h : tget ts id = some x) : x ∈ ts := by
  unfold tget at h
  split at h
  · exact List.mem_of_getElem? h
  · cases h
theorem turn_pos {ts : List TX} {id to : Int} (h : ∀ x ∈ ts, 0 ≤ x.en) : ∀ x ∈ turnTs ts id to, 0 ≤ x.en := by
  unfold turnTs
  cases hg : tget ts id with
  | none => exact h
  | some y =>
    dsimp only
    split
    · exact tput_pos h (h y (tget_mem hg))
    · exact h
theorem end_pos {ts : List TX} {id e : Int} (he : 0 ≤ e) (h : ∀ x ∈ ts, 0 ≤ x.en) : ∀ x ∈ endTs ts id e, 0 ≤ x.en := by
  unfold endTs
  cases hg : tget ts id with
  | none => exact h
  | some y =>
    dsimp only
    split
    · exact tput_pos h he
    · exact h
theorem mk_len (most : Int) (ts : List TX) (level beg : Int) : (mkTs most ts level beg).length ≤ ts.length + 1 := by unfold mkTs; split <;> simp
theorem turn_len (ts : List TX) (id to : Int) : (turnTs ts id to).length = ts.length := by
  unfold turnTs
  cases tget ts id with
  | none => rfl
  | some y => dsimp only; split; exact length_tput ..; rfl
theorem end_len (ts : List TX) (id e : Int) : (endTs ts id e).length = ts.length := by
  unfold endTs
  cases tget ts id with
  | none => rfl
  | some y => dsimp only; split; exact length_tput ..; rfl

def tpKinds : List IntKind := [.i64, .i64, .i64, .u64]
theorem plain_tpop {H : Type} {enc : TypeId × Value → H} {W : World} : Plain enc Try.prog W 0 (fun _ => true) true 34 tpKinds := by
  have i1 : Plain enc Try.prog W 0 (fun _ => true) true 3 [.i64] := Plain.int Try.underlying3 (by kernel_rfl)
  have i2 : Plain enc Try.prog W 0 (fun _ => true) true 32 [.u64] := Plain.int Try.underlying32 (by kernel_rfl)
  refine Plain.struct Try.underlying34 (by kernel_rfl) ?_
  change FP enc Try.prog W 0 _ true 0 [_, _, _, _] ([.i64] ++ ([.i64] ++ ([.i64] ++ ([.u64] ++ []))))
  exact FP.cons i1 rfl (FP.cons i1 rfl (FP.cons i1 rfl (FP.cons i2 rfl (FP.nil _))))
theorem take_Op {H : Type} {enc : TypeId × Value → H} {W : World} {a : Option Addr} {len cap : Nat} {d : DataW H} {p : List MemPlace} {ts : List TypeId} {ds : List (DataW H)} (j : Nat)
    (h : DataW.Trod enc Try.prog W 0 (fun _ => true) true 22 (.slice a len cap) d p) (hsz : (DataW.weightsEach Try.prog ts ds).all (· ≤ reachBytes) = true) (hj : ts[j]? = some 22) (hd : ds[j]? = some d) :
    ∃ rows : List (List Int), rows.length = len ∧ (Recs tpKinds W a rows ∧ ∀ r ∈ rows, r.length = tpKinds.length ∧ wfs tpKinds r) ∧ len * 32 ≤ 140737488351232 ∧ len ≤ cap ∧ cap ≤ 9223372036854775807 :=
  take_recs j Try.underlying22 plain_tpop (by decide) (by kernel_rfl) h hsz hj hd
def TOps (w : World) (la : Option Addr) (l : List (List Int)) : Prop := Recs tpKinds w la l ∧ ∀ r ∈ l, r.length = tpKinds.length ∧ wfs tpKinds r
theorem rec4 {r : List Int} (hl : r.length = 4) : ∃ K I T A : Int, r = [K, I, T, A] := by
  match r, hl with
  | [K, I, T, A], _ => exact ⟨K, I, T, A, rfl⟩
theorem top_at {w0 w : World} {la : Option Addr} {l : List (List Int)} (h : TOps w0 la l) (o : Below w0.heap.size w0 w) {n : Nat} (hn : n < l.length) :
    ∃ (b off : Nat) (K I T A : Int), la = some ⟨b, off, none⟩ ∧ w.cell? ⟨b, off + n * 4, none⟩ = some (.int .i64 K) ∧ w.cell? ⟨b, off + n * 4 + 1, none⟩ = some (.int .i64 I) ∧ w.cell? ⟨b, off + n * 4 + 2, none⟩ = some (.int .i64 T) ∧ w.cell? ⟨b, off + n * 4 + 3, none⟩ = some (.int .u64 A) ∧
      (-9223372036854775808 ≤ T ∧ T ≤ 9223372036854775807) ∧ (0 ≤ A ∧ A ≤ 18446744073709551615) := by
  obtain ⟨b, off, rfl, hc⟩ := h.1.at (by omega)
  have hm : l.getD n [] ∈ l := by rw [List.getD_eq_getElem?_getD, List.getElem?_eq_getElem hn]; exact List.getElem_mem _
  obtain ⟨h1, h2⟩ := h.2 _ hm
  obtain ⟨K, I, T, A, hr⟩ := rec4 h1
  rw [hr] at h2
  obtain ⟨-, -, h3, h4, -⟩ := h2
  have q0 := hc n 0 hn (by decide)
  have q1 := hc n 1 hn (by decide)
  have q2 := hc n 2 hn (by decide)
  have q3 := hc n 3 hn (by decide)
  rw [hr] at q0 q1 q2 q3
  have hlt := block_lt_of_cell q0
  exact ⟨b, off, K, I, T, A, rfl, (o.cell (p := ⟨b, off + n * 4, none⟩) hlt).trans q0, (o.cell (p := ⟨b, off + n * 4 + 1, none⟩) hlt).trans q1, (o.cell (p := ⟨b, off + n * 4 + 2, none⟩) hlt).trans q2, (o.cell (p := ⟨b, off + n * 4 + 3, none⟩) hlt).trans q3, bounds_i64 h3, bounds_u64 h4⟩

/-- A transaction against another one. -/
def TX.sameB (x y : TX) : Bool := decide (x.level = y.level) && (decide (x.st = y.st) && (decide (x.beg = y.beg) && decide (x.en = y.en)))
theorem TX.sameB_refl (x : TX) : x.sameB x = true := by simp [TX.sameB]
set_option maxRecDepth 100000 in
theorem tpart0 (a b c d : Int) (w : World) : (part 3 #[.int .i64 a, .int .i64 b, .int .u64 c, .int .u64 d] 0).run Try.prog w = .ok (.int .i64 a) w := by kernel_rfl
set_option maxRecDepth 100000 in
theorem tpart1 (a b c d : Int) (w : World) : (part 3 #[.int .i64 a, .int .i64 b, .int .u64 c, .int .u64 d] 1).run Try.prog w = .ok (.int .i64 b) w := by kernel_rfl
set_option maxRecDepth 100000 in
theorem tpart2 (a b c d : Int) (w : World) : (part 32 #[.int .i64 a, .int .i64 b, .int .u64 c, .int .u64 d] 2).run Try.prog w = .ok (.int .u64 c) w := by kernel_rfl
set_option maxRecDepth 100000 in
theorem tpart3 (a b c d : Int) (w : World) : (part 32 #[.int .i64 a, .int .i64 b, .int .u64 c, .int .u64 d] 3).run Try.prog w = .ok (.int .u64 d) w := by kernel_rfl
set_option maxRecDepth 100000 in
theorem stood_txn : Try.prog.stoodInHeld 44 = false := by kernel_rfl
set_option maxRecDepth 100000 in
theorem fields_txn : Try.prog.underlying 44 = some (.struct (Try.prog.fieldsOf 44)) := by kernel_rfl
set_option maxRecDepth 100000 in
theorem guardt_txn : Try.prog.eqGuardType Try.prog.depth 44 = false := by kernel_rfl
set_option maxRecDepth 100000 in
set_option maxHeartbeats 2000000 in
theorem txn_equalIn (x y : TX) (w : World) : (Op.equalIn 10000 44 x.agg y.agg).run Try.prog w = .ok (x.sameB y) w := by
  unfold TX.agg TX.sameB
  obtain ⟨a, c, d, b⟩ := x
  obtain ⟨a', c', d', b'⟩ := y
  dsimp only
  rw [run_equalIn_agg w 9999 _ _ _ fields_txn stood_txn]
  have e : ∀ (x y : Int), (Op.equalIn 9999 3 (.int .i64 x) (.int .i64 y)).run Try.prog w = .ok (x == y) w := fun x y => run_equalIn_int w 9998 _ _ _ x y Try.underlying3
  have e' : ∀ (x y : Int), (Op.equalIn 9999 32 (.int .u64 x) (.int .u64 y)).run Try.prog w = .ok (x == y) w := fun x y => run_equalIn_int w 9998 _ _ _ x y Try.underlying32
  unfold Program.fieldsOf
  rw [Try.underlying44]
  by_cases e1 : a = a' <;> by_cases e2 : b = b' <;> by_cases e3 : c = c' <;> by_cases e4 : d = d' <;> simp [Op.eqFields, tpart0, tpart1, tpart2, tpart3, e, e', e1, e2, e3, e4, Result.andThen]
set_option maxRecDepth 100000 in
set_option maxHeartbeats 2000000 in
theorem txn_neq (x y : TX) (w : World) : (binOp .neq 44 x.agg y.agg).run Try.prog w = .ok (.bool (!(x.sameB y))) w := by
  have h := txn_equalIn x y w
  unfold TX.agg at *
  rw [run_neq_struct, h]
  rfl
end Go.Proofs.Ytlomgbnggmaeeaa

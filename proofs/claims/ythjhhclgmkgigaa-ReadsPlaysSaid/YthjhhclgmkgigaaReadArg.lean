/-
  The arguments of layer 13 and 15 that are rows of calls, or of what was read.
-/
import Derived.Test.YthjhhclgmkgigaaOpenR
import Derived.Test.YthjhhclgmkgigaaProg
namespace Go.Proofs.Ythjhhclgmkgigaa
open Go.RowKit Go.ChangeShapes Go.WideShapes Go.Deep
set_option linter.unusedVariables false

def readQs : List FK := [.bool, .int .i64, .int .i64, .int .u64, .ints .u64]
def opQs : List FK := [.int .i64, .int .i64, .int .i64, .int .u64, .ints .u64]
set_option maxRecDepth 100000 in
theorem take_Op {H : Type} {enc : TypeId × Value → H} {W : World} {a : Option Addr} {len cap : Nat} {d : DataW H} {p : List MemPlace} {ts : List TypeId} {ds : List (DataW H)} (j : Nat)
    (h : DataW.Trod enc Try.prog W 0 (fun _ => true) true 43 (.slice a len cap) d p) (hsz : (DataW.weightsEach Try.prog ts ds).all (· ≤ reachBytes) = true) (hj : ts[j]? = some 43) (hd : ds[j]? = some d) :
    ∃ rows : List (List Value), rows.length = len ∧ (RowsAt opQs.length W a rows ∧ ∀ r ∈ rows, r.length = opQs.length ∧ RowQ W opQs r) ∧ len * 56 ≤ 140737488351232 ∧ len ≤ cap ∧ cap ≤ 9223372036854775807 := by
  refine take_rows (qs := opQs) (bytes := 56) j Try.underlying43 Try.underlying45 ?_ ?_ ?_ ?_ h hsz hj hd
  · kernel_rfl
  · refine ⟨rfl, ?_, rfl, ?_, rfl, ?_, rfl, ?_, rfl, ?_, trivial⟩
    · exact ⟨Try.underlying3, by kernel_rfl⟩
    · exact ⟨Try.underlying3, by kernel_rfl⟩
    · exact ⟨Try.underlying3, by kernel_rfl⟩
    · exact ⟨Try.underlying22, by kernel_rfl⟩
    · exact ⟨22, Try.underlying32, Try.underlying22, by kernel_rfl, by kernel_rfl⟩
  · simp [opQs]
  · kernel_rfl
theorem read_row {W : World} {r : List Value} (hl : r.length = readQs.length) (h : RowQ W readQs r) : ∃ (sp : Bool) (lo hi lk : Int) (la : Option Addr) (ls : List Int) (lc : Nat), r = [.bool sp, .int .i64 lo, .int .i64 hi, .int .u64 lk, .slice la ls.length lc] ∧ (Lit.int .i64 lo).wf = true ∧ (Lit.int .i64 hi).wf = true ∧ (Lit.int .u64 lk).wf = true ∧ Ints .u64 W la ls ∧ (∀ n ∈ ls, (Lit.int .u64 n).wf = true) ∧ ls.length ≤ lc ∧ lc ≤ 9223372036854775807 ∧ (la = none → lc = 0) := by
  match r, hl with
  | [v0, v1, v2, v3, v4], _ =>
    have h' : FQ W .bool v0 ∧ FQ W (.int .i64) v1 ∧ FQ W (.int .i64) v2 ∧ FQ W (.int .u64) v3 ∧ FQ W (.ints .u64) v4 ∧ True := h
    obtain ⟨g0, g1, g2, g3, g4, _⟩ := h'
    obtain ⟨b, rfl⟩ := g0
    obtain ⟨n1, rfl, w1⟩ := g1
    obtain ⟨n2, rfl, w2⟩ := g2
    obtain ⟨n3, rfl, w3⟩ := g3
    obtain ⟨la, ls, lc, rfl, i4, f4, l4, m4, o4⟩ := g4
    exact ⟨b, n1, n2, n3, la, ls, lc, rfl, w1, w2, w3, i4, f4, l4, m4, o4⟩
theorem op_row {W : World} {r : List Value} (hl : r.length = opQs.length) (h : RowQ W opQs r) : ∃ (K lo hi lk : Int) (la : Option Addr) (ls : List Int) (lc : Nat), r = [.int .i64 K, .int .i64 lo, .int .i64 hi, .int .u64 lk, .slice la ls.length lc] ∧ (Lit.int .i64 lo).wf = true ∧ (Lit.int .i64 hi).wf = true ∧ (Lit.int .u64 lk).wf = true ∧ Ints .u64 W la ls ∧ (∀ n ∈ ls, (Lit.int .u64 n).wf = true) ∧ ls.length ≤ lc ∧ lc ≤ 9223372036854775807 ∧ (la = none → lc = 0) := by
  match r, hl with
  | [v0, v1, v2, v3, v4], _ =>
    have h' : FQ W (.int .i64) v0 ∧ FQ W (.int .i64) v1 ∧ FQ W (.int .i64) v2 ∧ FQ W (.int .u64) v3 ∧ FQ W (.ints .u64) v4 ∧ True := h
    obtain ⟨g0, g1, g2, g3, g4, _⟩ := h'
    obtain ⟨b, rfl, _⟩ := g0
    obtain ⟨n1, rfl, w1⟩ := g1
    obtain ⟨n2, rfl, w2⟩ := g2
    obtain ⟨n3, rfl, w3⟩ := g3
    obtain ⟨la, ls, lc, rfl, i4, f4, l4, m4, o4⟩ := g4
    exact ⟨b, n1, n2, n3, la, ls, lc, rfl, w1, w2, w3, i4, f4, l4, m4, o4⟩
end Go.Proofs.Ythjhhclgmkgigaa

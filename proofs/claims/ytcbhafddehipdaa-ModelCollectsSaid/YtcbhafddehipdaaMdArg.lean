/-
  The arguments of layer 19 that are slices of calls (api.Op) and of Acts.
-/
import Derived.Test.YtcbhafddehipdaaOpenS
import Derived.Test.YtcbhafddehipdaaProg
namespace Go.Proofs.Ytcbhafddehipdaa
open Go.RowKit Go.ChangeShapes Go.WideShapes Go.Deep
set_option linter.unusedVariables false

def opKinds : List IntKind := [.i64, .i64, .i64, .i64]
def actKinds : List IntKind := [.i64, .i64, .i64, .i64, .i64, .i64, .i64]
theorem plain_op {H : Type} {enc : TypeId × Value → H} {W : World} : Plain enc Try.prog W 0 (fun _ => true) true 31 opKinds := by
  have i1 : Plain enc Try.prog W 0 (fun _ => true) true 3 [.i64] := Plain.int Try.underlying3 (by kernel_rfl)
  refine Plain.struct Try.underlying31 (by kernel_rfl) ?_
  change FP enc Try.prog W 0 _ true 0 [_, _, _, _] ([.i64] ++ ([.i64] ++ ([.i64] ++ ([.i64] ++ []))))
  exact FP.cons i1 rfl (FP.cons i1 rfl (FP.cons i1 rfl (FP.cons i1 rfl (FP.nil _))))
theorem plain_act {H : Type} {enc : TypeId × Value → H} {W : World} : Plain enc Try.prog W 0 (fun _ => true) true 71 actKinds := by
  have i1 : Plain enc Try.prog W 0 (fun _ => true) true 3 [.i64] := Plain.int Try.underlying3 (by kernel_rfl)
  refine Plain.struct Try.underlying71 (by kernel_rfl) ?_
  change FP enc Try.prog W 0 _ true 0 [_, _, _, _] ([.i64] ++ ([.i64] ++ ([.i64] ++ (opKinds ++ []))))
  exact FP.cons i1 rfl (FP.cons i1 rfl (FP.cons i1 rfl (FP.cons plain_op rfl (FP.nil _))))
theorem take_Op {H : Type} {enc : TypeId × Value → H} {W : World} {a : Option Addr} {len cap : Nat} {d : DataW H} {p : List MemPlace} {ts : List TypeId} {ds : List (DataW H)} (j : Nat)
    (h : DataW.Trod enc Try.prog W 0 (fun _ => true) true 32 (.slice a len cap) d p) (hsz : (DataW.weightsEach Try.prog ts ds).all (· ≤ reachBytes) = true) (hj : ts[j]? = some 32) (hd : ds[j]? = some d) :
    ∃ rows : List (List Int), rows.length = len ∧ (Recs opKinds W a rows ∧ ∀ r ∈ rows, r.length = opKinds.length ∧ wfs opKinds r) ∧ len * 32 ≤ 140737488351232 ∧ len ≤ cap ∧ cap ≤ 9223372036854775807 :=
  take_recs j Try.underlying32 plain_op (by decide) (by kernel_rfl) h hsz hj hd
theorem take_Act {H : Type} {enc : TypeId × Value → H} {W : World} {a : Option Addr} {len cap : Nat} {d : DataW H} {p : List MemPlace} {ts : List TypeId} {ds : List (DataW H)} (j : Nat)
    (h : DataW.Trod enc Try.prog W 0 (fun _ => true) true 69 (.slice a len cap) d p) (hsz : (DataW.weightsEach Try.prog ts ds).all (· ≤ reachBytes) = true) (hj : ts[j]? = some 69) (hd : ds[j]? = some d) :
    ∃ rows : List (List Int), rows.length = len ∧ (Recs actKinds W a rows ∧ ∀ r ∈ rows, r.length = actKinds.length ∧ wfs actKinds r) ∧ len * 56 ≤ 140737488351232 ∧ len ≤ cap ∧ cap ≤ 9223372036854775807 :=
  take_recs j Try.underlying69 plain_act (by decide) (by kernel_rfl) h hsz hj hd
theorem op_cells {r : List Int} (hl : r.length = 4) : ∃ K k h v : Int, zipInts opKinds r = [.int .i64 K, .int .i64 k, .int .i64 h, .int .i64 v] := by
  match r, hl with
  | [K, k, h, v], _ => exact ⟨K, k, h, v, rfl⟩
theorem act_cells {r : List Int} (hl : r.length = 7) : ∃ A S L K k h v : Int, zipInts actKinds r = [.int .i64 A, .int .i64 S, .int .i64 L, .int .i64 K, .int .i64 k, .int .i64 h, .int .i64 v] := by
  match r, hl with
  | [A, S, L, K, k, h, v], _ => exact ⟨A, S, L, K, k, h, v, rfl⟩
theorem getD_mem' {l : List (List Int)} {k : Nat} (hk : k < l.length) : l.getD k [] ∈ l := by
  rw [List.getD_eq_getElem?_getD, List.getElem?_eq_getElem hk]; exact List.getElem_mem _
/-- A row of such a slice, cell by cell. -/
theorem Recs.act {w : World} {a : Option Addr} {rows : List (List Int)} (h : Recs actKinds w a rows ∧ ∀ r ∈ rows, r.length = actKinds.length ∧ wfs actKinds r) {i : Nat} (hi : i < rows.length) :
    ∃ (b off : Nat) (A S L K k hh v : Int), a = some ⟨b, off, none⟩ ∧ w.cell? ⟨b, off + i * 7, none⟩ = some (.int .i64 A) ∧ w.cell? ⟨b, off + i * 7 + 1, none⟩ = some (.int .i64 S) ∧ w.cell? ⟨b, off + i * 7 + 2, none⟩ = some (.int .i64 L) ∧ w.cell? ⟨b, off + i * 7 + 3, none⟩ = some (.int .i64 K) ∧ w.cell? ⟨b, off + i * 7 + 4, none⟩ = some (.int .i64 k) ∧ w.cell? ⟨b, off + i * 7 + 5, none⟩ = some (.int .i64 hh) ∧ w.cell? ⟨b, off + i * 7 + 6, none⟩ = some (.int .i64 v) := by
  obtain ⟨b, off, rfl, hc⟩ := h.1.at (by omega)
  obtain ⟨A, S, L, K, k, hh, v, hr⟩ := act_cells (h.2 _ (getD_mem' hi)).1
  refine ⟨b, off, A, S, L, K, k, hh, v, rfl, ?_, ?_, ?_, ?_, ?_, ?_, ?_⟩
  · have := hc i 0 hi (by decide); rw [hr] at this; exact this
  · have := hc i 1 hi (by decide); rw [hr] at this; exact this
  · have := hc i 2 hi (by decide); rw [hr] at this; exact this
  · have := hc i 3 hi (by decide); rw [hr] at this; exact this
  · have := hc i 4 hi (by decide); rw [hr] at this; exact this
  · have := hc i 5 hi (by decide); rw [hr] at this; exact this
  · have := hc i 6 hi (by decide); rw [hr] at this; exact this
theorem Recs.op {w : World} {a : Option Addr} {rows : List (List Int)} (h : Recs opKinds w a rows ∧ ∀ r ∈ rows, r.length = opKinds.length ∧ wfs opKinds r) {i : Nat} (hi : i < rows.length) :
    ∃ (b off : Nat) (K k hh v : Int), a = some ⟨b, off, none⟩ ∧ w.cell? ⟨b, off + i * 4, none⟩ = some (.int .i64 K) ∧ w.cell? ⟨b, off + i * 4 + 1, none⟩ = some (.int .i64 k) ∧ w.cell? ⟨b, off + i * 4 + 2, none⟩ = some (.int .i64 hh) ∧ w.cell? ⟨b, off + i * 4 + 3, none⟩ = some (.int .i64 v) := by
  obtain ⟨b, off, rfl, hc⟩ := h.1.at (by omega)
  obtain ⟨K, k, hh, v, hr⟩ := op_cells (h.2 _ (getD_mem' hi)).1
  refine ⟨b, off, K, k, hh, v, rfl, ?_, ?_, ?_, ?_⟩
  · have := hc i 0 hi (by decide); rw [hr] at this; exact this
  · have := hc i 1 hi (by decide); rw [hr] at this; exact this
  · have := hc i 2 hi (by decide); rw [hr] at this; exact this
  · have := hc i 3 hi (by decide); rw [hr] at this; exact this
end Go.Proofs.Ytcbhafddehipdaa

/-
  What the calls on an Arena do at a place that is one, and at one that is none, with the count small; the reading of ArenaPlays' script.
-/
import Derived.Test.YtclnfhjcacflmaaLaw2b
import Derived.Test.YtclnfhjcacflmaaOpenS
namespace Go.Proofs.Ytclnfhjcacflmaa
open Go.RowKit Go.ChangeShapes Go.WideShapes Go.Deep
set_option linter.unusedVariables false

theorem w64_succ {c : Int} (h0 : 0 ≤ c) (h1 : c ≤ 1000) : wrap64 (c + 1) = c + 1 := by unfold wrap64; omega
theorem on_of {ws : List Int} {c i : Int} (h0 : 0 ≤ i) (h1 : i < (ws.length : Int)) : AS.on ⟨ws, c⟩ i = true := (AS.on_iff _ _).2 ⟨h0, h1⟩
theorem off_of {ws : List Int} {c i : Int} (h : i < 0 ∨ (ws.length : Int) ≤ i) : AS.on ⟨ws, c⟩ i = false := (AS.on_not _ _).2 h

section
variable {w : World} {a b : Nat} {ws : List Int} {c : Int}
theorem p_load (h : IsArena w a b ⟨ws, c⟩) (h0 : 0 ≤ c) (h1 : c ≤ 1000) (i : Int) (i0 : 0 ≤ i) (i1 : i < (ws.length : Int)) :
    Calls Try.prog 7 #[.pointer (some ⟨a, 0, none⟩), .int .i64 i] w fun e w' => e = .returned (.int .u64 (ws.getD i.toNat 0)) ∧ IsArena w' a b ⟨ws, c + 1⟩ ∧ Only (Two a b) w w' := by
  have := arena_load h i
  simpa only [AS.load, AS.tick, on_of i0 i1, if_true, w64_succ h0 h1] using this
theorem p_load_off (h : IsArena w a b ⟨ws, c⟩) (i : Int) (hi : i < 0 ∨ (ws.length : Int) ≤ i) :
    Calls Try.prog 7 #[.pointer (some ⟨a, 0, none⟩), .int .i64 i] w fun e w' => e = .returned (.int .u64 0) ∧ IsArena w' a b ⟨ws, c⟩ ∧ Only (Two a b) w w' := by
  have := arena_load h i
  simpa only [AS.load, AS.tick, off_of hi, Bool.false_eq_true, if_false] using this
theorem p_store (h : IsArena w a b ⟨ws, c⟩) (h0 : 0 ≤ c) (h1 : c ≤ 1000) (i x : Int) (i0 : 0 ≤ i) (i1 : i < (ws.length : Int)) :
    Calls Try.prog 8 #[.pointer (some ⟨a, 0, none⟩), .int .i64 i, .int .u64 x] w fun e w' => e = .returned (.tuple #[]) ∧ IsArena w' a b ⟨ws.set i.toNat x, c + 1⟩ ∧ Only (Two a b) w w' := by
  have := arena_store h i x
  simpa only [AS.store, on_of i0 i1, if_true, w64_succ h0 h1] using this
theorem p_store_off (h : IsArena w a b ⟨ws, c⟩) (i x : Int) (hi : i < 0 ∨ (ws.length : Int) ≤ i) :
    Calls Try.prog 8 #[.pointer (some ⟨a, 0, none⟩), .int .i64 i, .int .u64 x] w fun e w' => e = .returned (.tuple #[]) ∧ IsArena w' a b ⟨ws, c⟩ ∧ Only (Two a b) w w' := by
  have := arena_store h i x
  simpa only [AS.store, off_of hi, Bool.false_eq_true, if_false] using this
theorem p_cas_hit (h : IsArena w a b ⟨ws, c⟩) (h0 : 0 ≤ c) (h1 : c ≤ 1000) (i old x : Int) (i0 : 0 ≤ i) (i1 : i < (ws.length : Int)) (ho : ws.getD i.toNat 0 = old) :
    Calls Try.prog 9 #[.pointer (some ⟨a, 0, none⟩), .int .i64 i, .int .u64 old, .int .u64 x] w fun e w' => e = .returned (.bool true) ∧ IsArena w' a b ⟨ws.set i.toNat x, c + 1⟩ ∧ Only (Two a b) w w' := by
  have := arena_cas h i old x
  simpa only [AS.cas, AS.casOk, AS.store, on_of i0 i1, if_true, w64_succ h0 h1, ho, decide_true, Bool.and_self] using this
theorem p_cas_miss (h : IsArena w a b ⟨ws, c⟩) (h0 : 0 ≤ c) (h1 : c ≤ 1000) (i old x : Int) (i0 : 0 ≤ i) (i1 : i < (ws.length : Int)) (ho : ¬ ws.getD i.toNat 0 = old) :
    Calls Try.prog 9 #[.pointer (some ⟨a, 0, none⟩), .int .i64 i, .int .u64 old, .int .u64 x] w fun e w' => e = .returned (.bool false) ∧ IsArena w' a b ⟨ws, c + 1⟩ ∧ Only (Two a b) w w' := by
  have := arena_cas h i old x
  simpa only [AS.cas, AS.casOk, AS.tick, on_of i0 i1, if_true, w64_succ h0 h1, ho, decide_false, Bool.and_false, Bool.false_eq_true, if_false] using this
theorem p_cas_off (h : IsArena w a b ⟨ws, c⟩) (i old x : Int) (hi : i < 0 ∨ (ws.length : Int) ≤ i) :
    Calls Try.prog 9 #[.pointer (some ⟨a, 0, none⟩), .int .i64 i, .int .u64 old, .int .u64 x] w fun e w' => e = .returned (.bool false) ∧ IsArena w' a b ⟨ws, c⟩ ∧ Only (Two a b) w w' := by
  have := arena_cas h i old x
  simpa only [AS.cas, AS.casOk, AS.tick, off_of hi, Bool.false_and, Bool.false_eq_true, if_false] using this
theorem p_add (h : IsArena w a b ⟨ws, c⟩) (h0 : 0 ≤ c) (h1 : c ≤ 1000) (i x : Int) (i0 : 0 ≤ i) (i1 : i < (ws.length : Int)) :
    Calls Try.prog 10 #[.pointer (some ⟨a, 0, none⟩), .int .i64 i, .int .u64 x] w fun e w' => e = .returned (.int .u64 ((ws.getD i.toNat 0 + x) % 18446744073709551616)) ∧ IsArena w' a b ⟨ws.set i.toNat ((ws.getD i.toNat 0 + x) % 18446744073709551616), c + 1⟩ ∧ Only (Two a b) w w' := by
  have := arena_add h i x
  simpa only [AS.sum, AS.add, AS.store, AS.load, on_of i0 i1, if_true, w64_succ h0 h1] using this
theorem p_add_off (h : IsArena w a b ⟨ws, c⟩) (i x : Int) (hi : i < 0 ∨ (ws.length : Int) ≤ i) :
    Calls Try.prog 10 #[.pointer (some ⟨a, 0, none⟩), .int .i64 i, .int .u64 x] w fun e w' => e = .returned (.int .u64 0) ∧ IsArena w' a b ⟨ws, c⟩ ∧ Only (Two a b) w w' := by
  have := arena_add h i x
  simpa only [AS.sum, AS.add, AS.store, off_of hi, Bool.false_eq_true, if_false] using this
end

/-- ArenaPlays' script: rows of a kind, a place, an old and a new word. -/
def opKinds : List IntKind := [.i64, .i64, .u64, .u64]
theorem plain_op {H : Type} {enc : TypeId × Value → H} {W : World} : Plain enc Try.prog W 0 (fun _ => true) true 32 opKinds := by
  have i1 : Plain enc Try.prog W 0 (fun _ => true) true 3 [.i64] := Plain.int Try.underlying3 (by kernel_rfl)
  have i2 : Plain enc Try.prog W 0 (fun _ => true) true 30 [.u64] := Plain.int Try.underlying30 (by kernel_rfl)
  refine Plain.struct Try.underlying32 (by kernel_rfl) ?_
  change FP enc Try.prog W 0 _ true 0 [_, _, _, _] ([.i64] ++ ([.i64] ++ ([.u64] ++ ([.u64] ++ []))))
  exact FP.cons i1 rfl (FP.cons i1 rfl (FP.cons i2 rfl (FP.cons i2 rfl (FP.nil _))))
theorem take_Op {H : Type} {enc : TypeId × Value → H} {W : World} {a : Option Addr} {len cap : Nat} {d : DataW H} {p : List MemPlace} {ts : List TypeId} {ds : List (DataW H)} (j : Nat)
    (h : DataW.Trod enc Try.prog W 0 (fun _ => true) true 22 (.slice a len cap) d p) (hsz : (DataW.weightsEach Try.prog ts ds).all (· ≤ reachBytes) = true) (hj : ts[j]? = some 22) (hd : ds[j]? = some d) :
    ∃ rows : List (List Int), rows.length = len ∧ (Recs opKinds W a rows ∧ ∀ r ∈ rows, r.length = opKinds.length ∧ wfs opKinds r) ∧ len * 32 ≤ 140737488351232 ∧ len ≤ cap ∧ cap ≤ 9223372036854775807 :=
  take_recs j Try.underlying22 plain_op (by decide) (by kernel_rfl) h hsz hj hd
end Go.Proofs.Ytclnfhjcacflmaa

/-
  Layer 14's laws: what they share: awake, rising, the calls of an argument, the sets of a law.
-/
import Derived.Test.YtldfkcldfjfohaaWOver
import Derived.Test.YtldfkcldfjfohaaOpenS
import Derived.Test.YtldfkcldfjfohaaBitFacts
namespace Go.Proofs.Ytldfkcldfjfohaa
open Go.RowKit Go.ChangeShapes Go.WideShapes Go.Deep
attribute [local go_sem ↓] Go.wp_at_zero Go.wp_at_succ
set_option linter.unusedVariables false
set_option linter.unusedSimpArgs false

def opKinds : List IntKind := [.i64, .i64, .i64]
theorem plain_op {H : Type} {enc : TypeId × Value → H} {W : World} : Plain enc Try.prog W 0 (fun _ => true) true 43 opKinds := by
  have i1 : Plain enc Try.prog W 0 (fun _ => true) true 3 [.i64] := Plain.int Try.underlying3 (by kernel_rfl)
  refine Plain.struct Try.underlying43 (by kernel_rfl) ?_
  change FP enc Try.prog W 0 _ true 0 [_, _, _] ([.i64] ++ ([.i64] ++ ([.i64] ++ [])))
  exact FP.cons i1 rfl (FP.cons i1 rfl (FP.cons i1 rfl (FP.nil _)))
theorem take_Op {H : Type} {enc : TypeId × Value → H} {W : World} {a : Option Addr} {len cap : Nat} {d : DataW H} {p : List MemPlace} {ts : List TypeId} {ds : List (DataW H)} (j : Nat)
    (h : DataW.Trod enc Try.prog W 0 (fun _ => true) true 41 (.slice a len cap) d p) (hsz : (DataW.weightsEach Try.prog ts ds).all (· ≤ reachBytes) = true) (hj : ts[j]? = some 41) (hd : ds[j]? = some d) :
    ∃ rows : List (List Int), rows.length = len ∧ (Recs opKinds W a rows ∧ ∀ r ∈ rows, r.length = opKinds.length ∧ wfs opKinds r) ∧ len * 24 ≤ 140737488351232 ∧ len ≤ cap ∧ cap ≤ 9223372036854775807 :=
  take_recs j Try.underlying41 plain_op (by decide) (by kernel_rfl) h hsz hj hd
def OpsIn (w : World) (la : Option Addr) (l : List (List Int)) : Prop := Recs opKinds w la l ∧ ∀ r ∈ l, r.length = opKinds.length ∧ wfs opKinds r
theorem rec3 {r : List Int} (hl : r.length = 3) : ∃ K I V : Int, r = [K, I, V] := by
  match r, hl with
  | [K, I, V], _ => exact ⟨K, I, V, rfl⟩
theorem op_at {w0 w : World} {la : Option Addr} {l : List (List Int)} (h : OpsIn w0 la l) (o : Only0 w0 w) {n : Nat} (hn : n < l.length) :
    ∃ (b off : Nat) (K I V : Int), la = some ⟨b, off, none⟩ ∧ l.getD n [] = [K, I, V] ∧ w.cell? ⟨b, off + n * 3, none⟩ = some (.int .i64 K) ∧ w.cell? ⟨b, off + n * 3 + 1, none⟩ = some (.int .i64 I) ∧ w.cell? ⟨b, off + n * 3 + 2, none⟩ = some (.int .i64 V) := by
  obtain ⟨b, off, rfl, hc⟩ := h.1.at (by omega)
  have hm : l.getD n [] ∈ l := by rw [List.getD_eq_getElem?_getD, List.getElem?_eq_getElem hn]; exact List.getElem_mem _
  obtain ⟨K, I, V, hr⟩ := rec3 (h.2 _ hm).1
  have q0 := hc n 0 hn (by decide)
  have q1 := hc n 1 hn (by decide)
  have q2 := hc n 2 hn (by decide)
  rw [hr] at q0 q1 q2
  have e := o.block b (block_lt_of_cell q0) (fun h => h)
  exact ⟨b, off, K, I, V, rfl, hr, (World.cell?_of_block e).trans q0, (World.cell?_of_block e).trans q1, (World.cell?_of_block e).trans q2⟩

theorem WAt.base {B B' : Nat} {w : World} {P : Nat → Prop} {b : Nat} {s : Wr} (h : WAt B w P b s) (hB : B' ≤ B) : WAt B' w P b s := by
  obtain ⟨cs, ka, kc, h⟩ := h
  exact ⟨cs, ka, kc, h.blk, h.cells, rows_base h.kown hB, h.ps, h.pk, h.under, fun b hb => Nat.le_trans hB (h.above b hb), h.ok⟩
/-- A set of the law's own. -/
structure SW (w0 w : World) (P : Nat → Prop) (b : Nat) (s : Wr) : Prop where
  set : WAt w0.heap.size w P b s
  o : Only0 w0 w
theorem SW.step {w0 w w' : World} {P P' : Nat → Prop} {b : Nat} {s s' : Wr} (h : SW w0 w P b s) (h' : WAt w0.heap.size w' P' b s') (o : Only P w w') : SW w0 w' P' b s' :=
  ⟨h', ((h.o.any P).trans o).mono (fun k hk hP => by have := h.set.above k hP; omega)⟩
theorem SW.only0 {w0 w w' : World} {P : Nat → Prop} {b : Nat} {s : Wr} (h : SW w0 w P b s) (o : Only0 w w') : SW w0 w' P b s := ⟨h.set.only0 o, h.o.trans o⟩
theorem SW.new {w0 w w1 : World} (o0 : Only0 w0 w) (h : WAt w.heap.size w1 (fun b => b = w.heap.size) w.heap.size Wr.new) (o : Only0 w w1) : SW w0 w1 (fun b => b = w.heap.size) w.heap.size Wr.new := ⟨h.base o0.size, o0.trans o⟩
theorem wr_bad_put (k x : Int) : wrCode k x = 0 ∨ wrCode k x = 1 := by unfold wrCode; split; exact .inl rfl; exact .inr rfl

def aw1 : Wr := Wr.new.write 1 5 false
def aw2 : Wr := aw1.write 1 0 true
theorem aw2_keys : aw2.keys = [1] := by decide
theorem aw2_val : aw2.val 1 = 0 := by decide
theorem aw2_gone : aw2.gone 1 = true := by decide
theorem code15 : wrCode 1 5 = 0 := by decide
theorem code10 : wrCode 1 0 = 0 := by decide
set_option maxRecDepth 100000 in
set_option maxHeartbeats 8000000 in
theorem awake_any (w : World) : Calls Try.prog 13 #[] w fun e w' => e = .returned (.bool true) ∧ Only0 w w' := by
  have NW := wr_new w
  obtain ⟨b, hb⟩ : ∃ b, b = w.heap.size := ⟨_, rfl⟩
  rw [← hb] at NW
  have HB := Lib.hid hb
  clear hb
  go_enter Try.func13, Try.ntmps13
  go_wp2_with fail
  refine NW.mono ?_
  rintro e w1 ⟨rfl, h1, o1, z1⟩
  have C1 := wr_put h1 1 5
  rw [code15] at C1
  clear NW z1 h1
  have O1 := Lib.hid o1
  clear o1
  go_wp2_with fail
  refine C1.mono ?_
  rintro e w2 ⟨rfl, P2, h2, o2, g2⟩
  have C2 := wr_drop h2 1
  rw [code10] at C2
  have O2 := Lib.hid o2
  have G2 := Lib.hid g2
  clear h2 o2 g2 C1
  go_wp2_with fail
  refine C2.mono ?_
  rintro e w3 ⟨rfl, P3, h3, o3, g3⟩
  have C3 := wr_get h3 1
  rw [show (Wr.new.write 1 5 false).write 1 0 true = aw2 from rfl, if_pos (by rw [aw2_keys]; simp), aw2_val, aw2_gone] at C3
  have OO : Hid (Only0 w w3) := by
    have q1 : Only (fun c => b ≤ c) w w2 := (O1.out.any _).trans (O2.out.toward (fun c hc => by subst hc; exact Nat.le_refl _))
    have a2 : ∀ c, P2 c → b ≤ c := fun c hc => by
      rcases G2.out c hc with h | h
      · subst h; exact Nat.le_refl _
      · have := O1.out.size; have := HB.out; omega
    exact Lib.hid ((q1.trans (o3.toward a2)).mono (fun k hk hx => by have := HB.out; omega))
  have H3 := Lib.hid h3
  clear h3 o3 g3 C2 O2 G2 O1
  go_wp2_with fail
  refine C3.mono ?_
  rintro e w4 ⟨rfl, n4, rfl⟩
  have C4 := wr_len (H3.out.only0 ((Only0.refl w3).drewN n4))
  rw [show ((Wr.new.write 1 5 false).write 1 0 true).keys = [1] from aw2_keys] at C4
  clear C3
  go_wp2_with fail
  refine C4.mono ?_
  rintro e w5 ⟨rfl, rfl⟩
  clear C4
  go_wp2_with fail
  go_ret
  exact ⟨rfl, OO.out.drewN n4⟩
set_option maxRecDepth 100000 in
set_option maxHeartbeats 4000000 in
theorem rising_any (a : Option Addr) (c : Nat) (ps : PL) (w : World) (hx : PairsIn w a ps) (lx : ps.length ≤ 1000000) :
    Calls Try.prog 16 #[.slice a ps.length c] w fun e w' => e = .returned (.bool (risesB ps)) ∧ ∃ n, w' = w.drewN n := by
  have HX := Lib.hid hx
  clear hx
  go_enter Try.func16, Try.ntmps16
  go_wp2_with fail
  go_loopw [3] (fun i wr => ∃ k m : Nat, i = .int .i64 (k + 1) ∧ (k < ps.length ∨ k = 0) ∧ wr = w.drewN m ∧ Hid (upR ps (k + 1))) (fun i _ => ps.length - (intOf i).toNat)
  case atStart => exact ⟨0, 0, rfl, .inr rfl, rfl, Lib.hid (fun j hj => by omega)⟩
  case round =>
    obtain ⟨k, m, rfl, hk, rfl, HU⟩ := hrel
    by_cases hlt : k + 1 < ps.length
    · obtain ⟨b, off, rfl, hc⟩ := HX.out.at (by omega)
      have h1 := (hc (k + 1) hlt).1
      have h2 := (hc k (by omega)).1
      have hlt' : (k : Int) + 1 < ps.length := by omega
      have e1 : (k : Int) + 1 - 1 = k := by omega
      by_cases hq : (ps.getD k (0, 0)).1 < (ps.getD (k + 1) (0, 0)).1
      · have U := Lib.hid (show upR ps (k + 1 + 1) from fun j hj => by
          rcases Nat.lt_or_ge (j + 1) (k + 1) with h | h
          · exact HU.out j h
          · obtain rfl : j = k := by omega
            exact hq)
        have hq' : decide ((ps.getD (k + 1) (0, 0)).1 ≤ (ps.getD k (0, 0)).1) = false := decide_eq_false (by omega)
        generalize (ps.getD (k + 1) (0, 0)).1 = x at *
        generalize (ps.getD k (0, 0)).1 = y at *
        clear hc HU hq
        go_wp2_with fail
        go_quiet (fail)
        go_wp2_with fail
        go_roundw
        case rel => exact ⟨k + 1, _, by go_num, .inl hlt, rfl, U⟩
        case measure => simp [intOf]; omega
      · have R := Lib.hid (upR_no hlt hq)
        have hq' : decide ((ps.getD (k + 1) (0, 0)).1 ≤ (ps.getD k (0, 0)).1) = true := decide_eq_true (by omega)
        generalize (ps.getD (k + 1) (0, 0)).1 = x at *
        generalize (ps.getD k (0, 0)).1 = y at *
        clear hc HU hq
        go_wp2_with fail
        go_quiet (fail)
        go_wp2_with fail
        go_ret
        exact ⟨ret_bool R.out.symm, _, World.drewN_drewN _ _ _⟩
    · have R := Lib.hid (show risesB ps = true from by
        have := HU.out
        rcases hk with hk | rfl
        · exact upR_all (by rw [show ps.length = k + 1 by omega]; exact this)
        · exact upR_all (fun j hj => by omega))
      have hlt' : decide ((k : Int) + 1 < ps.length) = false := decide_eq_false (by omega)
      clear HU
      go_wp2_with fail
      go_ret
      exact ⟨ret_bool R.out.symm, _, rfl⟩
end Go.Proofs.Ytldfkcldfjfohaa

/-
  writes.Set's All: all writes, in order; rises.
-/
import Derived.Test.YtldfkcldfjfohaaWNew
import Derived.Deep.RegionHeld3
import Derived.Deep.DrawnRows
namespace Go.Proofs.Ytldfkcldfjfohaa
open Go.RowKit
attribute [local go_sem ↓] Go.wp_at_zero Go.wp_at_succ
set_option linter.unusedVariables false
set_option linter.unusedSimpArgs false

def Wr.row (s : Wr) (k : Int) : List Value := [.int .i64 k, .int .i64 (s.val k), .bool (s.gone k)]
def Wr.rowsOf (s : Wr) (ks : List Int) : List Value := ks.flatMap s.row
theorem rowsOf_snoc (s : Wr) (ks : List Int) (k : Int) : s.rowsOf (ks ++ [k]) = s.rowsOf ks ++ s.row k := by unfold Wr.rowsOf; rw [List.flatMap_append]; simp
theorem rowsOf_len (s : Wr) (ks : List Int) : (s.rowsOf ks).length = ks.length * 3 := by
  induction ks with
  | nil => rfl
  | cons a l ih => unfold Wr.rowsOf at *; simp only [List.flatMap_cons, List.length_append, ih, Wr.row, List.length_cons, List.length_nil]; omega
theorem rowsOf_get (s : Wr) : ∀ (ks : List Int) (i : Nat), i < ks.length → (s.rowsOf ks)[i * 3]? = some (.int .i64 (ks.getD i 0)) ∧ (s.rowsOf ks)[i * 3 + 1]? = some (.int .i64 (s.val (ks.getD i 0))) ∧ (s.rowsOf ks)[i * 3 + 2]? = some (.bool (s.gone (ks.getD i 0))) := by
  intro ks
  induction ks with
  | nil => intro i hi; simp at hi
  | cons a l ih =>
    intro i hi
    cases i with
    | zero => exact ⟨rfl, rfl, rfl⟩
    | succ i =>
      have := ih i (by simpa using hi)
      have e0 : (i + 1) * 3 = i * 3 + 3 := by omega
      have e1 : (i + 1) * 3 + 1 = i * 3 + 1 + 3 := by omega
      have e2 : (i + 1) * 3 + 2 = i * 3 + 2 + 3 := by omega
      have ec : s.rowsOf (a :: l) = .int .i64 a :: .int .i64 (s.val a) :: .bool (s.gone a) :: s.rowsOf l := rfl
      rw [e0, show i * 3 + 3 + 1 = i * 3 + 1 + 3 by omega, show i * 3 + 3 + 2 = i * 3 + 2 + 3 by omega, ec]
      simp only [List.getElem?_cons_succ, List.getD_cons_succ]
      exact this
set_option maxRecDepth 100000 in
theorem info_write : (Try.prog.info? 38).map (fun i => (i.zero, i.size, i.bytes)) = some (some (.agg #[.int .i64 0, .int .i64 0, .bool false]), 3, 24) := by kernel_rfl
/-- What All tells lies at an address. -/
def WritesIn (w : World) (a : Option Addr) (s : Wr) (ks : List Int) : Prop :=
  ks = [] ∨ ∃ g, a = some ⟨g, 0, none⟩ ∧ ∀ i, i < ks.length → w.cell? ⟨g, i * 3, none⟩ = some (.int .i64 (ks.getD i 0)) ∧ w.cell? ⟨g, i * 3 + 1, none⟩ = some (.int .i64 (s.val (ks.getD i 0))) ∧ w.cell? ⟨g, i * 3 + 2, none⟩ = some (.bool (s.gone (ks.getD i 0)))
theorem WritesIn.of_own {B n c : Nat} {w : World} {a : Option Addr} {s : Wr} {ks : List Int} (h : w.ownsRow B 38 3 (.slice a n c) ks.length (s.rowsOf ks)) : WritesIn w a s ks := by
  rcases h.2 with ⟨_, h0⟩ | ⟨g, cap, cur, hv, _⟩
  · exact .inl (List.eq_nil_of_length_eq_zero h0)
  · injection hv with h1 h2 h3
    subst h1 h2 h3
    refine .inr ⟨g, rfl, fun i hi => ?_⟩
    have G := rowsOf_get s ks i hi
    exact ⟨(h.cellAt (i * 3) (by omega)).trans G.1, (h.cellAt (i * 3 + 1) (by omega)).trans G.2.1, (h.cellAt (i * 3 + 2) (by omega)).trans G.2.2⟩
theorem WritesIn.only {w w' : World} {a : Option Addr} {s : Wr} {ks : List Int} {S : Nat → Prop} (h : WritesIn w a s ks) (o : Only S w w') (hs : ∀ x, a = some x → ¬ S x.block) : WritesIn w' a s ks := by
  rcases h with rfl | ⟨g, rfl, hc⟩
  · exact .inl rfl
  · refine .inr ⟨g, rfl, fun i hi => ?_⟩
    have hlt := block_lt_of_cell (hc i hi).1
    have e := o.block g hlt (hs _ rfl)
    exact ⟨(World.cell?_of_block e).trans (hc i hi).1, (World.cell?_of_block e).trans (hc i hi).2.1, (World.cell?_of_block e).trans (hc i hi).2.2⟩

set_option maxRecDepth 100000 in
set_option maxHeartbeats 8000000 in
theorem wr_all {B : Nat} {w : World} {P : Nat → Prop} {b : Nat} {s : Wr} (h : WAt B w P b s) :
    Calls Try.prog 10 #[.pointer (some ⟨b, 0, none⟩)] w fun e w' => (∃ a c, e = .returned (.slice a s.keys.length c) ∧ w'.ownsRow w.heap.size 38 3 (.slice a s.keys.length c) s.keys.length (s.rowsOf s.keys)) ∧ Only0 w w' := by
  obtain ⟨i0, hi0, hz0, hz1, hz2⟩ := info_parts info_write
  have hf := h.ok.few
  obtain ⟨cs, ka, kc, h⟩ := h
  have c0 := (h.blk.cell 0).trans h.cells.row
  have HH := Lib.hid h
  clear h
  go_enter Try.func10, Try.ntmps10
  go_wp2_with fail
  go_loopw [3, 5, 11] (fun s3 s5 s11 wr => ∃ (k : Nat) (pa : Option Addr) (pc : Nat) (v : Value), s5 = v ∧ s11 = .int .i64 k ∧ k ≤ s.keys.length ∧ s3 = .slice pa k pc ∧ Hid (Only0 w wr ∧ wr.ownsRow w.heap.size 38 3 (.slice pa k pc) k (s.rowsOf (s.keys.take k)))) (fun _ _ s11 _ => s.keys.length - (intOf s11).toNat)
  case atStart => exact ⟨0, none, 0, _, rfl, rfl, Nat.zero_le _, rfl, Lib.hid ⟨Only0.refl _, World.ownsRow_nil _ _ _ _⟩⟩
  case round =>
    obtain ⟨k, pa, pc, v, rfl, rfl, hk, rfl, HR⟩ := hrel
    by_cases hlt : k < s.keys.length
    · have M := HH.out.only (Q := fun _ => False) HR.out.1 (fun _ _ hf => hf)
      obtain ⟨gk, gof, rfl, hc⟩ := M.ints.at (by omega)
      have ck := hc k hlt
      have hmem : s.keys.getD k 0 ∈ s.keys := by rw [List.getD_eq_getElem?_getD, List.getElem?_eq_getElem hlt]; exact List.getElem_mem hlt
      have etake : s.keys.take (k + 1) = s.keys.take k ++ [s.keys.getD k 0] := by rw [List.take_succ_eq_append_getElem hlt]; simp [hlt]
      have hr := M.ok.key _ hmem
      obtain ⟨j, hj⟩ := Int.eq_ofNat_of_zero_le hr.1
      have hj64 : j < 64 := by omega
      have cv : wr.cell? ⟨b, 1 + j * 5 + 3, none⟩ = some (.int .i64 (s.val j)) := by rw [M.blk.cell, show 1 + j * 5 + 3 = 4 + 5 * j by omega]; exact M.cells.val j hj64
      have cg : wr.cell? ⟨b, 1 + j * 5 + 4, none⟩ = some (.bool (s.gone j)) := by rw [M.blk.cell, show 1 + j * 5 + 4 = 5 + 5 * j by omega]; exact M.cells.gone j hj64
      have g1 : (0 : Int) ≤ (j : Int) := by omega
      have g2 : (j : Int) < 64 := by omega
      rw [hj] at ck etake
      have hown := HR.out.2
      have OO := Lib.hid HR.out.1
      have hwr : w.heap.size ≤ wr.heap.size := OO.out.size
      have hbw : b < w.heap.size := HH.out.blk.lt
      have hrb : ¬ rowOf (.slice pa k pc) b := fun e => by have := rows_above hown b e; omega
      have cv6 : (wr.alloc (.cells #[.int .i64 j, .int .i64 (s.val j), .bool (s.gone j)] 38)).drew.cell? ⟨b, 1 + j * 5 + 3, none⟩ = some (.int .i64 (s.val j)) := by rw [((M.blk.alloc _).drew).cell, show 1 + j * 5 + 3 = 4 + 5 * j by omega]; exact M.cells.val j hj64
      have cg6 : (wr.alloc (.cells #[.int .i64 j, .int .i64 (s.val j), .bool (s.gone j)] 38)).drew.cell? ⟨b, 1 + j * 5 + 4, none⟩ = some (.bool (s.gone j)) := by rw [((M.blk.alloc _).drew).cell, show 1 + j * 5 + 4 = 5 + 5 * j by omega]; exact M.cells.gone j hj64
      have hb6 : b < (wr.alloc (.cells #[.int .i64 j, .int .i64 (s.val j), .bool (s.gone j)] 38)).drew.heap.size := by simp; omega
      have NEXT : Hid (∀ (gg cap : Nat) (w2 : World), w2.ownsRow w.heap.size 38 3 (.slice (some ⟨gg, 0, none⟩) (k + 1) cap) (k + 1) (s.rowsOf (s.keys.take k) ++ [.int .i64 j, .int .i64 (s.val j), .bool (s.gone j)]) → (wr.alloc (.cells #[.int .i64 j, .int .i64 (s.val j), .bool (s.gone j)] 38)).drew.grownBy w2 (Value.slice pa k pc).ownBlock →
          Only0 w w2 ∧ w2.ownsRow w.heap.size 38 3 (.slice (some ⟨gg, 0, none⟩) (k + 1) cap) (k + 1) (s.rowsOf (s.keys.take (k + 1)))) := by
        intro gg cap w2 h2 h3
        rw [etake, rowsOf_snoc]
        exact ⟨((OO.out.alloc _).drew).grown h3 (fun c hc => rows_above hown c hc), h2⟩
      clear HR M hc hmem hr hj etake
      generalize s.rowsOf (s.keys.take k) = RS at *
      generalize s.val j = x at *
      generalize s.gone j = y at *
      go_wp2_with fail
      refine wp_region_held_drew (S := (fun w' => w'.cell? ⟨b, 1 + j * 5 + 3, none⟩ = some (.int .i64 x) ∧ w'.cell? ⟨b, 1 + j * 5 + 4, none⟩ = some (.bool y))) (by kernel_rfl) ?_ (fun hHeld => ?_)
      · first | exact ⟨cv, cg⟩ | exact ⟨cv6, cg6⟩ | exact ⟨cvz, cgz⟩
      refine wpAnyH_take (i := 0) (v := ?_) rfl (by kernel_rfl) (by kernel_rfl) (by kernel_rfl) (fun _ _ _ h => h) (Or.inl ⟨by rfl, ?_⟩) (by assumption) ?_; rotate_left; (focus (intro w hSw; (try dsimp only at hSw); go_simp; try with_reducible rfl))
      try simp only [Act.put, List.getElem_toArray, List.getElem_cons_zero, List.getElem_cons_succ, List.setIfInBounds_toArray, List.set_cons_zero, List.set_cons_succ]
      refine wpAnyH_take (i := 1) (v := ?_) rfl (by kernel_rfl) (by kernel_rfl) (by kernel_rfl) (fun _ _ _ h => h) (Or.inl ⟨by rfl, ?_⟩) (by assumption) ?_; rotate_left; (focus (intro w hSw; (try dsimp only at hSw); go_simp; try with_reducible rfl))
      try simp only [Act.put, List.getElem_toArray, List.getElem_cons_zero, List.getElem_cons_succ, List.setIfInBounds_toArray, List.set_cons_zero, List.set_cons_succ]
      refine wpAnyH_take (i := 2) (v := ?_) rfl (by kernel_rfl) (by kernel_rfl) (by kernel_rfl) (fun _ _ _ h => h) (Or.inl ⟨by rfl, ?_⟩) (by assumption) ?_; rotate_left; (focus (intro w hSw; (try dsimp only at hSw); go_simp; try with_reducible rfl))
      try simp only [Act.put, List.getElem_toArray, List.getElem_cons_zero, List.getElem_cons_succ, List.setIfInBounds_toArray, List.set_cons_zero, List.set_cons_succ]
      refine wpAnyH_take (i := 3) (v := ?_) rfl (by kernel_rfl) (by kernel_rfl) (by kernel_rfl) (fun _ _ _ h => h) (Or.inl ⟨by rfl, ?_⟩) (by assumption) ?_; rotate_left; (focus (intro w hSw; (try dsimp only at hSw); go_simp; try with_reducible rfl))
      try simp only [Act.put, List.getElem_toArray, List.getElem_cons_zero, List.getElem_cons_succ, List.setIfInBounds_toArray, List.set_cons_zero, List.set_cons_succ]
      refine wpAnyH_take (i := 4) (v := ?_) rfl (by kernel_rfl) (by kernel_rfl) (by kernel_rfl) (fun _ _ _ h => h) (Or.inl ⟨by rfl, ?_⟩) (by assumption) ?_; rotate_left; (focus (intro w hSw; (try dsimp only at hSw); go_simp; try with_reducible rfl))
      try simp only [Act.put, List.getElem_toArray, List.getElem_cons_zero, List.getElem_cons_succ, List.setIfInBounds_toArray, List.set_cons_zero, List.set_cons_succ]
      refine wpAnyH_take (i := 5) (v := ?_) rfl (by kernel_rfl) (by kernel_rfl) (by kernel_rfl) (fun _ _ _ h => h) (Or.inl ⟨by rfl, ?_⟩) (by assumption) ?_; rotate_left; (focus (intro w hSw; (try dsimp only at hSw); go_simp; try with_reducible rfl))
      try simp only [Act.put, List.getElem_toArray, List.getElem_cons_zero, List.getElem_cons_succ, List.setIfInBounds_toArray, List.set_cons_zero, List.set_cons_succ]
      refine wpAnyH_take (i := 6) (v := ?_) rfl (by kernel_rfl) (by kernel_rfl) (by kernel_rfl) (fun _ _ _ h => h) (Or.inl ⟨by rfl, ?_⟩) (by assumption) ?_; rotate_left; (focus (intro w hSw; (try dsimp only at hSw); go_simp; try with_reducible rfl))
      try simp only [Act.put, List.getElem_toArray, List.getElem_cons_zero, List.getElem_cons_succ, List.setIfInBounds_toArray, List.set_cons_zero, List.set_cons_succ]
      refine wpAnyH_take (i := 7) (v := ?_) rfl (by kernel_rfl) (by kernel_rfl) (by kernel_rfl) (fun _ _ _ h => h) (Or.inl ⟨by rfl, ?_⟩) (by assumption) ?_; rotate_left; (focus (intro w hSw; (try dsimp only at hSw); go_simp; try with_reducible rfl))
      try simp only [Act.put, List.getElem_toArray, List.getElem_cons_zero, List.getElem_cons_succ, List.setIfInBounds_toArray, List.set_cons_zero, List.set_cons_succ]
      refine wpAnyH_take (i := 8) (v := ?_) rfl (by kernel_rfl) (by kernel_rfl) (by kernel_rfl) (fun _ _ _ h => h) (Or.inl ⟨by rfl, ?_⟩) (by assumption) ?_; rotate_left; (focus (intro w hSw; (try dsimp only at hSw); go_simp; try with_reducible rfl))
      try simp only [Act.put, List.getElem_toArray, List.getElem_cons_zero, List.getElem_cons_succ, List.setIfInBounds_toArray, List.set_cons_zero, List.set_cons_succ]
      refine wpAnyH_take (i := 9) (v := ?_) rfl (by kernel_rfl) (by kernel_rfl) (by kernel_rfl) (fun _ _ _ h => h) (Or.inl ⟨by rfl, ?_⟩) (by assumption) ?_; rotate_left; (focus (intro w hSw; (try dsimp only at hSw); go_simp; try with_reducible rfl))
      try simp only [Act.put, List.getElem_toArray, List.getElem_cons_zero, List.getElem_cons_succ, List.setIfInBounds_toArray, List.set_cons_zero, List.set_cons_succ]
      refine wpAnyH_take (i := 10) (v := ?_) rfl (by kernel_rfl) (by kernel_rfl) (by kernel_rfl) (fun _ _ _ h => h) (Or.inl ⟨by rfl, ?_⟩) (by assumption) ?_; rotate_left; (focus (intro w hSw; (try dsimp only at hSw); go_simp; try with_reducible rfl))
      try simp only [Act.put, List.getElem_toArray, List.getElem_cons_zero, List.getElem_cons_succ, List.setIfInBounds_toArray, List.set_cons_zero, List.set_cons_succ]
      refine wpAnyH_take (i := 11) (v := ?_) rfl (by kernel_rfl) (by kernel_rfl) (by kernel_rfl) (fun _ _ _ h => h) (Or.inl ⟨by rfl, ?_⟩) (by assumption) ?_; rotate_left; (focus (intro w hSw; (try dsimp only at hSw); go_simp; try with_reducible rfl))
      try simp only [Act.put, List.getElem_toArray, List.getElem_cons_zero, List.getElem_cons_succ, List.setIfInBounds_toArray, List.set_cons_zero, List.set_cons_succ]
      refine wpAnyH_take (i := 12) (v := ?_) rfl (by kernel_rfl) (by kernel_rfl) (by kernel_rfl) (fun _ _ _ h => h) (Or.inl ⟨by rfl, ?_⟩) (by assumption) ?_; rotate_left; (focus (intro w hSw; (try dsimp only at hSw); go_simp; try with_reducible rfl))
      try simp only [Act.put, List.getElem_toArray, List.getElem_cons_zero, List.getElem_cons_succ, List.setIfInBounds_toArray, List.set_cons_zero, List.set_cons_succ]
      refine wpAnyH_take (i := 13) (v := ?_) rfl (by kernel_rfl) (by kernel_rfl) (by kernel_rfl) (fun _ _ _ h => h) (Or.inl ⟨by rfl, ?_⟩) (by assumption) ?_; rotate_left; (focus (intro w hSw; (try dsimp only at hSw); go_simp; try with_reducible rfl))
      try simp only [Act.put, List.getElem_toArray, List.getElem_cons_zero, List.getElem_cons_succ, List.setIfInBounds_toArray, List.set_cons_zero, List.set_cons_succ]
      refine wpAnyH_take (i := 14) (v := ?_) rfl (by kernel_rfl) (by kernel_rfl) (by kernel_rfl) (fun _ _ _ h => h) (Or.inl ⟨by rfl, ?_⟩) (by assumption) ?_; rotate_left; (focus (intro w hSw; (try dsimp only at hSw); go_simp; try with_reducible rfl))
      try simp only [Act.put, List.getElem_toArray, List.getElem_cons_zero, List.getElem_cons_succ, List.setIfInBounds_toArray, List.set_cons_zero, List.set_cons_succ]
      refine wpAnyH_take (i := 15) (v := ?_) rfl (by kernel_rfl) (by kernel_rfl) (by kernel_rfl) (fun _ _ _ h => h) (Or.inl ⟨by rfl, ?_⟩) (by assumption) ?_; rotate_left; (focus (intro w hSw; (try dsimp only at hSw); go_simp; try with_reducible rfl))
      try simp only [Act.put, List.getElem_toArray, List.getElem_cons_zero, List.getElem_cons_succ, List.setIfInBounds_toArray, List.set_cons_zero, List.set_cons_succ]
      refine wpAnyH_take (i := 16) (v := ?_) rfl (by kernel_rfl) (by kernel_rfl) (by kernel_rfl) (fun _ _ _ h => h) (Or.inl ⟨by rfl, ?_⟩) (by assumption) ?_; rotate_left; (focus (intro w hSw; (try dsimp only at hSw); go_simp; try with_reducible rfl))
      try simp only [Act.put, List.getElem_toArray, List.getElem_cons_zero, List.getElem_cons_succ, List.setIfInBounds_toArray, List.set_cons_zero, List.set_cons_succ]
      refine wpAnyH_ready (rs := [17]) (by kernel_rfl) (by simp) ?_
      refine AllReadyH.cons rfl (fun K hK => ?_) AllReadyH.nil
      try simp only [List.getElem_toArray, List.getElem_cons_zero, List.getElem_cons_succ]
      go_simp
      skip
      try go_wp2_with fail
      refine hK.out _ _ ?_ (fun hHeld => ?_)
      · first | exact ⟨cv, cg⟩ | exact ⟨cv6, cg6⟩ | exact ⟨cvz, cgz⟩
      clear hK K
      try simp only [Act.put, List.getElem_toArray, List.getElem_cons_zero, List.getElem_cons_succ, List.setIfInBounds_toArray, List.set_cons_zero, List.set_cons_succ]
      refine wpAnyH_ready (rs := [18]) (by kernel_rfl) (by simp) ?_
      refine AllReadyH.cons rfl (fun K hK => ?_) AllReadyH.nil
      try simp only [List.getElem_toArray, List.getElem_cons_zero, List.getElem_cons_succ]
      (rw [if_pos (by simp [Region.wanted])]; refine wp_append_lies _ _ _ _ (by rfl) w.heap.size 38 i0 _ 3 24 Try.underlying33 hi0 hz0 hz1 hz2 rfl (by omega) (.slice pa k pc) k RS (by rfl) ((hown.alloc _).drew) ⟨wr.heap.size, 0, none⟩ 1 1 [.int .i64 j, .int .i64 x, .bool y] (by rfl) (by rfl) (World.news_of_block (cs := #[.int .i64 j, .int .i64 x, .bool y]) (t := 38) (fr := (0, 0)) (heap_alloc_new wr _)) (by simp [Value.oneCell']) (by omega) (by unfold maxLen; omega) (by omega) (by simp; omega) (wr.heap.size + 1) (by simp) ?_; intro gg cap w1 hown2 hgrow hat hlt2; have cvz : w1.cell? ⟨b, 1 + j * 5 + 3, none⟩ = some (.int .i64 x) := (hgrow.cell_far ⟨b, 1 + j * 5 + 3, none⟩ hb6 (fun e => hrb e.symm)).trans cv6; have cgz : w1.cell? ⟨b, 1 + j * 5 + 4, none⟩ = some (.bool y) := (hgrow.cell_far ⟨b, 1 + j * 5 + 4, none⟩ hb6 (fun e => hrb e.symm)).trans cg6)
      refine hK.out _ _ ?_ (fun hHeld => ?_)
      · first | exact ⟨cv, cg⟩ | exact ⟨cv6, cg6⟩ | exact ⟨cvz, cgz⟩
      clear hK K
      try simp only [Act.put, List.getElem_toArray, List.getElem_cons_zero, List.getElem_cons_succ, List.setIfInBounds_toArray, List.set_cons_zero, List.set_cons_succ]
      refine wpAnyH_take (i := 19) (v := ?_) rfl (by kernel_rfl) (by kernel_rfl) (by kernel_rfl) (fun _ _ _ h => h) (Or.inl ⟨by rfl, ?_⟩) (by assumption) ?_; rotate_left; (focus (intro w hSw; (try dsimp only at hSw); go_simp; try with_reducible rfl))
      try simp only [Act.put, List.getElem_toArray, List.getElem_cons_zero, List.getElem_cons_succ, List.setIfInBounds_toArray, List.set_cons_zero, List.set_cons_succ]
      refine wpAnyH_done (by kernel_rfl) ?_ _
      have R := Lib.hid (NEXT.out gg cap w1 hown2 hgrow)
      clear NEXT hown hown2 hgrow hat hlt2 cvz cgz cv6 cg6 cv cg
      go_wp2_with fail
      go_roundw
      case rel => exact ⟨k + 1, _, cap, _, rfl, by go_num, by omega, rfl, R⟩
      case measure => simp [intOf]; omega
    · obtain rfl : k = s.keys.length := by omega
      have R := Lib.hid HR.out
      clear HR
      go_wp2_with fail
      go_ret
      obtain ⟨o1, r1⟩ := R.out
      rw [List.take_length] at r1
      exact ⟨⟨pa, pc, rfl, r1⟩, o1⟩

def risesB : PL → Bool
  | [] => true
  | [_] => true
  | a :: b :: l => decide (a.1 < b.1) && risesB (b :: l)
theorem risesB_iff : ∀ (l : PL), risesB l = true ↔ Srt l
  | [] => by simp [risesB, Srt]
  | [a] => by simp [risesB, Srt]
  | a :: b :: l => by
    have ih := risesB_iff (b :: l)
    unfold risesB
    rw [Bool.and_eq_true, ih, decide_eq_true_eq]
    unfold Srt
    constructor
    · rintro ⟨h1, h2⟩
      refine List.pairwise_cons.2 ⟨fun c hc => ?_, h2⟩
      rcases List.mem_cons.1 hc with rfl | hc
      · exact h1
      · have := (List.pairwise_cons.1 h2).1 c hc; omega
    · intro h
      have h' := List.pairwise_cons.1 h
      exact ⟨h'.1 b (by simp), h'.2⟩
def upR (l : PL) (k : Nat) : Prop := ∀ j, j + 1 < k → (l.getD j (0, 0)).1 < (l.getD (j + 1) (0, 0)).1
theorem upR_all {l : PL} (h : upR l l.length) : risesB l = true := by
  induction l with
  | nil => rfl
  | cons a l ih =>
    cases l with
    | nil => rfl
    | cons b l =>
      unfold risesB
      rw [Bool.and_eq_true, decide_eq_true_eq]
      refine ⟨?_, ih (fun j hj => ?_)⟩
      · have := h 0 (by simp); simpa using this
      · have := h (j + 1) (by simp at hj ⊢; omega); simpa using this
theorem upR_no {l : PL} {k : Nat} (hk : k + 1 < l.length) (h : ¬ (l.getD k (0, 0)).1 < (l.getD (k + 1) (0, 0)).1) : risesB l = false := by
  cases e : risesB l with
  | false => rfl
  | true =>
    exfalso
    have := (risesB_iff l).1 e
    unfold Srt at this
    rw [List.pairwise_iff_getElem] at this
    have := this k (k + 1) (by omega) hk (by omega)
    apply h
    simpa [List.getD_eq_getElem?_getD, hk, show k < l.length by omega] using this
set_option maxRecDepth 100000 in
set_option maxHeartbeats 4000000 in
theorem rises_any (a : Option Addr) (c : Nat) (ps : PL) (w : World) (hx : PairsIn w a ps) (lx : ps.length ≤ 1000000) :
    Calls Try.prog 18 #[.slice a ps.length c] w fun e w' => e = .returned (.bool (risesB ps)) ∧ ∃ n, w' = w.drewN n := by
  have HX := Lib.hid hx
  clear hx
  go_enter Try.func18, Try.ntmps18
  go_wp2_with fail
  go_loopw [3] (fun i wr => ∃ k m : Nat, i = .int .i64 (k + 1) ∧ (k < ps.length ∨ k = 0) ∧ wr = w.drewN m ∧ Hid (upR ps (k + 1))) (fun i _ => ps.length - (intOf i).toNat)
  case atStart => exact ⟨0, 0, rfl, .inr rfl, rfl, Lib.hid (fun j hj => by omega)⟩
  case round =>
    obtain ⟨k, m, rfl, hk, rfl, HU⟩ := hrel
    by_cases hlt : k + 1 < ps.length
    · obtain ⟨b, off, rfl, hc⟩ := HX.out.at (by omega)
      have h1 := (hc (k + 1) hlt).1
      have h2 := (hc k (by omega)).1
      have hlt' : (k : Int) + 1 < ps.length := by omega
      have e1 : (k : Int) + 1 - 1 = k := by omega
      by_cases hq : (ps.getD k (0, 0)).1 < (ps.getD (k + 1) (0, 0)).1
      · have U := Lib.hid (show upR ps (k + 1 + 1) from fun j hj => by
          rcases Nat.lt_or_ge (j + 1) (k + 1) with h | h
          · exact HU.out j h
          · obtain rfl : j = k := by omega
            exact hq)
        have hq' : decide ((ps.getD (k + 1) (0, 0)).1 ≤ (ps.getD k (0, 0)).1) = false := decide_eq_false (by omega)
        generalize (ps.getD (k + 1) (0, 0)).1 = x at *
        generalize (ps.getD k (0, 0)).1 = y at *
        clear hc HU hq
        go_wp2_with fail
        go_quiet (fail)
        go_wp2_with fail
        go_roundw
        case rel => exact ⟨k + 1, _, by go_num, .inl hlt, rfl, U⟩
        case measure => simp [intOf]; omega
      · have R := Lib.hid (upR_no hlt hq)
        have hq' : decide ((ps.getD (k + 1) (0, 0)).1 ≤ (ps.getD k (0, 0)).1) = true := decide_eq_true (by omega)
        generalize (ps.getD (k + 1) (0, 0)).1 = x at *
        generalize (ps.getD k (0, 0)).1 = y at *
        clear hc HU hq
        go_wp2_with fail
        go_quiet (fail)
        go_wp2_with fail
        go_ret
        exact ⟨ret_bool R.out.symm, _, World.drewN_drewN _ _ _⟩
    · have R := Lib.hid (show risesB ps = true from by
        have := HU.out
        rcases hk with hk | rfl
        · exact upR_all (by rw [show ps.length = k + 1 by omega]; exact this)
        · exact upR_all (fun j hj => by omega))
      have hlt' : decide ((k : Int) + 1 < ps.length) = false := decide_eq_false (by omega)
      clear HU
      go_wp2_with fail
      go_ret
      exact ⟨ret_bool R.out.symm, _, rfl⟩
end Go.Proofs.Ytldfkcldfjfohaa

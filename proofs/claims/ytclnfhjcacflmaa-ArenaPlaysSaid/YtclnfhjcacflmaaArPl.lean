/-
  ArenaPlays: the Arena and the law's own row of words, side by side; what each call does to them.
-/
import Derived.Test.YtclnfhjcacflmaaLaw2c
import Derived.Test.YtclnfhjcacflmaaInts
namespace Go.Proofs.Ytclnfhjcacflmaa
open Go.RowKit
set_option linter.unusedVariables false

theorem rec4 {r : List Int} (hl : r.length = 4) (hw : wfs opKinds r) : ∃ K I O N : Int, zipInts opKinds r = [.int .i64 K, .int .i64 I, .int .u64 O, .int .u64 N] ∧ (-9223372036854775808 ≤ K ∧ K ≤ 9223372036854775807) ∧ (-9223372036854775808 ≤ I ∧ I ≤ 9223372036854775807) ∧ (0 ≤ O ∧ O ≤ 18446744073709551615) ∧ (0 ≤ N ∧ N ≤ 18446744073709551615) := by
  match r, hl with
  | [K, I, O, N], _ => exact ⟨K, I, O, N, rfl, bounds_i64 hw.1, bounds_i64 hw.2.1, bounds_u64 hw.2.2.1, bounds_u64 hw.2.2.2.1⟩
theorem getD_mem' {l : List (List Int)} {k : Nat} (hk : k < l.length) : l.getD k [] ∈ l := by
  rw [List.getD_eq_getElem?_getD, List.getElem?_eq_getElem hk]; exact List.getElem_mem _
def AOps (w : World) (la : Option Addr) (l : List (List Int)) : Prop := Recs opKinds w la l ∧ ∀ r ∈ l, r.length = opKinds.length ∧ wfs opKinds r
theorem aop_at {w0 w : World} {la : Option Addr} {l : List (List Int)} (h : AOps w0 la l) (o : Below w0.heap.size w0 w) {n : Nat} (hn : n < l.length) :
    ∃ (b off : Nat) (K I O N : Int), la = some ⟨b, off, none⟩ ∧ w.cell? ⟨b, off + n * 4, none⟩ = some (.int .i64 K) ∧ w.cell? ⟨b, off + n * 4 + 1, none⟩ = some (.int .i64 I) ∧ w.cell? ⟨b, off + n * 4 + 2, none⟩ = some (.int .u64 O) ∧ w.cell? ⟨b, off + n * 4 + 3, none⟩ = some (.int .u64 N) ∧
      (0 ≤ O ∧ O ≤ 18446744073709551615) ∧ (0 ≤ N ∧ N ≤ 18446744073709551615) := by
  obtain ⟨b, off, rfl, hc⟩ := h.1.at (by omega)
  obtain ⟨K, I, O, N, hr, -, -, h3, h4⟩ := rec4 (h.2 _ (getD_mem' hn)).1 (h.2 _ (getD_mem' hn)).2
  have q0 := hc n 0 hn (by decide)
  have q1 := hc n 1 hn (by decide)
  have q2 := hc n 2 hn (by decide)
  have q3 := hc n 3 hn (by decide)
  rw [hr] at q0 q1 q2 q3
  have hlt := block_lt_of_cell q0
  exact ⟨b, off, K, I, O, N, rfl, (o.cell (p := ⟨b, off + n * 4, none⟩) hlt).trans q0, (o.cell (p := ⟨b, off + n * 4 + 1, none⟩) hlt).trans q1, (o.cell (p := ⟨b, off + n * 4 + 2, none⟩) hlt).trans q2, (o.cell (p := ⟨b, off + n * 4 + 3, none⟩) hlt).trans q3, h3, h4⟩

/-- A row of numbers that all are words. -/
def Words (ws : List Int) : Prop := ∀ x ∈ ws, 0 ≤ x ∧ x ≤ 18446744073709551615
theorem Words.set {ws : List Int} (h : Words ws) (i : Nat) {x : Int} (hx : 0 ≤ x ∧ x ≤ 18446744073709551615) : Words (ws.set i x) := by
  intro y hy
  rcases List.mem_or_eq_of_mem_set hy with hy | rfl
  · exact h y hy
  · exact hx
theorem blk_set {w : World} {c : Nat} {t : TypeId} {ws : List Int} (h : Blk w c t (ws.map (Value.int .u64)).toArray) (i : Nat) (x : Int) : Blk (w.setCell ⟨c, i, none⟩ (.int .u64 x)) c t ((ws.set i x).map (Value.int .u64)).toArray := by
  simpa [List.map_set] using h.set i (.int .u64 x)

/-- The Arena, the law's row, the block of the law's own struct variable. -/
structure AP (w0 w : World) (a b c : Nat) (m : Nat) (s : AS) (ws : List Int) : Prop where
  ar : IsArena w a b s
  row : Blk w c 30 (ws.map (Value.int .u64)).toArray
  la : s.ws.length = m
  lw : ws.length = m
  wd : Words s.ws
  below : Below w0.heap.size w0 w
  a0 : w0.heap.size ≤ a
  b0 : w0.heap.size ≤ b
  c0 : w0.heap.size ≤ c
  ca : c ≠ a
  cb : c ≠ b
variable {w0 w : World} {a b c m : Nat} {s : AS} {ws : List Int}
theorem AP.foot (h : AP w0 w a b c m s ws) : ¬ Two a b c := fun hh => hh.elim h.ca h.cb
theorem AP.only0 {w' : World} (h : AP w0 w a b c m s ws) (o : Only0 w w') : AP w0 w' a b c m s ws :=
  ⟨h.ar.only (S := fun _ => False) o (fun h => h) (fun h => h), o.blk h.row (fun h => h), h.la, h.lw, h.wd, h.below.trans (Only.below (S := fun _ => False) o _ h.below.size (fun _ hf => hf.elim)), h.a0, h.b0, h.c0, h.ca, h.cb⟩
theorem AP.step {w' : World} {s' : AS} (h : AP w0 w a b c m s ws) (h' : IsArena w' a b s') (o : Only (Two a b) w w') (hl : s'.ws.length = m) (hw : Words s'.ws) : AP w0 w' a b c m s' ws :=
  ⟨h', o.blk h.row h.foot, hl, h.lw, hw, h.below.trans (o.belowTwo _ h.below.size h.a0 h.b0), h.a0, h.b0, h.c0, h.ca, h.cb⟩
theorem AP.put (h : AP w0 w a b c m s ws) (i : Nat) (x : Int) : AP w0 (w.setCell ⟨c, i, none⟩ (.int .u64 x)) a b c m s (ws.set i x) :=
  ⟨h.ar.other ⟨c, i, none⟩ (.int .u64 x) (Ne.symm h.ca) (Ne.symm h.cb), blk_set h.row i x, h.la, by rw [List.length_set]; exact h.lw, h.wd, h.below.setCell (p := ⟨c, i, none⟩) h.c0 _, h.a0, h.b0, h.c0, h.ca, h.cb⟩
theorem AP.cell (h : AP w0 w a b c m s ws) {i : Nat} (hi : i < m) : w.cell? ⟨c, i, none⟩ = some (.int .u64 (ws.getD i 0)) := by
  rw [h.row.cell]; simp [h.lw ▸ hi]
theorem AP.free (h : AP w0 w a b c m s ws) (i : Nat) : w.frozen? ⟨c, i, none⟩ = false := h.row.free i
/-- Another struct of the law's. -/
def KeepA (w w' : World) : Prop := ∀ b cs, Blk w b 32 cs → Blk w' b 32 cs
theorem Blk.ne_' {w : World} {g g' : Nat} {t t' : TypeId} {cs cs' : Array Value} (h : Blk w g t cs) (h' : Blk w g' t' cs') (hne : t ≠ t') : g ≠ g' := by
  rintro rfl
  exact hne (h.inj h').2
theorem AP.keep {w' : World} (h : AP w0 w a b c m s ws) (o : Only (Two a b) w w') : KeepA w w' := fun g cs hb => o.blk hb (fun hh => by
  rcases hh with rfl | rfl
  · exact hb.ne_' h.ar.head (by decide) rfl
  · exact hb.ne_' h.ar.words (by decide) rfl)
theorem AP.keepC (h : AP w0 w a b c m s ws) (i : Nat) (x : Value) : KeepA w (w.setCell ⟨c, i, none⟩ x) := fun g cs hb => hb.other _ _ (hb.ne_' h.row (by decide))
theorem keep0 {w w' : World} (o : Only0 w w') : KeepA w w' := fun g cs hb => o.blk hb (fun h => h)

theorem tick_len (s : AS) (i : Int) : (s.tick i).ws = s.ws := by unfold AS.tick; split <;> rfl
theorem store_len (s : AS) (i v : Int) : (s.store i v).ws.length = s.ws.length := by unfold AS.store; split <;> simp
theorem store_words {s : AS} (h : Words s.ws) (i : Int) {v : Int} (hv : 0 ≤ v ∧ v ≤ 18446744073709551615) : Words (s.store i v).ws := by
  unfold AS.store; split
  · exact h.set _ hv
  · exact h
theorem AP.c_load (h : AP w0 w a b c m s ws) (i : Int) : Calls Try.prog 7 #[.pointer (some ⟨a, 0, none⟩), .int .i64 i] w fun e w' => e = .returned (.int .u64 (s.load i)) ∧ AP w0 w' a b c m (s.tick i) ws ∧ KeepA w w' := by
  refine (arena_load h.ar i).mono ?_
  rintro e w' ⟨he, h', o⟩
  exact ⟨he, h.step h' o (by rw [tick_len]; exact h.la) (by rw [tick_len]; exact h.wd), h.keep o⟩
theorem AP.c_store (h : AP w0 w a b c m s ws) (i v : Int) (hv : 0 ≤ v ∧ v ≤ 18446744073709551615) : Calls Try.prog 8 #[.pointer (some ⟨a, 0, none⟩), .int .i64 i, .int .u64 v] w fun e w' => e = .returned (.tuple #[]) ∧ AP w0 w' a b c m (s.store i v) ws ∧ KeepA w w' := by
  refine (arena_store h.ar i v).mono ?_
  rintro e w' ⟨he, h', o⟩
  exact ⟨he, h.step h' o (by rw [store_len]; exact h.la) (store_words h.wd i hv), h.keep o⟩
theorem AP.c_cas (h : AP w0 w a b c m s ws) (i old new : Int) (hv : 0 ≤ new ∧ new ≤ 18446744073709551615) : Calls Try.prog 9 #[.pointer (some ⟨a, 0, none⟩), .int .i64 i, .int .u64 old, .int .u64 new] w fun e w' => e = .returned (.bool (s.casOk i old)) ∧ AP w0 w' a b c m (s.cas i old new) ws ∧ KeepA w w' := by
  refine (arena_cas h.ar i old new).mono ?_
  rintro e w' ⟨he, h', o⟩
  refine ⟨he, h.step h' o ?_ ?_, h.keep o⟩
  · unfold AS.cas; split
    · rw [store_len]; exact h.la
    · rw [tick_len]; exact h.la
  · unfold AS.cas; split
    · exact store_words h.wd i hv
    · rw [tick_len]; exact h.wd
theorem AP.c_add (h : AP w0 w a b c m s ws) (i v : Int) : Calls Try.prog 10 #[.pointer (some ⟨a, 0, none⟩), .int .i64 i, .int .u64 v] w fun e w' => e = .returned (.int .u64 (s.sum i v)) ∧ AP w0 w' a b c m (s.add i v) ws ∧ KeepA w w' := by
  refine (arena_add h.ar i v).mono ?_
  rintro e w' ⟨he, h', o⟩
  exact ⟨he, h.step h' o (by unfold AS.add; rw [store_len]; exact h.la) (store_words h.wd i (by omega)), h.keep o⟩
theorem AP.c_count (h : AP w0 w a b c m s ws) : Calls Try.prog 12 #[.pointer (some ⟨a, 0, none⟩)] w fun e w' => e = .returned (.int .i64 s.cnt) ∧ w = w' := arena_count h.ar
theorem AP.c_words (h : AP w0 w a b c m s ws) : Calls Try.prog 14 #[.pointer (some ⟨a, 0, none⟩)] w fun e w' => ∃ d, e = .returned (.slice (some ⟨d, 0, none⟩) m m) ∧ Ints .u64 w' (some ⟨d, 0, none⟩) s.ws ∧ Only0 w w' := by
  have hc := arena_words h.ar
  rw [h.la] at hc
  refine hc.mono ?_
  rintro e w' ⟨d, he, -, hb, o⟩
  exact ⟨d, he, Ints.of_blk hb, Below.only0 o⟩
theorem AP.c_copy (h : AP w0 w a b c m s ws) : Calls Try.prog 11 #[.pointer (some ⟨a, 0, none⟩)] w fun e w' => ∃ a' b', e = .returned (.pointer (some ⟨a', 0, none⟩)) ∧ (AP w0 w' a' b' c m s ws ∧ a' ≠ a ∧ a' ≠ b ∧ b' ≠ a ∧ b' ≠ b) ∧ Only0 w w' := by
  refine (arena_copy h.ar).mono ?_
  rintro e w' ⟨a', b', he, ha, hb, h', o⟩
  have oo := Below.only0 o
  have hs := h.below.size
  have l1 := h.ar.head.lt
  have l2 := h.ar.words.lt
  have l3 := h.row.lt
  have h2 := h.only0 oo
  exact ⟨a', b', he, ⟨⟨h', h2.row, h.la, h.lw, h.wd, h2.below, by omega, by omega, h.c0, by omega, by omega⟩, by omega, by omega, by omega, by omega⟩, oo⟩
/-- What is done to a copy is not done to the Arena. -/
theorem AP.beside {w' : World} {a' b' : Nat} (h : AP w0 w a b c m s ws) (o : Only (Two a' b') w w') (h1 : a' ≠ a ∧ a' ≠ b ∧ b' ≠ a ∧ b' ≠ b) (h2 : ¬ Two a' b' c) (h3 : w0.heap.size ≤ a') (h4 : w0.heap.size ≤ b') : AP w0 w' a b c m s ws :=
  ⟨h.ar.only o (fun hh => by rcases hh with hh | hh; exact h1.1 hh.symm; exact h1.2.2.1 hh.symm) (fun hh => by rcases hh with hh | hh; exact h1.2.1 hh.symm; exact h1.2.2.2 hh.symm), o.blk h.row h2, h.la, h.lw, h.wd, h.below.trans (o.belowTwo _ h.below.size h3 h4), h.a0, h.b0, h.c0, h.ca, h.cb⟩
theorem AP.same (h : AP w0 w a b c m s ws) {d : Nat} (hi : Ints .u64 w (some ⟨d, 0, none⟩) ws) (hm : m ≤ 1000000) : Calls Try.prog 13 #[.slice (some ⟨d, 0, none⟩) m m, .slice (some ⟨c, 0, none⟩) m m] w fun e w' => e = .returned (.bool true) ∧ Only0 w w' := by
  have hl := h.lw
  have hc := same_any (some ⟨d, 0, none⟩) (some ⟨c, 0, none⟩) m m ws ws w hi (Ints.of_blk h.row) (by omega) (by omega)
  rw [hl] at hc
  refine hc.mono ?_
  rintro e w' ⟨rfl, n, rfl⟩
  exact ⟨by rw [decide_eq_true rfl], (Only0.refl w).drewN n⟩
def inA (I : Int) (m : Nat) : Bool := decide (0 ≤ I) && decide (I < (m : Int))
theorem AP.on (h : AP w0 w a b c m s ws) (I : Int) : s.on I = inA I m := by unfold AS.on inA; rw [h.la]
theorem AP.fin (h : AP w0 w a b c m s ws) : Below w0.heap.size w0 w := h.below
end Go.Proofs.Ytclnfhjcacflmaa

/-
  ModelReplays: what its proof rests on, part 1.
-/
import Derived.WalkKit
import Derived.WalkSpells
import Derived.WalkLawsBesides
import Derived.Laws.LoneSync
import Derived.Lib.Hide
import Derived.Laws.AppendOwn
import Derived.Laws.OwnMore
import Derived.Maps.RangeWalk
import Derived.Test.YtdjehgnkpbkdbaaProg
import Derived.Deep.QuietTactic
import Derived.BigQuiet
import Derived.LaidEqlPtr
import Derived.Lib.Builder
import Derived.Outline
import Derived.Deep.AppendLies
import Derived.StillTailTactics
import Derived.RegionTactic
import Derived.Deep.RegionLaw
import Derived.Deep.Cut
import Derived.Deep.DeepCutAuto
namespace Go.Proofs.Ytdjehgnkpbkdbaa
open Go.RowKit
/-- The block b holds the cells cs, of element type t; none of them is frozen. -/
def Blk (w : World) (b : Nat) (t : TypeId) (cs : Array Value) : Prop := w.heap[b]? = some (.cells cs t (0, 0))
theorem Blk.lt {w : World} {b : Nat} {t : TypeId} {cs : Array Value} (h : Blk w b t cs) : b < w.heap.size := lt_of_block h
theorem Blk.cell {w : World} {b : Nat} {t : TypeId} {cs : Array Value} (h : Blk w b t cs) (o : Nat) : w.cell? ⟨b, o, none⟩ = cs[o]? := by
  unfold Blk at h; simp [World.cell?, h]
theorem Blk.free {w : World} {b : Nat} {t : TypeId} {cs : Array Value} (h : Blk w b t cs) (o : Nat) : w.frozen? ⟨b, o, none⟩ = false := by
  unfold Blk at h; simp [World.frozen?, h]
theorem Blk.set {w : World} {b : Nat} {t : TypeId} {cs : Array Value} (h : Blk w b t cs) (o : Nat) (v : Value) : Blk (w.setCell ⟨b, o, none⟩ v) b t (cs.setIfInBounds o v) := by
  unfold Blk at *
  have hlt := lt_of_block h
  have h' : w.heap[b] = .cells cs t (0, 0) := by simpa [Array.getElem?_eq_getElem hlt] using h
  show (w.heap.modify b _)[b]? = _
  rw [Array.getElem?_eq_getElem (by simpa using hlt), Array.getElem_modify_self, h']
  rfl
theorem Blk.other {w : World} {b : Nat} {t : TypeId} {cs : Array Value} (h : Blk w b t cs) (a : Addr) (v : Value) (hne : b ≠ a.block) : Blk (w.setCell a v) b t cs := by
  unfold Blk at *
  rw [Below.heap_setCell _ _ _ _ hne]; exact h
theorem Blk.alloc {w : World} {b : Nat} {t : TypeId} {cs : Array Value} (h : Blk w b t cs) (o : Obj) : Blk (w.alloc o) b t cs := by
  have hlt := h.lt
  unfold Blk at *
  rw [Below.heap_alloc _ _ _ hlt]; exact h
theorem Blk.drew {w : World} {b : Nat} {t : TypeId} {cs : Array Value} (h : Blk w b t cs) : Blk w.drew b t cs := h
theorem Blk.drewN {w : World} {b : Nat} {t : TypeId} {cs : Array Value} (h : Blk w b t cs) (n : Nat) : Blk (w.drewN n) b t cs := h
theorem Blk.new (w : World) (t : TypeId) (cs : Array Value) : Blk (w.alloc (.cells cs t)) w.heap.size t cs := by
  unfold Blk
  show (w.heap.push _)[w.heap.size]? = _
  simp
theorem Blk.new' (w : World) (t : TypeId) (cs : Array Value) (b : Nat) (hb : b = w.heap.size) : Blk (w.alloc (.cells cs t)) b t cs := hb ▸ Blk.new w t cs
theorem Blk.inj {w : World} {b : Nat} {t t' : TypeId} {cs cs' : Array Value} (h : Blk w b t cs) (h' : Blk w b t' cs') : cs = cs' ∧ t = t' := by
  unfold Blk at *; rw [h] at h'; simpa using h'
/-- Of what was there only the blocks in S may have turned; no block has gone; the streams are as they were. -/
structure Only (S : Nat → Prop) (w w' : World) : Prop where
  os : w'.os = w.os
  tape : w'.tape = w.tape
  output : w'.output = w.output
  size : w.heap.size ≤ w'.heap.size
  block : ∀ k, k < w.heap.size → ¬ S k → w'.heap[k]? = w.heap[k]?
theorem Only.refl (S : Nat → Prop) (w : World) : Only S w w := ⟨rfl, rfl, rfl, Nat.le_refl _, fun _ _ _ => rfl⟩
theorem Only.trans {S : Nat → Prop} {a b c : World} (h : Only S a b) (k : Only S b c) : Only S a c :=
  ⟨k.os.trans h.os, k.tape.trans h.tape, k.output.trans h.output, Nat.le_trans h.size k.size, fun i hi hn => (k.block i (Nat.lt_of_lt_of_le hi h.size) hn).trans (h.block i hi hn)⟩
theorem Only.mono {S T : Nat → Prop} {w w' : World} (h : Only S w w') (hs : ∀ k, k < w.heap.size → S k → T k) : Only T w w' := ⟨h.os, h.tape, h.output, h.size, fun k hk hn => h.block k hk (fun hS => hn (hs k hk hS))⟩
theorem Only.drew {S : Nat → Prop} {a w : World} (h : Only S a w) : Only S a w.drew := ⟨h.os, h.tape, h.output, h.size, h.block⟩
theorem Only.drewN {S : Nat → Prop} {a w : World} (h : Only S a w) (n : Nat) : Only S a (w.drewN n) := ⟨h.os, h.tape, h.output, h.size, h.block⟩
theorem Only.alloc {S : Nat → Prop} {a w : World} (h : Only S a w) (o : Obj) : Only S a (w.alloc o) :=
  h.trans ⟨rfl, rfl, rfl, by simp, fun k hk _ => Below.heap_alloc _ _ _ hk⟩
theorem Only.setCell {S : Nat → Prop} {a w : World} (h : Only S a w) {p : Addr} (hp : p.block < a.heap.size → S p.block) (u : Value) : Only S a (w.setCell p u) := by
  refine ⟨h.os, h.tape, h.output, by simpa [World.setCell] using h.size, fun k hk hn => ?_⟩
  rw [Below.heap_setCell _ _ _ _ (fun e => by subst e; exact hn (hp hk))]
  exact h.block k hk hn
theorem Only.blk {S : Nat → Prop} {w w' : World} (h : Only S w w') {b : Nat} {t : TypeId} {cs : Array Value} (hb : Blk w b t cs) (hn : ¬ S b) : Blk w' b t cs := by
  have hlt := hb.lt
  unfold Blk at *
  rw [h.block b hlt hn]; exact hb
theorem Only.below {S : Nat → Prop} {w w' : World} (h : Only S w w') (B : Nat) (hB : B ≤ w.heap.size) (hs : ∀ k, S k → B ≤ k) : Below B w w' :=
  ⟨h.os, h.tape, h.output, h.size, fun k hk => h.block k (by omega) (fun hS => by have := hs k hS; omega)⟩
/-- Nothing that was there has turned. -/
def Only0 (w w' : World) : Prop := Only (fun _ => False) w w'
theorem Only0.refl (w : World) : Only0 w w := Only.refl _ w
theorem Only0.trans {a b c : World} (h : Only0 a b) (k : Only0 b c) : Only0 a c := Only.trans h k
theorem Only0.alloc {a w : World} (h : Only0 a w) (o : Obj) : Only0 a (w.alloc o) := Only.alloc h o
theorem Only0.drew {a w : World} (h : Only0 a w) : Only0 a w.drew := Only.drew h
theorem Only0.drewN {a w : World} (h : Only0 a w) (n : Nat) : Only0 a (w.drewN n) := Only.drewN h n
theorem Only0.setCell {a w : World} (h : Only0 a w) {p : Addr} (hp : a.heap.size ≤ p.block) (u : Value) : Only0 a (w.setCell p u) := Only.setCell h (fun hk => absurd hk (by omega)) u
theorem Only0.grown {a w w' : World} {row : Option Nat} (h : Only0 a w) (hg : w.grownBy w' row) (hr : ∀ k, row = some k → a.heap.size ≤ k) : Only0 a w' := by
  refine ⟨hg.os.trans h.os, hg.tape.trans h.tape, hg.output.trans h.output, Nat.le_trans h.size hg.size, fun k hk hn => ?_⟩
  rw [hg.block k (Nat.lt_of_lt_of_le hk h.size) (fun e => by have := hr k e.symm; omega)]
  exact h.block k hk hn
theorem Only0.below {w w' : World} (h : Only0 w w') : Below w.heap.size w w' := Only.below h _ (Nat.le_refl _) (fun _ hf => hf.elim)
theorem Only0.any {w w' : World} (h : Only0 w w') (S : Nat → Prop) : Only S w w' := h.mono (fun _ _ hf => hf.elim)
theorem ret_bool {a b : Bool} (h : a = b) : Ending.returned (.bool a) = .returned (.bool b) := by rw [h]
end Go.Proofs.Ytdjehgnkpbkdbaa
namespace Go.Proofs.Ytdjehgnkpbkdbaa
open Go.RowKit
/-- Two footprints have no block in common. -/
def Apart (P Q : Nat → Prop) : Prop := ∀ b, P b → ¬ Q b
/-- The new footprint: only blocks of the old one, and new ones. -/
def Grew (N : Nat) (P P' : Nat → Prop) : Prop := ∀ b, P' b → P b ∨ N ≤ b
/-- All blocks of a footprint are there. -/
def Under (P : Nat → Prop) (N : Nat) : Prop := ∀ b, P b → b < N
theorem Apart.symm {P Q : Nat → Prop} (h : Apart P Q) : Apart Q P := fun b hq hp => h b hp hq
theorem Grew.refl (N : Nat) (P : Nat → Prop) : Grew N P P := fun _ h => .inl h
theorem Grew.trans {N M : Nat} {P Q R : Nat → Prop} (h : Grew N P Q) (k : Grew M Q R) (hNM : N ≤ M) : Grew N P R := fun b hb => by
  rcases k b hb with h1 | h1
  · exact h b h1
  · exact .inr (Nat.le_trans hNM h1)
theorem Apart.grew {N : Nat} {P P' Q : Nat → Prop} (h : Apart P Q) (g : Grew N P P') (hq : Under Q N) : Apart P' Q := fun b hp hQ => by
  rcases g b hp with h1 | h1
  · exact h b h1 hQ
  · have := hq b hQ; omega
theorem Under.mono {P : Nat → Prop} {N M : Nat} (h : Under P N) (hn : N ≤ M) : Under P M := fun b hb => Nat.lt_of_lt_of_le (h b hb) hn
/-- All blocks of a footprint are at B or above. -/
def Above (P : Nat → Prop) (B : Nat) : Prop := ∀ b, P b → B ≤ b
theorem Only.toward {P Q : Nat → Prop} {w w' : World} (h : Only P w w') (hs : ∀ b, P b → Q b) : Only Q w w' := h.mono (fun k _ hk => hs k hk)
/-- The block in which a slice's row lies. -/
def rowOf (v : Value) : Nat → Prop := fun b => v.ownBlock = some b
theorem rowOf_none (n c : Nat) (b : Nat) : ¬ rowOf (.slice none n c) b := by simp [rowOf, Value.ownBlock]
theorem rowOf_some {g o n c b : Nat} : rowOf (.slice (some ⟨g, o, none⟩) n c) b ↔ b = g := by simp [rowOf, Value.ownBlock, eq_comm]
theorem rows_only {B s : Nat} {w w' : World} {e : TypeId} {v : Value} {n : Nat} {xs : List Value} {S : Nat → Prop} (h : w.ownsRow B e s v n xs) (ho : Only S w w') (hs : Apart (rowOf v) S) : w'.ownsRow B e s v n xs := by
  obtain ⟨h1, h2⟩ := h
  refine ⟨h1, ?_⟩
  rcases h2 with h2 | ⟨g, cap, cur, rfl, hg, hh, r⟩
  · exact .inl h2
  · exact .inr ⟨g, cap, cur, rfl, hg, by rw [ho.block g (lt_of_block hh) (hs g rfl)]; exact hh, r⟩
theorem rows_above {B s : Nat} {w : World} {e : TypeId} {v : Value} {n : Nat} {xs : List Value} (h : w.ownsRow B e s v n xs) : Above (rowOf v) B := fun k hk => (h.lt k hk).1
/-- A row and a block of another element type lie apart. -/
theorem rows_ne {B s : Nat} {w : World} {e t : TypeId} {v : Value} {n b : Nat} {xs : List Value} {cs : Array Value} (h : w.ownsRow B e s v n xs) (hb : Blk w b t cs) (hne : e ≠ t) : ¬ rowOf v b := by
  rcases h.2 with ⟨rfl, _⟩ | ⟨g, cap, cur, rfl, hg, hh, r⟩
  · exact rowOf_none _ _ _
  · intro hk
    obtain rfl := rowOf_some.1 hk
    exact hne (Blk.inj (show Blk w _ _ cur from hh) hb).2
theorem rows_apart {B B' s s' : Nat} {w : World} {e e' : TypeId} {v v' : Value} {n n' : Nat} {xs xs' : List Value} (h : w.ownsRow B e s v n xs) (h' : w.ownsRow B' e' s' v' n' xs') (hne : e ≠ e') : Apart (rowOf v) (rowOf v') := by
  intro b hv hv'
  rcases h'.2 with ⟨rfl, _⟩ | ⟨g, cap, cur, rfl, hg, hh, r⟩
  · exact rowOf_none _ _ _ hv'
  · obtain rfl := rowOf_some.1 hv'
    exact rows_ne h (show Blk w _ _ cur from hh) hne hv
theorem rows_base {B B' s : Nat} {w : World} {e : TypeId} {v : Value} {n : Nat} {xs : List Value} (h : w.ownsRow B e s v n xs) (hB : B' ≤ B) : w.ownsRow B' e s v n xs := by
  obtain ⟨h1, h2⟩ := h
  refine ⟨h1, ?_⟩
  rcases h2 with h2 | ⟨g, cap, cur, rfl, hg, r⟩
  · exact .inl h2
  · exact .inr ⟨g, cap, cur, rfl, Nat.le_trans hB hg, r⟩
end Go.Proofs.Ytdjehgnkpbkdbaa
namespace Go.Proofs.Ytdjehgnkpbkdbaa
open Go.RowKit
open Go.Maps (Keyed)
abbrev MD := DataW Unit
abbrev MR := Value → Option (MD × List MemPlace)
/-- The key k as a map has it. -/
def kLit (k : Nat) : Lit := .int .i64 k
theorem kLit_inj {a b : Nat} (h : kLit a = kLit b) : a = b := by
  unfold kLit at h; injection h with _ h; omega
theorem kLit_wf (k : Nat) (hk : k < 64) : (Lit.int .i64 (k : Int)).wf = true := WalkArith.wf_i64 (by omega)
theorem kLit_key (k : Nat) : WideAt.IsKeyLit (kLit k) := by unfold kLit; simp [WideAt.IsKeyLit]
/-- The map in block b holds just what f says, read by R. -/
structure IMap (P : Program) (K : TypeId) (R : MR) (w : World) (b : Nat) (f : Nat → Option MD) (D : MD) : Prop where
  own : w.ownsMap P K R b 64 D
  keys : ∀ l, Maps.has D l = true → ∃ k : Nat, k < 64 ∧ l = kLit k
  at_ : ∀ k : Nat, k < 64 → ∀ z, D.atKey (kLit k) z = (f k).getD z
variable {P : Program} {K : TypeId} {R : MR} {w : World} {b : Nat} {f : Nat → Option MD} {D : MD}
theorem IMap.has (h : IMap P K R w b f D) (k : Nat) (hk : k < 64) : Maps.has D (kLit k) = (f k).isSome := by
  cases hf : f k with
  | none => exact Maps.has_false_of_atKey (fun z => by rw [h.at_ k hk, hf]; rfl)
  | some y => exact Maps.has_true_of_atKey (y := y) (fun z => by rw [h.at_ k hk, hf]; rfl)
theorem own_congr {w' : World} {n : Nat} (h : w.ownsMap P K R b n D) (hb : w'.heap[b]? = w.heap[b]?) : w'.ownsMap P K R b n D := by
  obtain ⟨es, clock, h1, r⟩ := h
  exact ⟨es, clock, hb.trans h1, r⟩
theorem IMap.congr {w' : World} (h : IMap P K R w b f D) (hb : w'.heap[b]? = w.heap[b]?) : IMap P K R w' b f D := ⟨own_congr h.own hb, h.keys, h.at_⟩
theorem IMap.only {S : Nat → Prop} {w' : World} (h : IMap P K R w b f D) (o : Only S w w') (hn : ¬ S b) : IMap P K R w' b f D := h.congr (o.block b h.own.lt hn)
theorem IMap.lt (h : IMap P K R w b f D) : b < w.heap.size := h.own.lt
theorem nodup_bound64 : ∀ (n : Nat) (l : List Nat), l.Nodup → (∀ x ∈ l, x < n) → l.length ≤ n := by
  intro n
  induction n with
  | zero =>
    intro l _ h
    cases l with
    | nil => simp
    | cons a l => exact absurd (h a (by simp)) (by omega)
  | succ n ih =>
    intro l nd h
    by_cases hm : n ∈ l
    · have h1 := ih (l.erase n) (nd.erase n) (fun x hx => by
        have hx' := (nd.mem_erase_iff).1 hx
        have := h x hx'.2
        have := hx'.1
        omega)
      have h2 := List.length_erase_of_mem hm
      omega
    · have h1 := ih l nd (fun x hx => by
        have := h x hx
        have : x ≠ n := fun e => hm (e ▸ hx)
        omega)
      omega
/-- Entries whose keys are all unlike and all of 0 to 63 are 64 at most. -/
theorem few_entries (es : List (Lit × MD)) (hd : es.Pairwise (fun p q => p.1 ≠ q.1)) (hk : ∀ p ∈ es, ∃ k : Nat, k < 64 ∧ p.1 = kLit k) : es.length ≤ 64 := by
  let g : Lit × MD → Nat := fun p => match p.1 with | .int _ x => x.toNat | _ => 0
  have hg : ∀ p ∈ es, p.1 = kLit (g p) ∧ g p < 64 := fun p hp => by
    obtain ⟨k, hk1, hk2⟩ := hk p hp
    have : g p = k := by simp [g, hk2, kLit]
    rw [this]; exact ⟨hk2, hk1⟩
  have h1 : (es.map g).Nodup := by
    rw [List.nodup_iff_pairwise_ne, List.pairwise_map]
    refine (List.Pairwise.and_mem.1 hd).imp ?_
    rintro a c ⟨ha, hc, hne⟩ e
    exact hne (by rw [(hg a ha).1, (hg c hc).1, e])
  have h2 := nodup_bound64 64 _ h1 (fun x hx => by
    obtain ⟨p, hp, rfl⟩ := List.mem_map.1 hx
    exact (hg p hp).2)
  simpa using h2
theorem own_64 {n : Nat} (h : w.ownsMap P K R b n D) (Kd : Keyed P K) (hk : ∀ l, Maps.has D l = true → ∃ k : Nat, k < 64 ∧ l = kLit k) : w.ownsMap P K R b 64 D := by
  have hE := h.entries Kd
  obtain ⟨es, clock, hb, F, hs, hD⟩ := h
  refine ⟨es, clock, hb, F, ?_, hD⟩
  obtain ⟨l, rfl, hp, hl⟩ := hE
  have e1 : l = (es.toList.map (WideElems.rg P K R)).foldr DataW.insert [] := by injection hD
  have e2 : l.length = es.size := by rw [e1, length_read]
  rw [← e2]
  refine few_entries l hp (fun p hm => hk p.1 ?_)
  show l.any _ = true
  exact List.any_eq_true.2 ⟨p, hm, WideAt.sameKey_self (hl p hm)⟩
/-- A look-up. -/
theorem IMap.look {T E : TypeId} (h : IMap P K R w b f D) (Kd : Keyed P K) (hK : P.underlying K = some (.int .i64)) (ht : P.underlying T = some (.map K E)) {z : Value} (hz : (zeroValue E).run P w = .ok z w) {zd : MD} {zp : List MemPlace} (hzd : R z = some (zd, zp)) (k : Nat) (hk : k < 64) :
    ∃ v ps, (Instr.lookup T (.map (some b)) (.int .i64 k) false).run P w = .ok v w ∧ R v = some ((f k).getD zd, ps) := by
  obtain ⟨v, ps, h1, h2⟩ := h.own.lookup Kd ht hz hzd (Maps.keyOf_int_mk hK (kLit_wf k hk))
  refine ⟨v, ps, h1, ?_⟩
  rw [h2]
  have := h.at_ k hk zd
  unfold kLit at this
  rw [this]
/-- A store. -/
theorem IMap.store {T E : TypeId} (h : IMap P K R w b f D) (Kd : Keyed P K) (hK : P.underlying K = some (.int .i64)) (ht : P.underlying T = some (.map K E)) (k : Nat) (hk : k < 64) {v : Value} {d : MD} {ps : List MemPlace} (hv : R v = some (d, ps)) :
    ∃ w' D', (Instr.mapUpdate T (.map (some b)) (.int .i64 k) v).run P w = .ok () w' ∧ IMap P K R w' b (fun j => if j = k then some d else f j) D' ∧ Only (fun c => c = b) w w' := by
  obtain ⟨w', h1, h2, h3⟩ := h.own.update Kd ht (by unfold maxLen; omega) (Maps.keyOf_int_mk hK (kLit_wf k hk)) hv
  have hM : Maps.IsMap D := h.own.isMap
  change w'.ownsMap P K R b (64 + 1) (D.put (kLit k) d) at h2
  have hks : ∀ l, Maps.has (D.put (kLit k) d) l = true → ∃ k : Nat, k < 64 ∧ l = kLit k := by
    intro l hl
    by_cases e : l = kLit k
    · exact ⟨k, hk, e⟩
    · rw [Maps.has_put_other e] at hl
      exact h.keys l hl
  refine ⟨w', _, h1, ⟨own_64 h2 Kd hks, hks, ?_⟩, ⟨h3.os, h3.tape, h3.output, h3.size, fun c hc hn => h3.block c hc (fun e => hn (Option.some.inj e))⟩⟩
  · intro j hj z
    show (D.put (kLit k) d).atKey (kLit j) z = _
    by_cases e : j = k
    · subst e
      rw [Maps.atKey_put_same hM (kLit_key j)]; simp
    · rw [Maps.atKey_put_other (fun e' => e (kLit_inj e')), h.at_ j hj]; simp [e]
/-- A range over the map, under way: 'left' tells which keys are still to come. -/
structure IRange (P : Program) (K : TypeId) (R : MR) (w : World) (b r : Nat) (f : Nat → Option MD) (D : MD) (left : Nat → Bool) (cnt : Nat) : Prop where
  rng : ∃ L : Lit → Bool, w.ranges P K R b r 64 D L cnt ∧ (∀ k, k < 64 → L (kLit k) = left k) ∧ ∀ l, L l = true → ∃ k : Nat, k < 64 ∧ l = kLit k
  keys : ∀ l, Maps.has D l = true → ∃ k : Nat, k < 64 ∧ l = kLit k
  at_ : ∀ k : Nat, k < 64 → ∀ z, D.atKey (kLit k) z = (f k).getD z
theorem ranges_congr {w' : World} {r n cnt : Nat} {L : Lit → Bool} (h : w.ranges P K R b r n D L cnt) (hb : w'.heap[b]? = w.heap[b]?) (hr : w'.heap[r]? = w.heap[r]?) : w'.ranges P K R b r n D L cnt := by
  obtain ⟨es, clock, since, seen, c0, h1, F, hs, hD, h2, rest⟩ := h
  exact ⟨es, clock, since, seen, c0, hb.trans h1, F, hs, hD, hr.trans h2, rest⟩
theorem IRange.congr {w' : World} {r : Nat} {left : Nat → Bool} {cnt : Nat} (h : IRange P K R w b r f D left cnt) (hb : w'.heap[b]? = w.heap[b]?) (hr : w'.heap[r]? = w.heap[r]?) : IRange P K R w' b r f D left cnt := by
  obtain ⟨⟨L, h1, h2, h3⟩, h4, h5⟩ := h
  exact ⟨⟨L, ranges_congr h1 hb hr, h2, h3⟩, h4, h5⟩
theorem IRange.lts {r : Nat} {left : Nat → Bool} {cnt : Nat} (h : IRange P K R w b r f D left cnt) : b < w.heap.size ∧ r < w.heap.size := by
  obtain ⟨L, h1, _⟩ := h.rng
  exact ⟨h1.owns.lt, h1.lt⟩
theorem IRange.only {S : Nat → Prop} {w' : World} {r : Nat} {left : Nat → Bool} {cnt : Nat} (h : IRange P K R w b r f D left cnt) (o : Only S w w') (hb : ¬ S b) (hr : ¬ S r) : IRange P K R w' b r f D left cnt :=
  h.congr (o.block b h.lts.1 hb) (o.block r h.lts.2 hr)
theorem IRange.left_eq {r : Nat} {left : Nat → Bool} {cnt : Nat} (h : IRange P K R w b r f D left cnt) : w.rangeLeft b r = cnt := by
  obtain ⟨L, h1, _⟩ := h.rng
  exact h1.left_eq
/-- 'range m'. -/
theorem IMap.range {T E : TypeId} (h : IMap P K R w b f D) (Kd : Keyed P K) (ht : P.underlying T = some (.map K E)) :
    ∃ w' cnt, (Instr.range T (.map (some b))).run P w = .ok (.pointer (some ⟨w.heap.size, 0, none⟩)) w' ∧ IRange P K R w' b w.heap.size f D (fun k => (f k).isSome) cnt ∧ Only0 w w' ∧ w'.heap.size = w.heap.size + 1 := by
  obtain ⟨w', h1, h2, h3, h4⟩ := h.own.range Kd ht
  exact ⟨w', _, h1, ⟨⟨_, h2, fun k hk => h.has k hk, h.keys⟩, h.keys, h.at_⟩, ⟨h3.os, h3.tape, h3.output, h3.size, fun c hc _ => h3.block c hc (by simp)⟩, h4⟩
/-- The step of a range: nothing is left, or a key that was left comes. -/
theorem IRange.next {r : Nat} {left : Nat → Bool} {cnt : Nat} (h : IRange P K R w b r f D left cnt) (Kd : Keyed P K) (hK : P.underlying K = some (.int .i64)) (ty : TypeId) :
    (cnt = 0 ∧ (∀ k, k < 64 → left k = false) ∧ (Instr.next (.pointer (some ⟨r, 0, none⟩)) false ty).run P w = .ok (.tuple #[.bool false]) w) ∨
    ∃ (k : Nat) (v : Value) (d : MD) (ps : List MemPlace) (w' : World) (cnt' : Nat), k < 64 ∧ left k = true ∧ f k = some d ∧ R v = some (d, ps) ∧ (Instr.next (.pointer (some ⟨r, 0, none⟩)) false ty).run P w = .ok (.tuple #[.bool true, .int .i64 k, v]) w' ∧
      IRange P K R w' b r f D (fun j => left j && !decide (j = k)) cnt' ∧ cnt' < cnt ∧ Only (fun c => c = r) w w' ∧ (Instr.entry (.pointer (some ⟨r, 0, none⟩))).run P w' = .ok (.tuple #[.int .i64 k, v]) w' := by
  obtain ⟨L, h1, h2, h3⟩ := h.rng
  rcases h1.next Kd ty with ⟨h0, hl, hrun⟩ | ⟨key, v, kl, y, w', cnt', hkey, hlk, hv, hat, hrun, hrg, hlt, hgr, hsz, hen⟩
  · exact .inl ⟨h0, fun k hk => by rw [← h2 k hk, hl], hrun⟩
  · obtain ⟨k, hk, rfl⟩ := h3 kl hlk
    obtain ⟨x, rfl, hx, _⟩ := Maps.keyOf_int_inv hK hkey
    obtain rfl : x = (k : Int) := by unfold kLit at hx; injection hx with _ hx; exact hx.symm
    have hf : f k = some y.1 := by
      have := fun z => (h.at_ k hk z).symm.trans (hat z)
      cases hfk : f k with
      | none =>
        rw [hfk] at this
        have e1 : y.1 = .nil := (this .nil).symm
        have e2 : y.1 = .lit (.bool true) := (this (.lit (.bool true))).symm
        rw [e1] at e2; cases e2
      | some d => rw [hfk] at this; exact congrArg some (this .nil)
    refine .inr ⟨k, v, y.1, y.2, w', cnt', hk, by rw [← h2 k hk]; exact hlk, hf, hv, hrun, ⟨⟨_, hrg, fun j hj => ?_, fun l hl => h3 l (by simp at hl; exact hl.1)⟩, h.keys, h.at_⟩, hlt, ⟨hgr.os, hgr.tape, hgr.output, hgr.size, fun c hc hn => hgr.block c hc (fun e => hn (Option.some.inj e))⟩, hen⟩
    rw [h2 j hj]
    congr 1
    by_cases e : j = k
    · subst e; simp [WideAt.sameKey_self (kLit_key j)]
    · simp [e, Maps.sameKey_ne (fun e' => e (kLit_inj e'))]
end Go.Proofs.Ytdjehgnkpbkdbaa
namespace Go.Proofs.Ytdjehgnkpbkdbaa
/-- A version. -/
structure Ver where
  key : Int
  value : Int
  by_ : Int
  beg : Int
  fin : Int
  dead : Bool
instance : Inhabited Ver := ⟨⟨0, 0, 0, 0, 0, false⟩⟩
/-- What a transaction wrote of a key: its own version, the one that was there (their numbers), and whether the key is there for it. -/
structure Cel where
  own : Option Nat
  old : Option Nat
  there : Bool
structure Tx where
  id : Int
  level : Int
  beg : Int
  ops : Int
  cells : Nat → Option Cel
  got : Nat → Bool
  looked : Nat → Bool
/-- The Model: l: the versions that take a slot, by their numbers; vs: all versions that ever were made. -/
structure St where
  slots : Int
  limit : Int
  now : Int
  made : Int
  l : List Nat
  vs : List Ver
  tx : Nat → Option Tx
structure Res where
  e : Int
  value : Int
  pairs : List (Int × Int)
  over : Int
  reason : Int
def Res.zero : Res := ⟨0, 0, [], 0, 0⟩
def Res.err (e : Int) : Res := ⟨e, 0, [], 0, 0⟩
structure MOp where
  kind : Int
  key : Int
  hi : Int
  value : Int
def upd {α : Type} (f : Nat → α) (k : Nat) (x : α) : Nat → α := fun j => if j = k then x else f j
theorem upd_same {α : Type} (f : Nat → α) (k : Nat) (x : α) : upd f k x k = x := by simp [upd]
theorem upd_other {α : Type} (f : Nat → α) (k : Nat) (x : α) {j : Nat} (h : j ≠ k) : upd f k x j = f j := by simp [upd, h]
def St.ver (s : St) (i : Nat) : Ver := s.vs.getD i default
def visB (v : Ver) (key at_ : Int) : Bool := decide (v.key = key) && decide (0 < v.beg) && decide (v.beg ≤ at_) && (decide (v.fin = 0) || decide (at_ < v.fin))
def St.at (s : St) (key at_ : Int) : Option Nat := s.l.find? fun i => visB (s.ver i) key at_
def St.sees (s : St) (t : Tx) (k : Nat) : Option Nat := match t.cells k with
  | none => s.at k t.beg
  | some c => if c.there then c.own else none
def St.setTx (s : St) (j : Nat) (t : Option Tx) : St := { s with tx := upd s.tx j t }
def Tx.look (t : Tx) (k : Nat) : Tx := if (t.cells k).isNone then { t with looked := upd t.looked k true } else t
def Tx.mark (t : Tx) (k : Nat) : Tx := if (t.cells k).isNone then { t with got := upd t.got k true } else t
def Tx.put (t : Tx) (k : Nat) (c : Cel) : Tx := { t with cells := upd t.cells k (some c) }
def holderB (s : St) (j k i : Nat) : Bool := match s.tx i with
  | some u => !decide (i = j) && (u.cells k).isSome
  | none => false
def St.others (s : St) (j k : Nat) : Bool := (List.range 8).any (holderB s j k)
def laterB (v : Ver) (key at_ : Int) : Bool := decide (v.key = key) && (decide (at_ < v.beg) || decide (at_ < v.fin))
def St.later (s : St) (key at_ : Int) : Bool := s.l.any fun i => laterB (s.ver i) key at_
def St.newCel (s : St) (t : Tx) (k : Nat) : Cel := ⟨none, s.at k t.beg, (s.at k t.beg).isSome⟩
def St.take (s : St) (j : Nat) (t : Tx) (k : Nat) : Option Cel × Tx := match t.cells k with
  | some c => (some c, t)
  | none => if s.others j k || s.later k t.beg then (none, t) else (some (s.newCel t k), t.put k (s.newCel t k))
def St.setVal (s : St) (i : Nat) (x : Int) : St := { s with vs := s.vs.set i { s.ver i with value := x } }
def St.grow (s : St) (v : Ver) : St := { s with vs := s.vs ++ [v], l := s.l ++ [s.vs.length] }
/-- A write: the reason why it may not be, or 0; the state behind it. -/
def St.write (s : St) (j : Nat) (t : Tx) (kind : Int) (k : Nat) (value : Int) : Int × St := match s.take j t k with
  | (none, _) => (2, s)
  | (some c, t1) => if kind = 4 then (0, s.setTx j (some (t1.put k { c with there := false })))
    else match c.own with
      | none => if s.slots ≤ s.l.length then (5, s.setTx j (some t1))
        else (0, (s.grow ⟨k, value, t.id, 0, 0, false⟩).setTx j (some (t1.put k { c with own := some s.vs.length, there := true })))
      | some i => (0, (s.setVal i value).setTx j (some (t1.put k { c with there := true })))
def anyC (f : Nat → Option Cel) (p : Cel → Bool) : Bool := (List.range 64).any fun k => match f k with
  | some c => p c
  | none => false
def isOwn (i : Nat) (c : Cel) : Bool := decide (c.own = some i)
def isOld (i : Nat) (c : Cel) : Bool := decide (c.old = some i)
def isGone (i : Nat) (c : Cel) : Bool := decide (c.own = some i) && !c.there
/-- A version behind an abort of a transaction with these cells. -/
def killV (f : Nat → Option Cel) (i : Nat) (v : Ver) : Ver := if anyC f (isOwn i) then { v with dead := true } else v
/-- A version behind a commit. -/
def doneV (f : Nat → Option Cel) (now : Int) (i : Nat) (v : Ver) : Ver :=
  { v with beg := if anyC f (isOwn i) then now else v.beg, fin := if anyC f (isOld i) || anyC f (isGone i) then now else v.fin }
def St.kill (s : St) (j : Nat) (t : Tx) : St := { s with vs := s.vs.mapIdx (killV t.cells), tx := upd s.tx j none }
def St.done (s : St) (j : Nat) (t : Tx) : St := { s with vs := s.vs.mapIdx (doneV t.cells s.now), tx := upd s.tx j none }
def abortRes (e reason : Int) : Res := ⟨e, 0, [], 4, reason⟩
def Tx.keysOf (t : Tx) : Nat → Bool := if t.level = 2 then t.got else t.looked
def St.holds (s : St) (t : Tx) (at_ : Int) : Bool := decide (t.level = 1) || (List.range 64).all fun k => !t.keysOf k || decide (s.at k at_ = s.at k t.beg)
def St.tick (s : St) : St := { s with now := s.now + 1 }
def St.commit (s : St) (j : Nat) (t : Tx) : Res × St :=
  if s.limit ≤ s.now then (abortRes 14 6, s.kill j t)
  else if s.tick.holds t (s.now + 1) then (⟨0, 0, [], 3, 0⟩, s.tick.done j t)
  else (abortRes 14 3, s.tick.kill j t)
def St.get (s : St) (j : Nat) (t : Tx) (k : Nat) : Res × St := match s.sees t k with
  | none => (.err 11, s.setTx j (some (t.look k)))
  | some i => (⟨0, (s.ver i).value, [], 0, 0⟩, s.setTx j (some ((t.look k).mark k)))
def St.pairOf (s : St) (t : Tx) (k : Nat) : Option (Int × Int) := (s.sees t k).map fun i => ((k : Int), (s.ver i).value)
/-- The keys from lo on, n of them. -/
def keysFrom (lo n : Nat) : List Nat := (List.range n).map (lo + ·)
def Tx.lookAll (t : Tx) (lo n : Nat) : Tx := { t with looked := fun k => t.looked k || (decide (lo ≤ k) && decide (k < lo + n)) }
def St.scan (s : St) (j : Nat) (t : Tx) (lo n : Nat) : Res × St := (⟨0, 0, (keysFrom lo n).filterMap (s.pairOf t), 0, 0⟩, s.setTx j (some (t.lookAll lo n)))
def St.change (s : St) (j : Nat) (t : Tx) (kind : Int) (k : Nat) (value : Int) : Res × St :=
  if (s.sees t k).isSome = decide (kind = 2) then (.err (if (s.sees t k).isSome then 12 else 11), s.setTx j (some (t.look k)))
  else match s.write j t kind k value with
    | (r, s1) => if r = 0 then (.zero, s1) else (abortRes 14 r, match s1.tx j with | some t1 => s1.kill j t1 | none => s1)
def keyOkB (k : Int) : Bool := decide (0 ≤ k) && decide (k ≤ 63)
def opOkB (o : MOp) : Bool :=
  if o.kind = 1 ∨ o.kind = 4 then keyOkB o.key && decide (o.hi = 0) && decide (o.value = 0)
  else if o.kind = 2 ∨ o.kind = 3 then keyOkB o.key && decide (o.hi = 0) && decide (0 ≤ o.value) && decide (o.value ≤ 65535)
  else if o.kind = 5 then keyOkB o.key && decide (o.key ≤ o.hi) && decide (o.hi ≤ 63) && decide (o.value = 0)
  else if o.kind = 6 ∨ o.kind = 7 then decide (o.key = 0) && decide (o.hi = 0) && decide (o.value = 0)
  else false
def endsB (o : MOp) : Bool := decide (o.kind = 6) || decide (o.kind = 7)
def Tx.op (t : Tx) : Tx := { t with ops := t.ops + 1 }
def sessB (j : Int) : Bool := decide (0 ≤ j) && decide (j < 8)
def levelB (n : Int) : Bool := decide (1 ≤ n) && decide (n ≤ 3)
/-- A call that may be, of a transaction that lives. -/
def St.call (s : St) (j : Nat) (t : Tx) (o : MOp) : Res × St :=
  if o.kind = 6 then s.commit j t
  else if o.kind = 7 then (abortRes 0 1, s.kill j t)
  else if o.kind = 1 then s.get j t.op o.key.toNat
  else if o.kind = 5 then s.scan j t.op o.key.toNat (o.hi + 1 - o.key).toNat
  else (s.setTx j (some t.op)).change j t.op o.kind o.key.toNat o.value
def St.do_ (s : St) (j : Int) (o : MOp) : Res × Int × St :=
  if sessB j then match s.tx j.toNat with
    | none => (.zero, 9, s)
    | some t => if opOkB o then if decide (12 ≤ t.ops) && !endsB o then (.zero, 65, s)
        else ((s.call j.toNat t o).1, 0, (s.call j.toNat t o).2)
      else (.zero, 9, s)
  else (.zero, 1, s)
def newTx (id level beg : Int) : Tx := ⟨id, level, beg, 0, fun _ => none, fun _ => false, fun _ => false⟩
def St.begin (s : St) (j level : Int) : Int × Int × St :=
  if sessB j && levelB level then
    if (s.tx j.toNat).isSome then (0, 9, s)
    else if 2000 ≤ s.made then (0, 65, s)
    else if s.limit ≤ s.now then (0, 16, s)
    else (s.made + 1, 0, { s with made := s.made + 1, now := s.now + 1, tx := upd s.tx j.toNat (some (newTx (s.made + 1) level (s.now + 1))) })
  else (0, 1, s)
def St.low (s : St) : Int := (List.range 8).foldl (fun a j => match s.tx j with | some t => if t.beg < a then t.beg else a | none => a) 18446744073709551615
def goneB (v : Ver) (low : Int) : Bool := v.dead || (decide (0 < v.fin) && decide (v.fin ≤ low))
def St.kept (s : St) : List Nat := s.l.filter fun i => !goneB (s.ver i) s.low
def St.collect (s : St) : St := { s with l := s.kept }
def St.pairs (s : St) (at_ : Int) : List (Int × Int) := (List.range 64).filterMap fun (k : Nat) => (s.at k at_).map fun i => ((k : Int), (s.ver i).value)
def newSt (slots limit : Int) : St := ⟨slots, limit, 0, 0, [], [], fun _ => none⟩
def confB (slots limit : Int) : Bool := decide (1 ≤ slots) && decide (slots ≤ 256) && decide (1 ≤ limit) && decide (limit ≤ 1099511627776)
/-- What holds of every Model. -/
structure Ok (s : St) : Prop where
  slots : 1 ≤ s.slots ∧ s.slots ≤ 256
  limit : 1 ≤ s.limit ∧ s.limit ≤ 1099511627776
  now : 0 ≤ s.now ∧ s.now ≤ s.limit
  made : 0 ≤ s.made ∧ s.made ≤ 2000
  few : s.l.length ≤ s.slots
  lin : ∀ i ∈ s.l, i < s.vs.length
  ops : ∀ j t, s.tx j = some t → 0 ≤ t.ops ∧ t.ops ≤ 12
  refs : ∀ j t k c, s.tx j = some t → t.cells k = some c → (∀ i, c.own = some i → i < s.vs.length) ∧ (∀ i, c.old = some i → i < s.vs.length)
end Go.Proofs.Ytdjehgnkpbkdbaa
namespace Go.Proofs.Ytdjehgnkpbkdbaa
open Go.RowKit
open Go.Maps (Keyed)
set_option linter.unusedVariables false
/-- Where a Model's parts lie: the row of versions; the versions; the transactions; their maps (0: cells, 1: got, 2: looked); their cells. -/
structure Ad where
  la : Option Addr
  lc : Nat
  va : Nat → Nat
  tb : Nat → Nat
  mb : Nat → Nat → Nat
  ca : Nat → Nat → Nat
abbrev at0 (b : Nat) : Addr := ⟨b, 0, none⟩
def ptrOf (va : Nat → Nat) (o : Option Nat) : Value := .pointer (o.map fun i => at0 (va i))
def verCells (v : Ver) : Array Value := #[.int .i64 v.key, .int .i64 v.value, .int .i64 v.by_, .int .u64 v.beg, .int .u64 v.fin, .bool v.dead]
def celCells (va : Nat → Nat) (c : Cel) : Array Value := #[ptrOf va c.own, ptrOf va c.old, .bool c.there]
def txCells (A : Ad) (j : Nat) (t : Tx) : Array Value := #[.int .i64 t.id, .int .i64 t.level, .int .u64 t.beg, .int .i64 t.ops, .map (some (A.mb j 0)), .map (some (A.mb j 1)), .map (some (A.mb j 2))]
def txPtr (A : Ad) (tx : Nat → Option Tx) (j : Nat) : Value := .pointer ((tx j).map fun _ => at0 (A.tb j))
def modCells (A : Ad) (s : St) : Array Value := #[.int .i64 s.slots, .int .u64 s.limit, .int .u64 s.now, .int .i64 s.made, .slice A.la s.l.length A.lc,
  txPtr A s.tx 0, txPtr A s.tx 1, txPtr A s.tx 2, txPtr A s.tx 3, txPtr A s.tx 4, txPtr A s.tx 5, txPtr A s.tx 6, txPtr A s.tx 7]
/-- How a pointer reads. -/
def ptrElem : MR := fun v => match v with
  | .pointer none => some (.nil, [])
  | .pointer (some ⟨b, 0, none⟩) => some (.lit (.int .i64 b), [])
  | _ => none
theorem ptrElem_inv {v : Value} {d : MD} {ps : List MemPlace} (h : ptrElem v = some (d, ps)) : (v = .pointer none ∧ d = .nil) ∨ ∃ b : Nat, v = .pointer (some (at0 b)) ∧ d = .lit (.int .i64 b) := by
  unfold ptrElem at h
  split at h
  · simp at h; exact .inl ⟨rfl, h.1.symm⟩
  · simp at h; exact .inr ⟨_, rfl, h.1.symm⟩
  · simp at h
abbrev kInt : TypeId := 3
theorem keyed : Keyed Try.prog kInt := Maps.int_keyed Try.underlying3
def cMap (ca : Nat → Nat) (cells : Nat → Option Cel) : Nat → Option MD := fun k => (cells k).map fun _ => .lit (.int .i64 (ca k))
def bMap (f : Nat → Bool) : Nat → Option MD := fun k => if f k then some (.lit (.bool true)) else none
abbrev CMap (w : World) (b : Nat) (ca : Nat → Nat) (cells : Nat → Option Cel) : Prop := ∃ D, IMap Try.prog kInt ptrElem w b (cMap ca cells) D
abbrev BMap (w : World) (b : Nat) (f : Nat → Bool) : Prop := ∃ D, IMap Try.prog kInt (plainElem Try.prog 4) w b (bMap f) D
theorem CMap.lt {w : World} {b : Nat} {ca : Nat → Nat} {cells : Nat → Option Cel} (h : CMap w b ca cells) : b < w.heap.size := by obtain ⟨D, h⟩ := h; exact h.lt
theorem CMap.only {w w' : World} {b : Nat} {ca : Nat → Nat} {cells : Nat → Option Cel} {S : Nat → Prop} (h : CMap w b ca cells) (o : Only S w w') (hn : ¬ S b) : CMap w' b ca cells := by obtain ⟨D, h⟩ := h; exact ⟨D, h.only o hn⟩
theorem BMap.only {w w' : World} {b : Nat} {f : Nat → Bool} {S : Nat → Prop} (h : BMap w b f) (o : Only S w w') (hn : ¬ S b) : BMap w' b f := by obtain ⟨D, h⟩ := h; exact ⟨D, h.only o hn⟩
theorem own_ne_blk {P : Program} {K : TypeId} {R : MR} {w : World} {b n c : Nat} {D : MD} {t : TypeId} {cs : Array Value} (h : w.ownsMap P K R b n D) (hb : Blk w c t cs) : b ≠ c := by
  rintro rfl
  obtain ⟨es, clock, h1, _⟩ := h
  unfold Blk at hb
  rw [hb] at h1; cases h1
theorem CMap.ne {w : World} {b c : Nat} {ca : Nat → Nat} {cells : Nat → Option Cel} {t : TypeId} {cs : Array Value} (h : CMap w b ca cells) (hb : Blk w c t cs) : b ≠ c := by obtain ⟨D, h⟩ := h; exact own_ne_blk h.own hb
theorem BMap.ne {w : World} {b c : Nat} {f : Nat → Bool} {t : TypeId} {cs : Array Value} (h : BMap w b f) (hb : Blk w c t cs) : b ≠ c := by obtain ⟨D, h⟩ := h; exact own_ne_blk h.own hb
theorem Blk.ne {w : World} {b c : Nat} {t t' : TypeId} {cs cs' : Array Value} (h : Blk w b t cs) (h' : Blk w c t' cs') (ht : t ≠ t') : b ≠ c := by
  rintro rfl
  exact ht (h.inj h').2
/-- A transaction lies at its place. -/
structure TxIn (w : World) (P : Nat → Prop) (va : Nat → Nat) (A : Ad) (j : Nat) (t : Tx) : Prop where
  blk : Blk w (A.tb j) 85 (txCells A j t)
  cm : CMap w (A.mb j 0) (A.ca j) t.cells
  gm : BMap w (A.mb j 1) t.got
  km : BMap w (A.mb j 2) t.looked
  cel : ∀ k c, t.cells k = some c → k < 64 ∧ Blk w (A.ca j k) 106 (celCells va c) ∧ P (A.ca j k)
  pt : P (A.tb j)
  pm : ∀ q, q < 3 → P (A.mb j q)
/-- All transactions lie at their places, each in blocks of its own. -/
structure TxsIn (w : World) (P : Nat → Prop) (va : Nat → Nat) (A : Ad) (tx : Nat → Option Tx) : Prop where
  one : ∀ j t, tx j = some t → j < 8 ∧ TxIn w P va A j t
  tinj : ∀ i j t u, tx i = some t → tx j = some u → A.tb i = A.tb j → i = j
  minj : ∀ i j t u p q, tx i = some t → tx j = some u → p < 3 → q < 3 → A.mb i p = A.mb j q → i = j ∧ p = q
  cinj : ∀ i j t u k l c d, tx i = some t → tx j = some u → t.cells k = some c → u.cells l = some d → A.ca i k = A.ca j l → i = j ∧ k = l
structure VersIn (w : World) (P : Nat → Prop) (va : Nat → Nat) (vs : List Ver) : Prop where
  blk : ∀ i, i < vs.length → Blk w (va i) 79 (verCells (vs.getD i default)) ∧ P (va i)
  inj : ∀ i j, i < vs.length → j < vs.length → va i = va j → i = j
structure MIn (B : Nat) (w : World) (P : Nat → Prop) (m : Nat) (s : St) (A : Ad) : Prop where
  mod : Blk w m 54 (modCells A s)
  row : w.ownsRow B 76 1 (.slice A.la s.l.length A.lc) s.l.length (s.l.map fun i => .pointer (some (at0 (A.va i))))
  vers : VersIn w P A.va s.vs
  txs : TxsIn w P A.va A s.tx
  ok : Ok s
  pm : P m
  pr : ∀ b, rowOf (.slice A.la s.l.length A.lc) b → P b
  under : Under P w.heap.size
  above : Above P B
theorem TxIn.only {w w' : World} {P S : Nat → Prop} {va : Nat → Nat} {A : Ad} {j : Nat} {t : Tx} (h : TxIn w P va A j t) (o : Only S w w') (ht : ¬ S (A.tb j)) (hm : ∀ q, q < 3 → ¬ S (A.mb j q)) (hc : ∀ k c, t.cells k = some c → ¬ S (A.ca j k)) : TxIn w' P va A j t :=
  ⟨o.blk h.blk ht, h.cm.only o (hm 0 (by omega)), h.gm.only o (hm 1 (by omega)), h.km.only o (hm 2 (by omega)), fun k c hk => ⟨(h.cel k c hk).1, o.blk (h.cel k c hk).2.1 (hc k c hk), (h.cel k c hk).2.2⟩, h.pt, h.pm⟩
theorem TxIn.toward {w : World} {P Q : Nat → Prop} {va : Nat → Nat} {A : Ad} {j : Nat} {t : Tx} (h : TxIn w P va A j t) (hp : ∀ b, P b → Q b) : TxIn w Q va A j t :=
  ⟨h.blk, h.cm, h.gm, h.km, fun k c hk => ⟨(h.cel k c hk).1, (h.cel k c hk).2.1, hp _ (h.cel k c hk).2.2⟩, hp _ h.pt, fun q hq => hp _ (h.pm q hq)⟩
theorem TxsIn.only {w w' : World} {P S : Nat → Prop} {va : Nat → Nat} {A : Ad} {tx : Nat → Option Tx} (h : TxsIn w P va A tx) (o : Only S w w') (hn : ∀ j t, tx j = some t → ¬ S (A.tb j) ∧ (∀ q, q < 3 → ¬ S (A.mb j q)) ∧ ∀ k c, t.cells k = some c → ¬ S (A.ca j k)) : TxsIn w' P va A tx :=
  ⟨fun j t ht => ⟨(h.one j t ht).1, (h.one j t ht).2.only o (hn j t ht).1 (hn j t ht).2.1 (hn j t ht).2.2⟩, h.tinj, h.minj, h.cinj⟩
theorem VersIn.only {w w' : World} {P S : Nat → Prop} {va : Nat → Nat} {vs : List Ver} (h : VersIn w P va vs) (o : Only S w w') (hn : ∀ i, i < vs.length → ¬ S (va i)) : VersIn w' P va vs :=
  ⟨fun i hi => ⟨o.blk (h.blk i hi).1 (hn i hi), (h.blk i hi).2⟩, h.inj⟩
theorem VersIn.toward {w : World} {P Q : Nat → Prop} {va : Nat → Nat} {vs : List Ver} (h : VersIn w P va vs) (hp : ∀ b, P b → Q b) : VersIn w Q va vs := ⟨fun i hi => ⟨(h.blk i hi).1, hp _ (h.blk i hi).2⟩, h.inj⟩
/-- Something else turns. -/
theorem MIn.only {B m : Nat} {w w' : World} {P S : Nat → Prop} {s : St} {A : Ad} (h : MIn B w P m s A) (o : Only S w w') (ap : Apart P S) : MIn B w' P m s A :=
  ⟨o.blk h.mod (ap m h.pm), rows_only h.row o (fun b hb => ap b (h.pr b hb)), h.vers.only o (fun i hi => ap _ (h.vers.blk i hi).2),
    h.txs.only o (fun j t ht => ⟨ap _ (h.txs.one j t ht).2.pt, fun q hq => ap _ ((h.txs.one j t ht).2.pm q hq), fun k c hk => ap _ ((h.txs.one j t ht).2.cel k c hk).2.2⟩), h.ok, h.pm, h.pr, h.under.mono o.size, h.above⟩
theorem MIn.only0 {B m : Nat} {w w' : World} {P : Nat → Prop} {s : St} {A : Ad} (h : MIn B w P m s A) (o : Only0 w w') : MIn B w' P m s A := h.only (S := fun _ => False) o (fun _ _ hf => hf)
theorem MIn.drewN {B m : Nat} {w : World} {P : Nat → Prop} {s : St} {A : Ad} (h : MIn B w P m s A) (n : Nat) : MIn B (w.drewN n) P m s A := h.only0 ((Only0.refl w).drewN n)
theorem TxsIn.blkNe {w : World} {P : Nat → Prop} {va : Nat → Nat} {A : Ad} {tx : Nat → Option Tx} (h : TxsIn w P va A tx) {b : Nat} {t0 : TypeId} {cs : Array Value} (hb : Blk w b t0 cs) (h1 : t0 ≠ 85) (h2 : t0 ≠ 106) :
    ∀ j t, tx j = some t → ¬ (A.tb j = b) ∧ (∀ q, q < 3 → ¬ (A.mb j q = b)) ∧ ∀ k c, t.cells k = some c → ¬ (A.ca j k = b) := by
  intro j t ht
  have X := (h.one j t ht).2
  refine ⟨X.blk.ne hb (Ne.symm h1), fun q hq => ?_, fun k c hk => (X.cel k c hk).2.1.ne hb (Ne.symm h2)⟩
  match q, hq with
  | 0, _ => exact X.cm.ne hb
  | 1, _ => exact X.gm.ne hb
  | 2, _ => exact X.km.ne hb
theorem VersIn.blkNe {w : World} {P : Nat → Prop} {va : Nat → Nat} {vs : List Ver} (h : VersIn w P va vs) {b : Nat} {t0 : TypeId} {cs : Array Value} (hb : Blk w b t0 cs) (h1 : t0 ≠ 79) : ∀ i, i < vs.length → ¬ (va i = b) :=
  fun i hi => (h.blk i hi).1.ne hb (Ne.symm h1)
/-- The Model's own block has turned: its numbers and its transactions' pointers. -/
theorem MIn.setMod {B m : Nat} {w w' : World} {P : Nat → Prop} {s : St} {A : Ad} (h : MIn B w P m s A) {slots limit now made : Int} (o : Only (fun b => b = m) w w') (hb : Blk w' m 54 (modCells A { s with slots := slots, limit := limit, now := now, made := made })) (hok : Ok { s with slots := slots, limit := limit, now := now, made := made }) :
    MIn B w' P m { s with slots := slots, limit := limit, now := now, made := made } A :=
  ⟨hb, rows_only h.row o (fun b hb' e => by subst e; exact rows_ne h.row h.mod (by decide) hb'), h.vers.only o (h.vers.blkNe h.mod (by decide)), h.txs.only o (h.txs.blkNe h.mod (by decide) (by decide)), hok, h.pm, h.pr, h.under.mono o.size, h.above⟩
/-- A version has turned. -/
theorem VersIn.set {w w' : World} {P : Nat → Prop} {va : Nat → Nat} {vs : List Ver} (h : VersIn w P va vs) {i : Nat} (hi : i < vs.length) {v : Ver} (o : Only (fun b => b = va i) w w') (hb : Blk w' (va i) 79 (verCells v)) : VersIn w' P va (vs.set i v) := by
  refine ⟨fun j hj => ?_, fun j k hj hk => h.inj j k (by simpa using hj) (by simpa using hk)⟩
  have hj' : j < vs.length := by simpa using hj
  by_cases e : j = i
  · subst e
    refine ⟨?_, (h.blk j hj').2⟩
    rw [List.getD_eq_getElem?_getD, List.getElem?_set_self hj']
    exact hb
  · refine ⟨?_, (h.blk j hj').2⟩
    rw [List.getD_eq_getElem?_getD, List.getElem?_set_ne (Ne.symm e), ← List.getD_eq_getElem?_getD]
    exact o.blk (h.blk j hj').1 (fun e' => e (h.inj j i hj' hi e'))
theorem MIn.setVer {B m : Nat} {w w' : World} {P : Nat → Prop} {s : St} {A : Ad} (h : MIn B w P m s A) {i : Nat} (hi : i < s.vs.length) {v : Ver} (o : Only (fun b => b = A.va i) w w') (hb : Blk w' (A.va i) 79 (verCells v)) : MIn B w' P m { s with vs := s.vs.set i v } A := by
  have h0 := (h.vers.blk i hi).1
  refine ⟨o.blk h.mod (h.mod.ne h0 (by decide)), rows_only h.row o (fun b hb' e => by subst e; exact rows_ne h.row h0 (by decide) hb'), h.vers.set hi o hb, h.txs.only o (h.txs.blkNe h0 (by decide) (by decide)), ?_, h.pm, h.pr, h.under.mono o.size, h.above⟩
  exact ⟨h.ok.slots, h.ok.limit, h.ok.now, h.ok.made, h.ok.few, fun j hj => by simpa using h.ok.lin j hj, h.ok.ops, fun j t k c ht hc => by simpa using h.ok.refs j t k c ht hc⟩
/-- Transaction j has turned, and nothing of the others. -/
theorem TxsIn.set {w w' : World} {P S : Nat → Prop} {va : Nat → Nat} {A : Ad} {tx : Nat → Option Tx} (h : TxsIn w P va A tx) {j : Nat} {t t' : Tx} (ht : tx j = some t) (hs : ∀ k, (t'.cells k).isSome = (t.cells k).isSome) (o : Only S w w')
    (hn : ∀ i u, i ≠ j → tx i = some u → ¬ S (A.tb i) ∧ (∀ q, q < 3 → ¬ S (A.mb i q)) ∧ ∀ k c, u.cells k = some c → ¬ S (A.ca i k)) (h' : TxIn w' P va A j t') : TxsIn w' P va A (upd tx j (some t')) := by
  have back : ∀ i u, upd tx j (some t') i = some u → ∃ u', tx i = some u' ∧ ∀ k c, u.cells k = some c → ∃ c', u'.cells k = some c' := by
    intro i u hu
    by_cases e : i = j
    · subst e
      rw [upd_same] at hu; cases hu
      refine ⟨t, ht, fun k c hk => ?_⟩
      have := hs k; rw [hk] at this
      exact Option.isSome_iff_exists.1 this.symm
    · rw [upd_other _ _ _ e] at hu
      exact ⟨u, hu, fun k c hk => ⟨c, hk⟩⟩
  refine ⟨fun i u hu => ?_, fun i k a b ha hb e => ?_, fun i k a b p q ha hb hp hq e => ?_, fun i k a b p q c d ha hb hc hd e => ?_⟩
  · by_cases e : i = j
    · subst e
      rw [upd_same] at hu; cases hu
      exact ⟨(h.one i t ht).1, h'⟩
    · rw [upd_other _ _ _ e] at hu
      have := hn i u e hu
      exact ⟨(h.one i u hu).1, (h.one i u hu).2.only o this.1 this.2.1 this.2.2⟩
  · obtain ⟨a', ha', _⟩ := back i a ha
    obtain ⟨b', hb', _⟩ := back k b hb
    exact h.tinj i k a' b' ha' hb' e
  · obtain ⟨a', ha', _⟩ := back i a ha
    obtain ⟨b', hb', _⟩ := back k b hb
    exact h.minj i k a' b' p q ha' hb' hp hq e
  · obtain ⟨a', ha', ca⟩ := back i a ha
    obtain ⟨b', hb', cb⟩ := back k b hb
    obtain ⟨c', hc'⟩ := ca p c hc
    obtain ⟨d', hd'⟩ := cb q d hd
    exact h.cinj i k a' b' p q c' d' ha' hb' hc' hd' e
end Go.Proofs.Ytdjehgnkpbkdbaa
namespace Go.Proofs.Ytdjehgnkpbkdbaa
open Go.RowKit
set_option linter.unusedVariables false
set_option linter.unusedSimpArgs false
theorem find_take_none {α : Type} {p : α → Bool} {l : List α} {k : Nat} (h : (l.take k).find? p = none) (hk : k < l.length) (hp : p l[k] = false) : (l.take (k + 1)).find? p = none := by
  rw [List.take_succ_eq_append_getElem hk, List.find?_append, h]; simp [hp]
theorem find_take_some {α : Type} {p : α → Bool} {l : List α} {k : Nat} (h : (l.take k).find? p = none) (hk : k < l.length) (hp : p l[k] = true) : l.find? p = some l[k] := by
  have e : l.take k ++ l[k] :: l.drop (k + 1) = l := by simp
  have e2 := congrArg (List.find? p) e
  rw [List.find?_append, h, Option.none_or, List.find?_cons_of_pos hp] at e2
  exact e2.symm
/-- The row of versions: nothing, or a block that holds their pointers. -/
theorem MIn.rowAt {B m : Nat} {w : World} {P : Nat → Prop} {s : St} {A : Ad} (h : MIn B w P m s A) : (A.la = none ∧ s.l.length = 0 ∧ A.lc = 0) ∨ ∃ g, A.la = some ⟨g, 0, none⟩ ∧ ∀ k, (hk : k < s.l.length) → w.cell? ⟨g, k, none⟩ = some (.pointer (some ⟨A.va s.l[k], 0, none⟩)) := by
  have hr := h.row
  rcases hr.2 with ⟨e, h0⟩ | ⟨g, cap, cur, hv, _⟩
  · injection e with e1 e2 e3
    exact .inl ⟨e1, h0, e3⟩
  · have ha : A.la = some ⟨g, 0, none⟩ := by injection hv
    rw [ha] at hr
    refine .inr ⟨g, ha, fun k hk => ?_⟩
    have hc := World.ownsRow.cellAt hr k (by omega)
    rw [List.getElem?_map, List.getElem?_eq_getElem hk] at hc
    exact hc
theorem MIn.verAt {B m : Nat} {w : World} {P : Nat → Prop} {s : St} {A : Ad} (h : MIn B w P m s A) (k : Nat) (hk : k < s.l.length) : Blk w (A.va s.l[k]) 79 (verCells (s.ver s.l[k])) := (h.vers.blk _ (h.ok.lin _ (List.getElem_mem hk))).1
theorem ret_val {a b : Value} (h : a = b) : Ending.returned a = .returned b := by rw [h]
set_option maxRecDepth 100000 in
set_option maxHeartbeats 4000000 in
theorem md_at {B m : Nat} {w : World} {P : Nat → Prop} {s : St} {A : Ad} (h : MIn B w P m s A) (key at_ : Int) :
    Calls Try.prog 26 #[.pointer (some ⟨m, 0, none⟩), .int .i64 key, .int .u64 at_] w fun e w' => e = .returned (ptrOf A.va (s.at key at_)) ∧ w = w' := by
  have c4 : w.cell? ⟨m, 4, none⟩ = some (.slice A.la s.l.length A.lc) := h.mod.cell 4
  have hlen : s.l.length ≤ 256 := by have := h.ok.few; have := h.ok.slots; omega
  have HH := Lib.hid h
  have HF := Lib.hid (show s.l.find? (fun i => visB (s.ver i) key at_) = s.at key at_ from rfl)
  generalize s.at key at_ = res at HF ⊢
  rcases h.rowAt with ⟨e1, e2, e3⟩ | ⟨g, hg, hrow⟩
  · rw [e1, e2, e3] at c4
    have HR := Lib.hid (show res = none by rw [← HF.out, List.eq_nil_of_length_eq_zero e2]; rfl)
    clear h e1 e2 e3 hlen
    go_enter Try.func26, Try.ntmps26
    go_wp2_with fail
    refine wp_loop_rounds 1 ?_; rw [rounds_succ]
    go_wp2_with fail
    go_ret
    exact ⟨ret_val (by rw [HR.out]; rfl), rfl⟩
  rw [hg] at c4
  have HW := Lib.hid hrow
  clear h hrow hg
  go_enter Try.func26, Try.ntmps26
  go_wp2_with fail
  go_loop [14] (fun i => ∃ k : Nat, k ≤ s.l.length ∧ i = .int .i64 k ∧ Hid ((s.l.take k).find? (fun i => visB (s.ver i) key at_) = none)) (fun i => s.l.length - (intOf i).toNat)
  case atStart => exact ⟨0, Nat.zero_le _, rfl, Lib.hid (by simp)⟩
  case round =>
    obtain ⟨k, hk, rfl, HN⟩ := hrel
    by_cases hlt : k < s.l.length
    · have hb := HH.out.verAt k hlt
      have hp := HW.out k hlt
      have q0 : w.cell? ⟨A.va s.l[k], 0, none⟩ = some (.int .i64 (s.ver s.l[k]).key) := hb.cell 0
      have q3 : w.cell? ⟨A.va s.l[k], 3, none⟩ = some (.int .u64 (s.ver s.l[k]).beg) := hb.cell 3
      have q4 : w.cell? ⟨A.va s.l[k], 4, none⟩ = some (.int .u64 (s.ver s.l[k]).fin) := hb.cell 4
      have HY := Lib.hid (fun hp : visB (s.ver s.l[k]) key at_ = true => HF.out.symm.trans (find_take_some HN.out hlt hp))
      have HZ := Lib.hid (fun hp : visB (s.ver s.l[k]) key at_ = false => find_take_none HN.out hlt hp)
      have HV := Lib.hid (show ptrOf A.va (some s.l[k]) = .pointer (some ⟨A.va s.l[k], 0, none⟩) from rfl)
      clear hb HN
      generalize A.va s.l[k] = a at *
      generalize s.ver s.l[k] = v at *
      obtain ⟨kk, vv, by_, bg, fn, dd⟩ := v
      dsimp only at q0 q3 q4
      have YES : ∀ hv : visB ⟨kk, vv, by_, bg, fn, dd⟩ key at_ = true, Hid (res = some s.l[k]) := fun hv => Lib.hid (HY.out hv)
      have NO : ∀ hv : visB ⟨kk, vv, by_, bg, fn, dd⟩ key at_ = false, Hid ((s.l.take (k + 1)).find? (fun i => visB (s.ver i) key at_) = none) := fun hv => Lib.hid (HZ.out hv)
      have YES' := Lib.hid YES
      have NO' := Lib.hid NO
      clear YES NO HY HZ HF
      by_cases h1 : kk = key
      · subst h1
        by_cases h2 : 0 < bg
        · by_cases h3 : bg ≤ at_
          · by_cases h4 : fn = 0
            · have R := YES'.out (by simp [visB, h2, h3, h4])
              subst h4
              go_wp2_with fail
              go_ret
              exact ⟨ret_val (by rw [R.out, HV.out]; rfl), rfl⟩
            · have h4b : (fn == 0) = false := by simpa using h4
              by_cases h5 : at_ < fn
              · have R := YES'.out (by simp [visB, h2, h3, h5])
                go_wp2_with fail
                go_ret
                exact ⟨ret_val (by rw [R.out, HV.out]; rfl), rfl⟩
              · have R := NO'.out (by simp [visB, h4]; omega)
                go_wp2_with fail
                go_round
                case rel => exact ⟨k + 1, by omega, by go_num, R⟩
                case measure => simp [intOf]; omega
          · have R := NO'.out (by simp [visB]; omega)
            go_wp2_with fail
            go_round
            case rel => exact ⟨k + 1, by omega, by go_num, R⟩
            case measure => simp [intOf]; omega
        · have R := NO'.out (by simp [visB]; omega)
          go_wp2_with fail
          go_round
          case rel => exact ⟨k + 1, by omega, by go_num, R⟩
          case measure => simp [intOf]; omega
      · have h1b : (kk == key) = false := by simpa using h1
        have R := NO'.out (by simp [visB, h1])
        clear h1
        go_wp2_with fail
        go_round
        case rel => exact ⟨k + 1, by omega, by go_num, R⟩
        case measure => simp [intOf]; omega
    · obtain rfl : k = s.l.length := by omega
      have R := Lib.hid (show res = none by rw [← HF.out, ← HN.out, List.take_length])
      go_wp2_with fail
      go_ret
      exact ⟨ret_val (by rw [R.out]; rfl), rfl⟩
end Go.Proofs.Ytdjehgnkpbkdbaa
namespace Go.Proofs.Ytdjehgnkpbkdbaa
open Go.RowKit
set_option linter.unusedVariables false
set_option linter.unusedSimpArgs false
theorem rows_ne_map {P : Program} {K : TypeId} {R : MR} {w : World} {B b s n k : Nat} {D : MD} {e : TypeId} {v : Value} {xs : List Value} (h : w.ownsRow B e s v n xs) (hb : w.ownsMap P K R b k D) : ¬ rowOf v b := by
  rcases h.2 with ⟨rfl, _⟩ | ⟨g, cap, cur, rfl, hg, hh, r⟩
  · exact rowOf_none _ _ _
  · intro hk
    obtain rfl := rowOf_some.1 hk
    exact own_ne_blk hb (show Blk w _ _ cur from hh) rfl
theorem CMap.row {w : World} {b : Nat} {ca : Nat → Nat} {cells : Nat → Option Cel} (hb : CMap w b ca cells) {B s n : Nat} {e : TypeId} {v : Value} {xs : List Value} (h : w.ownsRow B e s v n xs) : ¬ rowOf v b := by obtain ⟨D, hb⟩ := hb; exact rows_ne_map h hb.own
theorem BMap.row {w : World} {b : Nat} {f : Nat → Bool} (hb : BMap w b f) {B s n : Nat} {e : TypeId} {v : Value} {xs : List Value} (h : w.ownsRow B e s v n xs) : ¬ rowOf v b := by obtain ⟨D, hb⟩ := hb; exact rows_ne_map h hb.own
theorem Ok.setTx {s : St} (h : Ok s) {j : Nat} {t : Tx} (ho : 0 ≤ t.ops ∧ t.ops ≤ 12) (hr : ∀ k c, t.cells k = some c → (∀ i, c.own = some i → i < s.vs.length) ∧ (∀ i, c.old = some i → i < s.vs.length)) : Ok (s.setTx j (some t)) := by
  refine ⟨h.slots, h.limit, h.now, h.made, h.few, h.lin, fun i u hu => ?_, fun i u k c hu hc => ?_⟩
  · by_cases e : i = j
    · subst e; simp only [St.setTx, upd_same] at hu; cases hu; exact ho
    · simp only [St.setTx, upd_other _ _ _ e] at hu; exact h.ops i u hu
  · by_cases e : i = j
    · subst e; simp only [St.setTx, upd_same] at hu; cases hu; exact hr k c hc
    · simp only [St.setTx, upd_other _ _ _ e] at hu; exact h.refs i u k c hu hc
theorem txPtr_set {A : Ad} {tx : Nat → Option Tx} {j : Nat} {t t' : Tx} (ht : tx j = some t) (i : Nat) : txPtr A (upd tx j (some t')) i = txPtr A tx i := by
  unfold txPtr
  by_cases e : i = j
  · subst e; rw [upd_same, ht]; rfl
  · rw [upd_other _ _ _ e]
theorem modCells_set {A : Ad} {s : St} {j : Nat} {t t' : Tx} (ht : s.tx j = some t) : modCells A (s.setTx j (some t')) = modCells A s := by
  unfold modCells St.setTx
  simp only [txPtr_set ht]
/-- Transaction j has turned; nothing else has. -/
theorem MIn.turnTx {B m : Nat} {w w' : World} {P S : Nat → Prop} {s : St} {A : Ad} (h : MIn B w P m s A) {j : Nat} {t t' : Tx} (ht : s.tx j = some t) (hs : ∀ k, (t'.cells k).isSome = (t.cells k).isSome) (o : Only S w w') (hm : ¬ S m)
    (hr : Apart (rowOf (.slice A.la s.l.length A.lc)) S) (hv : ∀ i, i < s.vs.length → ¬ S (A.va i)) (hn : ∀ i u, i ≠ j → s.tx i = some u → ¬ S (A.tb i) ∧ (∀ q, q < 3 → ¬ S (A.mb i q)) ∧ ∀ k c, u.cells k = some c → ¬ S (A.ca i k))
    (h' : TxIn w' P A.va A j t') (hok : Ok (s.setTx j (some t'))) : MIn B w' P m (s.setTx j (some t')) A :=
  ⟨by rw [modCells_set ht]; exact o.blk h.mod hm, rows_only h.row o hr, h.vers.only o hv, h.txs.set ht hs o hn h', hok, h.pm, h.pr, h.under.mono o.size, h.above⟩
/-- A block of transaction j's that is a map lies apart from all else. -/
theorem MIn.mapApart {B m : Nat} {w : World} {P : Nat → Prop} {s : St} {A : Ad} (h : MIn B w P m s A) {j q : Nat} {t : Tx} (ht : s.tx j = some t) (hq : q < 3) :
    m ≠ A.mb j q ∧ Apart (rowOf (.slice A.la s.l.length A.lc)) (fun b => b = A.mb j q) ∧ (∀ i, i < s.vs.length → A.va i ≠ A.mb j q) ∧ (∀ i u, s.tx i = some u → A.tb i ≠ A.mb j q ∧ (∀ p, p < 3 → (i ≠ j ∨ p ≠ q) → A.mb i p ≠ A.mb j q) ∧ ∀ k c, u.cells k = some c → A.ca i k ≠ A.mb j q) := by
  have X := (h.txs.one j t ht).2
  have ne : ∀ b t0 cs, Blk w b t0 cs → b ≠ A.mb j q := fun b t0 cs hb => by
    match q, hq with
    | 0, _ => exact (X.cm.ne hb).symm
    | 1, _ => exact (X.gm.ne hb).symm
    | 2, _ => exact (X.km.ne hb).symm
  refine ⟨ne _ _ _ h.mod, fun b hb e => ?_, fun i hi => ne _ _ _ (h.vers.blk i hi).1, fun i u hu => ⟨ne _ _ _ (h.txs.one i u hu).2.blk, fun p hp hd e => ?_, fun k c hk => ne _ _ _ ((h.txs.one i u hu).2.cel k c hk).2.1⟩⟩
  · subst e
    match q, hq with
    | 0, _ => exact X.cm.row h.row hb
    | 1, _ => exact X.gm.row h.row hb
    | 2, _ => exact X.km.row h.row hb
  · obtain ⟨e1, e2⟩ := h.txs.minj i j u t p q hu ht hp hq e
    rcases hd with hd | hd
    · exact hd e1
    · exact hd e2
/-- One of transaction j's sets of keys has turned. -/
theorem MIn.setLooked {B m : Nat} {w w' : World} {P : Nat → Prop} {s : St} {A : Ad} (h : MIn B w P m s A) {j : Nat} {t : Tx} (ht : s.tx j = some t) {f : Nat → Bool} (o : Only (fun b => b = A.mb j 2) w w') (hb : BMap w' (A.mb j 2) f) : MIn B w' P m (s.setTx j (some { t with looked := f })) A := by
  obtain ⟨a1, a2, a3, a4⟩ := h.mapApart ht (q := 2) (by omega)
  have X := (h.txs.one j t ht).2
  have b4 := a4 j t ht
  refine h.turnTx ht (fun k => rfl) o a1 a2 a3 (fun i u hi hu => ⟨(a4 i u hu).1, fun q hq => (a4 i u hu).2.1 q hq (.inl hi), (a4 i u hu).2.2⟩) ?_ (h.ok.setTx (h.ok.ops j t ht) (fun k c hc => h.ok.refs j t k c ht hc))
  exact ⟨o.blk X.blk b4.1, X.cm.only o (b4.2.1 0 (by omega) (.inr (by omega))), X.gm.only o (b4.2.1 1 (by omega) (.inr (by omega))), hb, fun k c hc => ⟨(X.cel k c hc).1, o.blk (X.cel k c hc).2.1 (b4.2.2 k c hc), (X.cel k c hc).2.2⟩, X.pt, X.pm⟩
theorem MIn.setGot {B m : Nat} {w w' : World} {P : Nat → Prop} {s : St} {A : Ad} (h : MIn B w P m s A) {j : Nat} {t : Tx} (ht : s.tx j = some t) {f : Nat → Bool} (o : Only (fun b => b = A.mb j 1) w w') (hb : BMap w' (A.mb j 1) f) : MIn B w' P m (s.setTx j (some { t with got := f })) A := by
  obtain ⟨a1, a2, a3, a4⟩ := h.mapApart ht (q := 1) (by omega)
  have X := (h.txs.one j t ht).2
  have b4 := a4 j t ht
  refine h.turnTx ht (fun k => rfl) o a1 a2 a3 (fun i u hi hu => ⟨(a4 i u hu).1, fun q hq => (a4 i u hu).2.1 q hq (.inl hi), (a4 i u hu).2.2⟩) ?_ (h.ok.setTx (h.ok.ops j t ht) (fun k c hc => h.ok.refs j t k c ht hc))
  exact ⟨o.blk X.blk b4.1, X.cm.only o (b4.2.1 0 (by omega) (.inr (by omega))), hb, X.km.only o (b4.2.1 2 (by omega) (.inr (by omega))), fun k c hc => ⟨(X.cel k c hc).1, o.blk (X.cel k c hc).2.1 (b4.2.2 k c hc), (X.cel k c hc).2.2⟩, X.pt, X.pm⟩
set_option maxRecDepth 100000 in
theorem zero_cell (w : World) : (zeroValue 104).run Try.prog w = .ok (.pointer none) w := by kernel_rfl
def celPtr (A : Ad) (j : Nat) (t : Tx) (k : Nat) : Value := .pointer ((t.cells k).map fun _ => at0 (A.ca j k))
set_option maxRecDepth 100000 in
theorem CMap.look {w : World} {A : Ad} {j : Nat} {t : Tx} (h : CMap w (A.mb j 0) (A.ca j) t.cells) (k : Nat) (hk : k < 64) : (Instr.lookup 82 (.map (some (A.mb j 0))) (.int .i64 k) false).run Try.prog w = .ok (celPtr A j t k) w := by
  obtain ⟨D, h⟩ := h
  obtain ⟨v, ps, h1, h2⟩ := h.look (T := 82) keyed Try.underlying3 Try.underlying82 (zero_cell w) (zd := .nil) (zp := []) rfl k hk
  rw [h1]
  have : v = celPtr A j t k := by
    unfold cMap at h2
    unfold celPtr
    cases hc : t.cells k with
    | none =>
      rw [hc] at h2
      rcases ptrElem_inv h2 with ⟨e, _⟩ | ⟨b, _, e⟩
      · exact e
      · cases e
    | some c =>
      rw [hc] at h2
      rcases ptrElem_inv h2 with ⟨_, e⟩ | ⟨b, e, e2⟩
      · cases e
      · have e2' : (Lit.int .i64 (A.ca j k : Int)) = .int .i64 b := by simpa using e2
        injection e2' with _ e3
        rw [e]
        have : A.ca j k = b := by omega
        rw [this]; rfl
  rw [this]
set_option maxRecDepth 100000 in
theorem BMap.store {w : World} {b : Nat} {f : Nat → Bool} (h : BMap w b f) (k : Nat) (hk : k < 64) : ∃ w', (Instr.mapUpdate 83 (.map (some b)) (.int .i64 k) (.bool true)).run Try.prog w = .ok () w' ∧ BMap w' b (upd f k true) ∧ Only (fun c => c = b) w w' := by
  obtain ⟨D, h⟩ := h
  obtain ⟨w', D', h1, h2, h3⟩ := h.store (T := 83) keyed Try.underlying3 Try.underlying83 k hk (plainElem_bool Try.underlying4 true)
  refine ⟨w', h1, ⟨D', h2.own, h2.keys, fun j hj z => ?_⟩, h3⟩
  rw [h2.at_ j hj z]
  unfold bMap upd
  by_cases e : j = k <;> simp [e]
theorem TxIn.cells {w : World} {P : Nat → Prop} {va : Nat → Nat} {A : Ad} {j : Nat} {t : Tx} (h : TxIn w P va A j t) : w.cell? ⟨A.tb j, 2, none⟩ = some (.int .u64 t.beg) ∧ w.cell? ⟨A.tb j, 4, none⟩ = some (.map (some (A.mb j 0))) ∧ w.cell? ⟨A.tb j, 5, none⟩ = some (.map (some (A.mb j 1))) ∧ w.cell? ⟨A.tb j, 6, none⟩ = some (.map (some (A.mb j 2))) :=
  ⟨h.blk.cell 2, h.blk.cell 4, h.blk.cell 5, h.blk.cell 6⟩
set_option maxRecDepth 100000 in
set_option maxHeartbeats 4000000 in
theorem md_sees {B m : Nat} {w : World} {P : Nat → Prop} {s : St} {A : Ad} (h : MIn B w P m s A) {j : Nat} {t : Tx} (ht : s.tx j = some t) (k : Nat) (hk : k < 64) :
    Calls Try.prog 47 #[.pointer (some ⟨m, 0, none⟩), .pointer (some ⟨A.tb j, 0, none⟩), .int .i64 k] w fun e w' => e = .returned (ptrOf A.va (s.sees t k)) ∧ w = w' := by
  have X := (h.txs.one j t ht).2
  obtain ⟨c2, c4, _, _⟩ := X.cells
  have hrun := X.cm.look k hk
  have C := md_at h k t.beg
  cases hc : t.cells k with
  | none =>
    have HR := Lib.hid (show s.sees t k = s.at k t.beg by simp [St.sees, hc])
    rw [show celPtr A j t k = .pointer none by simp [celPtr, hc]] at hrun
    clear h X ht hc
    go_enter Try.func47, Try.ntmps47
    go_wp2_with fail
    refine C.mono ?_
    rintro e w1 ⟨rfl, rfl⟩
    go_wp2_with fail
    go_ret
    exact ⟨by rw [HR.out]; rfl, rfl⟩
  | some c =>
    have hb := (X.cel k c hc).2.1
    have q0 : w.cell? ⟨A.ca j k, 0, none⟩ = some (ptrOf A.va c.own) := hb.cell 0
    have q2 : w.cell? ⟨A.ca j k, 2, none⟩ = some (.bool c.there) := hb.cell 2
    have HR := Lib.hid (show s.sees t k = if c.there then c.own else none by simp [St.sees, hc])
    rw [show celPtr A j t k = .pointer (some ⟨A.ca j k, 0, none⟩) by simp [celPtr, hc]] at hrun
    clear h X C ht hc hb
    rw [HR.out]
    generalize c.there = th at *
    clear HR
    cases th
    all_goals
      go_enter Try.func47, Try.ntmps47
      go_wp2_with fail
      go_ret
      exact ⟨rfl, rfl⟩
set_option maxRecDepth 100000 in
set_option maxHeartbeats 4000000 in
theorem md_look {B m : Nat} {w : World} {P : Nat → Prop} {s : St} {A : Ad} (h : MIn B w P m s A) {j : Nat} {t : Tx} (ht : s.tx j = some t) (k : Nat) (hk : k < 64) :
    Calls Try.prog 46 #[.pointer (some ⟨m, 0, none⟩), .pointer (some ⟨A.tb j, 0, none⟩), .int .i64 k] w fun e w' => e = .returned (ptrOf A.va (s.sees t k)) ∧ MIn B w' P m (s.setTx j (some (t.look k))) A ∧ Only P w w' := by
  have X := (h.txs.one j t ht).2
  obtain ⟨c2, c4, _, c6⟩ := X.cells
  have hrun := X.cm.look k hk
  have C := md_sees h ht k hk
  obtain ⟨w', hst, hb, ho⟩ := X.km.store k hk
  generalize s.sees t k = res at C ⊢
  have H2 : (t.cells k).isNone = true → MIn B w' P m (s.setTx j (some (t.look k))) A ∧ Only P w w' := fun e => by
    rw [Tx.look, if_pos e]
    exact ⟨h.setLooked ht ho hb, ho.toward (fun b hb => by subst hb; exact X.pm 2 (by omega))⟩
  have H1 : (t.cells k).isNone = false → MIn B w P m (s.setTx j (some (t.look k))) A ∧ Only P w w := fun e => by
    rw [Tx.look, if_neg (by simp [e])]
    refine ⟨?_, Only.refl _ _⟩
    have : s.setTx j (some t) = s := by
      unfold St.setTx
      have : upd s.tx j (some t) = s.tx := by funext i; by_cases e : i = j <;> simp [upd, e, ht]
      rw [this]
    rw [this]; exact h
  cases hc : t.cells k with
  | none =>
    have HE := Lib.hid (H2 (by simp [hc]))
    rw [show celPtr A j t k = .pointer none by simp [celPtr, hc]] at hrun
    clear h X ht hc H1 H2 hb ho
    go_enter Try.func46, Try.ntmps46
    go_wp2_with fail
    refine C.mono ?_
    rintro e w1 ⟨rfl, rfl⟩
    go_wp2_with fail
    go_ret
    exact ⟨rfl, HE.out⟩
  | some c =>
    have HE := Lib.hid (H1 (by simp [hc]))
    rw [show celPtr A j t k = .pointer (some ⟨A.ca j k, 0, none⟩) by simp [celPtr, hc]] at hrun
    clear h X ht hc H1 H2 hb ho hst
    go_enter Try.func46, Try.ntmps46
    go_wp2_with fail
    refine C.mono ?_
    rintro e w1 ⟨rfl, rfl⟩
    go_wp2_with fail
    go_ret
    exact ⟨rfl, HE.out⟩
end Go.Proofs.Ytdjehgnkpbkdbaa
namespace Go.Proofs.Ytdjehgnkpbkdbaa
open Go.RowKit
set_option linter.unusedVariables false
set_option linter.unusedSimpArgs false
theorem TxIn.congrA {w : World} {P : Nat → Prop} {va : Nat → Nat} {A A' : Ad} {j : Nat} {t : Tx} (h : TxIn w P va A j t) (e1 : A'.tb j = A.tb j) (e2 : A'.mb j = A.mb j) (e3 : A'.ca j = A.ca j) : TxIn w P va A' j t := by
  obtain ⟨h1, h2, h3, h4, h5, h6, h7⟩ := h
  refine ⟨?_, ?_, ?_, ?_, ?_, ?_, ?_⟩
  · rw [e1]; unfold txCells at *; rw [e2]; exact h1
  · rw [e2, e3]; exact h2
  · rw [e2]; exact h3
  · rw [e2]; exact h4
  · rw [e3]; exact h5
  · rw [e1]; exact h6
  · rw [e2]; exact h7
theorem CMap.store {w : World} {b : Nat} {ca : Nat → Nat} {cells : Nat → Option Cel} (h : CMap w b ca cells) (k : Nat) (hk : k < 64) (n : Nat) (c : Cel) :
    ∃ w', (Instr.mapUpdate 82 (.map (some b)) (.int .i64 k) (.pointer (some ⟨n, 0, none⟩))).run Try.prog w = .ok () w' ∧ CMap w' b (upd ca k n) (upd cells k (some c)) ∧ Only (fun c => c = b) w w' := by
  obtain ⟨D, h⟩ := h
  obtain ⟨w', D', h1, h2, h3⟩ := h.store (T := 82) keyed Try.underlying3 Try.underlying82 k hk (v := .pointer (some ⟨n, 0, none⟩)) (d := .lit (.int .i64 n)) (ps := []) rfl
  refine ⟨w', h1, ⟨D', h2.own, h2.keys, fun j hj z => ?_⟩, h3⟩
  rw [h2.at_ j hj z]
  unfold cMap upd
  by_cases e : j = k <;> simp [e]
/-- A cell that is new. -/
theorem MIn.newCel {B m : Nat} {w w' : World} {P : Nat → Prop} {s : St} {A : Ad} (h : MIn B w P m s A) {j : Nat} {t : Tx} (ht : s.tx j = some t) {k n : Nat} (hk : k < 64) (hc : t.cells k = none) (c : Cel) (hn : w.heap.size ≤ n) (hn' : n < w'.heap.size) (o : Only (fun b => b = A.mb j 0) w w')
    (hb : Blk w' n 106 (celCells A.va c)) (hm : CMap w' (A.mb j 0) (upd (A.ca j) k n) (upd t.cells k (some c))) (hr : (∀ i, c.own = some i → i < s.vs.length) ∧ (∀ i, c.old = some i → i < s.vs.length)) :
    MIn B w' (fun b => P b ∨ b = n) m (s.setTx j (some (t.put k c))) { A with ca := upd A.ca j (upd (A.ca j) k n) } := by
  obtain ⟨a1, a2, a3, a4⟩ := h.mapApart ht (q := 0) (by omega)
  have X := (h.txs.one j t ht).2
  have b4 := a4 j t ht
  have hB : B ≤ n := by have := h.above m h.pm; have := h.mod.lt; omega
  have old : ∀ i u q c', s.tx i = some u → u.cells q = some c' → A.ca i q < w.heap.size := fun i u q c' hu hq => h.under _ ((h.txs.one i u hu).2.cel q c' hq).2.2
  refine ⟨?_, rows_only h.row o a2, (h.vers.only o a3).toward (fun b hb => .inl hb), ?_, ?_, .inl h.pm, fun b hb => .inl (h.pr b hb), ?_, ?_⟩
  · have := modCells_set (A := A) (t' := t.put k c) ht
    rw [show modCells { A with ca := upd A.ca j (upd (A.ca j) k n) } (s.setTx j (some (t.put k c))) = modCells A (s.setTx j (some (t.put k c))) from rfl, this]
    exact o.blk h.mod a1
  · refine ⟨fun i u hu => ?_, fun i i2 a b ha hb e => ?_, fun i i2 a b p q ha hb hp hq e => ?_, fun i i2 a b p q d d' ha hb hd hd' e => ?_⟩
    · by_cases e : i = j
      · subst e
        simp only [St.setTx, upd_same] at hu; cases hu
        refine ⟨(h.txs.one i t ht).1, o.blk X.blk b4.1, ?_, X.gm.only o (b4.2.1 1 (by omega) (.inr (by omega))), X.km.only o (b4.2.1 2 (by omega) (.inr (by omega))), fun q d hq => ?_, .inl X.pt, fun q hq => .inl (X.pm q hq)⟩
        · show CMap w' (A.mb i 0) (upd A.ca i (upd (A.ca i) k n) i) (upd t.cells k (some c))
          rw [upd_same]; exact hm
        · show q < 64 ∧ Blk w' (upd A.ca i (upd (A.ca i) k n) i q) _ _ ∧ _
          by_cases eq : q = k
          · subst eq
            rw [upd_same, upd_same]
            have : d = c := by simp only [Tx.put, upd_same] at hq; cases hq; rfl
            subst this
            exact ⟨hk, hb, .inr (by show upd A.ca i (upd (A.ca i) q n) i q = n; rw [upd_same, upd_same])⟩
          · rw [upd_same, upd_other _ _ _ eq]
            simp only [Tx.put, upd_other _ _ _ eq] at hq
            exact ⟨(X.cel q d hq).1, o.blk (X.cel q d hq).2.1 (b4.2.2 q d hq), .inl (by show P (upd A.ca i (upd (A.ca i) k n) i q); rw [upd_same, upd_other _ _ _ eq]; exact (X.cel q d hq).2.2)⟩
      · simp only [St.setTx, upd_other _ _ _ e] at hu
        have Y := (h.txs.one i u hu).2
        have y4 := a4 i u hu
        have Z := (Y.only o y4.1 (fun q hq => y4.2.1 q hq (.inl e)) y4.2.2).toward (Q := fun b => P b ∨ b = n) (fun b hb => .inl hb)
        exact ⟨(h.txs.one i u hu).1, Z.congrA rfl rfl (upd_other _ _ _ e)⟩
    · obtain ⟨a', ha', _⟩ : ∃ a', s.tx i = some a' ∧ True := by
        by_cases e' : i = j
        · subst e'; exact ⟨t, ht, trivial⟩
        · simp only [St.setTx, upd_other _ _ _ e'] at ha; exact ⟨a, ha, trivial⟩
      obtain ⟨b', hb', _⟩ : ∃ a', s.tx i2 = some a' ∧ True := by
        by_cases e' : i2 = j
        · subst e'; exact ⟨t, ht, trivial⟩
        · simp only [St.setTx, upd_other _ _ _ e'] at hb; exact ⟨b, hb, trivial⟩
      exact h.txs.tinj i i2 a' b' ha' hb' e
    · obtain ⟨a', ha', _⟩ : ∃ a', s.tx i = some a' ∧ True := by
        by_cases e' : i = j
        · subst e'; exact ⟨t, ht, trivial⟩
        · simp only [St.setTx, upd_other _ _ _ e'] at ha; exact ⟨a, ha, trivial⟩
      obtain ⟨b', hb', _⟩ : ∃ a', s.tx i2 = some a' ∧ True := by
        by_cases e' : i2 = j
        · subst e'; exact ⟨t, ht, trivial⟩
        · simp only [St.setTx, upd_other _ _ _ e'] at hb; exact ⟨b, hb, trivial⟩
      exact h.txs.minj i i2 a' b' p q ha' hb' hp hq e
    · -- each cell is an old one at its old place, or the new one at n
      have key : ∀ i a p d, (s.setTx j (some (t.put k c))).tx i = some a → a.cells p = some d → (i = j ∧ p = k ∧ upd A.ca j (upd (A.ca j) k n) i p = n) ∨ (∃ a' d', s.tx i = some a' ∧ a'.cells p = some d' ∧ upd A.ca j (upd (A.ca j) k n) i p = A.ca i p) := by
        intro i a p d ha hd
        by_cases e1 : i = j
        · subst e1
          simp only [St.setTx, upd_same] at ha; cases ha
          rw [upd_same]
          by_cases e2 : p = k
          · subst e2; exact .inl ⟨rfl, rfl, upd_same _ _ _⟩
          · simp only [Tx.put, upd_other _ _ _ e2] at hd
            exact .inr ⟨t, d, ht, hd, upd_other _ _ _ e2⟩
        · simp only [St.setTx, upd_other _ _ _ e1] at ha
          exact .inr ⟨a, d, ha, hd, by rw [upd_other _ _ _ e1]⟩
      change upd A.ca j (upd (A.ca j) k n) i p = upd A.ca j (upd (A.ca j) k n) i2 q at e
      rcases key i a p d ha hd with ⟨r1, r2, r3⟩ | ⟨a', d1, r1, r2, r3⟩
      · rcases key i2 b q d' hb hd' with ⟨s1, s2, s3⟩ | ⟨b', d2, s1, s2, s3⟩
        · exact ⟨r1.trans s1.symm, r2.trans s2.symm⟩
        · have := old i2 b' q d2 s1 s2; omega
      · rcases key i2 b q d' hb hd' with ⟨s1, s2, s3⟩ | ⟨b', d2, s1, s2, s3⟩
        · have := old i a' p d1 r1 r2; omega
        · exact h.txs.cinj i i2 a' b' p q d1 d2 r1 s1 r2 s2 (by rw [← r3, ← s3]; exact e)
  · refine h.ok.setTx (h.ok.ops j t ht) (fun q d hq => ?_)
    by_cases eq : q = k
    · subst eq
      simp only [Tx.put, upd_same] at hq; cases hq; exact hr
    · simp only [Tx.put, upd_other _ _ _ eq] at hq
      exact h.ok.refs j t q d ht hq
  · rintro b (hb | rfl)
    · exact Nat.lt_of_lt_of_le (h.under b hb) o.size
    · exact hn'
  · rintro b (hb | rfl)
    · exact h.above b hb
    · exact hB
/-- A cell has turned. -/
theorem MIn.setCel {B m : Nat} {w w' : World} {P : Nat → Prop} {s : St} {A : Ad} (h : MIn B w P m s A) {j : Nat} {t : Tx} (ht : s.tx j = some t) {k : Nat} {c : Cel} (hc : t.cells k = some c) (c' : Cel) (o : Only (fun b => b = A.ca j k) w w')
    (hb : Blk w' (A.ca j k) 106 (celCells A.va c')) (hr : (∀ i, c'.own = some i → i < s.vs.length) ∧ (∀ i, c'.old = some i → i < s.vs.length)) : MIn B w' P m (s.setTx j (some (t.put k c'))) A := by
  have X := (h.txs.one j t ht).2
  have h0 := (X.cel k c hc).2.1
  have mapNe : ∀ i u, s.tx i = some u → ∀ q, q < 3 → A.mb i q ≠ A.ca j k := fun i u hu q hq => by
    have Y := (h.txs.one i u hu).2
    match q, hq with
    | 0, _ => exact Y.cm.ne h0
    | 1, _ => exact Y.gm.ne h0
    | 2, _ => exact Y.km.ne h0
  have hs : ∀ q, ((t.put k c').cells q).isSome = (t.cells q).isSome := fun q => by
    by_cases e : q = k
    · subst e; simp [Tx.put, upd_same, hc]
    · simp [Tx.put, upd_other _ _ _ e]
  refine h.turnTx ht hs o (h.mod.ne h0 (by decide)) (fun b hb e => by subst e; exact rows_ne h.row h0 (by decide) hb) (h.vers.blkNe h0 (by decide))
    (fun i u hi hu => ⟨(h.txs.one i u hu).2.blk.ne h0 (by decide), mapNe i u hu, fun q d hq e => hi (h.txs.cinj i j u t q k d c hu ht hq hc e).1⟩) ?_ (h.ok.setTx (h.ok.ops j t ht) (fun q d hq => ?_))
  · refine ⟨o.blk X.blk (X.blk.ne h0 (by decide)), ?_, X.gm.only o (mapNe j t ht 1 (by omega)), X.km.only o (mapNe j t ht 2 (by omega)), fun q d hq => ?_, X.pt, X.pm⟩
    · have := X.cm.only o (mapNe j t ht 0 (by omega))
      have e : cMap (A.ca j) (t.put k c').cells = cMap (A.ca j) t.cells := by
        funext q
        by_cases e : q = k
        · subst e; simp [cMap, Tx.put, upd_same, hc]
        · simp [cMap, Tx.put, upd_other _ _ _ e]
      unfold CMap; rw [e]; exact this
    · by_cases eq : q = k
      · subst eq
        have : d = c' := by simp only [Tx.put, upd_same] at hq; cases hq; rfl
        subst this
        exact ⟨(X.cel q c hc).1, hb, (X.cel q c hc).2.2⟩
      · simp only [Tx.put, upd_other _ _ _ eq] at hq
        exact ⟨(X.cel q d hq).1, o.blk (X.cel q d hq).2.1 (fun e => eq (h.txs.cinj j j t t q k d c ht ht hq hc e).2), (X.cel q d hq).2.2⟩
  · by_cases eq : q = k
    · subst eq
      simp only [Tx.put, upd_same] at hq; cases hq; exact hr
    · simp only [Tx.put, upd_other _ _ _ eq] at hq
      exact h.ok.refs j t q d ht hq
def txArr (A : Ad) (tx : Nat → Option Tx) : List Value := [txPtr A tx 0, txPtr A tx 1, txPtr A tx 2, txPtr A tx 3, txPtr A tx 4, txPtr A tx 5, txPtr A tx 6, txPtr A tx 7]
theorem txArr_get (A : Ad) (tx : Nat → Option Tx) (k : Nat) (hk : k < 8) : (txArr A tx)[k]? = some (txPtr A tx k) := by
  match k, hk with
  | 0, _ => rfl
  | 1, _ => rfl
  | 2, _ => rfl
  | 3, _ => rfl
  | 4, _ => rfl
  | 5, _ => rfl
  | 6, _ => rfl
  | 7, _ => rfl
theorem modCells_tx (A : Ad) (s : St) (k : Nat) (hk : k < 8) : (modCells A s)[5 + k]? = some (txPtr A s.tx k) := by
  match k, hk with
  | 0, _ => rfl
  | 1, _ => rfl
  | 2, _ => rfl
  | 3, _ => rfl
  | 4, _ => rfl
  | 5, _ => rfl
  | 6, _ => rfl
  | 7, _ => rfl
theorem run_index_agg {P : Program} {w : World} (t e : TypeId) (n : Nat) (cs : Array Value) (i : Nat) (v : Value) (h : P.underlying t = some (.array n e)) (hi : i < n) (hv : cs[i]? = some v) (hs : (sizeOf e).run P w = .ok 1 w) (ha : (isAgg e).run P w = .ok false w) : (Instr.index t (.agg cs) (.int .i64 i)).run P w = .ok v w := by
  simp [Instr.index, run_underlying h, asIntOf, hi, hv, hs, ha, Result.andThen, go_sem]
theorem MIn.txCell {B m : Nat} {w : World} {P : Nat → Prop} {s : St} {A : Ad} (h : MIn B w P m s A) : w.cell? ⟨m, 5, none⟩ = some (txPtr A s.tx 0) ∧ w.cell? ⟨m, 6, none⟩ = some (txPtr A s.tx 1) ∧ w.cell? ⟨m, 7, none⟩ = some (txPtr A s.tx 2) ∧ w.cell? ⟨m, 8, none⟩ = some (txPtr A s.tx 3) ∧
    w.cell? ⟨m, 9, none⟩ = some (txPtr A s.tx 4) ∧ w.cell? ⟨m, 10, none⟩ = some (txPtr A s.tx 5) ∧ w.cell? ⟨m, 11, none⟩ = some (txPtr A s.tx 6) ∧ w.cell? ⟨m, 12, none⟩ = some (txPtr A s.tx 7) :=
  ⟨h.mod.cell 5, h.mod.cell 6, h.mod.cell 7, h.mod.cell 8, h.mod.cell 9, h.mod.cell 10, h.mod.cell 11, h.mod.cell 12⟩
set_option maxRecDepth 100000 in
theorem tx_index (A : Ad) (tx : Nat → Option Tx) (w : World) (k : Nat) (hk : k < 8) : (Instr.index 52 (.agg #[txPtr A tx 0, txPtr A tx 1, txPtr A tx 2, txPtr A tx 3, txPtr A tx 4, txPtr A tx 5, txPtr A tx 6, txPtr A tx 7]) (.int .i64 k)).run Try.prog w = .ok (txPtr A tx k) w :=
  run_index_agg _ _ 8 _ k _ Try.underlying52 hk (by simpa [txArr] using txArr_get A tx k hk) (by kernel_rfl) (by kernel_rfl)
theorem run_neq_ptr_other {P : Program} (w : World) {tp te : TypeId} {j : TypeInfo} {a b : Addr} {ca cb : Array Value} {ta tb : TypeId} (hp : P.underlying tp = some (.pointer te)) (hte : P.info? te = some j) (hsz : j.size ≠ 0)
    (hne : a ≠ b) (ha : w.heap[a.block]? = some (.cells ca ta (0, 0))) (hb : w.heap[b.block]? = some (.cells cb tb (0, 0))) :
    (binOp .neq tp (.pointer (some a)) (.pointer (some b))).run P w = .ok (.bool true) w := by
  have h : ∀ d : Nat, (Op.equalIn (d + 1) tp (.pointer (some a)) (.pointer (some b))).run P w = .ok false w := fun d => by
    simp [Op.equalIn, run_underlying hp, sizeOf, typeInfo, hte, hsz, run_sameAddr_other w hne ha hb]
  simp only [binOp]
  simp [Op.equal, Op.maxDepth, h 9999]
set_option maxRecDepth 100000 in
theorem infoTxn : (Try.prog.info? 85).map (·.size) = some 7 := by kernel_rfl
set_option maxRecDepth 100000 in
theorem infoVer : (Try.prog.info? 79).map (·.size) = some 6 := by kernel_rfl
theorem info_size {P : Program} {e : TypeId} {n : Nat} (h : (P.info? e).map (·.size) = some (n + 1)) : ∃ j, P.info? e = some j ∧ j.size ≠ 0 := by
  cases hq : P.info? e with
  | none => simp [hq] at h
  | some i => exact ⟨i, rfl, by simp [hq] at h; omega⟩
theorem txn_neq {w : World} {x y : Nat} {cx cy : Array Value} (hx : Blk w x 85 cx) (hy : Blk w y 85 cy) : (binOp .neq 51 (.pointer (some ⟨x, 0, none⟩)) (.pointer (some ⟨y, 0, none⟩))).run Try.prog w = .ok (.bool (!decide (x = y))) w := by
  obtain ⟨i, hi, hs⟩ := info_size infoTxn
  by_cases e : x = y
  · subst e
    rw [decide_eq_true rfl]
    exact Lib.run_neq_ptr_same w _ Try.underlying51 hi
  · rw [decide_eq_false e]
    exact run_neq_ptr_other w Try.underlying51 hi hs (fun e' => e (by injection e')) hx hy
theorem ver_neq {w : World} {x y : Nat} {cx cy : Array Value} (hx : Blk w x 79 cx) (hy : Blk w y 79 cy) : (binOp .neq 76 (.pointer (some ⟨x, 0, none⟩)) (.pointer (some ⟨y, 0, none⟩))).run Try.prog w = .ok (.bool (!decide (x = y))) w := by
  obtain ⟨i, hi, hs⟩ := info_size infoVer
  by_cases e : x = y
  · subst e
    rw [decide_eq_true rfl]
    exact Lib.run_neq_ptr_same w _ Try.underlying76 hi
  · rw [decide_eq_false e]
    exact run_neq_ptr_other w Try.underlying76 hi hs (fun e' => e (by injection e')) hx hy
end Go.Proofs.Ytdjehgnkpbkdbaa
namespace Go.Proofs.Ytdjehgnkpbkdbaa
open Go.RowKit
set_option linter.unusedVariables false
set_option linter.unusedSimpArgs false
/-- What take leaves. -/
def TakeRes (B m : Nat) (w : World) (P : Nat → Prop) (s : St) (A : Ad) (j : Nat) (t : Tx) (k : Nat) (e : Ending) (w' : World) : Prop :=
  ∃ (ca : Nat → Nat → Nat) (P' : Nat → Prop), e = .returned (.pointer ((s.take j t k).1.map fun _ => ⟨ca j k, 0, none⟩)) ∧ MIn B w' P' m (s.setTx j (some (s.take j t k).2)) { A with ca := ca } ∧ Only P w w' ∧ Grew w.heap.size P P'
theorem setTx_self {s : St} {j : Nat} {t : Tx} (ht : s.tx j = some t) : s.setTx j (some t) = s := by
  unfold St.setTx
  have : upd s.tx j (some t) = s.tx := by funext i; by_cases e : i = j <;> simp [upd, e, ht]
  rw [this]
theorem TakeRes.no {B m : Nat} {w : World} {P : Nat → Prop} {s : St} {A : Ad} (h : MIn B w P m s A) {j k : Nat} {t : Tx} (ht : s.tx j = some t) (hk : s.take j t k = (none, t)) {w' : World} (hw : Only0 w w') : TakeRes B m w P s A j t k (.returned (.pointer none)) w' :=
  ⟨A.ca, P, by rw [hk]; rfl, by rw [hk]; simp only [setTx_self ht]; exact h.only0 hw, hw.any _, Grew.refl _ _⟩
theorem TakeRes.old {B m : Nat} {w : World} {P : Nat → Prop} {s : St} {A : Ad} (h : MIn B w P m s A) {j k : Nat} {t : Tx} {c : Cel} (ht : s.tx j = some t) (hk : t.cells k = some c) : TakeRes B m w P s A j t k (.returned (.pointer (some ⟨A.ca j k, 0, none⟩))) w := by
  have e : s.take j t k = (some c, t) := by simp [St.take, hk]
  exact ⟨A.ca, P, by rw [e]; rfl, by rw [e]; simp only [setTx_self ht]; exact h, Only.refl _ _, Grew.refl _ _⟩
theorem others_yes {s : St} {j k i : Nat} (hi : i < 8) (h : holderB s j k i = true) : s.others j k = true := List.any_eq_true.2 ⟨i, List.mem_range.2 hi, h⟩
theorem others_no {s : St} {j k : Nat} (h : ∀ i, i < 8 → holderB s j k i = false) : s.others j k = false := List.any_eq_false.2 (fun i hi => by simpa using h i (List.mem_range.1 hi))
theorem any_take_false {α : Type} {p : α → Bool} {l : List α} {k : Nat} (h : (l.take k).any p = false) (hk : k < l.length) (hp : p l[k] = false) : (l.take (k + 1)).any p = false := by
  rw [List.take_succ_eq_append_getElem hk, List.any_append, h]; simp [hp]
theorem any_at {α : Type} {p : α → Bool} {l : List α} {k : Nat} (hk : k < l.length) (hp : p l[k] = true) : l.any p = true := List.any_eq_true.2 ⟨_, List.getElem_mem hk, hp⟩
set_option maxRecDepth 100000 in
set_option maxHeartbeats 8000000 in
theorem md_take {B m : Nat} {w : World} {P : Nat → Prop} {s : St} {A : Ad} (h : MIn B w P m s A) {j : Nat} {t : Tx} (ht : s.tx j = some t) (k : Nat) (hk : k < 64) :
    Calls Try.prog 51 #[.pointer (some ⟨m, 0, none⟩), .pointer (some ⟨A.tb j, 0, none⟩), .int .i64 k] w (TakeRes B m w P s A j t k) := by
  have X := (h.txs.one j t ht).2
  obtain ⟨c2, c4, _, _⟩ := X.cells
  have hrun := X.cm.look k hk
  cases hc : t.cells k with
  | some c =>
    rw [show celPtr A j t k = .pointer (some ⟨A.ca j k, 0, none⟩) by simp [celPtr, hc]] at hrun
    have HR := Lib.hid (TakeRes.old h ht hc)
    clear h X ht hc
    go_enter Try.func51, Try.ntmps51
    go_wp2_with fail
    go_ret
    exact HR.out
  | none =>
    rw [show celPtr A j t k = .pointer none by simp [celPtr, hc]] at hrun
    obtain ⟨p0, p1, p2, p3, p4, p5, p6, p7⟩ := h.txCell
    have m4 : w.cell? ⟨m, 4, none⟩ = some (.slice A.la s.l.length A.lc) := h.mod.cell 4
    obtain ⟨la, hla⟩ : ∃ la, la = A.la := ⟨_, rfl⟩
    rw [← hla] at m4
    have hL : 0 < s.l.length → ∃ g, la = some ⟨g, 0, none⟩ ∧ ∀ k, (hk : k < s.l.length) → w.cell? ⟨g, k, none⟩ = some (.pointer (some ⟨A.va s.l[k], 0, none⟩)) := fun h0 => by
      rcases h.rowAt with ⟨_, e2, _⟩ | ⟨g, hg, hrow⟩
      · omega
      · exact ⟨g, hla.trans hg, hrow⟩
    have HL := Lib.hid hL
    have HH := Lib.hid h
    have HT := Lib.hid ht
    have HC := Lib.hid hc
    have hlen : s.l.length ≤ 256 := by have := h.ok.few; have := h.ok.slots; omega
    clear h X ht hc hla hL
    go_enter Try.func51, Try.ntmps51
    go_wp2_with fail
    go_loop [26] (fun i => ∃ q : Nat, q ≤ 8 ∧ i = .int .i64 q ∧ Hid (∀ i, i < q → holderB s j k i = false)) (fun i => 8 - (intOf i).toNat)
    case atStart => exact ⟨0, by omega, rfl, Lib.hid (fun i hi => by omega)⟩
    case round =>
      obtain ⟨q, hq, rfl, HN⟩ := hrel
      by_cases hlt : q < 8
      · have hix := tx_index A s.tx w q hlt
        have HS := Lib.hid (fun hp : holderB s j k q = false => fun i (hi : i < q + 1) => if e : i = q then e ▸ hp else HN.out i (by omega))
        cases hu : s.tx q with
        | none =>
          have R := Lib.hid (HS.out (by simp [holderB, hu]))
          rw [show txPtr A s.tx q = .pointer none by simp [txPtr, hu]] at hix
          clear hu HS
          go_wp2_with fail
          go_round
          case rel => exact ⟨q + 1, by omega, by go_num, R⟩
          case measure => simp [intOf]; omega
        | some u =>
          rw [show txPtr A s.tx q = .pointer (some ⟨A.tb q, 0, none⟩) by simp [txPtr, hu]] at hix
          by_cases hqj : q = j
          · have R := Lib.hid (HS.out (by simp only [holderB, hu]; simp [hqj]))
            subst hqj
            have hcmp := txn_neq (HH.out.txs.one q t HT.out).2.blk (HH.out.txs.one q t HT.out).2.blk
            rw [decide_eq_true rfl] at hcmp
            clear hu HS
            go_wp2_with fail
            go_round
            case rel => exact ⟨q + 1, by omega, by go_num, R⟩
            case measure => simp [intOf]; omega
          · have Y := (HH.out.txs.one q u hu).2
            have hne : A.tb q ≠ A.tb j := fun e => hqj (HH.out.txs.tinj q j u t hu HT.out e)
            have hcmp := txn_neq Y.blk (HH.out.txs.one j t HT.out).2.blk
            rw [decide_eq_false hne] at hcmp
            have d4 := Y.cells.2.1
            have hr2 := Y.cm.look k hk
            cases huc : u.cells k with
            | none =>
              have R := Lib.hid (HS.out (by simp [holderB, hu, huc]))
              rw [show celPtr A q u k = .pointer none by simp [celPtr, huc]] at hr2
              clear hu huc HS Y hne
              go_wp2_with fail
              go_round
              case rel => exact ⟨q + 1, by omega, by go_num, R⟩
              case measure => simp [intOf]; omega
            | some d =>
              have R := Lib.hid (TakeRes.no HH.out HT.out (k := k) (w' := w) (by simp [St.take, HC.out, others_yes (s := s) (j := j) (k := k) hlt (by simp [holderB, hu, huc, hqj])]) (Only0.refl _))
              rw [show celPtr A q u k = .pointer (some ⟨A.ca q k, 0, none⟩) by simp [celPtr, huc]] at hr2
              clear hu huc HS Y hne
              go_wp2_with fail
              go_ret
              exact R.out
      · obtain rfl : q = 8 := by omega
        have HO := Lib.hid (others_no HN.out)
        clear HN p0 p1 p2 p3 p4 p5 p6 p7 hrun
        go_wp2_with fail
        go_loopw [51] (fun i wr => ∃ (q n : Nat), q ≤ s.l.length ∧ i = .int .i64 q ∧ wr = w.drewN n ∧ Hid ((s.l.take q).any (fun i => laterB (s.ver i) k t.beg) = false)) (fun i _ => s.l.length - (intOf i).toNat)
        case atStart => exact ⟨0, 0, by omega, rfl, rfl, Lib.hid (by simp)⟩
        case round =>
          obtain ⟨q, n, hq, rfl, rfl, HN⟩ := hrel
          by_cases hlt : q < s.l.length
          · have hb := HH.out.verAt q hlt
            obtain ⟨g, hg, hrow⟩ := HL.out (by omega)
            subst hg
            have hp := hrow q hlt
            have q0 : w.cell? ⟨A.va s.l[q], 0, none⟩ = some (.int .i64 (s.ver s.l[q]).key) := hb.cell 0
            have q3 : w.cell? ⟨A.va s.l[q], 3, none⟩ = some (.int .u64 (s.ver s.l[q]).beg) := hb.cell 3
            have q4 : w.cell? ⟨A.va s.l[q], 4, none⟩ = some (.int .u64 (s.ver s.l[q]).fin) := hb.cell 4
            have HY := Lib.hid (fun hp : laterB (s.ver s.l[q]) k t.beg = true => (any_at (p := fun i => laterB (s.ver i) k t.beg) hlt hp : s.later k t.beg = true))
            have HZ := Lib.hid (fun hp : laterB (s.ver s.l[q]) k t.beg = false => any_take_false HN.out hlt hp)
            have HR := Lib.hid (fun (n' : Nat) (hp : s.later k t.beg = true) => TakeRes.no HH.out HT.out (k := k) (w' := (w.drewN n).drewN n') (by simp [St.take, HC.out, hp]) (((Only0.refl _).drewN n).drewN n'))
            clear hb HN hrow
            generalize A.va s.l[q] = a at *
            generalize s.ver s.l[q] = v at *
            obtain ⟨kk, vv, by_, bg, fn, dd⟩ := v
            dsimp only at q0 q3 q4
            generalize t.beg = tb at *
            by_cases h1 : kk = (k : Int)
            · subst h1
              by_cases h2 : tb < bg
              · have R := Lib.hid (HY.out (by simp [laterB, h2]))
                clear HY HZ
                go_wp2_with fail
                go_quiet (fail)
                go_wp2_with fail
                go_ret
                exact HR.out _ R.out
              · have h2b : decide (tb < bg) = false := by simpa using h2
                by_cases h3 : tb < fn
                · have R := Lib.hid (HY.out (by simp [laterB, h3]))
                  clear HY HZ
                  go_wp2_with fail
                  go_quiet (fail)
                  go_wp2_with fail
                  go_ret
                  exact HR.out _ R.out
                · have R := Lib.hid (HZ.out (by simp [laterB]; omega))
                  clear HY HZ
                  go_wp2_with fail
                  go_quiet (fail)
                  go_wp2_with fail
                  go_roundw
                  case rel => exact ⟨q + 1, _, by omega, by go_num, rfl, R⟩
                  case measure => simp [intOf]; omega
            · have h1b : (kk == (k : Int)) = false := by simpa using h1
              have R := Lib.hid (HZ.out (by simp [laterB, h1]))
              clear HY HZ h1
              go_wp2_with fail
              go_quiet (fail)
              go_wp2_with fail
              go_roundw
              case rel => exact ⟨q + 1, _, by omega, by go_num, rfl, R⟩
              case measure => simp [intOf]; omega
          · obtain rfl : q = s.l.length := by omega
            have HLN := Lib.hid (show s.later k t.beg = false by have := HN.out; rwa [List.take_length] at this)
            obtain ⟨w5, hw5⟩ : ∃ w5, w5 = w.drewN n := ⟨_, rfl⟩
            have M : MIn B w5 P m s A := by rw [hw5]; exact HH.out.drewN n
            have o5 : Only0 w w5 := by rw [hw5]; exact (Only0.refl w).drewN n
            rw [← hw5]
            clear hw5 c2 c4 m4
            have C := md_at M k t.beg
            have hres : s.at k t.beg = none ∨ ∃ i, s.at k t.beg = some i ∧ i < s.vs.length := by
              cases hs : s.at k t.beg with
              | none => exact .inl rfl
              | some i => exact .inr ⟨i, rfl, HH.out.ok.lin i (List.mem_of_find?_eq_some hs)⟩
            have HRES := Lib.hid hres
            have HM := Lib.hid M
            obtain ⟨nc, hnc⟩ : ∃ nc : Cel, nc = s.newCel t k := ⟨_, rfl⟩
            have htk : s.take j t k = (some nc, t.put k nc) := by simp only [St.take, HC.out, HO.out, HLN.out, hnc]; rfl
            have X := (M.txs.one j t HT.out).2
            obtain ⟨c2, c4, _, _⟩ := X.cells
            have FIN : ∀ (old : Option Addr) (W w' : World), W = w5.alloc (.cells #[.pointer none, .pointer old, .bool (s.at k t.beg).isSome] 106) → .pointer old = ptrOf A.va (s.at k t.beg) → CMap w' (A.mb j 0) (upd (A.ca j) k w5.heap.size) (upd t.cells k (some nc)) → Only (fun c => c = A.mb j 0) W w' →
                TakeRes B m w P s A j t k (.returned (.pointer (some ⟨w5.heap.size, 0, none⟩))) w' := by
              intro old W w' hW hold hm ho
              have oW : Only0 w5 W := by rw [hW]; exact (Only0.refl w5).alloc _
              have hb : Blk W w5.heap.size 106 (celCells A.va nc) := by
                rw [hW, hnc]; unfold celCells St.newCel
                rw [← hold]
                exact Blk.new w5 _ _
              have hne : w5.heap.size ≠ A.mb j 0 := by have := X.cm.lt; omega
              have O := (oW.any (fun c => c = A.mb j 0)).trans ho
              have hsz := o5.size
              refine ⟨upd A.ca j (upd (A.ca j) k w5.heap.size), fun b => P b ∨ b = w5.heap.size, by rw [htk]; simp [upd_same], ?_, (o5.any P).trans (O.toward (fun b hb => by subst hb; exact X.pm 0 (by omega))), fun b hb => ?_⟩
              · rw [htk]
                refine M.newCel HT.out hk HC.out nc (Nat.le_refl _) ?_ O (ho.blk hb hne) hm ?_
                · have h1 := ho.size
                  have h2 : W.heap.size = w5.heap.size + 1 := by rw [hW]; simp
                  omega
                · rw [hnc]
                  refine ⟨fun i hi => by simp [St.newCel] at hi, fun i hi => ?_⟩
                  exact M.ok.lin i (List.mem_of_find?_eq_some hi)
              · rcases hb with hb | hb
                · exact .inl hb
                · exact .inr (by omega)
            have HFIN := Lib.hid FIN
            have HX := Lib.hid X
            have O5 := Lib.hid o5
            clear HN M hres HL FIN X htk hnc o5
            rcases HRES.out with h0 | ⟨i, h1, h2⟩
            · rw [h0] at C HFIN
              rw [show ptrOf A.va none = .pointer none from rfl] at C
              obtain ⟨W, hW⟩ : ∃ W, W = w5.alloc (.cells #[.pointer none, .pointer none, .bool false] 106) := ⟨_, rfl⟩
              have oW : Only0 w5 W := by rw [hW]; exact (Only0.refl w5).alloc _
              obtain ⟨w', hst, hb, ho⟩ := CMap.store (HX.out.cm.only (S := fun _ => False) oW (fun h => h)) k hk w5.heap.size nc
              have c4W : W.cell? ⟨A.tb j, 4, none⟩ = some (.map (some (A.mb j 0))) := (oW.blk HX.out.blk (fun h => h)).cell 4
              have R := Lib.hid (HFIN.out none W w' (by rw [hW]; rfl) rfl hb ho)
              rw [hW] at hst c4W
              clear h0 hb ho oW HX hW
              go_wp2_with fail
              refine C.mono ?_
              rintro e w1 ⟨rfl, rfl⟩
              go_wp2_with fail
              go_ret
              exact R.out
            · rw [h1] at C HFIN
              rw [show ptrOf A.va (some i) = .pointer (some ⟨A.va i, 0, none⟩) from rfl] at C
              obtain ⟨W, hW⟩ : ∃ W, W = w5.alloc (.cells #[.pointer none, .pointer (some ⟨A.va i, 0, none⟩), .bool true] 106) := ⟨_, rfl⟩
              have oW : Only0 w5 W := by rw [hW]; exact (Only0.refl w5).alloc _
              obtain ⟨w', hst, hb, ho⟩ := CMap.store (HX.out.cm.only (S := fun _ => False) oW (fun h => h)) k hk w5.heap.size nc
              have c4W : W.cell? ⟨A.tb j, 4, none⟩ = some (.map (some (A.mb j 0))) := (oW.blk HX.out.blk (fun h => h)).cell 4
              have R := Lib.hid (HFIN.out (some ⟨A.va i, 0, none⟩) W w' (by rw [hW]; rfl) rfl hb ho)
              rw [hW] at hst c4W
              clear h1 h2 hb ho oW HX hW
              go_wp2_with fail
              refine C.mono ?_
              rintro e w1 ⟨rfl, rfl⟩
              go_wp2_with fail
              go_ret
              exact R.out
end Go.Proofs.Ytdjehgnkpbkdbaa
namespace Go.Proofs.Ytdjehgnkpbkdbaa
open Go.RowKit
set_option linter.unusedVariables false
set_option linter.unusedSimpArgs false
theorem ptrOf_upd {va : Nat → Nat} {n : Nat} {o : Option Nat} {len : Nat} (h : ∀ i, o = some i → i < len) : ptrOf (upd va len n) o = ptrOf va o := by
  cases o with
  | none => rfl
  | some i => have := h i rfl; unfold ptrOf; simp only [Option.map_some]; rw [upd_other _ _ _ (by omega)]
theorem celCells_upd {va : Nat → Nat} {n len : Nat} {c : Cel} (h : (∀ i, c.own = some i → i < len) ∧ (∀ i, c.old = some i → i < len)) : celCells (upd va len n) c = celCells va c := by
  unfold celCells; rw [ptrOf_upd h.1, ptrOf_upd h.2]
/-- A version is made: it is not in the row yet. -/
theorem MIn.newVer {B m : Nat} {w w' : World} {P : Nat → Prop} {s : St} {A : Ad} (h : MIn B w P m s A) {n : Nat} (v : Ver) (hn : w.heap.size ≤ n) (hn' : n < w'.heap.size) (o : Only0 w w') (hb : Blk w' n 79 (verCells v)) :
    MIn B w' (fun b => P b ∨ b = n) m { s with vs := s.vs ++ [v] } { A with va := upd A.va s.vs.length n } := by
  have h0 := h.only0 o
  have hB : B ≤ n := by have := h.above m h.pm; have := h.mod.lt; omega
  have hvb : ∀ i, i < s.vs.length → A.va i < w.heap.size := fun i hi => h.under _ (h.vers.blk i hi).2
  refine ⟨h0.mod, ?_, ?_, ?_, ?_, .inl h.pm, fun b hb => .inl (h.pr b hb), ?_, ?_⟩
  · have e : (s.l.map fun i => Value.pointer (some (at0 (upd A.va s.vs.length n i)))) = s.l.map fun i => Value.pointer (some (at0 (A.va i))) := by
      refine List.map_congr_left (fun i hi => ?_)
      have := h.ok.lin i hi
      rw [upd_other _ _ _ (by omega)]
    show w'.ownsRow B _ 1 _ _ (s.l.map fun i => Value.pointer (some (at0 (upd A.va s.vs.length n i))))
    rw [e]; exact h0.row
  · refine ⟨fun i hi => ?_, fun i j hi hj e => ?_⟩
    · by_cases e : i = s.vs.length
      · subst e
        refine ⟨?_, .inr ?_⟩
        · simp only [upd_same]
          have : (s.vs ++ [v]).getD s.vs.length default = v := by simp [List.getD_eq_getElem?_getD]
          rw [this]; exact hb
        · show upd A.va s.vs.length n s.vs.length = n
          rw [upd_same]
      · have hi' : i < s.vs.length := by simp at hi; omega
        have e2 : (s.vs ++ [v]).getD i default = s.vs.getD i default := by simp [List.getD_eq_getElem?_getD, List.getElem?_append_left hi']
        refine ⟨?_, .inl ?_⟩
        · simp only [upd_other _ _ _ e]; rw [e2]; exact (h0.vers.blk i hi').1
        · show P (upd A.va s.vs.length n i)
          rw [upd_other _ _ _ e]; exact (h0.vers.blk i hi').2
    · simp only [List.length_append, List.length_singleton] at hi hj
      change upd A.va s.vs.length n i = upd A.va s.vs.length n j at e
      by_cases e1 : i = s.vs.length <;> by_cases e2 : j = s.vs.length
      · omega
      · subst e1
        rw [upd_same, upd_other _ _ _ e2] at e
        have := hvb j (by omega); omega
      · subst e2
        rw [upd_same, upd_other _ _ _ e1] at e
        have := hvb i (by omega); omega
      · rw [upd_other _ _ _ e1, upd_other _ _ _ e2] at e
        exact h.vers.inj i j (by omega) (by omega) e
  · refine ⟨fun j t ht => ⟨(h0.txs.one j t ht).1, ?_⟩, h.txs.tinj, h.txs.minj, h.txs.cinj⟩
    have X := (h0.txs.one j t ht).2
    refine ⟨X.blk, X.cm, X.gm, X.km, fun k c hk => ⟨(X.cel k c hk).1, ?_, .inl (X.cel k c hk).2.2⟩, .inl X.pt, fun q hq => .inl (X.pm q hq)⟩
    show Blk w' (A.ca j k) _ (celCells (upd A.va s.vs.length n) c)
    rw [celCells_upd (h.ok.refs j t k c ht hk)]
    exact (X.cel k c hk).2.1
  · refine ⟨h.ok.slots, h.ok.limit, h.ok.now, h.ok.made, h.ok.few, fun i hi => ?_, h.ok.ops, fun j t k c ht hc => ⟨fun i hi => ?_, fun i hi => ?_⟩⟩
    · have := h.ok.lin i hi; simp; omega
    · have := (h.ok.refs j t k c ht hc).1 i hi; simp; omega
    · have := (h.ok.refs j t k c ht hc).2 i hi; simp; omega
  · rintro b (hb | rfl)
    · exact Nat.lt_of_lt_of_le (h.under b hb) o.size
    · exact hn'
  · rintro b (hb | rfl)
    · exact h.above b hb
    · exact hB
theorem modCells_row (A : Ad) (s : St) (id g cap : Nat) : modCells { A with la := some ⟨g, 0, none⟩, lc := cap } { s with l := s.l ++ [id] } = (modCells A s).setIfInBounds 4 (.slice (some ⟨g, 0, none⟩) (s.l.length + 1) cap) := by
  simp [modCells, txPtr]
/-- A version is put into the row. -/
theorem MIn.addRow {B m : Nat} {w w1 : World} {P : Nat → Prop} {s : St} {A : Ad} (h : MIn B w P m s A) {id g cap : Nat} (hid : id < s.vs.length) (hroom : (s.l.length : Int) < s.slots)
    (hown : w1.ownsRow B 76 1 (.slice (some ⟨g, 0, none⟩) (s.l.length + 1) cap) (s.l.length + 1) ((s.l.map fun i => .pointer (some (at0 (A.va i)))) ++ [.pointer (some (at0 (A.va id)))]))
    (o : Only (rowOf (.slice A.la s.l.length A.lc)) w w1) (hat : rowOf (.slice A.la s.l.length A.lc) g ∨ w.heap.size ≤ g) (hg : g < w1.heap.size) :
    MIn B (w1.setCell ⟨m, 4, none⟩ (.slice (some ⟨g, 0, none⟩) (s.l.length + 1) cap)) (fun b => P b ∨ b = g) m { s with l := s.l ++ [id] } { A with la := some ⟨g, 0, none⟩, lc := cap } ∧ Only (fun b => b = m ∨ rowOf (.slice A.la s.l.length A.lc) b) w (w1.setCell ⟨m, 4, none⟩ (.slice (some ⟨g, 0, none⟩) (s.l.length + 1) cap)) := by
  have hB : B ≤ g := by
    rcases hat with h1 | h1
    · exact h.above g (h.pr g h1)
    · have := h.above m h.pm; have := h.mod.lt; omega
  have hm : ¬ rowOf (.slice A.la s.l.length A.lc) m := rows_ne h.row h.mod (by decide)
  have hm1 : Blk w1 m _ _ := o.blk h.mod hm
  have hgm : g ≠ m := by
    rintro rfl
    exact rows_ne hown hm1 (by decide) (rowOf_some.2 rfl)
  have O : Only (fun b => b = m ∨ rowOf (.slice A.la s.l.length A.lc) b) w (w1.setCell ⟨m, 4, none⟩ (.slice (some ⟨g, 0, none⟩) (s.l.length + 1) cap)) := (o.toward (fun b hb => .inr hb)).setCell (fun _ => .inl rfl) _
  refine ⟨⟨?_, ?_, ?_, ?_, ?_, .inl h.pm, fun b hb => .inr (rowOf_some.1 hb), ?_, ?_⟩, O⟩
  · rw [modCells_row]; exact hm1.set 4 _
  · have := ownsRow_setCell_other hown (a := ⟨m, 4, none⟩) (fun e => hgm (by simpa [Value.ownBlock] using e)) (.slice (some ⟨g, 0, none⟩) (s.l.length + 1) cap)
    simpa using this
  · refine (h.vers.only O (fun i hi hS => ?_)).toward (fun b hb => .inl hb)
    rcases hS with e | e
    · exact h.vers.blkNe h.mod (by decide) i hi e
    · exact rows_ne h.row (h.vers.blk i hi).1 (by decide) e
  · have T : TxsIn (w1.setCell ⟨m, 4, none⟩ (.slice (some ⟨g, 0, none⟩) (s.l.length + 1) cap)) P A.va A s.tx := by
      refine h.txs.only O (fun j t ht => ?_)
      have X := (h.txs.one j t ht).2
      obtain ⟨a1, a2, a3⟩ := h.txs.blkNe h.mod (by decide) (by decide) j t ht
      refine ⟨fun hS => ?_, fun q hq hS => ?_, fun k c hk hS => ?_⟩
      · rcases hS with e | e
        · exact a1 e
        · exact rows_ne h.row X.blk (by decide) e
      · rcases hS with e | e
        · exact a2 q hq e
        · exact (h.mapApart ht hq).2.1 _ e rfl
      · rcases hS with e | e
        · exact a3 k c hk e
        · exact rows_ne h.row (X.cel k c hk).2.1 (by decide) e
    refine ⟨fun j t ht => ⟨(T.one j t ht).1, ((T.one j t ht).2.toward (fun b hb => .inl hb)).congrA rfl rfl rfl⟩, T.tinj, T.minj, T.cinj⟩
  · refine ⟨h.ok.slots, h.ok.limit, h.ok.now, h.ok.made, by simp; omega, fun i hi => ?_, h.ok.ops, h.ok.refs⟩
    rcases List.mem_append.1 hi with hi | hi
    · exact h.ok.lin i hi
    · obtain rfl : i = id := by simpa using hi
      exact hid
  · have hsz : (w1.setCell ⟨m, 4, none⟩ (.slice (some ⟨g, 0, none⟩) (s.l.length + 1) cap)).heap.size = w1.heap.size := by simp
    rintro b (hb | rfl)
    · rw [hsz]; exact Nat.lt_of_lt_of_le (h.under b hb) o.size
    · rw [hsz]; exact hg
  · rintro b (hb | rfl)
    · exact h.above b hb
    · exact hB
theorem take_cells {s : St} {j k : Nat} {t t1 : Tx} {c : Cel} (h : s.take j t k = (some c, t1)) : t1.cells k = some c ∧ t1.id = t.id := by
  unfold St.take at h
  split at h
  · rename_i c' hc; injection h with h1 h2; injection h1 with h1; subst h1 h2; exact ⟨hc, rfl⟩
  · split at h
    · simp at h
    · injection h with h1 h2; injection h1 with h1; subst h1 h2; exact ⟨by simp [Tx.put, upd_same], rfl⟩
end Go.Proofs.Ytdjehgnkpbkdbaa
namespace Go.Proofs.Ytdjehgnkpbkdbaa
open Go.RowKit
set_option linter.unusedVariables false
set_option linter.unusedSimpArgs false
/-- What a call leaves that turns the state: the value that came back, and the Model at its place. -/
def StRes (B m : Nat) (w : World) (P : Nat → Prop) (A : Ad) (v : Value) (s' : St) (e : Ending) (w' : World) : Prop :=
  ∃ (A' : Ad) (P' : Nat → Prop), e = .returned v ∧ MIn B w' P' m s' A' ∧ A'.tb = A.tb ∧ A'.mb = A.mb ∧ Only P w w' ∧ Grew w.heap.size P P'
theorem Only.set1 (w : World) (b o : Nat) (v : Value) : Only (fun c => c = b) w (w.setCell ⟨b, o, none⟩ v) := Only.setCell (S := fun c => c = b) (Only.refl _ w) (p := ⟨b, o, none⟩) (fun _ => rfl) v
theorem Grew.base {N M : Nat} {P P' : Nat → Prop} (h : Grew M P P') (hN : N ≤ M) : Grew N P P' := fun b hb => (h b hb).imp id (fun hh => Nat.le_trans hN hh)
theorem Only.grewTrans {P P2 : Nat → Prop} {w w2 w3 : World} (h : Only P w w2) (g : Grew w.heap.size P P2) (h' : Only P2 w2 w3) : Only P w w3 :=
  ⟨h'.os.trans h.os, h'.tape.trans h.tape, h'.output.trans h.output, Nat.le_trans h.size h'.size, fun k hk hn => (h'.block k (Nat.lt_of_lt_of_le hk h.size) (fun hp => by
    rcases g k hp with h1 | h1
    · exact hn h1
    · omega)).trans (h.block k hk hn)⟩
theorem celCells_there (va : Nat → Nat) (c : Cel) (b : Bool) : (celCells va c).setIfInBounds 2 (.bool b) = celCells va { c with there := b } := by simp [celCells]
theorem celCells_own (va : Nat → Nat) (c : Cel) (i : Nat) : (celCells va c).setIfInBounds 0 (.pointer (some ⟨va i, 0, none⟩)) = celCells va { c with own := some i } := by simp [celCells, ptrOf]
theorem verCells_value (v : Ver) (x : Int) : (verCells v).setIfInBounds 1 (.int .i64 x) = verCells { v with value := x } := by simp [verCells]
theorem setTx_setTx (s : St) (j : Nat) (a b : Option Tx) : (s.setTx j a).setTx j b = s.setTx j b := by
  unfold St.setTx
  congr 1
  funext i
  by_cases e : i = j <;> simp [upd, e]
theorem write_none {s : St} {j k : Nat} {t t1 : Tx} {kind value : Int} (h : s.take j t k = (none, t1)) : s.write j t kind k value = (2, s) := by simp [St.write, h]
theorem write_del {s : St} {j k : Nat} {t t1 : Tx} {c : Cel} {value : Int} (h : s.take j t k = (some c, t1)) : s.write j t 4 k value = (0, s.setTx j (some (t1.put k { c with there := false }))) := by simp [St.write, h]
theorem write_full {s : St} {j k : Nat} {t t1 : Tx} {c : Cel} {kind value : Int} (h : s.take j t k = (some c, t1)) (h4 : kind ≠ 4) (ho : c.own = none) (hf : s.slots ≤ s.l.length) : s.write j t kind k value = (5, s.setTx j (some t1)) := by simp [St.write, h, h4, ho, hf]
theorem write_new {s : St} {j k : Nat} {t t1 : Tx} {c : Cel} {kind value : Int} (h : s.take j t k = (some c, t1)) (h4 : kind ≠ 4) (ho : c.own = none) (hf : ¬ s.slots ≤ s.l.length) :
    s.write j t kind k value = (0, (s.grow ⟨k, value, t.id, 0, 0, false⟩).setTx j (some (t1.put k { c with own := some s.vs.length, there := true }))) := by simp [St.write, h, h4, ho, hf]
theorem write_own {s : St} {j k i : Nat} {t t1 : Tx} {c : Cel} {kind value : Int} (h : s.take j t k = (some c, t1)) (h4 : kind ≠ 4) (ho : c.own = some i) : s.write j t kind k value = (0, (s.setVal i value).setTx j (some (t1.put k { c with there := true }))) := by simp [St.write, h, h4, ho]
theorem st_new1 (s : St) (j : Nat) (a b : Option Tx) (v : Ver) : ({ s.setTx j a with vs := (s.setTx j a).vs ++ [v] } : St).setTx j b = ({ s with vs := s.vs ++ [v] } : St).setTx j b := by
  unfold St.setTx
  congr 1
  funext q
  by_cases e : q = j <;> simp [upd, e]
theorem st_own (s : St) (j i : Nat) (a b : Option Tx) (value : Int) : ({ s.setTx j a with vs := (s.setTx j a).vs.set i { s.ver i with value := value } } : St).setTx j b = (s.setVal i value).setTx j b := by
  unfold St.setTx St.setVal
  congr 1
  funext q
  by_cases e : q = j <;> simp [upd, e]
set_option maxRecDepth 100000 in
theorem info_vptr : (Try.prog.info? 76).map (fun i => (i.zero, i.size, i.bytes)) = some (some (.pointer none), 1, 8) := by kernel_rfl
theorem take_none {s : St} {j k : Nat} {t t1 : Tx} (h : s.take j t k = (none, t1)) : t1 = t := by
  unfold St.take at h
  split at h
  · simp at h
  · split at h
    · injection h with _ h; exact h.symm
    · simp at h
set_option maxRecDepth 100000 in
set_option maxHeartbeats 8000000 in
theorem md_write {B m : Nat} {w : World} {P : Nat → Prop} {s : St} {A : Ad} (h : MIn B w P m s A) {j : Nat} {t : Tx} (ht : s.tx j = some t) (k : Nat) (hk : k < 64) (kind hi value : Int) :
    Calls Try.prog 48 #[.pointer (some ⟨m, 0, none⟩), .pointer (some ⟨A.tb j, 0, none⟩), .agg #[.int .i64 kind, .int .i64 k, .int .i64 hi, .int .i64 value]] w (StRes B m w P A (.int .i64 (s.write j t kind k value).1) (s.write j t kind k value).2) := by
  obtain ⟨W, hW⟩ : ∃ W, W = w.alloc (.cells #[.int .i64 kind, .int .i64 k, .int .i64 hi, .int .i64 value] 31) := ⟨_, rfl⟩
  have oW : Only0 w W := by rw [hW]; exact (Only0.refl w).alloc _
  have hM := h.only0 oW
  have BX : Blk W w.heap.size 31 #[.int .i64 kind, .int .i64 k, .int .i64 hi, .int .i64 value] := by rw [hW]; exact Blk.new _ _ _
  have C := md_take hM ht k hk
  have hnP : ¬ P w.heap.size := fun hp => by have := h.under _ hp; omega
  have c1 : W.cell? ⟨w.heap.size, 1, none⟩ = some (.int .i64 k) := BX.cell 1
  have HA := Lib.hid oW
  have HB := Lib.hid BX
  have HM := Lib.hid hM
  have HN := Lib.hid hnP
  have HT := Lib.hid ht
  obtain ⟨n0, hn0⟩ : ∃ n0, n0 = w.heap.size := ⟨_, rfl⟩
  rcases hk2 : s.take j t k with ⟨_ | c, t1⟩
  · rw [write_none hk2]
    have HK := Lib.hid hk2
    clear h ht hM BX hnP oW
    go_enter Try.func48, Try.ntmps48
    go_wp2_with fail
    rw [← hW]
    go_wp2_with fail
    refine C.mono ?_
    rintro e w2 ⟨ca, P2, rfl, h2, o2, g2⟩
    rw [HK.out] at h2 ⊢
    have R := Lib.hid (show StRes B m w P A (.int .i64 2) s (.returned (.int .i64 2)) w2 from ⟨{ A with ca := ca }, P2, rfl, by rw [take_none HK.out, setTx_self HT.out] at h2; exact h2, rfl, rfl, (HA.out.any P).trans o2, g2.base HA.out.size⟩)
    clear C h2 o2 g2 c1
    go_wp2_with fail
    go_ret
    exact R.out
  · have hc1 := take_cells hk2
    have HK := Lib.hid hk2
    have HC := Lib.hid hc1
    have SET : (s.setTx j (some t1)).tx j = some t1 := by simp [St.setTx, upd_same]
    have HS := Lib.hid SET
    clear SET
    by_cases h4 : kind = 4
    · subst h4
      rw [write_del hk2]
      have HO : (kind : Int) → True := fun _ => trivial
      clear h ht hM BX hnP oW hc1 hk2 HO
      go_enter Try.func48, Try.ntmps48
      go_wp2_with fail
      rw [← hW]
      go_wp2_with fail
      refine C.mono ?_
      rintro e w2 ⟨ca, P2, rfl, h2, o2, g2⟩
      rw [HK.out] at h2 ⊢
      have q := ((h2.txs.one j t1 HS.out).2.cel k c HC.out.1).2
      have q2 : w2.cell? ⟨ca j k, 2, none⟩ = some (.bool c.there) := q.1.cell 2
      have f2 := q.1.free 2
      have b0 : w2.cell? ⟨w.heap.size, 0, none⟩ = some (.int .i64 4) := (o2.blk HB.out HN.out).cell 0
      have M3 := h2.setCel HS.out HC.out.1 { c with there := false } (w' := w2.setCell ⟨ca j k, 2, none⟩ (.bool false)) (Only.set1 w2 _ 2 _) (by rw [← celCells_there]; exact q.1.set 2 _) (h2.ok.refs j t1 k c HS.out HC.out.1)
      rw [setTx_setTx] at M3
      have R := Lib.hid (show StRes B m w P A (.int .i64 0) (s.setTx j (some (t1.put k { c with there := false }))) (.returned (.int .i64 0)) (w2.setCell ⟨ca j k, 2, none⟩ (.bool false)) from
        ⟨{ A with ca := ca }, P2, rfl, M3, rfl, rfl, ((HA.out.any P).trans o2).grewTrans (g2.base HA.out.size) ((Only.set1 w2 _ 2 _).toward (fun b hb => by subst hb; exact q.2)), g2.base HA.out.size⟩)
      clear C h2 o2 g2 c1 q M3
      go_wp2_with fail
      go_ret
      exact R.out
    · have h4b : (kind == 4) = false := by simpa using h4
      cases hown : c.own with
      | none =>
        by_cases hf : s.slots ≤ s.l.length
        · rw [write_full hk2 h4 hown hf]
          have HO := Lib.hid hown
          have hlen : s.l.length ≤ 256 := by have := h.ok.few; have := h.ok.slots; omega
          clear h ht hM BX hnP oW hc1 hk2 h4 hown
          go_enter Try.func48, Try.ntmps48
          go_wp2_with fail
          rw [← hW]
          go_wp2_with fail
          refine C.mono ?_
          rintro e w2 ⟨ca, P2, rfl, h2, o2, g2⟩
          rw [HK.out] at h2 ⊢
          have q := ((h2.txs.one j t1 HS.out).2.cel k c HC.out.1).2
          have q0 : w2.cell? ⟨ca j k, 0, none⟩ = some (.pointer none) := by rw [q.1.cell 0]; simp only [celCells, HO.out]; rfl
          have m0 : w2.cell? ⟨m, 0, none⟩ = some (.int .i64 s.slots) := h2.mod.cell 0
          have m4 : w2.cell? ⟨m, 4, none⟩ = some (.slice A.la s.l.length A.lc) := h2.mod.cell 4
          have b0 : w2.cell? ⟨w.heap.size, 0, none⟩ = some (.int .i64 kind) := (o2.blk HB.out HN.out).cell 0
          have R := fun n => Lib.hid (show StRes B m w P A (.int .i64 5) (s.setTx j (some t1)) (.returned (.int .i64 5)) (w2.drewN n) from
            ⟨{ A with ca := ca }, P2, rfl, h2.drewN n, rfl, rfl, ((HA.out.any P).trans o2).drewN n, g2.base HA.out.size⟩)
          have HR := Lib.hid R
          clear C h2 o2 g2 c1 q R
          go_wp2_with fail
          go_quiet (fail)
          go_wp2_with fail
          go_ret
          exact (HR.out _).out
        · rw [write_new hk2 h4 hown hf]
          have HO := Lib.hid hown
          have hlen : s.l.length ≤ 256 := by have := h.ok.few; have := h.ok.slots; omega
          have HID := Lib.hid hc1.2
          clear h ht hM BX hnP oW hc1 hk2 h4 hown
          go_enter Try.func48, Try.ntmps48
          go_wp2_with fail
          rw [← hW]
          go_wp2_with fail
          refine C.mono ?_
          rintro e w2 ⟨ca, P2, rfl, h2, o2, g2⟩
          rw [HK.out] at h2 ⊢
          have X2 := (h2.txs.one j t1 HS.out).2
          have q := (X2.cel k c HC.out.1).2
          have q0 : w2.cell? ⟨ca j k, 0, none⟩ = some (.pointer none) := by rw [q.1.cell 0]; simp only [celCells, HO.out]; rfl
          have f0 := q.1.free 0
          have m0 : w2.cell? ⟨m, 0, none⟩ = some (.int .i64 s.slots) := h2.mod.cell 0
          have m4 : w2.cell? ⟨m, 4, none⟩ = some (.slice A.la s.l.length A.lc) := h2.mod.cell 4
          have b0 : w2.cell? ⟨w.heap.size, 0, none⟩ = some (.int .i64 kind) := (o2.blk HB.out HN.out).cell 0
          have b1 : w2.cell? ⟨w.heap.size, 1, none⟩ = some (.int .i64 k) := (o2.blk HB.out HN.out).cell 1
          have t0 : w2.cell? ⟨A.tb j, 0, none⟩ = some (.int .i64 t.id) := by rw [← HID.out]; exact X2.blk.cell 0
          clear C c1
          go_wp2_with fail
          go_quiet (fail)
          go_wp2_with fail
          have qlt := q.1.lt
          have a0 : ∀ (n : Nat) (o1 : Obj), ((w2.drewN n).alloc o1).cell? ⟨ca j k, 0, none⟩ = some (.pointer none) := fun n o1 => (Blk.cell (Blk.alloc (w := w2.drewN n) q.1 o1) 0).trans (by simp only [celCells, HO.out]; rfl)
          have a0f : ∀ (n : Nat) (o1 : Obj), ((w2.drewN n).alloc o1).frozen? ⟨ca j k, 0, none⟩ = false := fun n o1 => Blk.free (Blk.alloc (w := w2.drewN n) q.1 o1) 0
          go_region
          clear a0 a0f
          generalize hW5 : World.setCell _ _ _ = W5
          obtain ⟨N, hN⟩ : ∃ N, W5 = ((w2.drewN N).alloc (.cells #[.int .i64 k, .int .i64 0, .int .i64 t.id, .int .u64 0, .int .u64 0, .bool false] 79)).setCell ⟨ca j k, 0, none⟩ (.pointer (some ⟨w2.heap.size, 0, none⟩)) := ⟨_, hW5.symm⟩
          clear hW5
          obtain ⟨n1, hn1⟩ : ∃ n1, n1 = w2.heap.size := ⟨_, rfl⟩
          rw [← hn1] at hN ⊢
          obtain ⟨v0, hv0⟩ : ∃ v0 : Ver, v0 = ⟨k, 0, t.id, 0, 0, false⟩ := ⟨_, rfl⟩
          obtain ⟨Wa, hWa⟩ : ∃ Wa, Wa = (w2.drewN N).alloc (.cells #[.int .i64 k, .int .i64 0, .int .i64 t.id, .int .u64 0, .int .u64 0, .bool false] 79) := ⟨_, rfl⟩
          rw [← hWa] at hN
          have oa : Only0 (w2.drewN N) Wa := by rw [hWa]; exact (Only0.refl _).alloc _
          have M4 := (h2.drewN N).newVer v0 (n := n1) (w' := Wa) (by rw [hn1]; exact Nat.le_refl _) (by rw [hWa, hn1]; simp) oa (by rw [hWa, hn1, hv0]; exact Blk.new (w2.drewN N) _ _)
          have qa : Blk Wa (ca j k) 106 (celCells A.va c) := oa.blk (w := w2.drewN N) q.1 (fun h => h)
          have hcu : celCells (upd A.va s.vs.length n1) c = celCells A.va c := celCells_upd (h2.ok.refs j t1 k c HS.out HC.out.1)
          have M5 := M4.setCel HS.out HC.out.1 { c with own := some s.vs.length } (w' := W5) (by rw [hN]; exact Only.set1 Wa (ca j k) 0 _) (by
            rw [← celCells_own, hN]
            show Blk _ (ca j k) _ ((celCells (upd A.va s.vs.length n1) c).setIfInBounds 0 (.pointer (some ⟨upd A.va s.vs.length n1 s.vs.length, 0, none⟩)))
            rw [hcu, upd_same]
            exact qa.set 0 _) ⟨fun i hi => by simp at hi; subst hi; simp [St.setTx], fun i hi => by have := (M4.ok.refs j t1 k c HS.out HC.out.1).2 i hi; exact this⟩
          rw [st_new1] at M5
          have O5 : Only P w W5 := by
            have e1 : Only P w (w2.drewN N) := ((HA.out.any P).trans o2).drewN N
            have e2 : Only P2 (w2.drewN N) W5 := by rw [hN]; exact (oa.any P2).trans ((Only.set1 Wa (ca j k) 0 _).toward (fun b hb => by subst hb; exact q.2))
            exact e1.grewTrans (g2.base HA.out.size) e2
          have hsz2 : w.heap.size ≤ n1 := by have := HA.out.size; have := o2.size; omega
          have G5 : Grew w.heap.size P (fun b => P2 b ∨ b = n1) := fun b hb => by
            rcases hb with hb | rfl
            · exact (g2.base HA.out.size) b hb
            · exact .inr hsz2
          have B5 : Blk W5 w.heap.size 31 #[.int .i64 kind, .int .i64 k, .int .i64 hi, .int .i64 value] := by
            have e1 : Blk w2 w.heap.size 31 _ := o2.blk HB.out HN.out
            have e2 : Blk Wa w.heap.size 31 _ := oa.blk (w := w2.drewN N) e1 (fun h => h)
            rw [hN]; exact e2.other ⟨ca j k, 0, none⟩ _ (e2.ne qa (by decide))
          have T5 : (({ s with vs := s.vs ++ [v0] } : St).setTx j (some (t1.put k { c with own := some s.vs.length }))).tx j = some (t1.put k { c with own := some s.vs.length }) := by simp [St.setTx, upd_same]
          clear q0 f0 m0 m4 b0 b1 t0 qlt X2 h2 o2 g2 q M4 qa hcu hN oa hWa Wa hn1 N
          obtain ⟨P5, hP5⟩ : ∃ P5 : Nat → Prop, P5 = fun b => P2 b ∨ b = n1 := ⟨_, rfl⟩
          obtain ⟨c5, hc5⟩ : ∃ c5 : Cel, c5 = { c with own := some s.vs.length } := ⟨_, rfl⟩
          obtain ⟨t5, ht5⟩ : ∃ t5, t5 = t1.put k c5 := ⟨_, rfl⟩
          obtain ⟨s5, hs5⟩ : ∃ s5, s5 = ({ s with vs := s.vs ++ [v0] } : St).setTx j (some t5) := ⟨_, rfl⟩
          obtain ⟨A5, hA5⟩ : ∃ A5, A5 = ({ A with va := upd A.va s.vs.length n1, ca := ca } : Ad) := ⟨_, rfl⟩
          have M : MIn B W5 P5 m s5 A5 := by rw [hP5, hs5, hA5, ht5, hc5]; exact M5
          have E1 : s5.tx j = some t5 := by rw [hs5]; simp [St.setTx, upd_same]
          have E2 : t5.cells k = some c5 := by rw [ht5]; simp [Tx.put, upd_same]
          have G5' : Grew w.heap.size P P5 := by rw [hP5]; exact G5
          have E3 : s5.l = s.l ∧ s5.slots = s.slots ∧ s5.vs = s.vs ++ [v0] := by rw [hs5]; exact ⟨rfl, rfl, rfl⟩
          have E4 : A5.la = A.la ∧ A5.lc = A.lc ∧ A5.tb = A.tb ∧ A5.mb = A.mb ∧ A5.ca = ca ∧ A5.va s.vs.length = n1 := by rw [hA5]; exact ⟨rfl, rfl, rfl, rfl, rfl, upd_same _ _ _⟩
          have E5 : ∀ b, ({ s5 with l := s.l ++ [s.vs.length], vs := s5.vs.set s.vs.length { v0 with value := value } } : St).setTx j b = (s.grow { v0 with value := value }).setTx j b := fun b => by
            rw [hs5]; unfold St.setTx St.grow
            simp only [List.set_append_right _ _ (Nat.le_refl _), Nat.sub_self, List.set_cons_zero]
            congr 1
            funext q
            by_cases e : q = j <;> simp [upd, e]
          have E6 : t5.put k { c5 with there := true } = t1.put k { c with own := some s.vs.length, there := true } := by
            rw [ht5, hc5]; unfold Tx.put
            congr 1
            funext q
            by_cases e : q = k <;> simp [upd, e]
          clear M5 T5 hs5 ht5 hP5 hA5 G5 hsz2
          have X := (M.txs.one j t5 E1).2
          have q := (X.cel k c5 E2).2
          rw [E4.2.2.2.2.1] at q
          have R := M.row
          rw [E3.1, E4.1, E4.2.1] at R
          have q0 : W5.cell? ⟨ca j k, 0, none⟩ = some (.pointer (some ⟨n1, 0, none⟩)) := by rw [q.1.cell 0, hc5]; simp only [celCells, ptrOf, Option.map_some, E4.2.2.2.2.2]; rfl
          have m4 : W5.cell? ⟨m, 4, none⟩ = some (.slice A.la s.l.length A.lc) := by rw [M.mod.cell 4]; simp only [modCells, E3.1, E4.1, E4.2.1]; rfl
          have fm := M.mod.free 4
          obtain ⟨W6, hW6⟩ : ∃ W6, W6 = (W5.alloc (.cells #[.pointer (some ⟨n1, 0, none⟩)] 76)).drew := ⟨_, rfl⟩
          have o6 : Only0 W5 W6 := by rw [hW6]; exact ((Only0.refl _).alloc _).drew
          have m6 : W6.cell? ⟨m, 4, none⟩ = some (.slice A.la s.l.length A.lc) := by rw [(o6.blk M.mod (fun h => h)).cell 4]; simp only [modCells, E3.1, E4.1, E4.2.1]; rfl
          have fm6 := (o6.blk M.mod (fun h => h)).free 4
          have R6 := rows_only R o6 (fun _ _ hf => hf)
          have z6 : W6.heap.size = W5.heap.size + 1 := by rw [hW6]; simp
          have hm6 : m < W6.heap.size := by have := M.mod.lt; omega
          have nrow : ¬ rowOf (.slice A.la s.l.length A.lc) m := rows_ne R M.mod (by decide)
          have hB5 : B ≤ W5.heap.size := by have := M.above m M.pm; have := M.mod.lt; omega
          obtain ⟨j0, hj0, hj1, hj2, hj3⟩ := info_parts info_vptr
          rw [hW6] at m6 fm6 R6 z6 hm6
          have STEP : ∀ (gg cap : Nat) (w1 : World), w1.ownsRow B 76 1 (.slice (some ⟨gg, 0, none⟩) (s.l.length + 1) cap) (s.l.length + 1) ((s.l.map fun i => .pointer (some (at0 (A5.va i)))) ++ [.pointer (some ⟨n1, 0, none⟩)]) → W6.grownBy w1 (Value.slice A.la s.l.length A.lc).ownBlock → ((Value.slice A.la s.l.length A.lc).ownBlock = some gg ∨ gg = W5.heap.size + 1) → gg < w1.heap.size →
              ∃ (P7 : Nat → Prop) (A7 : Ad), MIn B (w1.setCell ⟨m, 4, none⟩ (.slice (some ⟨gg, 0, none⟩) (s.l.length + 1) cap)) P7 m { s5 with l := s.l ++ [s.vs.length] } A7 ∧ A7.va s.vs.length = n1 ∧ A7.ca = ca ∧ A7.tb = A.tb ∧ A7.mb = A.mb ∧ Only P w (w1.setCell ⟨m, 4, none⟩ (.slice (some ⟨gg, 0, none⟩) (s.l.length + 1) cap)) ∧ Grew w.heap.size P P7 ∧
                Blk (w1.setCell ⟨m, 4, none⟩ (.slice (some ⟨gg, 0, none⟩) (s.l.length + 1) cap)) w.heap.size 31 #[.int .i64 kind, .int .i64 k, .int .i64 hi, .int .i64 value] := by
            intro gg cap w1 hown2 hgrow hat hlt
            have M6 := M.only0 o6
            have oR : Only (rowOf (.slice A.la s.l.length A.lc)) W6 w1 := ⟨hgrow.os, hgrow.tape, hgrow.output, hgrow.size, fun b hb hn => hgrow.block b hb (fun e => hn e.symm)⟩
            have AR := M6.addRow (id := s.vs.length) (g := gg) (cap := cap) (w1 := w1) (by rw [E3.2.2]; simp) (by rw [E3.1, E3.2.1]; omega) (by rw [E3.1, E4.2.2.2.2.2]; exact hown2) (by rw [E3.1, E4.1, E4.2.1]; exact oR) (by
              rw [E3.1, E4.1, E4.2.1]
              rcases hat with h1 | h1
              · exact .inl h1
              · exact .inr (by rw [h1, hW6]; simp)) hlt
            rw [E3.1, E4.1, E4.2.1] at AR
            obtain ⟨M7, O7⟩ := AR
            have hp5 : ∀ b, (b = m ∨ rowOf (.slice A.la s.l.length A.lc) b) → P5 b := fun b hb => by
              rcases hb with rfl | hb
              · exact M.pm
              · exact M.pr b (by rw [E3.1, E4.1, E4.2.1]; exact hb)
            have B6 : Blk W6 w.heap.size 31 #[.int .i64 kind, .int .i64 k, .int .i64 hi, .int .i64 value] := o6.blk B5 (fun h => h)
            have hgw : w.heap.size ≤ W6.heap.size := Nat.le_trans O5.size o6.size
            refine ⟨_, _, M7, E4.2.2.2.2.2, E4.2.2.2.2.1, E4.2.2.1, E4.2.2.2.1, (O5.trans (o6.any P)).grewTrans G5' (O7.toward hp5), fun b hb => ?_, O7.blk B6 (fun hS => ?_)⟩
            · rcases hb with hb | rfl
              · exact G5' b hb
              · rcases hat with h1 | h1
                · exact G5' b (hp5 b (.inr h1))
                · exact .inr (by have := o6.size; rw [h1]; have := O5.size; omega)
            · rcases hS with e | e
              · exact (B6.ne M6.mod (by decide)) e
              · have R' := M6.row
                rw [E3.1, E4.1, E4.2.1] at R'
                exact rows_ne R' B6 (by decide) e
          have RES : ∀ (W7 : World) (P7 : Nat → Prop) (A7 : Ad), MIn B W7 P7 m { s5 with l := s.l ++ [s.vs.length] } A7 → A7.va s.vs.length = n1 → A7.ca = ca → A7.tb = A.tb → A7.mb = A.mb → Only P w W7 → Grew w.heap.size P P7 →
              (W7.cell? ⟨ca j k, 0, none⟩ = some (.pointer (some ⟨n1, 0, none⟩)) ∧ W7.cell? ⟨ca j k, 2, none⟩ = some (.bool c.there) ∧ W7.frozen? ⟨ca j k, 2, none⟩ = false ∧ W7.cell? ⟨n1, 1, none⟩ = some (.int .i64 0) ∧ W7.frozen? ⟨n1, 1, none⟩ = false) ∧
              ∀ N, StRes B m w P A (.int .i64 0) ((s.grow ⟨k, value, t.id, 0, 0, false⟩).setTx j (some (t1.put k { c with own := some s.vs.length, there := true }))) (.returned (.int .i64 0)) (((W7.drewN N).setCell ⟨n1, 1, none⟩ (.int .i64 value)).setCell ⟨ca j k, 2, none⟩ (.bool true)) := by
            intro W7 P7 A7 M7 a1 a2 a3 a4 O7 G7
            have X7 := (M7.txs.one j t5 E1).2
            have q7 := (X7.cel k c5 E2).2
            rw [a2] at q7
            have v7 := M7.vers.blk s.vs.length (by show s.vs.length < s5.vs.length; rw [E3.2.2]; simp)
            have e7 : s5.vs.getD s.vs.length default = v0 := by rw [E3.2.2]; simp [List.getD_eq_getElem?_getD]
            change Blk W7 (A7.va s.vs.length) _ (verCells (s5.vs.getD s.vs.length default)) ∧ P7 (A7.va s.vs.length) at v7
            rw [e7, a1] at v7
            refine ⟨⟨by rw [q7.1.cell 0, hc5]; simp only [celCells, ptrOf, Option.map_some, a1]; rfl, by rw [q7.1.cell 2, hc5]; rfl, q7.1.free 2, by rw [v7.1.cell 1, hv0]; rfl, v7.1.free 1⟩, fun N => ?_⟩
            have M8 := (M7.drewN N).setVer (i := s.vs.length) (v := { v0 with value := value }) (by show s.vs.length < s5.vs.length; rw [E3.2.2]; simp) (w' := (W7.drewN N).setCell ⟨n1, 1, none⟩ (.int .i64 value)) (by rw [a1]; exact Only.set1 (W7.drewN N) n1 1 _) (by rw [a1, ← verCells_value]; exact Blk.set (w := W7.drewN N) v7.1 1 _)
            have hne : ca j k ≠ n1 := q7.1.ne v7.1 (by decide)
            have M9 := M8.setCel E1 E2 { c5 with there := true } (w' := ((W7.drewN N).setCell ⟨n1, 1, none⟩ (.int .i64 value)).setCell ⟨ca j k, 2, none⟩ (.bool true)) (by rw [a2]; exact Only.set1 _ (ca j k) 2 _) (by rw [a2, ← celCells_there]; exact (Blk.other (w := W7.drewN N) q7.1 ⟨n1, 1, none⟩ (.int .i64 value) hne).set 2 _) (M8.ok.refs j t5 k c5 E1 E2)
            refine ⟨A7, P7, rfl, ?_, a3, a4, (O7.drewN N).grewTrans G7 (((Only.set1 (W7.drewN N) n1 1 (.int .i64 value)).toward (fun b hb => by subst hb; exact v7.2)).trans ((Only.set1 _ (ca j k) 2 _).toward (fun b hb => by subst hb; exact q7.2))), G7⟩
            have := M9
            rw [E6] at this
            rw [hv0] at this E5
            exact (E5 _) ▸ this
          have HSTEP := Lib.hid STEP
          have HRES := Lib.hid RES
          have HV := Lib.hid hv0
          rw [hW6] at HSTEP
          clear M X q O5 o6 z6 R E1 E2 E3 E4 E5 E6 hc5 STEP RES hW6 G5' hv0 B5
          go_wp2_with fail
          go_region_law
            ((refine step_append_lies _ (by rfl) _ _ _ (by rfl) B 76 j0 _ 1 8 Try.underlying50 hj0 hj1 hj2 hj3 rfl (by omega) (.slice A.la s.l.length A.lc) s.l.length (s.l.map fun i => .pointer (some (at0 (A5.va i)))) (by rfl) R6
                ⟨W5.heap.size, 0, none⟩ 1 1 [.pointer (some ⟨n1, 0, none⟩)] (by rfl) (by rfl) (World.news_of_block (cs := #[.pointer (some ⟨n1, 0, none⟩)]) (t := 76) (fr := (0, 0)) (heap_alloc_new W5 _)) (by simp [Value.oneCell'])
                (by omega) (by unfold maxLen; omega) (by omega) (by simp; omega) (W5.heap.size + 1) (by simp) ?_; intro gg cap w1 hown2 hgrow hat hlt
              have cz : w1.cell? ⟨m, 4, none⟩ = some (.slice A.la s.l.length A.lc) := (hgrow.cell_far ⟨m, 4, none⟩ hm6 (fun e => nrow e.symm)).trans m6
              have fz1 : w1.frozen? ⟨m, 4, none⟩ = false := (hgrow.frozen_far ⟨m, 4, none⟩ hm6 (fun e => nrow e.symm)).trans fm6))
          all_goals
            obtain ⟨P7, A7, M7, a1, a2, a3, a4, O7, G7, B7⟩ := HSTEP.out gg cap w1 hown2 hgrow hat hlt
            generalize hW7 : World.setCell w1 _ _ = W7 at *
            obtain ⟨⟨d0, d2, df, e1, ef⟩, R⟩ := HRES.out W7 P7 A7 M7 a1 a2 a3 a4 O7 G7
            have b3 : W7.cell? ⟨w.heap.size, 3, none⟩ = some (.int .i64 value) := B7.cell 3
            have HR := Lib.hid R
            clear M7 a1 a2 a3 a4 O7 G7 B7 R hW7 hown2 hgrow hat hlt cz fz1
            go_wp2_with fail
            go_region
            go_wp2_with fail
            go_ret
            exact HR.out _
      | some i =>
        rw [write_own hk2 h4 hown]
        have HO := Lib.hid hown
        have hlen : s.l.length ≤ 256 := by have := h.ok.few; have := h.ok.slots; omega
        clear h ht hM BX hnP oW hc1 hk2 h4 hown
        go_enter Try.func48, Try.ntmps48
        go_wp2_with fail
        rw [← hW]
        go_wp2_with fail
        refine C.mono ?_
        rintro e w2 ⟨ca, P2, rfl, h2, o2, g2⟩
        rw [HK.out] at h2 ⊢
        have q := ((h2.txs.one j t1 HS.out).2.cel k c HC.out.1).2
        have q0 : w2.cell? ⟨ca j k, 0, none⟩ = some (.pointer (some ⟨A.va i, 0, none⟩)) := by rw [q.1.cell 0]; simp only [celCells, HO.out]; rfl
        have q2 : w2.cell? ⟨ca j k, 2, none⟩ = some (.bool c.there) := q.1.cell 2
        have f2 := q.1.free 2
        have hi2 : i < s.vs.length := (h2.ok.refs j t1 k c HS.out HC.out.1).1 i HO.out
        have v := h2.vers.blk i hi2
        have v1 : w2.cell? ⟨A.va i, 1, none⟩ = some (.int .i64 (s.ver i).value) := v.1.cell 1
        have vf := v.1.free 1
        have b0 : w2.cell? ⟨w.heap.size, 0, none⟩ = some (.int .i64 kind) := (o2.blk HB.out HN.out).cell 0
        have b3 : w2.cell? ⟨w.heap.size, 3, none⟩ = some (.int .i64 value) := (o2.blk HB.out HN.out).cell 3
        have R : ∀ n, StRes B m w P A (.int .i64 0) ((s.setVal i value).setTx j (some (t1.put k { c with there := true }))) (.returned (.int .i64 0)) (((w2.drewN n).setCell ⟨A.va i, 1, none⟩ (.int .i64 value)).setCell ⟨ca j k, 2, none⟩ (.bool true)) := fun n => by
          have M3 := (h2.drewN n).setVer hi2 (v := { s.ver i with value := value }) (Only.set1 (w2.drewN n) (A.va i) 1 (.int .i64 value)) (by rw [← verCells_value]; exact Blk.set (w := w2.drewN n) v.1 1 _)
          have hne : ca j k ≠ A.va i := q.1.ne v.1 (by decide)
          have M4 := M3.setCel HS.out HC.out.1 { c with there := true } (Only.set1 ((w2.drewN n).setCell ⟨A.va i, 1, none⟩ (.int .i64 value)) (ca j k) 2 (.bool true)) (by rw [← celCells_there]; exact (Blk.other (w := w2.drewN n) q.1 ⟨A.va i, 1, none⟩ (.int .i64 value) hne).set 2 _) (M3.ok.refs j t1 k c HS.out HC.out.1)
          rw [st_own] at M4
          exact ⟨{ A with ca := ca }, P2, rfl, M4, rfl, rfl, (((HA.out.any P).trans o2).drewN n).grewTrans (g2.base HA.out.size) (((Only.set1 (w2.drewN n) (A.va i) 1 (.int .i64 value)).toward (fun b hb => by subst hb; exact v.2)).trans ((Only.set1 _ (ca j k) 2 _).toward (fun b hb => by subst hb; exact q.2))), g2.base HA.out.size⟩
        have HR := Lib.hid R
        clear C c1 R h2 o2 g2 q v
        go_wp2_with fail
        go_quiet (fail)
        go_wp2_with fail
        go_region
        go_wp2_with fail
        go_ret
        exact HR.out _
end Go.Proofs.Ytdjehgnkpbkdbaa
namespace Go.Proofs.Ytdjehgnkpbkdbaa
open Go.RowKit
set_option linter.unusedVariables false
set_option linter.unusedSimpArgs false
/-- The cells of those keys that are no longer to come. -/
def doneC (left : Nat → Bool) (f : Nat → Option Cel) : Nat → Option Cel := fun k => if left k then none else f k
theorem anyC_true {f : Nat → Option Cel} {p : Cel → Bool} {k : Nat} {c : Cel} (hk : k < 64) (hc : f k = some c) (hp : p c = true) : anyC f p = true := List.any_eq_true.2 ⟨k, List.mem_range.2 hk, by rw [hc]; exact hp⟩
theorem anyC_false {f : Nat → Option Cel} {p : Cel → Bool} (h : ∀ k c, k < 64 → f k = some c → p c = false) : anyC f p = false := List.any_eq_false.2 (fun k hk => by
  cases hc : f k with
  | none => simp
  | some c => simp [h k c (List.mem_range.1 hk) hc])
theorem anyC_inv {f : Nat → Option Cel} {p : Cel → Bool} (h : anyC f p = true) : ∃ k c, k < 64 ∧ f k = some c ∧ p c = true := by
  obtain ⟨k, hk, h2⟩ := List.any_eq_true.1 h
  cases hc : f k with
  | none => rw [hc] at h2; cases h2
  | some c => rw [hc] at h2; exact ⟨k, c, List.mem_range.1 hk, hc, h2⟩
theorem anyC_start (f : Nat → Option Cel) (p : Cel → Bool) : anyC (doneC (fun k => (f k).isSome) f) p = false := anyC_false (fun k c _ hc => by
  unfold doneC at hc
  cases hf : f k <;> simp [hf] at hc)
theorem anyC_end {left : Nat → Bool} {f : Nat → Option Cel} (h : ∀ k, k < 64 → left k = false) (p : Cel → Bool) : anyC (doneC left f) p = anyC f p := by
  rw [Bool.eq_iff_iff]
  constructor
  · intro e
    obtain ⟨k, c, hk, hc, hp⟩ := anyC_inv e
    simp [doneC, h k hk] at hc
    exact anyC_true hk hc hp
  · intro e
    obtain ⟨k, c, hk, hc, hp⟩ := anyC_inv e
    exact anyC_true (f := doneC left f) hk (by simp [doneC, h k hk, hc]) hp
theorem anyC_step {left : Nat → Bool} {f : Nat → Option Cel} {k : Nat} {c : Cel} (hk : k < 64) (hl : left k = true) (hc : f k = some c) (p : Cel → Bool) : anyC (doneC (fun j => left j && !decide (j = k)) f) p = (anyC (doneC left f) p || p c) := by
  rw [Bool.eq_iff_iff, Bool.or_eq_true]
  constructor
  · intro e
    obtain ⟨q, d, hq, hd, hp⟩ := anyC_inv e
    by_cases e1 : q = k
    · subst e1
      simp [doneC, hc] at hd; subst hd; exact .inr hp
    · simp [doneC, e1] at hd
      exact .inl (anyC_true (f := doneC left f) hq (by simp [doneC, hd.1, hd.2]) hp)
  · rintro (e | e)
    · obtain ⟨q, d, hq, hd, hp⟩ := anyC_inv e
      by_cases e1 : q = k
      · subst e1; simp [doneC, hl] at hd
      · simp [doneC] at hd
        exact anyC_true (f := doneC (fun j => left j && !decide (j = k)) f) hq (by simp [doneC, hd.1, hd.2]) hp
    · exact anyC_true (f := doneC (fun j => left j && !decide (j = k)) f) hk (by simp [doneC, hc]) e
def killD (left : Nat → Bool) (f : Nat → Option Cel) (vs : List Ver) : List Ver := vs.mapIdx (killV (doneC left f))
theorem killD_len (left : Nat → Bool) (f : Nat → Option Cel) (vs : List Ver) : (killD left f vs).length = vs.length := by simp [killD]
theorem killD_start (f : Nat → Option Cel) (vs : List Ver) : killD (fun k => (f k).isSome) f vs = vs := by
  unfold killD
  apply List.ext_getElem (by simp)
  intro i h1 h2
  simp [killV, anyC_start]
theorem killD_end {left : Nat → Bool} {f : Nat → Option Cel} (h : ∀ k, k < 64 → left k = false) (vs : List Ver) : killD left f vs = vs.mapIdx (killV f) := by
  unfold killD
  apply List.ext_getElem (by simp)
  intro i h1 h2
  simp [killV, anyC_end h]
theorem killD_none {left : Nat → Bool} {f : Nat → Option Cel} {k : Nat} {c : Cel} (hk : k < 64) (hl : left k = true) (hc : f k = some c) (ho : c.own = none) (vs : List Ver) : killD (fun j => left j && !decide (j = k)) f vs = killD left f vs := by
  unfold killD
  apply List.ext_getElem (by simp)
  intro i h1 h2
  simp [killV, anyC_step hk hl hc, isOwn, ho]
theorem killD_some {left : Nat → Bool} {f : Nat → Option Cel} {k i : Nat} {c : Cel} (hk : k < 64) (hl : left k = true) (hc : f k = some c) (ho : c.own = some i) (vs : List Ver) : killD (fun j => left j && !decide (j = k)) f vs = (killD left f vs).set i { (killD left f vs).getD i default with dead := true } := by
  unfold killD
  apply List.ext_getElem (by simp)
  intro q h1 h2
  have hq : q < vs.length := by simpa using h1
  rw [List.getElem_mapIdx]
  by_cases e : q = i
  · subst e
    rw [List.getElem_set_self]
    have : (List.mapIdx (killV (doneC left f)) vs).getD q default = killV (doneC left f) q vs[q] := by
      rw [List.getD_eq_getElem?_getD, List.getElem?_eq_getElem (by simpa using hq), List.getElem_mapIdx]; rfl
    rw [this]
    simp only [killV, anyC_step hk hl hc, isOwn, ho, decide_true, Bool.or_true, if_true]
    split <;> rfl
  · rw [List.getElem_set_ne (Ne.symm e), List.getElem_mapIdx]
    have : isOwn q c = false := by simp [isOwn, ho]; exact fun h => e h.symm
    simp [killV, anyC_step hk hl hc, this]
/-- A session's transaction is let go. -/
theorem txPtr_none (A : Ad) (tx : Nat → Option Tx) (j i : Nat) : txPtr A (upd tx j none) i = if i = j then .pointer none else txPtr A tx i := by
  unfold txPtr
  by_cases e : i = j
  · subst e; simp [upd_same]
  · simp [upd_other _ _ _ e, e]
theorem modCells_drop (A : Ad) (s : St) (j : Nat) (hj : j < 8) : modCells A (s.setTx j none) = (modCells A s).setIfInBounds (5 + j) (.pointer none) := by
  unfold modCells St.setTx
  simp only [txPtr_none]
  match j, hj with
  | 0, _ => rfl
  | 1, _ => rfl
  | 2, _ => rfl
  | 3, _ => rfl
  | 4, _ => rfl
  | 5, _ => rfl
  | 6, _ => rfl
  | 7, _ => rfl
theorem Ok.drop {s : St} (h : Ok s) (j : Nat) : Ok (s.setTx j none) := by
  refine ⟨h.slots, h.limit, h.now, h.made, h.few, h.lin, fun i u hu => ?_, fun i u k c hu hc => ?_⟩
  · by_cases e : i = j
    · subst e; simp [St.setTx, upd_same] at hu
    · simp only [St.setTx, upd_other _ _ _ e] at hu; exact h.ops i u hu
  · by_cases e : i = j
    · subst e; simp [St.setTx, upd_same] at hu
    · simp only [St.setTx, upd_other _ _ _ e] at hu; exact h.refs i u k c hu hc
theorem upd_none_inv {tx : Nat → Option Tx} {j i : Nat} {u : Tx} (h : upd tx j none i = some u) : i ≠ j ∧ tx i = some u := by
  by_cases e : i = j
  · subst e; simp [upd_same] at h
  · rw [upd_other _ _ _ e] at h; exact ⟨e, h⟩
theorem MIn.drop {B m : Nat} {w : World} {P : Nat → Prop} {s : St} {A : Ad} (h : MIn B w P m s A) (j : Nat) (hj : j < 8) : MIn B (w.setCell ⟨m, 5 + j, none⟩ (.pointer none)) P m (s.setTx j none) A := by
  have o := Only.set1 w m (5 + j) (.pointer none)
  refine ⟨by rw [modCells_drop A s j hj]; exact h.mod.set _ _, rows_only h.row o (fun b hb' e => by subst e; exact rows_ne h.row h.mod (by decide) hb'), h.vers.only o (h.vers.blkNe h.mod (by decide)), ?_, h.ok.drop j, h.pm, h.pr, h.under.mono o.size, h.above⟩
  have T := h.txs.only o (h.txs.blkNe h.mod (by decide) (by decide))
  exact ⟨fun i u hu => T.one i u (upd_none_inv hu).2, fun i k a b ha hb => T.tinj i k a b (upd_none_inv ha).2 (upd_none_inv hb).2, fun i k a b p q ha hb => T.minj i k a b p q (upd_none_inv ha).2 (upd_none_inv hb).2, fun i k a b p q c d ha hb => T.cinj i k a b p q c d (upd_none_inv ha).2 (upd_none_inv hb).2⟩
/-- The loop over a transaction's cells, under way. -/
structure AbRel (B m : Nat) (w : World) (P : Nat → Prop) (s : St) (A : Ad) (j : Nat) (t : Tx) (r n0 : Nat) (left : Nat → Bool) (cnt : Nat) (vs : List Ver) (wr : World) : Prop where
  rng : ∃ D, IRange Try.prog kInt ptrElem wr (A.mb j 0) r (cMap (A.ca j) t.cells) D left cnt
  mod : MIn B wr P m { s with vs := vs } A
  box : Blk wr n0 65 #[.int .i64 0, .int .i64 0, .slice none 0 0, .int .i64 0, .int .i64 0]
  only : Only P w wr
  nr : ¬ P r ∧ ¬ P n0 ∧ w.heap.size ≤ r ∧ w.heap.size ≤ n0
/-- A round begins: a key comes. -/
theorem AbRel.next {B m : Nat} {w : World} {P : Nat → Prop} {s : St} {A : Ad} {j : Nat} {t : Tx} {r n0 : Nat} {left : Nat → Bool} {cnt : Nat} {vs : List Ver} {wr : World} (h : AbRel B m w P s A j t r n0 left cnt vs wr) (ht : s.tx j = some t) (ty : TypeId) :
    (cnt = 0 ∧ (∀ k, k < 64 → left k = false) ∧ (Instr.next (.pointer (some ⟨r, 0, none⟩)) false ty).run Try.prog wr = .ok (.tuple #[.bool false]) wr) ∨
    ∃ (k : Nat) (c : Cel) (w' : World) (cnt' : Nat), k < 64 ∧ left k = true ∧ t.cells k = some c ∧ (Instr.next (.pointer (some ⟨r, 0, none⟩)) false ty).run Try.prog wr = .ok (.tuple #[.bool true, .int .i64 k, .pointer (some ⟨A.ca j k, 0, none⟩)]) w' ∧
      AbRel B m w P s A j t r n0 (fun q => left q && !decide (q = k)) cnt' vs w' ∧ cnt' < cnt ∧ (Instr.entry (.pointer (some ⟨r, 0, none⟩))).run Try.prog w' = .ok (.tuple #[.int .i64 k, .pointer (some ⟨A.ca j k, 0, none⟩)]) w' ∧ Blk w' (A.ca j k) 106 (celCells A.va c) ∧ P (A.ca j k) := by
  obtain ⟨D, hr⟩ := h.rng
  rcases hr.next keyed Try.underlying3 ty with h0 | ⟨k, v, d, ps, w', cnt', hk, hl, hf, hv, hrun, hr', hlt, ho, hen⟩
  · exact .inl h0
  · have hcell : ∃ c, t.cells k = some c ∧ v = .pointer (some ⟨A.ca j k, 0, none⟩) := by
      unfold cMap at hf
      cases hc : t.cells k with
      | none => rw [hc] at hf; simp at hf
      | some c =>
        rw [hc] at hf
        simp at hf
        refine ⟨c, rfl, ?_⟩
        rcases ptrElem_inv hv with ⟨_, e⟩ | ⟨b, e, e2⟩
        · rw [← hf] at e; cases e
        · rw [← hf] at e2
          injection e2 with e2
          injection e2 with _ e3
          rw [e]
          have : A.ca j k = b := by omega
          rw [this]
    obtain ⟨c, hc, rfl⟩ := hcell
    have ap : Apart P (fun b => b = r) := fun b hb e => h.nr.1 (e ▸ hb)
    have M := h.mod.only ho ap
    have X := (M.txs.one j t ht).2
    have hne : r ≠ n0 := by
      obtain ⟨L, hr2, _⟩ := hr.rng
      rintro rfl
      obtain ⟨es, clock, since, seen, c0, _, _, _, _, h2, _⟩ := hr2
      have := h.box
      unfold Blk at this
      rw [h2] at this; cases this
    refine .inr ⟨k, c, w', cnt', hk, hl, hc, hrun, ⟨⟨D, hr'⟩, M, ho.blk h.box (Ne.symm hne), ?_, h.nr⟩, hlt, hen, (X.cel k c hc).2⟩
    refine ⟨ho.os.trans h.only.os, ho.tape.trans h.only.tape, ho.output.trans h.only.output, Nat.le_trans h.only.size ho.size, fun q hq hn => ?_⟩
    rw [ho.block q (Nat.lt_of_lt_of_le hq h.only.size) (by have := h.nr.2.2.1; omega)]
    exact h.only.block q hq hn
/-- A version has turned in a round. -/
theorem AbRel.set {B m : Nat} {w : World} {P : Nat → Prop} {s : St} {A : Ad} {j : Nat} {t : Tx} {r n0 : Nat} {left : Nat → Bool} {cnt : Nat} {vs : List Ver} {wr w' : World} (h : AbRel B m w P s A j t r n0 left cnt vs wr) (ht : s.tx j = some t) {i : Nat} (hi : i < vs.length) {v : Ver}
    (o : Only (fun b => b = A.va i) wr w') (hb : Blk w' (A.va i) 79 (verCells v)) : AbRel B m w P s A j t r n0 left cnt (vs.set i v) w' := by
  have hv := h.mod.vers.blk i hi
  obtain ⟨D, hr⟩ := h.rng
  have X := (h.mod.txs.one j t ht).2
  refine ⟨⟨D, hr.only o (X.cm.ne hv.1) (fun e => h.nr.1 (e ▸ hv.2))⟩, h.mod.setVer hi o hb, o.blk h.box (fun e => h.nr.2.1 (e ▸ hv.2)), h.only.trans (o.toward (fun b hb => by subst hb; exact hv.2)), h.nr⟩
theorem MIn.sess {B m : Nat} {w : World} {P : Nat → Prop} {s : St} {A : Ad} (h : MIn B w P m s A) (j : Nat) (hj : j < 8) : w.cell? ⟨m, 5 + j, none⟩ = some (txPtr A s.tx j) := by rw [h.mod.cell, modCells_tx A s j hj]
set_option maxRecDepth 100000 in
theorem info_res : (Try.prog.info? 65).map (·.size) = some 5 := by kernel_rfl
theorem set5 {w : World} {n : Nat} {t : TypeId} {a b c d e : Value} (h : Blk w n t #[a, b, c, d, e]) (a' b' c' d' e' : Value) :
    Blk (((((w.setCell ⟨n, 0, none⟩ a').setCell ⟨n, 1, none⟩ b').setCell ⟨n, 2, none⟩ c').setCell ⟨n, 3, none⟩ d').setCell ⟨n, 4, none⟩ e') n t #[a', b', c', d', e'] ∧ Only (fun c => c = n) w (((((w.setCell ⟨n, 0, none⟩ a').setCell ⟨n, 1, none⟩ b').setCell ⟨n, 2, none⟩ c').setCell ⟨n, 3, none⟩ d').setCell ⟨n, 4, none⟩ e') :=
  ⟨((((h.set 0 a').set 1 b').set 2 c').set 3 d').set 4 e', ((((Only.set1 w n 0 a').trans (Only.set1 _ n 1 b')).trans (Only.set1 _ n 2 c')).trans (Only.set1 _ n 3 d')).trans (Only.set1 _ n 4 e')⟩
set_option maxRecDepth 100000 in
set_option maxHeartbeats 8000000 in
theorem md_abort {B m : Nat} {w : World} {P : Nat → Prop} {s : St} {A : Ad} (h : MIn B w P m s A) {j : Nat} {t : Tx} (ht : s.tx j = some t) (er reason : Int) :
    Calls Try.prog 35 #[.pointer (some ⟨m, 0, none⟩), .int .i64 j, .int .i64 er, .int .i64 reason] w (StRes B m w P A (.agg #[.int .i64 er, .int .i64 0, .slice none 0 0, .int .i64 4, .int .i64 reason]) (s.kill j t)) := by
  obtain ⟨W, hW⟩ : ∃ W, W = w.alloc (.cells #[.int .i64 0, .int .i64 0, .slice none 0 0, .int .i64 0, .int .i64 0] 65) := ⟨_, rfl⟩
  have oW : Only0 w W := by rw [hW]; exact (Only0.refl w).alloc _
  have M0 := h.only0 oW
  have X0 := (M0.txs.one j t ht).2
  have hj := (M0.txs.one j t ht).1
  have BX : Blk W w.heap.size 65 #[.int .i64 0, .int .i64 0, .slice none 0 0, .int .i64 0, .int .i64 0] := by rw [hW]; exact Blk.new _ _ _
  have zW : W.heap.size = w.heap.size + 1 := by rw [hW]; simp
  have cj : W.cell? ⟨m, 5 + j, none⟩ = some (.pointer (some ⟨A.tb j, 0, none⟩)) := by rw [M0.sess j hj]; simp [txPtr, ht]
  have c4 := X0.cells.2.1
  obtain ⟨D, hD⟩ := X0.cm
  obtain ⟨w0, cnt0, hrun, hR, o0, z0⟩ := hD.range (T := 82) keyed Try.underlying82
  obtain ⟨r, hr⟩ : ∃ r, r = W.heap.size := ⟨_, rfl⟩
  rw [← hr] at hrun hR
  have hnr : ¬ P r := fun hp => by have := h.under _ hp; omega
  have hnn : ¬ P w.heap.size := fun hp => by have := h.under _ hp; omega
  have R0 : AbRel B m w P s A j t r w.heap.size (fun k => (t.cells k).isSome) cnt0 (killD (fun k => (t.cells k).isSome) t.cells s.vs) w0 := by
    rw [killD_start]
    refine ⟨⟨D, ?_⟩, M0.only0 o0, o0.blk BX (fun h => h), (oW.trans o0).any P, hnr, hnn, by omega, by omega⟩
    have : (fun k => (cMap (A.ca j) t.cells k).isSome) = fun k => (t.cells k).isSome := by funext k; simp [cMap]
    rw [this] at hR
    exact hR
  have HT := Lib.hid ht
  have HR0 := Lib.hid R0
  have j8 : (j : Int) < 8 := by omega
  have j0 : (0 : Int) ≤ (j : Int) := by omega
  obtain ⟨n0, hn0⟩ : ∃ n0, n0 = w.heap.size := ⟨_, rfl⟩
  have HN := Lib.hid hn0
  clear h M0 X0 BX zW oW hD hR o0 z0 ht hnr hnn R0 hr hn0
  rw [← HN.out] at HR0
  go_enter Try.func35, Try.ntmps35
  go_upto_region 1 with (fail)
  rw [← hW, ← HN.out]
  clear hW
  go_wp2_with fail
  go_loopw [10] (fun _ wr => ∃ (left : Nat → Bool) (cnt : Nat), AbRel B m w P s A j t r n0 left cnt (killD left t.cells s.vs) wr) (fun _ wr => wr.rangeLeft (A.mb j 0) r)
  case atStart => exact ⟨_, _, HR0.out⟩
  case round =>
    obtain ⟨left, cnt, hA⟩ := hrel
    rcases hA.next HT.out 0 with ⟨hc0, hl0, hnx⟩ | ⟨k, c, w1, cnt1, hk, hl, hc, hnx, hA1, hlt, hen, hcb, hcp⟩
    · have M := hA.mod
      rw [killD_end hl0] at M
      have cjr : wr.cell? ⟨m, 5 + j, none⟩ = some (.pointer (some ⟨A.tb j, 0, none⟩)) := by rw [M.sess j hj]; simp [txPtr, HT.out]
      have fjr := M.mod.free (5 + j)
      obtain ⟨W8, hW8⟩ : ∃ W8, W8 = wr.setCell ⟨m, 5 + j, none⟩ (.pointer none) := ⟨_, rfl⟩
      have M8 : MIn B W8 P m (s.kill j t) A := by rw [hW8]; exact M.drop j hj
      have hnm : n0 ≠ m := fun e => hA.nr.2.1 (e ▸ M.pm)
      have B8 : Blk W8 n0 65 #[.int .i64 0, .int .i64 0, .slice none 0 0, .int .i64 0, .int .i64 0] := by rw [hW8]; exact hA.box.other ⟨m, 5 + j, none⟩ _ hnm
      have O8 : Only P w W8 := by rw [hW8]; exact hA.only.trans ((Only.set1 wr m (5 + j) _).toward (fun b hb => by subst hb; exact M.pm))
      have HM8 := Lib.hid M8
      have HB8 := Lib.hid B8
      have HO8 := Lib.hid O8
      have hnP := Lib.hid hA.nr.2.1
      have b0 : W8.cell? ⟨n0, 0, none⟩ = some (.int .i64 0) := B8.cell 0
      have b1 : W8.cell? ⟨n0, 1, none⟩ = some (.int .i64 0) := B8.cell 1
      have b2 : W8.cell? ⟨n0, 2, none⟩ = some (.slice none 0 0) := B8.cell 2
      have b3 : W8.cell? ⟨n0, 3, none⟩ = some (.int .i64 0) := B8.cell 3
      have b4 : W8.cell? ⟨n0, 4, none⟩ = some (.int .i64 0) := B8.cell 4
      have bf := fun i => B8.free i
      clear hA M M8 B8 O8 hl0 hc0 hnm
      go_upto_region 7 with (fail)
      rw [← hW8]
      clear hW8
      go_wp2_with fail
      obtain ⟨B9, o9⟩ := set5 HB8.out (.int .i64 er) (.int .i64 0) (.slice none 0 0) (.int .i64 4) (.int .i64 reason)
      have hn := HN.out
      refine bodyPost_ret (v := .agg #[.int .i64 er, .int .i64 0, .slice none 0 0, .int .i64 4, .int .i64 reason]) (results_cell_row Try.results35 _ _ n0 _ _ _ _ rfl B9 Try.underlying65 rfl info_res) rfl ?_
      exact ⟨A, P, rfl, HM8.out.only o9 (fun b hb e => by subst e; exact hnP.out hb), rfl, rfl, HO8.out.grewTrans (P2 := fun b => P b ∨ b = n0) (fun b hb => hb.imp id (fun e => by omega)) (o9.toward (fun b hb => .inr hb)), Grew.refl _ _⟩
    · cases ho : c.own with
      | none =>
        have e0 := killD_none hk hl hc ho s.vs
        have q0 : w1.cell? ⟨A.ca j k, 0, none⟩ = some (.pointer none) := by rw [hcb.cell 0]; simp only [celCells, ho]; rfl
        rw [← e0] at hA1
        have H1 := Lib.hid hA1
        have H2 := Lib.hid (show w1.rangeLeft (A.mb j 0) r < wr.rangeLeft (A.mb j 0) r by
          obtain ⟨D1, r1⟩ := hA1.rng
          obtain ⟨D2, r2⟩ := hA.rng
          rw [r1.left_eq, r2.left_eq]; exact hlt)
        clear hA hA1 hc ho e0 hcb hcp hl hlt
        go_wp2_with fail
        go_roundw
        case rel => exact ⟨_, _, H1.out⟩
        case measure => exact H2.out
      | some i =>
        have e0 := killD_some hk hl hc ho s.vs
        have hi : i < s.vs.length := (hA1.mod.ok.refs j t k c HT.out hc).1 i ho |> fun h => by rw [killD_len] at h; exact h
        have q0 : w1.cell? ⟨A.ca j k, 0, none⟩ = some (.pointer (some ⟨A.va i, 0, none⟩)) := by rw [hcb.cell 0]; simp only [celCells, ho]; rfl
        have hi' : i < (killD left t.cells s.vs).length := by rw [killD_len]; exact hi
        have v := hA1.mod.vers.blk i hi'
        have q5 : w1.cell? ⟨A.va i, 5, none⟩ = some (.bool ((killD left t.cells s.vs).getD i default).dead) := v.1.cell 5
        have f5 := v.1.free 5
        have hA2 := hA1.set HT.out hi' (v := { (killD left t.cells s.vs).getD i default with dead := true }) (Only.set1 w1 (A.va i) 5 (.bool true)) (by
          have := v.1.set 5 (.bool true)
          have e : (verCells ((killD left t.cells s.vs).getD i default)).setIfInBounds 5 (.bool true) = verCells { (killD left t.cells s.vs).getD i default with dead := true } := by simp [verCells]
          rw [← e]; exact this)
        rw [← e0] at hA2
        have H1 := Lib.hid hA2
        have H2 := Lib.hid (show (w1.setCell ⟨A.va i, 5, none⟩ (.bool true)).rangeLeft (A.mb j 0) r < wr.rangeLeft (A.mb j 0) r by
          obtain ⟨D1, r1⟩ := hA2.rng
          obtain ⟨D2, r2⟩ := hA.rng
          rw [r1.left_eq, r2.left_eq]; exact hlt)
        clear hA hA1 hA2 hc ho e0 hcb hcp hl hlt v hi hi'
        go_wp2_with fail
        go_roundw
        case rel => exact ⟨_, _, H1.out⟩
        case measure => exact H2.out
end Go.Proofs.Ytdjehgnkpbkdbaa
namespace Go.Proofs.Ytdjehgnkpbkdbaa
open Go.RowKit
set_option linter.unusedVariables false
set_option linter.unusedSimpArgs false
set_option maxRecDepth 100000 in
theorem BMap.range {w : World} {b : Nat} {f : Nat → Bool} (h : BMap w b f) : ∃ w' D cnt, (Instr.range 83 (.map (some b))).run Try.prog w = .ok (.pointer (some ⟨w.heap.size, 0, none⟩)) w' ∧ IRange Try.prog kInt (plainElem Try.prog 4) w' b w.heap.size (bMap f) D f cnt ∧ Only0 w w' := by
  obtain ⟨D, hD⟩ := h
  obtain ⟨w0, cnt0, hrun, hR, o0, z0⟩ := hD.range (T := 83) keyed Try.underlying83
  have : (fun k => (bMap f k).isSome) = f := by funext k; unfold bMap; cases f k <;> rfl
  rw [this] at hR
  exact ⟨w0, D, cnt0, hrun, hR, o0⟩
theorem run_neq_none_some {P : Program} (w : World) {tp te : TypeId} (hp : P.underlying tp = some (.pointer te)) (a : Addr) : (binOp .neq tp (.pointer none) (.pointer (some a))).run P w = .ok (.bool true) w := by
  have h : ∀ d : Nat, (Op.equalIn (d + 1) tp (.pointer none) (.pointer (some a))).run P w = .ok false w := fun d => by
    simp [Op.equalIn, run_underlying hp]
  simp only [binOp]
  simp [Op.equal, Op.maxDepth, h 9999]
set_option maxRecDepth 100000 in
theorem ver_ne_ptr {w : World} {va : Nat → Nat} {n : Nat} (hb : ∀ i, i < n → ∃ cs, Blk w (va i) 79 cs) (hinj : ∀ i j, i < n → j < n → va i = va j → i = j) {o1 o2 : Option Nat} (h1 : ∀ i, o1 = some i → i < n) (h2 : ∀ i, o2 = some i → i < n) :
    (binOp .neq 76 (ptrOf va o1) (ptrOf va o2)).run Try.prog w = .ok (.bool (!decide (o1 = o2))) w := by
  cases o1 with
  | none =>
    cases o2 with
    | none => simp [ptrOf, go_sem, Try.underlying76]
    | some j => exact run_neq_none_some w Try.underlying76 _
  | some i =>
    cases o2 with
    | none => simp [ptrOf, go_sem, Try.underlying76]
    | some j =>
      obtain ⟨c1, b1⟩ := hb i (h1 i rfl)
      obtain ⟨c2, b2⟩ := hb j (h2 j rfl)
      have := ver_neq b1 b2
      simp only [ptrOf, Option.map_some]
      rw [this]
      congr 2
      congr 1
      rw [Bool.eq_iff_iff]; simp
      exact ⟨fun e => hinj i j (h1 i rfl) (h2 j rfl) e, fun e => by rw [e]⟩
theorem ptr_guard {va : Nat → Nat} (o1 o2 : Option Nat) (x y : Operand) (t : TypeId) (op : BinOp) (w : World) : (eqGuard op t x y (ptrOf va o1) (ptrOf va o2)).run Try.prog w = .ok () w := by
  unfold ptrOf eqGuard
  cases op <;> rfl
set_option maxRecDepth 100000 in
theorem at_lt {B m : Nat} {w : World} {P : Nat → Prop} {s : St} {A : Ad} (h : MIn B w P m s A) {key at_ : Int} : ∀ i, s.at key at_ = some i → i < s.vs.length := fun i hi => h.ok.lin i (List.mem_of_find?_eq_some hi)
def holdsAll (s : St) (f : Nat → Bool) (beg at_ : Int) : Bool := (List.range 64).all fun k => !f k || decide (s.at k at_ = s.at k beg)
theorem holdsAll_no {s : St} {f : Nat → Bool} {beg at_ : Int} {k : Nat} (hk : k < 64) (hf : f k = true) (hne : s.at k at_ ≠ s.at k beg) : holdsAll s f beg at_ = false := List.all_eq_false.2 ⟨k, List.mem_range.2 hk, by simp [hf, hne]⟩
theorem holdsAll_yes {s : St} {f left : Nat → Bool} {beg at_ : Int} (h : ∀ k, k < 64 → f k = true → left k = false → s.at k at_ = s.at k beg) (hl : ∀ k, k < 64 → left k = false) : holdsAll s f beg at_ = true :=
  List.all_eq_true.2 (fun k hk => by
    have hk := List.mem_range.1 hk
    cases hf : f k with
    | false => simp
    | true => simp [h k hk hf (hl k hk)])
set_option maxRecDepth 100000 in
/-- The loop over the keys that were looked at, under way. -/
structure HoRel (B m : Nat) (w : World) (P : Nat → Prop) (s : St) (A : Ad) (b r : Nat) (f : Nat → Bool) (beg at_ : Int) (left : Nat → Bool) (cnt : Nat) (wr : World) : Prop where
  rng : ∃ D, IRange Try.prog kInt (plainElem Try.prog 4) wr b r (bMap f) D left cnt
  mod : MIn B wr P m s A
  only : Only0 w wr
  nr : ¬ P r ∧ w.heap.size ≤ r
  sub : ∀ k, left k = true → f k = true
  done : ∀ k, k < 64 → f k = true → left k = false → s.at k at_ = s.at k beg
set_option maxRecDepth 100000 in
theorem bool_inv {v : Value} {d : MD} {ps : List MemPlace} (h : plainElem (H := Unit) Try.prog 4 v = some (d, ps)) : ∃ x, v = .bool x := by
  unfold plainElem at h
  rw [Try.underlying4] at h
  cases v <;> simp at h
  exact ⟨_, rfl⟩
set_option maxRecDepth 100000 in
theorem HoRel.next {B m : Nat} {w : World} {P : Nat → Prop} {s : St} {A : Ad} {b r : Nat} {f : Nat → Bool} {beg at_ : Int} {left : Nat → Bool} {cnt : Nat} {wr : World} (h : HoRel B m w P s A b r f beg at_ left cnt wr) (ty : TypeId) :
    (cnt = 0 ∧ (∀ k, k < 64 → left k = false) ∧ (Instr.next (.pointer (some ⟨r, 0, none⟩)) false ty).run Try.prog wr = .ok (.tuple #[.bool false]) wr) ∨
    ∃ (k : Nat) (x : Bool) (w' : World) (cnt' : Nat), k < 64 ∧ f k = true ∧ (Instr.next (.pointer (some ⟨r, 0, none⟩)) false ty).run Try.prog wr = .ok (.tuple #[.bool true, .int .i64 k, .bool x]) w' ∧
      (s.at k at_ = s.at k beg → HoRel B m w P s A b r f beg at_ (fun q => left q && !decide (q = k)) cnt' w') ∧ MIn B w' P m s A ∧ Only0 w w' ∧ w'.rangeLeft b r < wr.rangeLeft b r ∧ (Instr.entry (.pointer (some ⟨r, 0, none⟩))).run Try.prog w' = .ok (.tuple #[.int .i64 k, .bool x]) w' := by
  obtain ⟨D, hr⟩ := h.rng
  rcases hr.next keyed Try.underlying3 ty with h0 | ⟨k, v, d, ps, w', cnt', hk, hl, hf, hv, hrun, hr', hlt, ho, hen⟩
  · exact .inl h0
  · obtain ⟨x, rfl⟩ := bool_inv hv
    have ap : Apart P (fun b => b = r) := fun b hb e => h.nr.1 (e ▸ hb)
    have M := h.mod.only ho ap
    have O : Only0 w w' := ⟨ho.os.trans h.only.os, ho.tape.trans h.only.tape, ho.output.trans h.only.output, Nat.le_trans h.only.size ho.size, fun q hq hn => by
      rw [ho.block q (Nat.lt_of_lt_of_le hq h.only.size) (by have := h.nr.2; omega)]
      exact h.only.block q hq hn⟩
    refine .inr ⟨k, x, w', cnt', hk, h.sub k hl, hrun, fun e => ⟨⟨D, hr'⟩, M, O, h.nr, fun q hq => h.sub q (by simp at hq; exact hq.1), fun q hq hfq hlq => ?_⟩, M, O, by rw [hr'.left_eq, hr.left_eq]; exact hlt, hen⟩
    by_cases e1 : q = k
    · subst e1; exact e
    · exact h.done q hq hfq (by simpa [e1] using hlq)
theorem HoRel.drewN {B m : Nat} {w : World} {P : Nat → Prop} {s : St} {A : Ad} {b r : Nat} {f : Nat → Bool} {beg at_ : Int} {left : Nat → Bool} {cnt : Nat} {wr : World} (h : HoRel B m w P s A b r f beg at_ left cnt wr) (n : Nat) : HoRel B m w P s A b r f beg at_ left cnt (wr.drewN n) := by
  obtain ⟨D, hr⟩ := h.rng
  exact ⟨⟨D, hr.congr rfl rfl⟩, h.mod.drewN n, h.only.drewN n, h.nr, h.sub, h.done⟩
set_option maxRecDepth 100000 in
set_option maxHeartbeats 8000000 in
theorem md_holds {B m : Nat} {w : World} {P : Nat → Prop} {s : St} {A : Ad} (h : MIn B w P m s A) {j : Nat} {t : Tx} (ht : s.tx j = some t) (at_ : Int) :
    Calls Try.prog 45 #[.pointer (some ⟨m, 0, none⟩), .pointer (some ⟨A.tb j, 0, none⟩), .int .u64 at_] w fun e w' => e = .returned (.bool (s.holds t at_)) ∧ MIn B w' P m s A ∧ Only0 w w' := by
  have X := (h.txs.one j t ht).2
  have t1 : w.cell? ⟨A.tb j, 1, none⟩ = some (.int .i64 t.level) := X.blk.cell 1
  obtain ⟨t2, _, t5, t6⟩ := X.cells
  by_cases h1 : t.level = 1
  · have HR := Lib.hid (show s.holds t at_ = true by simp [St.holds, h1])
    have HH := Lib.hid h
    rw [h1] at t1
    clear h X ht h1
    go_enter Try.func45, Try.ntmps45
    go_wp2_with fail
    go_ret
    exact ⟨by rw [HR.out]; rfl, HH.out, Only0.refl _⟩
  · have h1b : (t.level == 1) = false := by simpa using h1
    obtain ⟨b, f, cb, hb, hf, hsel⟩ : ∃ (b : Nat) (f : Nat → Bool) (o : Nat), BMap w b f ∧ t.keysOf = f ∧ ((t.level = 2 ∧ o = 5 ∧ b = A.mb j 1) ∨ ((t.level == 2) = false ∧ o = 6 ∧ b = A.mb j 2)) := by
      by_cases h2 : t.level = 2
      · exact ⟨_, t.got, 5, X.gm, by simp [Tx.keysOf, h2], .inl ⟨h2, rfl, rfl⟩⟩
      · exact ⟨_, t.looked, 6, X.km, by simp [Tx.keysOf, h2], .inr ⟨by simpa using h2, rfl, rfl⟩⟩
    obtain ⟨w0, D, cnt0, hrun, hR, o0⟩ := hb.range
    obtain ⟨r, hr⟩ : ∃ r, r = w.heap.size := ⟨_, rfl⟩
    rw [← hr] at hrun hR
    have hnr : ¬ P r := fun hp => by have := h.under _ hp; omega
    have R0 : HoRel B m w P s A b r f t.beg at_ f cnt0 w0 := ⟨⟨D, hR⟩, h.only0 o0, o0, ⟨hnr, by omega⟩, fun k hk => hk, fun k _ h1 h2 => by rw [h1] at h2; cases h2⟩
    have HR0 := Lib.hid R0
    have HF := Lib.hid (show s.holds t at_ = holdsAll s f t.beg at_ by rw [← hf]; simp [St.holds, h1, holdsAll])
    have HT := Lib.hid ht
    clear h X hb hR o0 hr hnr R0 hf ht h1
    have tb0 := t2
    rcases hsel with ⟨h2, rfl, rfl⟩ | ⟨h2, rfl, rfl⟩
    · rw [h2] at t1
      clear h2 h1b
      go_enter Try.func45, Try.ntmps45
      go_wp2_with fail
      go_loopw [8] (fun _ wr => ∃ (left : Nat → Bool) (cnt : Nat), HoRel B m w P s A (A.mb j 1) r f t.beg at_ left cnt wr) (fun _ wr => wr.rangeLeft (A.mb j 1) r)
      case atStart => exact ⟨_, _, HR0.out⟩
      case round =>
        obtain ⟨left, cnt, hA⟩ := hrel
        rcases hA.next 0 with ⟨hc0, hl0, hnx⟩ | ⟨k, x, w1, cnt1, hk, hfk, hnx, hnew, M1, O1, hlt, hen⟩
        · have Q := Lib.hid (show s.holds t at_ = true ∧ MIn B wr P m s A ∧ Only0 w wr from ⟨HF.out.trans (holdsAll_yes hA.done hl0), hA.mod, hA.only⟩)
          clear hA hl0 hc0
          go_wp2_with fail
          go_ret
          exact ⟨by rw [Q.out.1]; rfl, Q.out.2⟩
        · have hcmp : ∀ n, (binOp .neq 76 (ptrOf A.va (s.at k at_)) (ptrOf A.va (s.at k t.beg))).run Try.prog (w1.drewN n) = .ok (.bool (!decide (s.at k at_ = s.at k t.beg))) (w1.drewN n) := fun n =>
            ver_ne_ptr (n := s.vs.length) (fun i hi => ⟨_, ((M1.drewN n).vers.blk i hi).1⟩) M1.vers.inj (at_lt M1) (at_lt M1)
          have HM1 := Lib.hid M1
          have hgd := fun n => ptr_guard (va := A.va) (s.at k at_) (s.at k t.beg) (.tmp 34) (.tmp 41) 76 .neq (w1.drewN n)
          have c2 := (M1.txs.one j t HT.out).2.cells.1
          by_cases e : s.at k at_ = s.at k t.beg
          · have Q := Lib.hid (hnew e)
            have Q2 := Lib.hid hlt
            rw [decide_eq_true e] at hcmp
            clear hA hnew M1 O1 hlt e
            go_wp2_with fail
            go_quiet ((go_at_call 26; exact (md_at (HM1.out.drewN _) _ _).mono fun e w' h => ⟨h.1, _, h.2.symm⟩))
            go_wp2_with fail
            go_roundw
            case rel => exact ⟨_, _, Q.out.drewN _⟩
            case measure => exact Q2.out
          · have Q := Lib.hid (show s.holds t at_ = false from HF.out.trans (holdsAll_no hk hfk e))
            have Q2 := Lib.hid O1
            rw [decide_eq_false e] at hcmp
            clear hA hnew M1 O1 hlt e
            go_wp2_with fail
            go_quiet ((go_at_call 26; exact (md_at (HM1.out.drewN _) _ _).mono fun e w' h => ⟨h.1, _, h.2.symm⟩))
            go_wp2_with fail
            go_ret
            exact ⟨by rw [Q.out]; rfl, HM1.out.drewN _, Q2.out.drewN _⟩
    · go_enter Try.func45, Try.ntmps45
      go_wp2_with fail
      go_loopw [8] (fun _ wr => ∃ (left : Nat → Bool) (cnt : Nat), HoRel B m w P s A (A.mb j 2) r f t.beg at_ left cnt wr) (fun _ wr => wr.rangeLeft (A.mb j 2) r)
      case atStart => exact ⟨_, _, HR0.out⟩
      case round =>
        obtain ⟨left, cnt, hA⟩ := hrel
        rcases hA.next 0 with ⟨hc0, hl0, hnx⟩ | ⟨k, x, w1, cnt1, hk, hfk, hnx, hnew, M1, O1, hlt, hen⟩
        · have Q := Lib.hid (show s.holds t at_ = true ∧ MIn B wr P m s A ∧ Only0 w wr from ⟨HF.out.trans (holdsAll_yes hA.done hl0), hA.mod, hA.only⟩)
          clear hA hl0 hc0
          go_wp2_with fail
          go_ret
          exact ⟨by rw [Q.out.1]; rfl, Q.out.2⟩
        · have hcmp : ∀ n, (binOp .neq 76 (ptrOf A.va (s.at k at_)) (ptrOf A.va (s.at k t.beg))).run Try.prog (w1.drewN n) = .ok (.bool (!decide (s.at k at_ = s.at k t.beg))) (w1.drewN n) := fun n =>
            ver_ne_ptr (n := s.vs.length) (fun i hi => ⟨_, ((M1.drewN n).vers.blk i hi).1⟩) M1.vers.inj (at_lt M1) (at_lt M1)
          have HM1 := Lib.hid M1
          have hgd := fun n => ptr_guard (va := A.va) (s.at k at_) (s.at k t.beg) (.tmp 34) (.tmp 41) 76 .neq (w1.drewN n)
          have c2 := (M1.txs.one j t HT.out).2.cells.1
          by_cases e : s.at k at_ = s.at k t.beg
          · have Q := Lib.hid (hnew e)
            have Q2 := Lib.hid hlt
            rw [decide_eq_true e] at hcmp
            clear hA hnew M1 O1 hlt e
            go_wp2_with fail
            go_quiet ((go_at_call 26; exact (md_at (HM1.out.drewN _) _ _).mono fun e w' h => ⟨h.1, _, h.2.symm⟩))
            go_wp2_with fail
            go_roundw
            case rel => exact ⟨_, _, Q.out.drewN _⟩
            case measure => exact Q2.out
          · have Q := Lib.hid (show s.holds t at_ = false from HF.out.trans (holdsAll_no hk hfk e))
            have Q2 := Lib.hid O1
            rw [decide_eq_false e] at hcmp
            clear hA hnew M1 O1 hlt e
            go_wp2_with fail
            go_quiet ((go_at_call 26; exact (md_at (HM1.out.drewN _) _ _).mono fun e w' h => ⟨h.1, _, h.2.symm⟩))
            go_wp2_with fail
            go_ret
            exact ⟨by rw [Q.out]; rfl, HM1.out.drewN _, Q2.out.drewN _⟩
end Go.Proofs.Ytdjehgnkpbkdbaa
namespace Go.Proofs.Ytdjehgnkpbkdbaa
open Go.RowKit
set_option linter.unusedVariables false
set_option linter.unusedSimpArgs false
def setFin (vs : List Ver) (i : Nat) (x : Int) : List Ver := vs.set i { vs.getD i default with fin := x }
def setBeg (vs : List Ver) (i : Nat) (x : Int) : List Ver := vs.set i { vs.getD i default with beg := x }
theorem setFin_len (vs : List Ver) (i : Nat) (x : Int) : (setFin vs i x).length = vs.length := by simp [setFin]
theorem setBeg_len (vs : List Ver) (i : Nat) (x : Int) : (setBeg vs i x).length = vs.length := by simp [setBeg]
theorem getD_set (vs : List Ver) (i q : Nat) (v : Ver) (hq : q < vs.length) : (vs.set i v).getD q default = if q = i then v else vs.getD q default := by
  by_cases e : q = i
  · subst e; simp [List.getD_eq_getElem?_getD, hq]
  · simp [List.getD_eq_getElem?_getD, List.getElem?_set_ne (Ne.symm e), e]
theorem getD_fin (vs : List Ver) (i q : Nat) (x : Int) (hq : q < vs.length) : (setFin vs i x).getD q default = if q = i then { vs.getD q default with fin := x } else vs.getD q default := by
  unfold setFin; rw [getD_set _ _ _ _ hq]; by_cases e : q = i <;> simp [e]
theorem getD_beg (vs : List Ver) (i q : Nat) (x : Int) (hq : q < vs.length) : (setBeg vs i x).getD q default = if q = i then { vs.getD q default with beg := x } else vs.getD q default := by
  unfold setBeg; rw [getD_set _ _ _ _ hq]; by_cases e : q = i <;> simp [e]
def oldV (c : Cel) (now : Int) (vs : List Ver) : List Ver := match c.old with
  | none => vs
  | some o => setFin vs o now
def ownV (c : Cel) (now : Int) (vs : List Ver) : List Ver := match c.own with
  | none => vs
  | some i => if c.there then setBeg vs i now else setFin (setBeg vs i now) i now
theorem oldV_len (c : Cel) (now : Int) (vs : List Ver) : (oldV c now vs).length = vs.length := by unfold oldV; split <;> simp [setFin_len]
theorem ownV_len (c : Cel) (now : Int) (vs : List Ver) : (ownV c now vs).length = vs.length := by unfold ownV; split <;> (try split) <;> simp [setFin_len, setBeg_len]
def doneD (left : Nat → Bool) (f : Nat → Option Cel) (now : Int) (vs : List Ver) : List Ver := vs.mapIdx (doneV (doneC left f) now)
theorem doneD_len (left : Nat → Bool) (f : Nat → Option Cel) (now : Int) (vs : List Ver) : (doneD left f now vs).length = vs.length := by simp [doneD]
theorem doneD_start (f : Nat → Option Cel) (now : Int) (vs : List Ver) : doneD (fun k => (f k).isSome) f now vs = vs := by
  unfold doneD
  apply List.ext_getElem (by simp)
  intro i h1 h2
  simp [doneV, anyC_start]
theorem doneD_end {left : Nat → Bool} {f : Nat → Option Cel} (h : ∀ k, k < 64 → left k = false) (now : Int) (vs : List Ver) : doneD left f now vs = vs.mapIdx (doneV f now) := by
  unfold doneD
  apply List.ext_getElem (by simp)
  intro i h1 h2
  simp [doneV, anyC_end h]
theorem doneD_getD (left : Nat → Bool) (f : Nat → Option Cel) (now : Int) (vs : List Ver) (q : Nat) (hq : q < vs.length) : (doneD left f now vs).getD q default = doneV (doneC left f) now q (vs.getD q default) := by
  unfold doneD
  rw [List.getD_eq_getElem?_getD, List.getElem?_eq_getElem (by simpa using hq), List.getElem_mapIdx]
  simp [List.getD_eq_getElem?_getD, hq]
theorem ext_getD {a b : List Ver} (hl : a.length = b.length) (h : ∀ q, q < a.length → a.getD q default = b.getD q default) : a = b := by
  apply List.ext_getElem hl
  intro q h1 h2
  have := h q h1
  simpa [List.getD_eq_getElem?_getD, h1, h2] using this
theorem doneD_step {left : Nat → Bool} {f : Nat → Option Cel} {k : Nat} {c : Cel} (hk : k < 64) (hl : left k = true) (hc : f k = some c) (now : Int) (vs : List Ver) : doneD (fun j => left j && !decide (j = k)) f now vs = ownV c now (oldV c now (doneD left f now vs)) := by
  refine ext_getD (by rw [ownV_len, oldV_len, doneD_len, doneD_len]) (fun q hq => ?_)
  have hq' : q < vs.length := by rw [doneD_len] at hq; exact hq
  rw [doneD_getD _ _ _ _ _ hq']
  simp only [doneV, anyC_step hk hl hc]
  have h1 : ∀ x, (oldV c now (doneD left f now vs)).getD q x = (oldV c now (doneD left f now vs)).getD q default := fun x => by
    rw [List.getD_eq_getElem?_getD, List.getD_eq_getElem?_getD, List.getElem?_eq_getElem (by rw [oldV_len, doneD_len]; exact hq')]; rfl
  have eo : (oldV c now (doneD left f now vs)).getD q default = if isOld q c then { (doneD left f now vs).getD q default with fin := now } else (doneD left f now vs).getD q default := by
    unfold oldV isOld
    cases ho : c.old with
    | none => simp
    | some o =>
      simp only [Option.some.injEq]
      rw [getD_fin _ _ _ _ (by rw [doneD_len]; exact hq')]
      by_cases e : q = o
      · simp [e]
      · simp [e, Ne.symm e]
  have ew : (ownV c now (oldV c now (doneD left f now vs))).getD q default = { (oldV c now (doneD left f now vs)).getD q default with beg := if isOwn q c then now else ((oldV c now (doneD left f now vs)).getD q default).beg, fin := if isGone q c then now else ((oldV c now (doneD left f now vs)).getD q default).fin } := by
    unfold ownV isOwn isGone
    cases ho : c.own with
    | none => simp
    | some i =>
      simp only [Option.some.injEq]
      have hq2 : q < (oldV c now (doneD left f now vs)).length := by rw [oldV_len, doneD_len]; exact hq'
      cases ht : c.there
      · simp only [Bool.false_eq_true, if_false]
        rw [getD_fin _ _ _ _ (by rw [setBeg_len]; exact hq2), getD_beg _ _ _ _ hq2]
        by_cases e : q = i
        · subst e; simp
        · simp [e, Ne.symm e]
      · simp only [if_true]
        rw [getD_beg _ _ _ _ hq2]
        by_cases e : q = i
        · subst e; simp
        · simp [e, Ne.symm e]
  rw [ew, eo, doneD_getD _ _ _ _ _ hq']
  cases isOld q c <;> cases isOwn q c <;> cases isGone q c <;> simp [doneV]
theorem verCells_fin (v : Ver) (x : Int) : (verCells v).setIfInBounds 4 (.int .u64 x) = verCells { v with fin := x } := by simp [verCells]
theorem verCells_beg (v : Ver) (x : Int) : (verCells v).setIfInBounds 3 (.int .u64 x) = verCells { v with beg := x } := by simp [verCells]
theorem AbRel.drewN {B m : Nat} {w : World} {P : Nat → Prop} {s : St} {A : Ad} {j : Nat} {t : Tx} {r n0 : Nat} {left : Nat → Bool} {cnt : Nat} {vs : List Ver} {wr : World} (h : AbRel B m w P s A j t r n0 left cnt vs wr) (n : Nat) : AbRel B m w P s A j t r n0 left cnt vs (wr.drewN n) := by
  obtain ⟨D, hr⟩ := h.rng
  exact ⟨⟨D, hr.congr rfl rfl⟩, h.mod.drewN n, h.box, h.only.drewN n, h.nr⟩
theorem AbRel.fin {B m : Nat} {w : World} {P : Nat → Prop} {s : St} {A : Ad} {j : Nat} {t : Tx} {r n0 : Nat} {left : Nat → Bool} {cnt : Nat} {vs : List Ver} {wr : World} (h : AbRel B m w P s A j t r n0 left cnt vs wr) (ht : s.tx j = some t) {i : Nat} (hi : i < vs.length) (x : Int) : AbRel B m w P s A j t r n0 left cnt (setFin vs i x) (wr.setCell ⟨A.va i, 4, none⟩ (.int .u64 x)) :=
  h.set ht hi (Only.set1 wr (A.va i) 4 _) (by rw [← verCells_fin]; exact (h.mod.vers.blk i hi).1.set 4 _)
theorem AbRel.beg {B m : Nat} {w : World} {P : Nat → Prop} {s : St} {A : Ad} {j : Nat} {t : Tx} {r n0 : Nat} {left : Nat → Bool} {cnt : Nat} {vs : List Ver} {wr : World} (h : AbRel B m w P s A j t r n0 left cnt vs wr) (ht : s.tx j = some t) {i : Nat} (hi : i < vs.length) (x : Int) : AbRel B m w P s A j t r n0 left cnt (setBeg vs i x) (wr.setCell ⟨A.va i, 3, none⟩ (.int .u64 x)) :=
  h.set ht hi (Only.set1 wr (A.va i) 3 _) (by rw [← verCells_beg]; exact (h.mod.vers.blk i hi).1.set 3 _)
theorem AbRel.less {B m : Nat} {w : World} {P : Nat → Prop} {s : St} {A : Ad} {j : Nat} {t : Tx} {r n0 : Nat} {left left' : Nat → Bool} {cnt cnt' : Nat} {vs vs' : List Ver} {wr w' : World} (h : AbRel B m w P s A j t r n0 left cnt vs wr) (h' : AbRel B m w P s A j t r n0 left' cnt' vs' w') (hlt : cnt' < cnt) : w'.rangeLeft (A.mb j 0) r < wr.rangeLeft (A.mb j 0) r := by
  obtain ⟨D1, r1⟩ := h'.rng
  obtain ⟨D2, r2⟩ := h.rng
  rw [r1.left_eq, r2.left_eq]; exact hlt
/-- What a cell, a version and the clock hold in a round. -/
theorem AbRel.see {B m : Nat} {w : World} {P : Nat → Prop} {s : St} {A : Ad} {j : Nat} {t : Tx} {r n0 : Nat} {left : Nat → Bool} {cnt : Nat} {vs : List Ver} {wr : World} (h : AbRel B m w P s A j t r n0 left cnt vs wr) (ht : s.tx j = some t) {k : Nat} {c : Cel} (hc : t.cells k = some c) :
    wr.cell? ⟨A.ca j k, 0, none⟩ = some (ptrOf A.va c.own) ∧ wr.cell? ⟨A.ca j k, 1, none⟩ = some (ptrOf A.va c.old) ∧ wr.cell? ⟨A.ca j k, 2, none⟩ = some (.bool c.there) ∧ wr.cell? ⟨m, 2, none⟩ = some (.int .u64 s.now) := by
  have q := ((h.mod.txs.one j t ht).2.cel k c hc).2.1
  exact ⟨q.cell 0, q.cell 1, q.cell 2, h.mod.mod.cell 2⟩
theorem AbRel.ver {B m : Nat} {w : World} {P : Nat → Prop} {s : St} {A : Ad} {j : Nat} {t : Tx} {r n0 : Nat} {left : Nat → Bool} {cnt : Nat} {vs : List Ver} {wr : World} (h : AbRel B m w P s A j t r n0 left cnt vs wr) {i : Nat} (hi : i < vs.length) :
    wr.cell? ⟨A.va i, 3, none⟩ = some (.int .u64 (vs.getD i default).beg) ∧ wr.cell? ⟨A.va i, 4, none⟩ = some (.int .u64 (vs.getD i default).fin) ∧ (∀ q, wr.frozen? ⟨A.va i, q, none⟩ = false) := by
  have q := (h.mod.vers.blk i hi).1
  exact ⟨q.cell 3, q.cell 4, fun o => q.free o⟩
def resV (r : Res) : Value := .agg #[.int .i64 r.e, .int .i64 r.value, .slice none 0 0, .int .i64 r.over, .int .i64 r.reason]
theorem MIn.tick {B m : Nat} {w : World} {P : Nat → Prop} {s : St} {A : Ad} (h : MIn B w P m s A) (hl : s.now < s.limit) : MIn B (w.setCell ⟨m, 2, none⟩ (.int .u64 (s.now + 1))) P m s.tick A := by
  have hb := h.mod.set 2 (.int .u64 (s.now + 1))
  have e : (modCells A s).setIfInBounds 2 (.int .u64 (s.now + 1)) = modCells A s.tick := by simp [modCells, St.tick]
  rw [e] at hb
  exact h.setMod (slots := s.slots) (limit := s.limit) (now := s.now + 1) (made := s.made) (Only.set1 w m 2 _) hb ⟨h.ok.slots, h.ok.limit, by have := h.ok.now; simp; omega, h.ok.made, h.ok.few, h.ok.lin, h.ok.ops, h.ok.refs⟩
set_option maxRecDepth 100000 in
set_option maxHeartbeats 16000000 in
theorem md_commit {B m : Nat} {w : World} {P : Nat → Prop} {s : St} {A : Ad} (h : MIn B w P m s A) {j : Nat} {t : Tx} (ht : s.tx j = some t) :
    Calls Try.prog 34 #[.pointer (some ⟨m, 0, none⟩), .int .i64 j] w (StRes B m w P A (resV (s.commit j t).1) (s.commit j t).2) := by
  obtain ⟨W, hW⟩ : ∃ W, W = w.alloc (.cells #[.int .i64 0, .int .i64 0, .slice none 0 0, .int .i64 0, .int .i64 0] 65) := ⟨_, rfl⟩
  have oW : Only0 w W := by rw [hW]; exact (Only0.refl w).alloc _
  have M0 := h.only0 oW
  have X0 := (M0.txs.one j t ht).2
  have hj := (M0.txs.one j t ht).1
  have BX : Blk W w.heap.size 65 #[.int .i64 0, .int .i64 0, .slice none 0 0, .int .i64 0, .int .i64 0] := by rw [hW]; exact Blk.new _ _ _
  have cj : W.cell? ⟨m, 5 + j, none⟩ = some (.pointer (some ⟨A.tb j, 0, none⟩)) := by rw [M0.sess j hj]; simp [txPtr, ht]
  have m1 : W.cell? ⟨m, 1, none⟩ = some (.int .u64 s.limit) := M0.mod.cell 1
  have m2 : W.cell? ⟨m, 2, none⟩ = some (.int .u64 s.now) := M0.mod.cell 2
  have hnn : ¬ P w.heap.size := fun hp => by have := h.under _ hp; omega
  have HT := Lib.hid ht
  have HM0 := Lib.hid M0
  have HB := Lib.hid BX
  have HO := Lib.hid oW
  have HNN := Lib.hid hnn
  have j8 : (j : Int) < 8 := by omega
  have j0 : (0 : Int) ≤ (j : Int) := by omega
  have hlim := M0.ok.limit
  have hnow := M0.ok.now
  obtain ⟨l1, l2⟩ := hlim
  obtain ⟨n1, n2⟩ := hnow
  obtain ⟨n0, hn0⟩ : ∃ n0, n0 = w.heap.size := ⟨_, rfl⟩
  have HN := Lib.hid hn0
  rw [← hn0] at HB HNN
  clear h M0 X0 BX oW ht hnn hn0
  -- what a way leaves that stores a result behind an abort
  have KILL : ∀ (er re : Int) (s1 : St) (W1 w2 : World), s1.tx j = some t → Only P W W1 → StRes B m W1 P A (.agg #[.int .i64 er, .int .i64 0, .slice none 0 0, .int .i64 4, .int .i64 re]) (s1.kill j t) (.returned (.agg #[.int .i64 er, .int .i64 0, .slice none 0 0, .int .i64 4, .int .i64 re])) w2 →
      Blk w2 n0 65 #[.int .i64 0, .int .i64 0, .slice none 0 0, .int .i64 0, .int .i64 0] ∧ ∀ w9, Blk w9 n0 65 #[.int .i64 er, .int .i64 0, .slice none 0 0, .int .i64 4, .int .i64 re] → Only (fun c => c = n0) w2 w9 → ∀ v, StRes B m w P A v (s1.kill j t) (.returned v) w9 := by
    intro er re s1 W1 w2 hs1 o1 ⟨A', P', _, h2, a1, a2, o2, g2⟩
    have nP : ¬ P n0 := HNN.out
    have nlt : n0 < W.heap.size := HB.out.lt
    have nP' : ¬ P' n0 := fun hp => by
      rcases g2 n0 hp with h1 | h1
      · exact nP h1
      · have := o1.size; omega
    refine ⟨o2.blk (o1.blk HB.out nP) nP, fun w9 b9 o9 v => ⟨A', P', rfl, h2.only o9 (fun b hb e => by subst e; exact nP' hb), a1, a2, ?_, g2.base (Nat.le_trans HO.out.size o1.size)⟩⟩
    have e1 : Only P w w2 := ((HO.out.any P).trans o1).trans o2
    have hn := HN.out
    exact e1.grewTrans (P2 := fun b => P b ∨ b = n0) (fun b hb => hb.imp id (fun e => by omega)) (o9.toward (fun b hb => .inr hb))
  have HK := Lib.hid KILL
  clear KILL
  by_cases hov : s.limit ≤ s.now
  · rw [show s.commit j t = (abortRes 14 6, s.kill j t) by simp [St.commit, hov]]
    have C := fun n => md_abort (HM0.out.drewN n) HT.out 14 6
    have HC := Lib.hid C
    clear C
    go_enter Try.func34, Try.ntmps34
    go_upto_region 1 with (fail)
    rw [← hW, ← HN.out]
    clear hW
    go_wp2_with fail
    go_quiet (fail)
    go_wp2_with fail
    refine (HC.out _).mono ?_
    intro e w2 h2
    have he : e = .returned (.agg #[.int .i64 14, .int .i64 0, .slice none 0 0, .int .i64 4, .int .i64 6]) := by obtain ⟨_, _, h, _⟩ := h2; exact h
    subst he
    obtain ⟨B2, R⟩ := HK.out 14 6 s (W.drewN nq) w2 HT.out ((Only.refl P W).drewN nq) h2
    have HR := Lib.hid R
    have b0 : w2.cell? ⟨n0, 0, none⟩ = some (.int .i64 0) := B2.cell 0
    have b1 : w2.cell? ⟨n0, 1, none⟩ = some (.int .i64 0) := B2.cell 1
    have b2 : w2.cell? ⟨n0, 2, none⟩ = some (.slice none 0 0) := B2.cell 2
    have b3 : w2.cell? ⟨n0, 3, none⟩ = some (.int .i64 0) := B2.cell 3
    have b4 : w2.cell? ⟨n0, 4, none⟩ = some (.int .i64 0) := B2.cell 4
    have bf := fun i => B2.free i
    have HB2 := Lib.hid B2
    clear h2 R B2
    go_wp2_with fail
    obtain ⟨B9, o9⟩ := set5 HB2.out (.int .i64 14) (.int .i64 0) (.slice none 0 0) (.int .i64 4) (.int .i64 6)
    exact bodyPost_ret (v := .agg #[.int .i64 14, .int .i64 0, .slice none 0 0, .int .i64 4, .int .i64 6]) (results_cell_row Try.results34 _ _ n0 _ _ _ _ rfl B9 Try.underlying65 rfl info_res) rfl (HR.out _ B9 o9 _)
  · have hov' : s.now < s.limit := by omega
    clear hov
    have TICK : s.tick.tx j = some t := HT.out
    have HTK := Lib.hid TICK
    clear TICK
    cases hh : s.tick.holds t (s.now + 1) with
    | false =>
      rw [show s.commit j t = (abortRes 14 3, s.tick.kill j t) by simp [St.commit, hh]; omega]
      go_enter Try.func34, Try.ntmps34
      go_upto_region 1 with (fail)
      rw [← hW, ← HN.out]
      clear hW
      go_wp2_with fail
      go_quiet (fail)
      have M1 := HM0.out.drewN nq
      have B1 : Blk (W.drewN nq) n0 _ _ := HB.out
      have O1 : Only P W (W.drewN nq) := (Only.refl P W).drewN nq
      replace m2 : (W.drewN nq).cell? ⟨m, 2, none⟩ = some (.int .u64 s.now) := M1.mod.cell 2
      replace cj : (W.drewN nq).cell? ⟨m, 5 + j, none⟩ = some (.pointer (some ⟨A.tb j, 0, none⟩)) := cj
      clear m1
      generalize W.drewN nq = W1 at *
      have fm := M1.mod.free 2
      obtain ⟨W2, hW2⟩ : ∃ W2, W2 = W1.setCell ⟨m, 2, none⟩ (.int .u64 (s.now + 1)) := ⟨_, rfl⟩
      have M2 : MIn B W2 P m s.tick A := by rw [hW2]; exact M1.tick hov'
      have O2 : Only P W W2 := by rw [hW2]; exact O1.trans ((Only.set1 W1 m 2 _).toward (fun b hb => by subst hb; exact M1.pm))
      have C := md_holds M2 HTK.out (s.now + 1)
      have p2 : W2.cell? ⟨m, 2, none⟩ = some (.int .u64 (s.now + 1)) := M2.mod.cell 2
      have HO2 := Lib.hid O2
      clear M1 B1 O1 M2 O2
      go_upto_region 5 with (fail)
      rw [← hW2]
      clear hW2 m2 fm
      go_wp2_with fail
      refine C.mono ?_
      rintro e w3 ⟨rfl, M3, o3⟩
      rw [hh]
      have C2 := md_abort M3 HTK.out 14 3
      have HO3 := Lib.hid (HO2.out.trans (o3.any P))
      clear C p2 M3 o3
      go_wp2_with fail
      refine C2.mono ?_
      intro e w2 h2
      have he : e = .returned (.agg #[.int .i64 14, .int .i64 0, .slice none 0 0, .int .i64 4, .int .i64 3]) := by obtain ⟨_, _, h, _⟩ := h2; exact h
      subst he
      obtain ⟨B2, R⟩ := HK.out 14 3 s.tick w3 w2 HTK.out HO3.out h2
      have HR := Lib.hid R
      have b0 : w2.cell? ⟨n0, 0, none⟩ = some (.int .i64 0) := B2.cell 0
      have b1 : w2.cell? ⟨n0, 1, none⟩ = some (.int .i64 0) := B2.cell 1
      have b2 : w2.cell? ⟨n0, 2, none⟩ = some (.slice none 0 0) := B2.cell 2
      have b3 : w2.cell? ⟨n0, 3, none⟩ = some (.int .i64 0) := B2.cell 3
      have b4 : w2.cell? ⟨n0, 4, none⟩ = some (.int .i64 0) := B2.cell 4
      have bf := fun i => B2.free i
      have HB2 := Lib.hid B2
      clear h2 R B2 C2
      go_wp2_with fail
      obtain ⟨B9, o9⟩ := set5 HB2.out (.int .i64 14) (.int .i64 0) (.slice none 0 0) (.int .i64 4) (.int .i64 3)
      exact bodyPost_ret (v := .agg #[.int .i64 14, .int .i64 0, .slice none 0 0, .int .i64 4, .int .i64 3]) (results_cell_row Try.results34 _ _ n0 _ _ _ _ rfl B9 Try.underlying65 rfl info_res) rfl (HR.out _ B9 o9 _)
    | true =>
      rw [show s.commit j t = (⟨0, 0, [], 3, 0⟩, s.tick.done j t) by simp [St.commit, hh]; omega]
      go_enter Try.func34, Try.ntmps34
      go_upto_region 1 with (fail)
      rw [← hW, ← HN.out]
      clear hW
      go_wp2_with fail
      go_quiet (fail)
      have M1 := HM0.out.drewN nq
      have B1 : Blk (W.drewN nq) n0 _ _ := HB.out
      have O1 : Only P W (W.drewN nq) := (Only.refl P W).drewN nq
      replace m2 : (W.drewN nq).cell? ⟨m, 2, none⟩ = some (.int .u64 s.now) := M1.mod.cell 2
      replace cj : (W.drewN nq).cell? ⟨m, 5 + j, none⟩ = some (.pointer (some ⟨A.tb j, 0, none⟩)) := cj
      clear m1
      generalize W.drewN nq = W1 at *
      have fm := M1.mod.free 2
      obtain ⟨W2, hW2⟩ : ∃ W2, W2 = W1.setCell ⟨m, 2, none⟩ (.int .u64 (s.now + 1)) := ⟨_, rfl⟩
      have M2 : MIn B W2 P m s.tick A := by rw [hW2]; exact M1.tick hov'
      have O2 : Only P W W2 := by rw [hW2]; exact O1.trans ((Only.set1 W1 m 2 _).toward (fun b hb => by subst hb; exact M1.pm))
      have C := md_holds M2 HTK.out (s.now + 1)
      have p2 : W2.cell? ⟨m, 2, none⟩ = some (.int .u64 (s.now + 1)) := M2.mod.cell 2
      have HO2 := Lib.hid O2
      clear M1 B1 O1 M2 O2
      go_upto_region 5 with (fail)
      rw [← hW2]
      clear hW2 m2 fm
      go_wp2_with fail
      refine C.mono ?_
      rintro e w3 ⟨rfl, M3, o3⟩
      rw [hh]
      have O3 := HO2.out.trans (o3.any P)
      have B3 := O3.blk HB.out HNN.out
      have X3 := (M3.txs.one j t HTK.out).2
      have c4 := X3.cells.2.1
      obtain ⟨D, hD⟩ := X3.cm
      obtain ⟨w0, cnt0, hrun, hR, o0, z0⟩ := hD.range (T := 82) keyed Try.underlying82
      obtain ⟨r, hr⟩ : ∃ r, r = w3.heap.size := ⟨_, rfl⟩
      rw [← hr] at hrun hR
      have hnr : ¬ P r := fun hp => by have := M3.under _ hp; omega
      have R0 : AbRel B m w P s.tick A j t r n0 (fun k => (t.cells k).isSome) cnt0 (doneD (fun k => (t.cells k).isSome) t.cells (s.now + 1) s.vs) w0 := by
        rw [doneD_start]
        have := HO.out.size; have := O3.size; have := HN.out
        refine ⟨⟨D, ?_⟩, M3.only0 o0, o0.blk B3 (fun h => h), (HO.out.any P).trans (O3.trans (o0.any P)), hnr, HNN.out, by omega, by omega⟩
        have : (fun k => (cMap (A.ca j) t.cells k).isSome) = fun k => (t.cells k).isSome := by funext k; simp [cMap]
        rw [this] at hR
        exact hR
      have HR0 := Lib.hid R0
      clear C p2 M3 o3 O3 B3 X3 hD hR o0 z0 hnr R0 hr cj
      go_wp2_with fail
      go_loopw [7] (fun _ wr => ∃ (left : Nat → Bool) (cnt : Nat), AbRel B m w P s.tick A j t r n0 left cnt (doneD left t.cells (s.now + 1) s.vs) wr) (fun _ wr => wr.rangeLeft (A.mb j 0) r)
      case atStart => exact ⟨_, _, HR0.out⟩
      case round =>
        obtain ⟨left, cnt, hA⟩ := hrel
        rcases hA.next HTK.out 0 with ⟨hc0, hl0, hnx⟩ | ⟨k, c, w1, cnt1, hk, hl, hc, hnx, hA1, hlt, hen, hcb, hcp⟩
        · have M := hA.mod
          rw [doneD_end hl0] at M
          have cjr : wr.cell? ⟨m, 5 + j, none⟩ = some (.pointer (some ⟨A.tb j, 0, none⟩)) := by rw [M.sess j hj]; simp [txPtr, HTK.out]
          have fjr := M.mod.free (5 + j)
          obtain ⟨W8, hW8⟩ : ∃ W8, W8 = wr.setCell ⟨m, 5 + j, none⟩ (.pointer none) := ⟨_, rfl⟩
          have M8 : MIn B W8 P m (s.tick.done j t) A := by rw [hW8]; exact M.drop j hj
          have hnm : n0 ≠ m := fun e => hA.nr.2.1 (e ▸ M.pm)
          have B8 : Blk W8 n0 65 #[.int .i64 0, .int .i64 0, .slice none 0 0, .int .i64 0, .int .i64 0] := by rw [hW8]; exact hA.box.other ⟨m, 5 + j, none⟩ _ hnm
          have O8 : Only P w W8 := by rw [hW8]; exact hA.only.trans ((Only.set1 wr m (5 + j) _).toward (fun b hb => by subst hb; exact M.pm))
          have HM8 := Lib.hid M8
          have HB8 := Lib.hid B8
          have HO8 := Lib.hid O8
          have hnP := Lib.hid hA.nr.2.1
          have b0 : W8.cell? ⟨n0, 0, none⟩ = some (.int .i64 0) := B8.cell 0
          have b1 : W8.cell? ⟨n0, 1, none⟩ = some (.int .i64 0) := B8.cell 1
          have b2 : W8.cell? ⟨n0, 2, none⟩ = some (.slice none 0 0) := B8.cell 2
          have b3 : W8.cell? ⟨n0, 3, none⟩ = some (.int .i64 0) := B8.cell 3
          have b4 : W8.cell? ⟨n0, 4, none⟩ = some (.int .i64 0) := B8.cell 4
          have bf := fun i => B8.free i
          clear hA M M8 B8 O8 hl0 hc0 hnm
          go_upto_region 17 with (fail)
          rw [← hW8]
          clear hW8
          go_wp2_with fail
          obtain ⟨B9, o9⟩ := set5 HB8.out (.int .i64 0) (.int .i64 0) (.slice none 0 0) (.int .i64 3) (.int .i64 0)
          have hn := HN.out
          refine bodyPost_ret (v := .agg #[.int .i64 0, .int .i64 0, .slice none 0 0, .int .i64 3, .int .i64 0]) (results_cell_row Try.results34 _ _ n0 _ _ _ _ rfl B9 Try.underlying65 rfl info_res) rfl ?_
          exact ⟨A, P, rfl, HM8.out.only o9 (fun b hb e => by subst e; exact hnP.out hb), rfl, rfl, HO8.out.grewTrans (P2 := fun b => P b ∨ b = n0) (fun b hb => hb.imp id (fun e => by omega)) (o9.toward (fun b hb => .inr hb)), Grew.refl _ _⟩
        · have S1 := Lib.hid (doneD_step hk hl hc (s.now + 1) s.vs)
          have hrf := hA1.mod.ok.refs j t k c HTK.out hc
          obtain ⟨q0, q1, q2, qm⟩ := hA1.see HTK.out hc
          have HA := Lib.hid hA
          have HC := Lib.hid hc
          have HLT := Lib.hid hlt
          cases ho : c.old with
          | none =>
            rw [ho, show ptrOf A.va none = .pointer none from rfl] at q1
            cases hw : c.own with
            | none =>
              rw [hw, show ptrOf A.va none = .pointer none from rfl] at q0
              have H1 := Lib.hid (show AbRel B m w P s.tick A j t r n0 _ cnt1 (doneD (fun q => left q && !decide (q = k)) t.cells (s.now + 1) s.vs) w1 by
                rw [S1.out]; simp only [ownV, oldV, ho, hw]; exact hA1)
              have H2 := Lib.hid (hA.less hA1 hlt)
              clear hA hA1 hc ho hw hcb hcp hl hlt hrf
              go_wp2_with fail
              go_roundw
              case rel => exact ⟨_, _, H1.out⟩
              case measure => exact H2.out
            | some i =>
              have hi' : i < (doneD left t.cells (s.now + 1) s.vs).length := by have := hrf.1 i hw; exact this
              obtain ⟨v3, v4, vf⟩ := hA1.ver hi'
              rw [hw, show ptrOf A.va (some i) = .pointer (some ⟨A.va i, 0, none⟩) from rfl] at q0
              cases hth : c.there with
              | true =>
                rw [hth] at q2
                have K1 := (hA1.beg HTK.out hi' (s.now + 1)).drewN 1
                have H1 := Lib.hid (show AbRel B m w P s.tick A j t r n0 (fun q => left q && !decide (q = k)) cnt1 (doneD (fun q => left q && !decide (q = k)) t.cells (s.now + 1) s.vs) _ by rw [S1.out]; simp only [ownV, oldV, ho, hw, hth, if_true]; exact K1)
                have H2 := Lib.hid (hA.less K1 hlt)
                clear hA hA1 hc ho hw hcb hcp hl hlt hrf K1 hth hi'
                go_wp2_with fail
                go_region
                go_wp2_with fail
                go_roundw
                case rel => exact ⟨_, _, H1.out⟩
                case measure => exact H2.out
              | false =>
                rw [hth] at q2
                have K1 := (hA1.beg HTK.out hi' (s.now + 1))
                have K2 := (K1.fin HTK.out (i := i) (by rw [setBeg_len]; exact hi') (s.now + 1)).drewN 2
                have H1 := Lib.hid (show AbRel B m w P s.tick A j t r n0 (fun q => left q && !decide (q = k)) cnt1 (doneD (fun q => left q && !decide (q = k)) t.cells (s.now + 1) s.vs) _ by rw [S1.out]; simp only [ownV, oldV, ho, hw, hth, Bool.false_eq_true, if_false]; exact K2)
                have H2 := Lib.hid (hA.less K2 hlt)
                clear hA hA1 hc ho hw hcb hcp hl hlt hrf K1 K2 hth hi'
                go_wp2_with fail
                go_region
                go_wp2_with fail
                go_region
                go_wp2_with fail
                go_roundw
                case rel => exact ⟨_, _, H1.out⟩
                case measure => exact H2.out
          | some o =>
            have ho' : o < (doneD left t.cells (s.now + 1) s.vs).length := by have := hrf.2 o ho; exact this
            obtain ⟨u3, u4, uf⟩ := hA1.ver ho'
            rw [ho, show ptrOf A.va (some o) = .pointer (some ⟨A.va o, 0, none⟩) from rfl] at q1
            have J1 := hA1.fin HTK.out ho' (s.now + 1)
            cases hw : c.own with
            | none =>
              rw [hw, show ptrOf A.va none = .pointer none from rfl] at q0
              have K1 := J1.drewN 1
              have H1 := Lib.hid (show AbRel B m w P s.tick A j t r n0 (fun q => left q && !decide (q = k)) cnt1 (doneD (fun q => left q && !decide (q = k)) t.cells (s.now + 1) s.vs) _ by rw [S1.out]; simp only [ownV, oldV, ho, hw]; exact K1)
              have H2 := Lib.hid (hA.less K1 hlt)
              clear hA hA1 hc ho hw hcb hcp hl hlt hrf K1 J1 ho'
              go_wp2_with fail
              go_region
              go_wp2_with fail
              go_roundw
              case rel => exact ⟨_, _, H1.out⟩
              case measure => exact H2.out
            | some i =>
              have hi' : i < (setFin (doneD left t.cells (s.now + 1) s.vs) o (s.now + 1)).length := by rw [setFin_len]; have := hrf.1 i hw; exact this
              obtain ⟨v3, _, vf⟩ := hA1.ver (by rw [setFin_len] at hi'; exact hi')
              obtain ⟨_, y4, _⟩ := J1.ver hi'
              change (w1.setCell ⟨A.va o, 4, none⟩ (.int .u64 s.tick.now)).cell? _ = _ at y4
              rw [hw, show ptrOf A.va (some i) = .pointer (some ⟨A.va i, 0, none⟩) from rfl] at q0
              have K1 := J1.beg HTK.out hi' (s.now + 1)
              cases hth : c.there with
              | true =>
                rw [hth] at q2
                have K2 := K1.drewN 2
                have H1 := Lib.hid (show AbRel B m w P s.tick A j t r n0 (fun q => left q && !decide (q = k)) cnt1 (doneD (fun q => left q && !decide (q = k)) t.cells (s.now + 1) s.vs) _ by rw [S1.out]; simp only [ownV, oldV, ho, hw, hth, if_true]; exact K2)
                have H2 := Lib.hid (hA.less K2 hlt)
                clear hA hA1 hc ho hw hcb hcp hl hlt hrf K1 K2 J1 hth hi' ho'
                go_wp2_with fail
                go_region
                go_wp2_with fail
                go_region
                go_wp2_with fail
                go_roundw
                case rel => exact ⟨_, _, H1.out⟩
                case measure => exact H2.out
              | false =>
                rw [hth] at q2
                have hi2 : i < (setBeg (setFin (doneD left t.cells (s.now + 1) s.vs) o (s.now + 1)) i (s.now + 1)).length := by rw [setBeg_len]; exact hi'
                have K2 := (K1.fin HTK.out hi2 (s.now + 1)).drewN 3
                have H1 := Lib.hid (show AbRel B m w P s.tick A j t r n0 (fun q => left q && !decide (q = k)) cnt1 (doneD (fun q => left q && !decide (q = k)) t.cells (s.now + 1) s.vs) _ by rw [S1.out]; simp only [ownV, oldV, ho, hw, hth, Bool.false_eq_true, if_false]; exact K2)
                have H2 := Lib.hid (hA.less K2 hlt)
                clear hA hA1 hc ho hw hcb hcp hl hlt hrf K1 K2 J1 hth hi' ho' hi2
                go_wp2_with fail
                go_region
                go_wp2_with fail
                go_region
                go_wp2_with fail
                go_region
                go_wp2_with fail
                go_roundw
                case rel => exact ⟨_, _, H1.out⟩
                case measure => exact H2.out
end Go.Proofs.Ytdjehgnkpbkdbaa
namespace Go.Proofs.Ytdjehgnkpbkdbaa
open Go.RowKit
set_option linter.unusedVariables false
set_option linter.unusedSimpArgs false
/-- A result is stored into its box behind all else. -/
theorem StRes.box {B m : Nat} {w w2 w9 : World} {P P' : Nat → Prop} {A A' : Ad} {s' : St} {n0 : Nat} {v : Value} (hn : w.heap.size ≤ n0) (hP : ¬ P' n0) (M : MIn B w2 P' m s' A') (e1 : A'.tb = A.tb) (e2 : A'.mb = A.mb) (o : Only P w w2) (g : Grew w.heap.size P P') (o9 : Only (fun c => c = n0) w2 w9) : StRes B m w P A v s' (.returned v) w9 :=
  ⟨A', P', rfl, M.only o9 (fun b hb e => by subst e; exact hP hb), e1, e2, o.grewTrans (P2 := fun b => P b ∨ b = n0) (fun b hb => hb.imp id (fun e => by omega)) (o9.toward (fun b hb => .inr hb)), g⟩
theorem look_cells (t : Tx) (k : Nat) : (t.look k).cells = t.cells := by unfold Tx.look; split <;> rfl
set_option maxRecDepth 100000 in
set_option maxHeartbeats 8000000 in
theorem md_get {B m : Nat} {w : World} {P : Nat → Prop} {s : St} {A : Ad} (h : MIn B w P m s A) {j : Nat} {t : Tx} (ht : s.tx j = some t) (k : Nat) (hk : k < 64) :
    Calls Try.prog 36 #[.pointer (some ⟨m, 0, none⟩), .pointer (some ⟨A.tb j, 0, none⟩), .int .i64 k] w (StRes B m w P A (resV (s.get j t k).1) (s.get j t k).2) := by
  obtain ⟨W, hW⟩ : ∃ W, W = w.alloc (.cells #[.int .i64 0, .int .i64 0, .slice none 0 0, .int .i64 0, .int .i64 0] 65) := ⟨_, rfl⟩
  have oW : Only0 w W := by rw [hW]; exact (Only0.refl w).alloc _
  have M0 := h.only0 oW
  have BX : Blk W w.heap.size 65 #[.int .i64 0, .int .i64 0, .slice none 0 0, .int .i64 0, .int .i64 0] := by rw [hW]; exact Blk.new _ _ _
  have hnn : ¬ P w.heap.size := fun hp => by have := h.under _ hp; omega
  have C := md_look M0 ht k hk
  have HRES := Lib.hid (at_lt M0 (key := k) (at_ := t.beg))
  have HREF := Lib.hid (fun c hc => M0.ok.refs j t k c ht hc)
  have HT := Lib.hid ht
  have HO := Lib.hid oW
  have HB := Lib.hid BX
  have HNN := Lib.hid hnn
  obtain ⟨n0, hn0⟩ : ∃ n0, n0 = w.heap.size := ⟨_, rfl⟩
  have HN := Lib.hid hn0
  rw [← hn0] at HB HNN
  clear h M0 BX oW ht hnn hn0
  have BOX : ∀ w1, Only P W w1 → (Blk w1 n0 65 #[.int .i64 0, .int .i64 0, .slice none 0 0, .int .i64 0, .int .i64 0]) := fun w1 o1 => o1.blk HB.out HNN.out
  have HBOX := Lib.hid BOX
  clear BOX
  cases hs : s.sees t k with
  | none =>
    rw [show s.get j t k = (.err 11, s.setTx j (some (t.look k))) by simp [St.get, hs]]
    rw [hs, show ptrOf A.va none = .pointer none from rfl] at C
    go_enter Try.func36, Try.ntmps36
    go_upto_region 1 with (fail)
    rw [← hW, ← HN.out]
    clear hW
    go_wp2_with fail
    refine C.mono ?_
    rintro e w2 ⟨rfl, M2, o2⟩
    have B2 := HBOX.out w2 o2
    have HM := Lib.hid M2
    have HO2 := Lib.hid o2
    have b0 : w2.cell? ⟨n0, 0, none⟩ = some (.int .i64 0) := B2.cell 0
    have b1 : w2.cell? ⟨n0, 1, none⟩ = some (.int .i64 0) := B2.cell 1
    have b2 : w2.cell? ⟨n0, 2, none⟩ = some (.slice none 0 0) := B2.cell 2
    have b3 : w2.cell? ⟨n0, 3, none⟩ = some (.int .i64 0) := B2.cell 3
    have b4 : w2.cell? ⟨n0, 4, none⟩ = some (.int .i64 0) := B2.cell 4
    have bf := fun i => B2.free i
    have HB2 := Lib.hid B2
    clear C M2 o2 B2
    go_wp2_with fail
    obtain ⟨B9, o9⟩ := set5 HB2.out (.int .i64 11) (.int .i64 0) (.slice none 0 0) (.int .i64 0) (.int .i64 0)
    exact bodyPost_ret (v := .agg #[.int .i64 11, .int .i64 0, .slice none 0 0, .int .i64 0, .int .i64 0]) (results_cell_row Try.results36 _ _ n0 _ _ _ _ rfl B9 Try.underlying65 rfl info_res) rfl
      (StRes.box (by rw [HN.out]; exact Nat.le_refl _) HNN.out HM.out rfl rfl ((HO.out.any P).trans HO2.out) (Grew.refl _ _) o9)
  | some i =>
    rw [show s.get j t k = (⟨0, (s.ver i).value, [], 0, 0⟩, s.setTx j (some ((t.look k).mark k))) by simp [St.get, hs]]
    rw [hs, show ptrOf A.va (some i) = .pointer (some ⟨A.va i, 0, none⟩) from rfl] at C
    have hi : i < s.vs.length := by
      unfold St.sees at hs
      cases hc : t.cells k with
      | none => rw [hc] at hs; exact HRES.out i hs
      | some c =>
        rw [hc] at hs
        simp only at hs
        split at hs
        · exact (HREF.out c hc).1 i hs
        · cases hs
    cases hc : t.cells k with
    | some c =>
      have EQ := Lib.hid (show (t.look k).mark k = t.look k by simp [Tx.mark, look_cells, hc])
      rw [EQ.out]
      go_enter Try.func36, Try.ntmps36
      go_upto_region 1 with (fail)
      rw [← hW, ← HN.out]
      clear hW
      go_wp2_with fail
      refine C.mono ?_
      rintro e w2 ⟨rfl, M2, o2⟩
      have T2 : (s.setTx j (some (t.look k))).tx j = some (t.look k) := by simp [St.setTx, upd_same]
      have X2 := (M2.txs.one j _ T2).2
      have c4 := X2.cells.2.1
      have hrun := X2.cm.look k hk
      rw [show celPtr A j (t.look k) k = .pointer (some ⟨A.ca j k, 0, none⟩) by simp [celPtr, look_cells, hc]] at hrun
      have v1 : w2.cell? ⟨A.va i, 1, none⟩ = some (.int .i64 (s.ver i).value) := (M2.vers.blk i hi).1.cell 1
      have B2 := HBOX.out w2 o2
      have HM := Lib.hid M2
      have HO2 := Lib.hid o2
      have b0 : w2.cell? ⟨n0, 0, none⟩ = some (.int .i64 0) := B2.cell 0
      have b1 : w2.cell? ⟨n0, 1, none⟩ = some (.int .i64 0) := B2.cell 1
      have b2 : w2.cell? ⟨n0, 2, none⟩ = some (.slice none 0 0) := B2.cell 2
      have b3 : w2.cell? ⟨n0, 3, none⟩ = some (.int .i64 0) := B2.cell 3
      have b4 : w2.cell? ⟨n0, 4, none⟩ = some (.int .i64 0) := B2.cell 4
      have bf := fun i => B2.free i
      have HB2 := Lib.hid B2
      clear C M2 o2 B2 hc hs T2 X2
      generalize (s.ver i).value = x at *
      go_wp2_with fail
      obtain ⟨B9, o9⟩ := set5 HB2.out (.int .i64 0) (.int .i64 x) (.slice none 0 0) (.int .i64 0) (.int .i64 0)
      exact bodyPost_ret (v := .agg #[.int .i64 0, .int .i64 x, .slice none 0 0, .int .i64 0, .int .i64 0]) (results_cell_row Try.results36 _ _ n0 _ _ _ _ rfl B9 Try.underlying65 rfl info_res) rfl
        (StRes.box (by rw [HN.out]; exact Nat.le_refl _) HNN.out HM.out rfl rfl ((HO.out.any P).trans HO2.out) (Grew.refl _ _) o9)
    | none =>
      go_enter Try.func36, Try.ntmps36
      go_upto_region 1 with (fail)
      rw [← hW, ← HN.out]
      clear hW
      go_wp2_with fail
      refine C.mono ?_
      rintro e w2 ⟨rfl, M2, o2⟩
      have T2 : (s.setTx j (some (t.look k))).tx j = some (t.look k) := by simp [St.setTx, upd_same]
      have X2 := (M2.txs.one j _ T2).2
      have c4 := X2.cells.2.1
      have c5 := X2.cells.2.2.1
      have hrun := X2.cm.look k hk
      rw [show celPtr A j (t.look k) k = .pointer none by simp [celPtr, look_cells, hc]] at hrun
      obtain ⟨w3, hst, hb3, ho3⟩ := X2.gm.store k hk
      have M3 := M2.setGot T2 ho3 hb3
      rw [setTx_setTx] at M3
      have EQ : ({ t.look k with got := upd (t.look k).got k true } : Tx) = (t.look k).mark k := by simp [Tx.mark, look_cells, hc]
      rw [EQ] at M3
      have o3 : Only P W w3 := o2.trans (ho3.toward (fun b hb => by subst hb; exact X2.pm 1 (by omega)))
      have v1 : w3.cell? ⟨A.va i, 1, none⟩ = some (.int .i64 (s.ver i).value) := (M3.vers.blk i hi).1.cell 1
      have B2 := HBOX.out w3 o3
      have HM := Lib.hid M3
      have HO2 := Lib.hid o3
      have b0 : w3.cell? ⟨n0, 0, none⟩ = some (.int .i64 0) := B2.cell 0
      have b1 : w3.cell? ⟨n0, 1, none⟩ = some (.int .i64 0) := B2.cell 1
      have b2 : w3.cell? ⟨n0, 2, none⟩ = some (.slice none 0 0) := B2.cell 2
      have b3 : w3.cell? ⟨n0, 3, none⟩ = some (.int .i64 0) := B2.cell 3
      have b4 : w3.cell? ⟨n0, 4, none⟩ = some (.int .i64 0) := B2.cell 4
      have bf := fun i => B2.free i
      have HB2 := Lib.hid B2
      clear C M2 o2 B2 hc hs T2 X2 M3 EQ o3 ho3 hb3
      generalize (s.ver i).value = x at *
      go_wp2_with fail
      obtain ⟨B9, o9⟩ := set5 HB2.out (.int .i64 0) (.int .i64 x) (.slice none 0 0) (.int .i64 0) (.int .i64 0)
      exact bodyPost_ret (v := .agg #[.int .i64 0, .int .i64 x, .slice none 0 0, .int .i64 0, .int .i64 0]) (results_cell_row Try.results36 _ _ n0 _ _ _ _ rfl B9 Try.underlying65 rfl info_res) rfl
        (StRes.box (by rw [HN.out]; exact Nat.le_refl _) HNN.out HM.out rfl rfl ((HO.out.any P).trans HO2.out) (Grew.refl _ _) o9)
end Go.Proofs.Ytdjehgnkpbkdbaa

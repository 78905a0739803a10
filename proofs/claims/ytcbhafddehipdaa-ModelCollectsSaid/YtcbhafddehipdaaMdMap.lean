/-
  Maps whose keys are the numbers 0 to 63, as Lean functions: what a look-up, a store and a range over one do.
-/
import Derived.Test.YtcbhafddehipdaaBase
import Derived.Maps.RangeWalk
namespace Go.Proofs.Ytcbhafddehipdaa
open Go.RowKit
open Go.Maps (Keyed)

abbrev MD := DataW Unit
abbrev MR := Value → Option (MD × List MemPlace)
/-- The key k as a map has it. -/
def kLit (k : Nat) : Lit := .int .i64 k
theorem kLit_inj {a b : Nat} (h : kLit a = kLit b) : a = b := by
  unfold kLit at h; injection h with _ h; omega
theorem kLit_wf (k : Nat) (hk : k < 64) : (Lit.int .i64 (k : Int)).wf = true := WalkArith.wf_i64 (by omega)
theorem kLit_key (k : Nat) : WideAt.IsKeyLit (kLit k) := by unfold kLit; simp [WideAt.IsKeyLit]

/-- The map in block b holds just what f says, read by R. -/
structure IMap (P : Program) (K : TypeId) (R : MR) (w : World) (b : Nat) (f : Nat → Option MD) (D : MD) : Prop where
  own : w.ownsMap P K R b 64 D
  keys : ∀ l, Maps.has D l = true → ∃ k : Nat, k < 64 ∧ l = kLit k
  at_ : ∀ k : Nat, k < 64 → ∀ z, D.atKey (kLit k) z = (f k).getD z

variable {P : Program} {K : TypeId} {R : MR} {w : World} {b : Nat} {f : Nat → Option MD} {D : MD}

theorem IMap.has (h : IMap P K R w b f D) (k : Nat) (hk : k < 64) : Maps.has D (kLit k) = (f k).isSome := by
  cases hf : f k with
  | none => exact Maps.has_false_of_atKey (fun z => by rw [h.at_ k hk, hf]; rfl)
  | some y => exact Maps.has_true_of_atKey (y := y) (fun z => by rw [h.at_ k hk, hf]; rfl)
theorem own_congr {w' : World} {n : Nat} (h : w.ownsMap P K R b n D) (hb : w'.heap[b]? = w.heap[b]?) : w'.ownsMap P K R b n D := by
  obtain ⟨es, clock, h1, r⟩ := h
  exact ⟨es, clock, hb.trans h1, r⟩
theorem IMap.congr {w' : World} (h : IMap P K R w b f D) (hb : w'.heap[b]? = w.heap[b]?) : IMap P K R w' b f D := ⟨own_congr h.own hb, h.keys, h.at_⟩
theorem IMap.only {S : Nat → Prop} {w' : World} (h : IMap P K R w b f D) (o : Only S w w') (hn : ¬ S b) : IMap P K R w' b f D := h.congr (o.block b h.own.lt hn)
theorem IMap.lt (h : IMap P K R w b f D) : b < w.heap.size := h.own.lt

theorem nodup_bound64 : ∀ (n : Nat) (l : List Nat), l.Nodup → (∀ x ∈ l, x < n) → l.length ≤ n := by
  intro n
  induction n with
  | zero =>
    intro l _ h
    cases l with
    | nil => simp
    | cons a l => exact absurd (h a (by simp)) (by omega)
  | succ n ih =>
    intro l nd h
    by_cases hm : n ∈ l
    · have h1 := ih (l.erase n) (nd.erase n) (fun x hx => by
        have hx' := (nd.mem_erase_iff).1 hx
        have := h x hx'.2
        have := hx'.1
        omega)
      have h2 := List.length_erase_of_mem hm
      omega
    · have h1 := ih l nd (fun x hx => by
        have := h x hx
        have : x ≠ n := fun e => hm (e ▸ hx)
        omega)
      omega
/-- Entries whose keys are all unlike and all of 0 to 63 are 64 at most. -/
theorem few_entries (es : List (Lit × MD)) (hd : es.Pairwise (fun p q => p.1 ≠ q.1)) (hk : ∀ p ∈ es, ∃ k : Nat, k < 64 ∧ p.1 = kLit k) : es.length ≤ 64 := by
  let g : Lit × MD → Nat := fun p => match p.1 with | .int _ x => x.toNat | _ => 0
  have hg : ∀ p ∈ es, p.1 = kLit (g p) ∧ g p < 64 := fun p hp => by
    obtain ⟨k, hk1, hk2⟩ := hk p hp
    have : g p = k := by simp [g, hk2, kLit]
    rw [this]; exact ⟨hk2, hk1⟩
  have h1 : (es.map g).Nodup := by
    rw [List.nodup_iff_pairwise_ne, List.pairwise_map]
    refine (List.Pairwise.and_mem.1 hd).imp ?_
    rintro a c ⟨ha, hc, hne⟩ e
    exact hne (by rw [(hg a ha).1, (hg c hc).1, e])
  have h2 := nodup_bound64 64 _ h1 (fun x hx => by
    obtain ⟨p, hp, rfl⟩ := List.mem_map.1 hx
    exact (hg p hp).2)
  simpa using h2
theorem own_64 {n : Nat} (h : w.ownsMap P K R b n D) (Kd : Keyed P K) (hk : ∀ l, Maps.has D l = true → ∃ k : Nat, k < 64 ∧ l = kLit k) : w.ownsMap P K R b 64 D := by
  have hE := h.entries Kd
  obtain ⟨es, clock, hb, F, hs, hD⟩ := h
  refine ⟨es, clock, hb, F, ?_, hD⟩
  obtain ⟨l, rfl, hp, hl⟩ := hE
  have e1 : l = (es.toList.map (WideElems.rg P K R)).foldr DataW.insert [] := by injection hD
  have e2 : l.length = es.size := by rw [e1, length_read]
  rw [← e2]
  refine few_entries l hp (fun p hm => hk p.1 ?_)
  show l.any _ = true
  exact List.any_eq_true.2 ⟨p, hm, WideAt.sameKey_self (hl p hm)⟩

/-- A new map. -/
theorem IMap.made (w : World) (P : Program) (K : TypeId) (R : MR) : IMap P K R (w.alloc (.map #[] 0)) w.heap.size (fun _ => none) (.map []) :=
  ⟨(World.ownsMap_made w P K R).mono (by omega), fun l hl => by simp [Maps.has] at hl, fun k _ z => rfl⟩
/-- A look-up. -/
theorem IMap.look {T E : TypeId} (h : IMap P K R w b f D) (Kd : Keyed P K) (hK : P.underlying K = some (.int .i64)) (ht : P.underlying T = some (.map K E)) {z : Value} (hz : (zeroValue E).run P w = .ok z w) {zd : MD} {zp : List MemPlace} (hzd : R z = some (zd, zp)) (k : Nat) (hk : k < 64) :
    ∃ v ps, (Instr.lookup T (.map (some b)) (.int .i64 k) false).run P w = .ok v w ∧ R v = some ((f k).getD zd, ps) := by
  obtain ⟨v, ps, h1, h2⟩ := h.own.lookup Kd ht hz hzd (Maps.keyOf_int_mk hK (kLit_wf k hk))
  refine ⟨v, ps, h1, ?_⟩
  rw [h2]
  have := h.at_ k hk zd
  unfold kLit at this
  rw [this]
/-- A store. -/
theorem IMap.store {T E : TypeId} (h : IMap P K R w b f D) (Kd : Keyed P K) (hK : P.underlying K = some (.int .i64)) (ht : P.underlying T = some (.map K E)) (k : Nat) (hk : k < 64) {v : Value} {d : MD} {ps : List MemPlace} (hv : R v = some (d, ps)) :
    ∃ w' D', (Instr.mapUpdate T (.map (some b)) (.int .i64 k) v).run P w = .ok () w' ∧ IMap P K R w' b (fun j => if j = k then some d else f j) D' ∧ Only (fun c => c = b) w w' := by
  obtain ⟨w', h1, h2, h3⟩ := h.own.update Kd ht (by unfold maxLen; omega) (Maps.keyOf_int_mk hK (kLit_wf k hk)) hv
  have hM : Maps.IsMap D := h.own.isMap
  change w'.ownsMap P K R b (64 + 1) (D.put (kLit k) d) at h2
  have hks : ∀ l, Maps.has (D.put (kLit k) d) l = true → ∃ k : Nat, k < 64 ∧ l = kLit k := by
    intro l hl
    by_cases e : l = kLit k
    · exact ⟨k, hk, e⟩
    · rw [Maps.has_put_other e] at hl
      exact h.keys l hl
  refine ⟨w', _, h1, ⟨own_64 h2 Kd hks, hks, ?_⟩, ⟨h3.os, h3.tape, h3.output, h3.size, fun c hc hn => h3.block c hc (fun e => hn (Option.some.inj e))⟩⟩
  · intro j hj z
    show (D.put (kLit k) d).atKey (kLit j) z = _
    by_cases e : j = k
    · subst e
      rw [Maps.atKey_put_same hM (kLit_key j)]; simp
    · rw [Maps.atKey_put_other (fun e' => e (kLit_inj e')), h.at_ j hj]; simp [e]

/-- A range over the map, under way: 'left' tells which keys are still to come. -/
structure IRange (P : Program) (K : TypeId) (R : MR) (w : World) (b r : Nat) (f : Nat → Option MD) (D : MD) (left : Nat → Bool) (cnt : Nat) : Prop where
  rng : ∃ L : Lit → Bool, w.ranges P K R b r 64 D L cnt ∧ (∀ k, k < 64 → L (kLit k) = left k) ∧ ∀ l, L l = true → ∃ k : Nat, k < 64 ∧ l = kLit k
  keys : ∀ l, Maps.has D l = true → ∃ k : Nat, k < 64 ∧ l = kLit k
  at_ : ∀ k : Nat, k < 64 → ∀ z, D.atKey (kLit k) z = (f k).getD z
theorem IRange.map {r : Nat} {left : Nat → Bool} {cnt : Nat} (h : IRange P K R w b r f D left cnt) : IMap P K R w b f D := by
  obtain ⟨L, h1, _⟩ := h.rng
  exact ⟨h1.owns, h.keys, h.at_⟩
theorem ranges_congr {w' : World} {r n cnt : Nat} {L : Lit → Bool} (h : w.ranges P K R b r n D L cnt) (hb : w'.heap[b]? = w.heap[b]?) (hr : w'.heap[r]? = w.heap[r]?) : w'.ranges P K R b r n D L cnt := by
  obtain ⟨es, clock, since, seen, c0, h1, F, hs, hD, h2, rest⟩ := h
  exact ⟨es, clock, since, seen, c0, hb.trans h1, F, hs, hD, hr.trans h2, rest⟩
theorem IRange.congr {w' : World} {r : Nat} {left : Nat → Bool} {cnt : Nat} (h : IRange P K R w b r f D left cnt) (hb : w'.heap[b]? = w.heap[b]?) (hr : w'.heap[r]? = w.heap[r]?) : IRange P K R w' b r f D left cnt := by
  obtain ⟨⟨L, h1, h2, h3⟩, h4, h5⟩ := h
  exact ⟨⟨L, ranges_congr h1 hb hr, h2, h3⟩, h4, h5⟩
theorem IRange.lts {r : Nat} {left : Nat → Bool} {cnt : Nat} (h : IRange P K R w b r f D left cnt) : b < w.heap.size ∧ r < w.heap.size := by
  obtain ⟨L, h1, _⟩ := h.rng
  exact ⟨h1.owns.lt, h1.lt⟩
theorem IRange.only {S : Nat → Prop} {w' : World} {r : Nat} {left : Nat → Bool} {cnt : Nat} (h : IRange P K R w b r f D left cnt) (o : Only S w w') (hb : ¬ S b) (hr : ¬ S r) : IRange P K R w' b r f D left cnt :=
  h.congr (o.block b h.lts.1 hb) (o.block r h.lts.2 hr)
theorem IRange.left_eq {r : Nat} {left : Nat → Bool} {cnt : Nat} (h : IRange P K R w b r f D left cnt) : w.rangeLeft b r = cnt := by
  obtain ⟨L, h1, _⟩ := h.rng
  exact h1.left_eq
/-- 'range m'. -/
theorem IMap.range {T E : TypeId} (h : IMap P K R w b f D) (Kd : Keyed P K) (ht : P.underlying T = some (.map K E)) :
    ∃ w' cnt, (Instr.range T (.map (some b))).run P w = .ok (.pointer (some ⟨w.heap.size, 0, none⟩)) w' ∧ IRange P K R w' b w.heap.size f D (fun k => (f k).isSome) cnt ∧ Only0 w w' ∧ w'.heap.size = w.heap.size + 1 := by
  obtain ⟨w', h1, h2, h3, h4⟩ := h.own.range Kd ht
  exact ⟨w', _, h1, ⟨⟨_, h2, fun k hk => h.has k hk, h.keys⟩, h.keys, h.at_⟩, ⟨h3.os, h3.tape, h3.output, h3.size, fun c hc _ => h3.block c hc (by simp)⟩, h4⟩
/-- The step of a range: nothing is left, or a key that was left comes. -/
theorem IRange.next {r : Nat} {left : Nat → Bool} {cnt : Nat} (h : IRange P K R w b r f D left cnt) (Kd : Keyed P K) (hK : P.underlying K = some (.int .i64)) (ty : TypeId) :
    (cnt = 0 ∧ (∀ k, k < 64 → left k = false) ∧ (Instr.next (.pointer (some ⟨r, 0, none⟩)) false ty).run P w = .ok (.tuple #[.bool false]) w) ∨
    ∃ (k : Nat) (v : Value) (d : MD) (ps : List MemPlace) (w' : World) (cnt' : Nat), k < 64 ∧ left k = true ∧ f k = some d ∧ R v = some (d, ps) ∧ (Instr.next (.pointer (some ⟨r, 0, none⟩)) false ty).run P w = .ok (.tuple #[.bool true, .int .i64 k, v]) w' ∧
      IRange P K R w' b r f D (fun j => left j && !decide (j = k)) cnt' ∧ cnt' < cnt ∧ Only (fun c => c = r) w w' ∧ (Instr.entry (.pointer (some ⟨r, 0, none⟩))).run P w' = .ok (.tuple #[.int .i64 k, v]) w' := by
  obtain ⟨L, h1, h2, h3⟩ := h.rng
  rcases h1.next Kd ty with ⟨h0, hl, hrun⟩ | ⟨key, v, kl, y, w', cnt', hkey, hlk, hv, hat, hrun, hrg, hlt, hgr, hsz, hen⟩
  · exact .inl ⟨h0, fun k hk => by rw [← h2 k hk, hl], hrun⟩
  · obtain ⟨k, hk, rfl⟩ := h3 kl hlk
    obtain ⟨x, rfl, hx, _⟩ := Maps.keyOf_int_inv hK hkey
    obtain rfl : x = (k : Int) := by unfold kLit at hx; injection hx with _ hx; exact hx.symm
    have hf : f k = some y.1 := by
      have := fun z => (h.at_ k hk z).symm.trans (hat z)
      cases hfk : f k with
      | none =>
        rw [hfk] at this
        have e1 : y.1 = .nil := (this .nil).symm
        have e2 : y.1 = .lit (.bool true) := (this (.lit (.bool true))).symm
        rw [e1] at e2; cases e2
      | some d => rw [hfk] at this; exact congrArg some (this .nil)
    refine .inr ⟨k, v, y.1, y.2, w', cnt', hk, by rw [← h2 k hk]; exact hlk, hf, hv, hrun, ⟨⟨_, hrg, fun j hj => ?_, fun l hl => h3 l (by simp at hl; exact hl.1)⟩, h.keys, h.at_⟩, hlt, ⟨hgr.os, hgr.tape, hgr.output, hgr.size, fun c hc hn => hgr.block c hc (fun e => hn (Option.some.inj e))⟩, hen⟩
    rw [h2 j hj]
    congr 1
    by_cases e : j = k
    · subst e; simp [WideAt.sameKey_self (kLit_key j)]
    · simp [e, Maps.sameKey_ne (fun e' => e (kLit_inj e'))]
end Go.Proofs.Ytcbhafddehipdaa

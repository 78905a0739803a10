/-
  How a Model lies in memory: its own block, the row of its versions, the versions, the transactions with their maps and cells.
-/
import Derived.Test.YtcbhafddehipdaaProg
import Derived.Test.YtcbhafddehipdaaSep
import Derived.Test.YtcbhafddehipdaaMdMap
import Derived.Test.YtcbhafddehipdaaMdSt
namespace Go.Proofs.Ytcbhafddehipdaa
open Go.RowKit
open Go.Maps (Keyed)
set_option linter.unusedVariables false

/-- Where a Model's parts lie: the row of versions; the versions; the transactions; their maps (0: cells, 1: got, 2: looked); their cells. -/
structure Ad where
  la : Option Addr
  lc : Nat
  va : Nat → Nat
  tb : Nat → Nat
  mb : Nat → Nat → Nat
  ca : Nat → Nat → Nat
abbrev at0 (b : Nat) : Addr := ⟨b, 0, none⟩
def ptrOf (va : Nat → Nat) (o : Option Nat) : Value := .pointer (o.map fun i => at0 (va i))
def verCells (v : Ver) : Array Value := #[.int .i64 v.key, .int .i64 v.value, .int .i64 v.by_, .int .u64 v.beg, .int .u64 v.fin, .bool v.dead]
def celCells (va : Nat → Nat) (c : Cel) : Array Value := #[ptrOf va c.own, ptrOf va c.old, .bool c.there]
def txCells (A : Ad) (j : Nat) (t : Tx) : Array Value := #[.int .i64 t.id, .int .i64 t.level, .int .u64 t.beg, .int .i64 t.ops, .map (some (A.mb j 0)), .map (some (A.mb j 1)), .map (some (A.mb j 2))]
def txPtr (A : Ad) (tx : Nat → Option Tx) (j : Nat) : Value := .pointer ((tx j).map fun _ => at0 (A.tb j))
def modCells (A : Ad) (s : St) : Array Value := #[.int .i64 s.slots, .int .u64 s.limit, .int .u64 s.now, .int .i64 s.made, .slice A.la s.l.length A.lc,
  txPtr A s.tx 0, txPtr A s.tx 1, txPtr A s.tx 2, txPtr A s.tx 3, txPtr A s.tx 4, txPtr A s.tx 5, txPtr A s.tx 6, txPtr A s.tx 7]
/-- How a pointer reads. -/
def ptrElem : MR := fun v => match v with
  | .pointer none => some (.nil, [])
  | .pointer (some ⟨b, 0, none⟩) => some (.lit (.int .i64 b), [])
  | _ => none
theorem ptrElem_inv {v : Value} {d : MD} {ps : List MemPlace} (h : ptrElem v = some (d, ps)) : (v = .pointer none ∧ d = .nil) ∨ ∃ b : Nat, v = .pointer (some (at0 b)) ∧ d = .lit (.int .i64 b) := by
  unfold ptrElem at h
  split at h
  · simp at h; exact .inl ⟨rfl, h.1.symm⟩
  · simp at h; exact .inr ⟨_, rfl, h.1.symm⟩
  · simp at h
abbrev kInt : TypeId := 3
theorem keyed : Keyed Try.prog kInt := Maps.int_keyed Try.underlying3
def cMap (ca : Nat → Nat) (cells : Nat → Option Cel) : Nat → Option MD := fun k => (cells k).map fun _ => .lit (.int .i64 (ca k))
def bMap (f : Nat → Bool) : Nat → Option MD := fun k => if f k then some (.lit (.bool true)) else none
abbrev CMap (w : World) (b : Nat) (ca : Nat → Nat) (cells : Nat → Option Cel) : Prop := ∃ D, IMap Try.prog kInt ptrElem w b (cMap ca cells) D
abbrev BMap (w : World) (b : Nat) (f : Nat → Bool) : Prop := ∃ D, IMap Try.prog kInt (plainElem Try.prog 4) w b (bMap f) D
theorem CMap.lt {w : World} {b : Nat} {ca : Nat → Nat} {cells : Nat → Option Cel} (h : CMap w b ca cells) : b < w.heap.size := by obtain ⟨D, h⟩ := h; exact h.lt
theorem BMap.lt {w : World} {b : Nat} {f : Nat → Bool} (h : BMap w b f) : b < w.heap.size := by obtain ⟨D, h⟩ := h; exact h.lt
theorem CMap.only {w w' : World} {b : Nat} {ca : Nat → Nat} {cells : Nat → Option Cel} {S : Nat → Prop} (h : CMap w b ca cells) (o : Only S w w') (hn : ¬ S b) : CMap w' b ca cells := by obtain ⟨D, h⟩ := h; exact ⟨D, h.only o hn⟩
theorem BMap.only {w w' : World} {b : Nat} {f : Nat → Bool} {S : Nat → Prop} (h : BMap w b f) (o : Only S w w') (hn : ¬ S b) : BMap w' b f := by obtain ⟨D, h⟩ := h; exact ⟨D, h.only o hn⟩
theorem own_ne_blk {P : Program} {K : TypeId} {R : MR} {w : World} {b n c : Nat} {D : MD} {t : TypeId} {cs : Array Value} (h : w.ownsMap P K R b n D) (hb : Blk w c t cs) : b ≠ c := by
  rintro rfl
  obtain ⟨es, clock, h1, _⟩ := h
  unfold Blk at hb
  rw [hb] at h1; cases h1
theorem CMap.ne {w : World} {b c : Nat} {ca : Nat → Nat} {cells : Nat → Option Cel} {t : TypeId} {cs : Array Value} (h : CMap w b ca cells) (hb : Blk w c t cs) : b ≠ c := by obtain ⟨D, h⟩ := h; exact own_ne_blk h.own hb
theorem BMap.ne {w : World} {b c : Nat} {f : Nat → Bool} {t : TypeId} {cs : Array Value} (h : BMap w b f) (hb : Blk w c t cs) : b ≠ c := by obtain ⟨D, h⟩ := h; exact own_ne_blk h.own hb
theorem Blk.ne {w : World} {b c : Nat} {t t' : TypeId} {cs cs' : Array Value} (h : Blk w b t cs) (h' : Blk w c t' cs') (ht : t ≠ t') : b ≠ c := by
  rintro rfl
  exact ht (h.inj h').2

/-- A transaction lies at its place. -/
structure TxIn (w : World) (P : Nat → Prop) (va : Nat → Nat) (A : Ad) (j : Nat) (t : Tx) : Prop where
  blk : Blk w (A.tb j) 100 (txCells A j t)
  cm : CMap w (A.mb j 0) (A.ca j) t.cells
  gm : BMap w (A.mb j 1) t.got
  km : BMap w (A.mb j 2) t.looked
  cel : ∀ k c, t.cells k = some c → k < 64 ∧ Blk w (A.ca j k) 133 (celCells va c) ∧ P (A.ca j k)
  pt : P (A.tb j)
  pm : ∀ q, q < 3 → P (A.mb j q)
/-- All transactions lie at their places, each in blocks of its own. -/
structure TxsIn (w : World) (P : Nat → Prop) (va : Nat → Nat) (A : Ad) (tx : Nat → Option Tx) : Prop where
  one : ∀ j t, tx j = some t → j < 8 ∧ TxIn w P va A j t
  tinj : ∀ i j t u, tx i = some t → tx j = some u → A.tb i = A.tb j → i = j
  minj : ∀ i j t u p q, tx i = some t → tx j = some u → p < 3 → q < 3 → A.mb i p = A.mb j q → i = j ∧ p = q
  cinj : ∀ i j t u k l c d, tx i = some t → tx j = some u → t.cells k = some c → u.cells l = some d → A.ca i k = A.ca j l → i = j ∧ k = l
structure VersIn (w : World) (P : Nat → Prop) (va : Nat → Nat) (vs : List Ver) : Prop where
  blk : ∀ i, i < vs.length → Blk w (va i) 117 (verCells (vs.getD i default)) ∧ P (va i)
  inj : ∀ i j, i < vs.length → j < vs.length → va i = va j → i = j
structure MIn (B : Nat) (w : World) (P : Nat → Prop) (m : Nat) (s : St) (A : Ad) : Prop where
  mod : Blk w m 96 (modCells A s)
  row : w.ownsRow B 115 1 (.slice A.la s.l.length A.lc) s.l.length (s.l.map fun i => .pointer (some (at0 (A.va i))))
  vers : VersIn w P A.va s.vs
  txs : TxsIn w P A.va A s.tx
  ok : Ok s
  pm : P m
  pr : ∀ b, rowOf (.slice A.la s.l.length A.lc) b → P b
  under : Under P w.heap.size
  above : Above P B

theorem TxIn.only {w w' : World} {P S : Nat → Prop} {va : Nat → Nat} {A : Ad} {j : Nat} {t : Tx} (h : TxIn w P va A j t) (o : Only S w w') (ht : ¬ S (A.tb j)) (hm : ∀ q, q < 3 → ¬ S (A.mb j q)) (hc : ∀ k c, t.cells k = some c → ¬ S (A.ca j k)) : TxIn w' P va A j t :=
  ⟨o.blk h.blk ht, h.cm.only o (hm 0 (by omega)), h.gm.only o (hm 1 (by omega)), h.km.only o (hm 2 (by omega)), fun k c hk => ⟨(h.cel k c hk).1, o.blk (h.cel k c hk).2.1 (hc k c hk), (h.cel k c hk).2.2⟩, h.pt, h.pm⟩
theorem TxIn.toward {w : World} {P Q : Nat → Prop} {va : Nat → Nat} {A : Ad} {j : Nat} {t : Tx} (h : TxIn w P va A j t) (hp : ∀ b, P b → Q b) : TxIn w Q va A j t :=
  ⟨h.blk, h.cm, h.gm, h.km, fun k c hk => ⟨(h.cel k c hk).1, (h.cel k c hk).2.1, hp _ (h.cel k c hk).2.2⟩, hp _ h.pt, fun q hq => hp _ (h.pm q hq)⟩
theorem TxsIn.only {w w' : World} {P S : Nat → Prop} {va : Nat → Nat} {A : Ad} {tx : Nat → Option Tx} (h : TxsIn w P va A tx) (o : Only S w w') (hn : ∀ j t, tx j = some t → ¬ S (A.tb j) ∧ (∀ q, q < 3 → ¬ S (A.mb j q)) ∧ ∀ k c, t.cells k = some c → ¬ S (A.ca j k)) : TxsIn w' P va A tx :=
  ⟨fun j t ht => ⟨(h.one j t ht).1, (h.one j t ht).2.only o (hn j t ht).1 (hn j t ht).2.1 (hn j t ht).2.2⟩, h.tinj, h.minj, h.cinj⟩
theorem TxsIn.toward {w : World} {P Q : Nat → Prop} {va : Nat → Nat} {A : Ad} {tx : Nat → Option Tx} (h : TxsIn w P va A tx) (hp : ∀ b, P b → Q b) : TxsIn w Q va A tx :=
  ⟨fun j t ht => ⟨(h.one j t ht).1, (h.one j t ht).2.toward hp⟩, h.tinj, h.minj, h.cinj⟩
theorem VersIn.only {w w' : World} {P S : Nat → Prop} {va : Nat → Nat} {vs : List Ver} (h : VersIn w P va vs) (o : Only S w w') (hn : ∀ i, i < vs.length → ¬ S (va i)) : VersIn w' P va vs :=
  ⟨fun i hi => ⟨o.blk (h.blk i hi).1 (hn i hi), (h.blk i hi).2⟩, h.inj⟩
theorem VersIn.toward {w : World} {P Q : Nat → Prop} {va : Nat → Nat} {vs : List Ver} (h : VersIn w P va vs) (hp : ∀ b, P b → Q b) : VersIn w Q va vs := ⟨fun i hi => ⟨(h.blk i hi).1, hp _ (h.blk i hi).2⟩, h.inj⟩
/-- Something else turns. -/
theorem MIn.only {B m : Nat} {w w' : World} {P S : Nat → Prop} {s : St} {A : Ad} (h : MIn B w P m s A) (o : Only S w w') (ap : Apart P S) : MIn B w' P m s A :=
  ⟨o.blk h.mod (ap m h.pm), rows_only h.row o (fun b hb => ap b (h.pr b hb)), h.vers.only o (fun i hi => ap _ (h.vers.blk i hi).2),
    h.txs.only o (fun j t ht => ⟨ap _ (h.txs.one j t ht).2.pt, fun q hq => ap _ ((h.txs.one j t ht).2.pm q hq), fun k c hk => ap _ ((h.txs.one j t ht).2.cel k c hk).2.2⟩), h.ok, h.pm, h.pr, h.under.mono o.size, h.above⟩
theorem MIn.only0 {B m : Nat} {w w' : World} {P : Nat → Prop} {s : St} {A : Ad} (h : MIn B w P m s A) (o : Only0 w w') : MIn B w' P m s A := h.only (S := fun _ => False) o (fun _ _ hf => hf)
theorem MIn.drewN {B m : Nat} {w : World} {P : Nat → Prop} {s : St} {A : Ad} (h : MIn B w P m s A) (n : Nat) : MIn B (w.drewN n) P m s A := h.only0 ((Only0.refl w).drewN n)

/-! ### what one block's turning leaves of the parts -/
theorem TxsIn.blkNe {w : World} {P : Nat → Prop} {va : Nat → Nat} {A : Ad} {tx : Nat → Option Tx} (h : TxsIn w P va A tx) {b : Nat} {t0 : TypeId} {cs : Array Value} (hb : Blk w b t0 cs) (h1 : t0 ≠ 100) (h2 : t0 ≠ 133) :
    ∀ j t, tx j = some t → ¬ (A.tb j = b) ∧ (∀ q, q < 3 → ¬ (A.mb j q = b)) ∧ ∀ k c, t.cells k = some c → ¬ (A.ca j k = b) := by
  intro j t ht
  have X := (h.one j t ht).2
  refine ⟨X.blk.ne hb (Ne.symm h1), fun q hq => ?_, fun k c hk => (X.cel k c hk).2.1.ne hb (Ne.symm h2)⟩
  match q, hq with
  | 0, _ => exact X.cm.ne hb
  | 1, _ => exact X.gm.ne hb
  | 2, _ => exact X.km.ne hb
theorem VersIn.blkNe {w : World} {P : Nat → Prop} {va : Nat → Nat} {vs : List Ver} (h : VersIn w P va vs) {b : Nat} {t0 : TypeId} {cs : Array Value} (hb : Blk w b t0 cs) (h1 : t0 ≠ 117) : ∀ i, i < vs.length → ¬ (va i = b) :=
  fun i hi => (h.blk i hi).1.ne hb (Ne.symm h1)

/-- The Model's own block has turned: its numbers and its transactions' pointers. -/
theorem MIn.setMod {B m : Nat} {w w' : World} {P : Nat → Prop} {s : St} {A : Ad} (h : MIn B w P m s A) {slots limit now made : Int} (o : Only (fun b => b = m) w w') (hb : Blk w' m 96 (modCells A { s with slots := slots, limit := limit, now := now, made := made })) (hok : Ok { s with slots := slots, limit := limit, now := now, made := made }) :
    MIn B w' P m { s with slots := slots, limit := limit, now := now, made := made } A :=
  ⟨hb, rows_only h.row o (fun b hb' e => by subst e; exact rows_ne h.row h.mod (by decide) hb'), h.vers.only o (h.vers.blkNe h.mod (by decide)), h.txs.only o (h.txs.blkNe h.mod (by decide) (by decide)), hok, h.pm, h.pr, h.under.mono o.size, h.above⟩
/-- A version has turned. -/
theorem VersIn.set {w w' : World} {P : Nat → Prop} {va : Nat → Nat} {vs : List Ver} (h : VersIn w P va vs) {i : Nat} (hi : i < vs.length) {v : Ver} (o : Only (fun b => b = va i) w w') (hb : Blk w' (va i) 117 (verCells v)) : VersIn w' P va (vs.set i v) := by
  refine ⟨fun j hj => ?_, fun j k hj hk => h.inj j k (by simpa using hj) (by simpa using hk)⟩
  have hj' : j < vs.length := by simpa using hj
  by_cases e : j = i
  · subst e
    refine ⟨?_, (h.blk j hj').2⟩
    rw [List.getD_eq_getElem?_getD, List.getElem?_set_self hj']
    exact hb
  · refine ⟨?_, (h.blk j hj').2⟩
    rw [List.getD_eq_getElem?_getD, List.getElem?_set_ne (Ne.symm e), ← List.getD_eq_getElem?_getD]
    exact o.blk (h.blk j hj').1 (fun e' => e (h.inj j i hj' hi e'))
theorem MIn.setVer {B m : Nat} {w w' : World} {P : Nat → Prop} {s : St} {A : Ad} (h : MIn B w P m s A) {i : Nat} (hi : i < s.vs.length) {v : Ver} (o : Only (fun b => b = A.va i) w w') (hb : Blk w' (A.va i) 117 (verCells v)) : MIn B w' P m { s with vs := s.vs.set i v } A := by
  have h0 := (h.vers.blk i hi).1
  refine ⟨o.blk h.mod (h.mod.ne h0 (by decide)), rows_only h.row o (fun b hb' e => by subst e; exact rows_ne h.row h0 (by decide) hb'), h.vers.set hi o hb, h.txs.only o (h.txs.blkNe h0 (by decide) (by decide)), ?_, h.pm, h.pr, h.under.mono o.size, h.above⟩
  exact ⟨h.ok.slots, h.ok.limit, h.ok.now, h.ok.made, h.ok.few, fun j hj => by simpa using h.ok.lin j hj, h.ok.ops, fun j t k c ht hc => by simpa using h.ok.refs j t k c ht hc⟩
/-- Transaction j has turned, and nothing of the others. -/
theorem TxsIn.set {w w' : World} {P S : Nat → Prop} {va : Nat → Nat} {A : Ad} {tx : Nat → Option Tx} (h : TxsIn w P va A tx) {j : Nat} {t t' : Tx} (ht : tx j = some t) (hs : ∀ k, (t'.cells k).isSome = (t.cells k).isSome) (o : Only S w w')
    (hn : ∀ i u, i ≠ j → tx i = some u → ¬ S (A.tb i) ∧ (∀ q, q < 3 → ¬ S (A.mb i q)) ∧ ∀ k c, u.cells k = some c → ¬ S (A.ca i k)) (h' : TxIn w' P va A j t') : TxsIn w' P va A (upd tx j (some t')) := by
  have back : ∀ i u, upd tx j (some t') i = some u → ∃ u', tx i = some u' ∧ ∀ k c, u.cells k = some c → ∃ c', u'.cells k = some c' := by
    intro i u hu
    by_cases e : i = j
    · subst e
      rw [upd_same] at hu; cases hu
      refine ⟨t, ht, fun k c hk => ?_⟩
      have := hs k; rw [hk] at this
      exact Option.isSome_iff_exists.1 this.symm
    · rw [upd_other _ _ _ e] at hu
      exact ⟨u, hu, fun k c hk => ⟨c, hk⟩⟩
  refine ⟨fun i u hu => ?_, fun i k a b ha hb e => ?_, fun i k a b p q ha hb hp hq e => ?_, fun i k a b p q c d ha hb hc hd e => ?_⟩
  · by_cases e : i = j
    · subst e
      rw [upd_same] at hu; cases hu
      exact ⟨(h.one i t ht).1, h'⟩
    · rw [upd_other _ _ _ e] at hu
      have := hn i u e hu
      exact ⟨(h.one i u hu).1, (h.one i u hu).2.only o this.1 this.2.1 this.2.2⟩
  · obtain ⟨a', ha', _⟩ := back i a ha
    obtain ⟨b', hb', _⟩ := back k b hb
    exact h.tinj i k a' b' ha' hb' e
  · obtain ⟨a', ha', _⟩ := back i a ha
    obtain ⟨b', hb', _⟩ := back k b hb
    exact h.minj i k a' b' p q ha' hb' hp hq e
  · obtain ⟨a', ha', ca⟩ := back i a ha
    obtain ⟨b', hb', cb⟩ := back k b hb
    obtain ⟨c', hc'⟩ := ca p c hc
    obtain ⟨d', hd'⟩ := cb q d hd
    exact h.cinj i k a' b' p q c' d' ha' hb' hc' hd' e
end Go.Proofs.Ytcbhafddehipdaa

/-
  The Model (package model) as plain Lean data, and what its calls do to it. No program is named here.
-/
namespace Go.Proofs.Ytcbhafddehipdaa

/-- A version. -/
structure Ver where
  key : Int
  value : Int
  by_ : Int
  beg : Int
  fin : Int
  dead : Bool
instance : Inhabited Ver := ⟨⟨0, 0, 0, 0, 0, false⟩⟩
/-- What a transaction wrote of a key: its own version, the one that was there (their numbers), and whether the key is there for it. -/
structure Cel where
  own : Option Nat
  old : Option Nat
  there : Bool
structure Tx where
  id : Int
  level : Int
  beg : Int
  ops : Int
  cells : Nat → Option Cel
  got : Nat → Bool
  looked : Nat → Bool
/-- The Model: l: the versions that take a slot, by their numbers; vs: all versions that ever were made. -/
structure St where
  slots : Int
  limit : Int
  now : Int
  made : Int
  l : List Nat
  vs : List Ver
  tx : Nat → Option Tx
structure Res where
  e : Int
  value : Int
  pairs : List (Int × Int)
  over : Int
  reason : Int
def Res.zero : Res := ⟨0, 0, [], 0, 0⟩
def Res.err (e : Int) : Res := ⟨e, 0, [], 0, 0⟩
structure MOp where
  kind : Int
  key : Int
  hi : Int
  value : Int

def upd {α : Type} (f : Nat → α) (k : Nat) (x : α) : Nat → α := fun j => if j = k then x else f j
theorem upd_same {α : Type} (f : Nat → α) (k : Nat) (x : α) : upd f k x k = x := by simp [upd]
theorem upd_other {α : Type} (f : Nat → α) (k : Nat) (x : α) {j : Nat} (h : j ≠ k) : upd f k x j = f j := by simp [upd, h]

def St.ver (s : St) (i : Nat) : Ver := s.vs.getD i default
def visB (v : Ver) (key at_ : Int) : Bool := decide (v.key = key) && decide (0 < v.beg) && decide (v.beg ≤ at_) && (decide (v.fin = 0) || decide (at_ < v.fin))
def St.at (s : St) (key at_ : Int) : Option Nat := s.l.find? fun i => visB (s.ver i) key at_
def St.sees (s : St) (t : Tx) (k : Nat) : Option Nat := match t.cells k with
  | none => s.at k t.beg
  | some c => if c.there then c.own else none
def St.setTx (s : St) (j : Nat) (t : Option Tx) : St := { s with tx := upd s.tx j t }
def Tx.look (t : Tx) (k : Nat) : Tx := if (t.cells k).isNone then { t with looked := upd t.looked k true } else t
def Tx.mark (t : Tx) (k : Nat) : Tx := if (t.cells k).isNone then { t with got := upd t.got k true } else t
def Tx.put (t : Tx) (k : Nat) (c : Cel) : Tx := { t with cells := upd t.cells k (some c) }
def holderB (s : St) (j k i : Nat) : Bool := match s.tx i with
  | some u => !decide (i = j) && (u.cells k).isSome
  | none => false
def St.others (s : St) (j k : Nat) : Bool := (List.range 8).any (holderB s j k)
def laterB (v : Ver) (key at_ : Int) : Bool := decide (v.key = key) && (decide (at_ < v.beg) || decide (at_ < v.fin))
def St.later (s : St) (key at_ : Int) : Bool := s.l.any fun i => laterB (s.ver i) key at_
def St.newCel (s : St) (t : Tx) (k : Nat) : Cel := ⟨none, s.at k t.beg, (s.at k t.beg).isSome⟩
def St.take (s : St) (j : Nat) (t : Tx) (k : Nat) : Option Cel × Tx := match t.cells k with
  | some c => (some c, t)
  | none => if s.others j k || s.later k t.beg then (none, t) else (some (s.newCel t k), t.put k (s.newCel t k))
def St.setVal (s : St) (i : Nat) (x : Int) : St := { s with vs := s.vs.set i { s.ver i with value := x } }
def St.grow (s : St) (v : Ver) : St := { s with vs := s.vs ++ [v], l := s.l ++ [s.vs.length] }
/-- A write: the reason why it may not be, or 0; the state behind it. -/
def St.write (s : St) (j : Nat) (t : Tx) (kind : Int) (k : Nat) (value : Int) : Int × St := match s.take j t k with
  | (none, _) => (2, s)
  | (some c, t1) => if kind = 4 then (0, s.setTx j (some (t1.put k { c with there := false })))
    else match c.own with
      | none => if s.slots ≤ s.l.length then (5, s.setTx j (some t1))
        else (0, (s.grow ⟨k, value, t.id, 0, 0, false⟩).setTx j (some (t1.put k { c with own := some s.vs.length, there := true })))
      | some i => (0, (s.setVal i value).setTx j (some (t1.put k { c with there := true })))
def anyC (f : Nat → Option Cel) (p : Cel → Bool) : Bool := (List.range 64).any fun k => match f k with
  | some c => p c
  | none => false
def isOwn (i : Nat) (c : Cel) : Bool := decide (c.own = some i)
def isOld (i : Nat) (c : Cel) : Bool := decide (c.old = some i)
def isGone (i : Nat) (c : Cel) : Bool := decide (c.own = some i) && !c.there
/-- A version behind an abort of a transaction with these cells. -/
def killV (f : Nat → Option Cel) (i : Nat) (v : Ver) : Ver := if anyC f (isOwn i) then { v with dead := true } else v
/-- A version behind a commit. -/
def doneV (f : Nat → Option Cel) (now : Int) (i : Nat) (v : Ver) : Ver :=
  { v with beg := if anyC f (isOwn i) then now else v.beg, fin := if anyC f (isOld i) || anyC f (isGone i) then now else v.fin }
def St.kill (s : St) (j : Nat) (t : Tx) : St := { s with vs := s.vs.mapIdx (killV t.cells), tx := upd s.tx j none }
def St.done (s : St) (j : Nat) (t : Tx) : St := { s with vs := s.vs.mapIdx (doneV t.cells s.now), tx := upd s.tx j none }
def abortRes (e reason : Int) : Res := ⟨e, 0, [], 4, reason⟩
def Tx.keysOf (t : Tx) : Nat → Bool := if t.level = 2 then t.got else t.looked
def St.holds (s : St) (t : Tx) (at_ : Int) : Bool := decide (t.level = 1) || (List.range 64).all fun k => !t.keysOf k || decide (s.at k at_ = s.at k t.beg)
def St.tick (s : St) : St := { s with now := s.now + 1 }
def St.commit (s : St) (j : Nat) (t : Tx) : Res × St :=
  if s.limit ≤ s.now then (abortRes 14 6, s.kill j t)
  else if s.tick.holds t (s.now + 1) then (⟨0, 0, [], 3, 0⟩, s.tick.done j t)
  else (abortRes 14 3, s.tick.kill j t)
def St.get (s : St) (j : Nat) (t : Tx) (k : Nat) : Res × St := match s.sees t k with
  | none => (.err 11, s.setTx j (some (t.look k)))
  | some i => (⟨0, (s.ver i).value, [], 0, 0⟩, s.setTx j (some ((t.look k).mark k)))
def St.pairOf (s : St) (t : Tx) (k : Nat) : Option (Int × Int) := (s.sees t k).map fun i => ((k : Int), (s.ver i).value)
/-- The keys from lo on, n of them. -/
def keysFrom (lo n : Nat) : List Nat := (List.range n).map (lo + ·)
def Tx.lookAll (t : Tx) (lo n : Nat) : Tx := { t with looked := fun k => t.looked k || (decide (lo ≤ k) && decide (k < lo + n)) }
def St.scan (s : St) (j : Nat) (t : Tx) (lo n : Nat) : Res × St := (⟨0, 0, (keysFrom lo n).filterMap (s.pairOf t), 0, 0⟩, s.setTx j (some (t.lookAll lo n)))
def St.change (s : St) (j : Nat) (t : Tx) (kind : Int) (k : Nat) (value : Int) : Res × St :=
  if (s.sees t k).isSome = decide (kind = 2) then (.err (if (s.sees t k).isSome then 12 else 11), s.setTx j (some (t.look k)))
  else match s.write j t kind k value with
    | (r, s1) => if r = 0 then (.zero, s1) else (abortRes 14 r, match s1.tx j with | some t1 => s1.kill j t1 | none => s1)
def keyOkB (k : Int) : Bool := decide (0 ≤ k) && decide (k ≤ 63)
def opOkB (o : MOp) : Bool :=
  if o.kind = 1 ∨ o.kind = 4 then keyOkB o.key && decide (o.hi = 0) && decide (o.value = 0)
  else if o.kind = 2 ∨ o.kind = 3 then keyOkB o.key && decide (o.hi = 0) && decide (0 ≤ o.value) && decide (o.value ≤ 65535)
  else if o.kind = 5 then keyOkB o.key && decide (o.key ≤ o.hi) && decide (o.hi ≤ 63) && decide (o.value = 0)
  else if o.kind = 6 ∨ o.kind = 7 then decide (o.key = 0) && decide (o.hi = 0) && decide (o.value = 0)
  else false
def endsB (o : MOp) : Bool := decide (o.kind = 6) || decide (o.kind = 7)
def Tx.op (t : Tx) : Tx := { t with ops := t.ops + 1 }
def sessB (j : Int) : Bool := decide (0 ≤ j) && decide (j < 8)
def levelB (n : Int) : Bool := decide (1 ≤ n) && decide (n ≤ 3)
/-- A call that may be, of a transaction that lives. -/
def St.call (s : St) (j : Nat) (t : Tx) (o : MOp) : Res × St :=
  if o.kind = 6 then s.commit j t
  else if o.kind = 7 then (abortRes 0 1, s.kill j t)
  else if o.kind = 1 then s.get j t.op o.key.toNat
  else if o.kind = 5 then s.scan j t.op o.key.toNat (o.hi + 1 - o.key).toNat
  else (s.setTx j (some t.op)).change j t.op o.kind o.key.toNat o.value
def St.do_ (s : St) (j : Int) (o : MOp) : Res × Int × St :=
  if sessB j then match s.tx j.toNat with
    | none => (.zero, 9, s)
    | some t => if opOkB o then if decide (12 ≤ t.ops) && !endsB o then (.zero, 65, s)
        else ((s.call j.toNat t o).1, 0, (s.call j.toNat t o).2)
      else (.zero, 9, s)
  else (.zero, 1, s)
def newTx (id level beg : Int) : Tx := ⟨id, level, beg, 0, fun _ => none, fun _ => false, fun _ => false⟩
def St.begin (s : St) (j level : Int) : Int × Int × St :=
  if sessB j && levelB level then
    if (s.tx j.toNat).isSome then (0, 9, s)
    else if 2000 ≤ s.made then (0, 65, s)
    else if s.limit ≤ s.now then (0, 16, s)
    else (s.made + 1, 0, { s with made := s.made + 1, now := s.now + 1, tx := upd s.tx j.toNat (some (newTx (s.made + 1) level (s.now + 1))) })
  else (0, 1, s)
def St.low (s : St) : Int := (List.range 8).foldl (fun a j => match s.tx j with | some t => if t.beg < a then t.beg else a | none => a) 18446744073709551615
def goneB (v : Ver) (low : Int) : Bool := v.dead || (decide (0 < v.fin) && decide (v.fin ≤ low))
def St.kept (s : St) : List Nat := s.l.filter fun i => !goneB (s.ver i) s.low
def St.collect (s : St) : St := { s with l := s.kept }
def St.pairs (s : St) (at_ : Int) : List (Int × Int) := (List.range 64).filterMap fun (k : Nat) => (s.at k at_).map fun i => ((k : Int), (s.ver i).value)
def St.live (s : St) : List Int := (List.range 8).filterMap fun (j : Nat) => (s.tx j).map fun _ => (j : Int)
def newSt (slots limit : Int) : St := ⟨slots, limit, 0, 0, [], [], fun _ => none⟩
def confB (slots limit : Int) : Bool := decide (1 ≤ slots) && decide (slots ≤ 256) && decide (1 ≤ limit) && decide (limit ≤ 1099511627776)

/-- What holds of every Model. -/
structure Ok (s : St) : Prop where
  slots : 1 ≤ s.slots ∧ s.slots ≤ 256
  limit : 1 ≤ s.limit ∧ s.limit ≤ 1099511627776
  now : 0 ≤ s.now ∧ s.now ≤ s.limit
  made : 0 ≤ s.made ∧ s.made ≤ 2000
  few : s.l.length ≤ s.slots
  lin : ∀ i ∈ s.l, i < s.vs.length
  ops : ∀ j t, s.tx j = some t → 0 ≤ t.ops ∧ t.ops ≤ 12
  refs : ∀ j t k c, s.tx j = some t → t.cells k = some c → (∀ i, c.own = some i → i < s.vs.length) ∧ (∀ i, c.old = some i → i < s.vs.length)
end Go.Proofs.Ytcbhafddehipdaa

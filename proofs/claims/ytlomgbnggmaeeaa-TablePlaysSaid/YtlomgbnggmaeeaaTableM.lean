/-
  Package table as plain data: what Make, Can, Turn, End, Get, Live and Oldest answer. It speaks of no program.
-/
import Derived.Test.YtlomgbnggmaeeaaBase
namespace Go.Proofs.Ytlomgbnggmaeeaa
open Go.RowKit

/-- A transaction. -/
structure TX where
  level : Int
  beg : Int
  en : Int
  st : Int
def TX.zero : TX := ⟨0, 0, 0, 0⟩
/-- Whether a state may follow another one. -/
def can (f t : Int) : Bool :=
  if f = 1 then (t == 2 || t == 4) else if f = 2 then (t == 3 || t == 4) else if f = 3 then t == 5 else if f = 4 then t == 5 else false
def tget (ts : List TX) (id : Int) : Option TX := if 1 ≤ id ∧ id ≤ (ts.length : Int) then ts[(id - 1).toNat]? else none
def tput (ts : List TX) (id : Int) (x : TX) : List TX := ts.set (id - 1).toNat x
def mkErr (most : Int) (ts : List TX) (level beg : Int) : Int := if level < 1 ∨ 3 < level ∨ 1099511627776 < beg then 1 else if most ≤ (ts.length : Int) then 65 else 0
def mkId (most : Int) (ts : List TX) (level beg : Int) : Int := if mkErr most ts level beg = 0 then (ts.length : Int) + 1 else 0
def mkTs (most : Int) (ts : List TX) (level beg : Int) : List TX := if mkErr most ts level beg = 0 then ts ++ [⟨level, beg, 0, 1⟩] else ts
def turnErr (ts : List TX) (id to : Int) : Int := match tget ts id with | none => 11 | some x => if can x.st to then 0 else 7
def turnTs (ts : List TX) (id to : Int) : List TX := match tget ts id with | none => ts | some x => if can x.st to then tput ts id { x with st := to } else ts
def endErr (ts : List TX) (id e : Int) : Int := match tget ts id with | none => 11 | some x => if x.st ≠ 2 ∨ 0 < x.en then 7 else if e = 0 ∨ 1099511627776 < e ∨ e ≤ x.beg then 1 else 0
def endTs (ts : List TX) (id e : Int) : List TX := match tget ts id with | none => ts | some x => if endErr ts id e = 0 then tput ts id { x with en := e } else ts
def TX.lives (x : TX) : Bool := x.st == 1 || x.st == 2
/-- The places, from k on, of those that live. -/
def liveFrom : List TX → Int → List Int
  | [], _ => []
  | x :: l, k => if x.lives then k :: liveFrom l (k + 1) else liveFrom l (k + 1)
def liveTs (ts : List TX) : List Int := liveFrom ts 1
def imin (a b : Int) : Int := if b < a then b else a
def oldTs : List TX → Int → Int
  | [], now => now
  | x :: l, now => oldTs l (if x.lives then imin now x.beg else now)

theorem tget_some {ts : List TX} {id : Int} (h0 : 1 ≤ id) (h1 : id ≤ (ts.length : Int)) : tget ts id = some (ts.getD (id - 1).toNat TX.zero) := by
  have : (id - 1).toNat < ts.length := by omega
  unfold tget
  rw [if_pos ⟨h0, h1⟩, List.getD_eq_getElem?_getD, List.getElem?_eq_getElem this]
  rfl
theorem tget_none {ts : List TX} {id : Int} (h : id < 1 ∨ (ts.length : Int) < id) : tget ts id = none := by
  unfold tget
  rw [if_neg (by omega)]
theorem tget_cases (ts : List TX) (id : Int) : (1 ≤ id ∧ id ≤ (ts.length : Int) ∧ tget ts id = some (ts.getD (id - 1).toNat TX.zero)) ∨ ((id < 1 ∨ (ts.length : Int) < id) ∧ tget ts id = none) := by
  by_cases h : 1 ≤ id ∧ id ≤ (ts.length : Int)
  · exact .inl ⟨h.1, h.2, tget_some h.1 h.2⟩
  · exact .inr ⟨by omega, tget_none (by omega)⟩
theorem length_tput (ts : List TX) (id : Int) (x : TX) : (tput ts id x).length = ts.length := by simp [tput]
theorem liveFrom_append (l : List TX) (x : TX) (k : Int) : liveFrom (l ++ [x]) k = liveFrom l k ++ (if x.lives then [k + l.length] else []) := by
  induction l generalizing k with
  | nil => simp [liveFrom]
  | cons y l ih =>
    simp only [List.cons_append, liveFrom, ih, List.length_cons]
    have e : k + 1 + (l.length : Int) = k + ((l.length + 1 : Nat) : Int) := by omega
    rw [e]
    split <;> simp
theorem oldTs_append (l : List TX) (x : TX) (now : Int) : oldTs (l ++ [x]) now = (if x.lives then imin (oldTs l now) x.beg else oldTs l now) := by
  induction l generalizing now with
  | nil => simp [oldTs]
  | cons y l ih => simp only [List.cons_append, oldTs, ih]
theorem liveFrom_length (l : List TX) (k : Int) : (liveFrom l k).length ≤ l.length := by
  induction l generalizing k with
  | nil => simp [liveFrom]
  | cons y l ih => have := ih (k + 1); simp only [liveFrom, List.length_cons]; split <;> simp <;> omega
theorem liveFrom_take_succ (l : List TX) (k : Nat) (hk : k < l.length) (j : Int) : liveFrom (l.take (k + 1)) j = liveFrom (l.take k) j ++ (if (l.getD k TX.zero).lives then [j + k] else []) := by
  rw [List.take_succ_eq_append_getElem hk, liveFrom_append]
  simp [hk, Nat.min_eq_left (Nat.le_of_lt hk)]
theorem oldTs_take_succ (l : List TX) (k : Nat) (hk : k < l.length) (now : Int) : oldTs (l.take (k + 1)) now = (if (l.getD k TX.zero).lives then imin (oldTs (l.take k) now) (l.getD k TX.zero).beg else oldTs (l.take k) now) := by
  rw [List.take_succ_eq_append_getElem hk, oldTs_append]
  simp [hk]
end Go.Proofs.Ytlomgbnggmaeeaa

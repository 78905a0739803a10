/-
  What package arena's methods do: New, Len, Load, Store, CAS, Add, Count, Words and Copy, of an Arena that lies in two blocks: its struct and its words.
-/
import Derived.Test.YtoemmnojgfnmiaaDoorAtoms
import Derived.StillTailTactics
import Derived.Deep.QuietTactic
import Derived.BigQuiet
namespace Go.Proofs.YtoemmnojgfnmiaaDoor
open Go.RowKit

/-- An Arena as plain data: its words, and its count. -/
structure AS where
  ws : List Int
  cnt : Int

/-- In the row or not. -/
def AS.on (s : AS) (i : Int) : Bool := decide (0 ≤ i) && decide (i < (s.ws.length : Int))
def AS.tick (s : AS) (i : Int) : AS := if s.on i then ⟨s.ws, wrap64 (s.cnt + 1)⟩ else s
def AS.load (s : AS) (i : Int) : Int := if s.on i then s.ws.getD i.toNat 0 else 0
def AS.store (s : AS) (i v : Int) : AS := if s.on i then ⟨s.ws.set i.toNat v, wrap64 (s.cnt + 1)⟩ else s
def AS.casOk (s : AS) (i old : Int) : Bool := s.on i && decide (s.ws.getD i.toNat 0 = old)
def AS.cas (s : AS) (i old new : Int) : AS := if s.casOk i old then s.store i new else s.tick i
def AS.add (s : AS) (i v : Int) : AS := s.store i ((s.load i + v) % 18446744073709551616)
def AS.sum (s : AS) (i v : Int) : Int := if s.on i then (s.load i + v) % 18446744073709551616 else 0

/-- The Arena s lies in the blocks a (the struct) and b (the words). -/
structure IsArena (w : World) (a b : Nat) (s : AS) : Prop where
  head : Blk w a 65 #[.slice (some ⟨b, 0, none⟩) s.ws.length s.ws.length, .int .i64 s.cnt]
  words : Blk w b 75 (s.ws.map (Value.int .u64)).toArray
  ne : a ≠ b
  len : s.ws.length ≤ 100000

theorem IsArena.only {w w' : World} {a b : Nat} {s : AS} {S : Nat → Prop} (h : IsArena w a b s) (ho : Only S w w') (ha : ¬ S a) (hb : ¬ S b) : IsArena w' a b s :=
  ⟨ho.blk h.head ha, ho.blk h.words hb, h.ne, h.len⟩
theorem IsArena.drew {w : World} {a b : Nat} {s : AS} (h : IsArena w a b s) : IsArena w.drew a b s := ⟨h.head, h.words, h.ne, h.len⟩
theorem IsArena.alloc {w : World} {a b : Nat} {s : AS} (h : IsArena w a b s) (o : Obj) : IsArena (w.alloc o) a b s := ⟨h.head.alloc o, h.words.alloc o, h.ne, h.len⟩
theorem IsArena.other {w : World} {a b : Nat} {s : AS} (h : IsArena w a b s) (p : Addr) (v : Value) (h1 : a ≠ p.block) (h2 : b ≠ p.block) : IsArena (w.setCell p v) a b s := ⟨h.head.other p v h1, h.words.other p v h2, h.ne, h.len⟩
theorem IsArena.tick {w : World} {a b : Nat} {s : AS} (h : IsArena w a b s) (c : Int) : IsArena (w.setCell ⟨a, 1, none⟩ (.int .i64 c)) a b ⟨s.ws, c⟩ :=
  ⟨by simpa using h.head.set 1 (.int .i64 c), h.words.other _ _ (Ne.symm h.ne), h.ne, h.len⟩
theorem IsArena.put {w : World} {a b : Nat} {s : AS} (h : IsArena w a b s) (i : Nat) (v : Int) : IsArena (w.setCell ⟨b, i, none⟩ (.int .u64 v)) a b ⟨s.ws.set i v, s.cnt⟩ :=
  ⟨by simpa using h.head.other ⟨b, i, none⟩ (.int .u64 v) h.ne, by simpa [List.map_set] using h.words.set i (.int .u64 v), h.ne, by simpa using h.len⟩
theorem IsArena.c0 {w : World} {a b : Nat} {s : AS} (h : IsArena w a b s) : w.cell? ⟨a, 0, none⟩ = some (.slice (some ⟨b, 0, none⟩) s.ws.length s.ws.length) := by rw [h.head.cell]; rfl
theorem IsArena.c1 {w : World} {a b : Nat} {s : AS} (h : IsArena w a b s) : w.cell? ⟨a, 1, none⟩ = some (.int .i64 s.cnt) := by rw [h.head.cell]; rfl
theorem IsArena.wd {w : World} {a b : Nat} {s : AS} (h : IsArena w a b s) (i : Nat) (hi : i < s.ws.length) : w.cell? ⟨b, i, none⟩ = some (.int .u64 (s.ws.getD i 0)) := by
  rw [h.words.cell]; simp [hi]
/-- The two blocks. -/
def Two (a b : Nat) : Nat → Prop := fun k => k = a ∨ k = b

set_option maxHeartbeats 400000 in
theorem at_on {w : World} {a b : Nat} {s : AS} (h : IsArena w a b s) (i : Int) (h0 : 0 ≤ i) (h1 : i < s.ws.length) :
    Calls Tryd.prog 30 #[.pointer (some ⟨a, 0, none⟩), .int .i64 i] w fun e w' => e = .returned (.pointer (some ⟨b, i.toNat, none⟩)) ∧ w.setCell ⟨a, 1, none⟩ (.int .i64 (wrap64 (s.cnt + 1))) = w' := by
  have hl := h.len
  have c0 := h.c0
  have c1 := h.c1
  have f1 := h.head.free 1
  have hne := h.ne
  obtain ⟨i, rfl⟩ := Int.eq_ofNat_of_zero_le h0
  go_enter Tryd.func30, Tryd.ntmps30
  go_wp2_with ((go_at_call 33; refine (i64_add a 1 s.cnt 1 _ c1 f1).mono ?_; rintro e w' ⟨rfl, rfl⟩))
  go_ret
  exact ⟨rfl, rfl⟩

set_option maxHeartbeats 400000 in
theorem at_off {w : World} {a b : Nat} {s : AS} (h : IsArena w a b s) (i : Int) (hi : i < 0 ∨ (s.ws.length : Int) ≤ i) :
    Calls Tryd.prog 30 #[.pointer (some ⟨a, 0, none⟩), .int .i64 i] w fun e w' => e = .returned (.pointer none) ∧ w = w' := by
  have hl := h.len
  have c0 := h.c0
  by_cases hn : i < 0
  · go_enter Tryd.func30, Tryd.ntmps30
    go_wp2_with fail
    go_ret
    exact ⟨rfl, rfl⟩
  · have hg : (s.ws.length : Int) ≤ i := by omega
    go_enter Tryd.func30, Tryd.ntmps30
    go_wp2_with fail
    go_ret
    exact ⟨rfl, rfl⟩

theorem AS.on_iff (s : AS) (i : Int) : s.on i = true ↔ 0 ≤ i ∧ i < (s.ws.length : Int) := by simp [AS.on]
theorem AS.on_not (s : AS) (i : Int) : s.on i = false ↔ (i < 0 ∨ (s.ws.length : Int) ≤ i) := by
  rw [← Bool.not_eq_true, AS.on_iff]; omega

theorem Only.tick {w : World} (a b : Nat) (o : Nat) (v : Value) : Only (Two a b) w (w.setCell ⟨a, o, none⟩ v) := (Only.refl _ w).setCell (fun _ => .inl rfl) v
theorem Only.two {w w' : World} {a b : Nat} (h : Only (Two a b) w w') (o : Nat) (v : Value) : Only (Two a b) w (w'.setCell ⟨b, o, none⟩ v) := h.setCell (fun _ => .inr rfl) v

set_option maxHeartbeats 400000 in
theorem arena_load {w : World} {a b : Nat} {s : AS} (h : IsArena w a b s) (i : Int) :
    Calls Tryd.prog 23 #[.pointer (some ⟨a, 0, none⟩), .int .i64 i] w fun e w' => e = .returned (.int .u64 (s.load i)) ∧ IsArena w' a b (s.tick i) ∧ Only (Two a b) w w' := by
  cases ho : s.on i with
  | true =>
    have e1 : s.load i = s.ws.getD i.toNat 0 := by simp [AS.load, ho]
    have e2 : s.tick i = ⟨s.ws, wrap64 (s.cnt + 1)⟩ := by simp [AS.tick, ho]
    rw [e1, e2]
    obtain ⟨h0, h1⟩ := (AS.on_iff s i).1 ho
    clear ho e1 e2
    have hw := (h.tick (wrap64 (s.cnt + 1))).wd i.toNat (by simp; omega)
    dsimp only at hw
    generalize s.ws.getD i.toNat 0 = x at hw ⊢
    go_enter Tryd.func23, Tryd.ntmps23
    go_wp2_with (first | (go_at_call 30; refine (at_on h i h0 h1).mono ?_; rintro e w' ⟨rfl, rfl⟩) | (go_at_call 31; refine (u64_load b _ _ _ hw).mono ?_; rintro e w' ⟨rfl, rfl⟩))
    go_ret
    exact ⟨rfl, h.tick _, Only.tick a b 1 _⟩
  | false =>
    have e1 : s.load i = 0 := by simp [AS.load, ho]
    have e2 : s.tick i = s := by simp [AS.tick, ho]
    rw [e1, e2]
    have hi := (AS.on_not s i).1 ho
    clear ho e1 e2
    go_enter Tryd.func23, Tryd.ntmps23
    go_wp2_with (go_at_call 30; refine (at_off h i hi).mono ?_; rintro e w' ⟨rfl, rfl⟩)
    go_ret
    exact ⟨rfl, h, Only.refl _ _⟩

set_option maxHeartbeats 400000 in
theorem arena_cas {w : World} {a b : Nat} {s : AS} (h : IsArena w a b s) (i old new : Int) :
    Calls Tryd.prog 29 #[.pointer (some ⟨a, 0, none⟩), .int .i64 i, .int .u64 old, .int .u64 new] w fun e w' => e = .returned (.bool (s.casOk i old)) ∧ IsArena w' a b (s.cas i old new) ∧ Only (Two a b) w w' := by
  cases ho : s.on i with
  | true =>
    obtain ⟨h0, h1⟩ := (AS.on_iff s i).1 ho
    have ht := h.tick (wrap64 (s.cnt + 1))
    have hw := ht.wd i.toNat (by simp; omega)
    have hf := ht.words.free i.toNat
    by_cases he : s.ws.getD i.toNat 0 = old
    · have e1 : s.casOk i old = true := by simp [AS.casOk, ho, ← he]
      have e2 : s.cas i old new = ⟨s.ws.set i.toNat new, wrap64 (s.cnt + 1)⟩ := by simp [AS.cas, e1, AS.store, ho]
      rw [e1, e2]
      have hc := u64_cas b i.toNat _ old new _ hw hf
      simp only [he, decide_true, if_true] at hc
      clear ho e1 e2 he
      go_enter Tryd.func29, Tryd.ntmps29
      go_wp2_with (first | (go_at_call 30; refine (at_on h i h0 h1).mono ?_; rintro e w' ⟨rfl, rfl⟩) | (go_at_call 32; refine hc.mono ?_; rintro e w' ⟨rfl, rfl⟩))
      go_ret
      exact ⟨rfl, ht.put _ _, (Only.tick a b 1 _).two _ _⟩
    · have e1 : s.casOk i old = false := by simp only [AS.casOk, ho, he, decide_false, Bool.and_false]
      have e2 : s.cas i old new = ⟨s.ws, wrap64 (s.cnt + 1)⟩ := by simp [AS.cas, e1, AS.tick, ho]
      rw [e1, e2]
      have hc := u64_cas b i.toNat _ old new _ hw hf
      simp only [he, decide_false, if_false] at hc
      clear ho e1 e2 he
      go_enter Tryd.func29, Tryd.ntmps29
      go_wp2_with (first | (go_at_call 30; refine (at_on h i h0 h1).mono ?_; rintro e w' ⟨rfl, rfl⟩) | (go_at_call 32; refine hc.mono ?_; rintro e w' ⟨rfl, rfl⟩))
      go_ret
      exact ⟨rfl, ht, Only.tick a b 1 _⟩
  | false =>
    have e1 : s.casOk i old = false := by simp [AS.casOk, ho]
    have e2 : s.cas i old new = s := by simp [AS.cas, e1, AS.tick, ho]
    rw [e1, e2]
    have hi := (AS.on_not s i).1 ho
    clear ho e1 e2
    go_enter Tryd.func29, Tryd.ntmps29
    go_wp2_with (go_at_call 30; refine (at_off h i hi).mono ?_; rintro e w' ⟨rfl, rfl⟩)
    go_ret
    exact ⟨rfl, h, Only.refl _ _⟩

end Go.Proofs.YtoemmnojgfnmiaaDoor

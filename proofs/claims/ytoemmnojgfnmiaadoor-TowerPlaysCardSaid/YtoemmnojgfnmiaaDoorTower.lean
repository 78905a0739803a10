/-
  tower.Tower: is, turn, at, Has, Height.
-/
import Derived.Test.YtoemmnojgfnmiaaDoorTowerBits
import Derived.Test.YtoemmnojgfnmiaaDoorArenaNew
import Derived.Test.YtoemmnojgfnmiaaDoorBits
import Derived.IntWalk
namespace Go.Proofs.YtoemmnojgfnmiaaDoor
open Go.RowKit
set_option linter.unusedVariables false

def isKeyB (k : Int) : Bool := decide (0 ≤ k) && decide (k ≤ 63)
set_option maxHeartbeats 1000000 in
theorem tis_any (k : Int) (w : World) : Calls Tryd.prog 21 #[.int .i64 k] w fun e w' => e = .returned (.bool (isKeyB k)) ∧ w = w' := by
  by_cases h0 : 0 ≤ k
  · go_enter Tryd.func21, Tryd.ntmps21
    go_wp2_with fail
    go_ret; exact ⟨ret_bool (by simp [isKeyB, h0]), rfl⟩
  · go_enter Tryd.func21, Tryd.ntmps21
    go_wp2_with fail
    go_ret; exact ⟨ret_bool (by simp [isKeyB]; omega), rfl⟩

/-- A Tower's four words. -/
def Ws (ws : List Nat) : Prop := ws.length = 4 ∧ ∀ x ∈ ws, x < 18446744073709551616
/-- The Tower lies in the block t; its Arena in a and b; its words are ws. -/
structure IsTow (w : World) (t a b : Nat) (ws : List Nat) : Prop where
  ptr : Blk w t 51 #[.pointer (some ⟨a, 0, none⟩)]
  arena : ∃ c, IsArena w a b ⟨ws.map Int.ofNat, c⟩
  ta : t ≠ a
  tb : t ≠ b
  ok : Ws ws
theorem IsTow.only {w w' : World} {t a b : Nat} {ws : List Nat} {S : Nat → Prop} (h : IsTow w t a b ws) (o : Only S w w') (h1 : ¬ S t) (h2 : ¬ S a) (h3 : ¬ S b) : IsTow w' t a b ws :=
  ⟨o.blk h.ptr h1, let ⟨c, hc⟩ := h.arena; ⟨c, hc.only o h2 h3⟩, h.ta, h.tb, h.ok⟩
theorem getD_map (ws : List Nat) (i : Nat) : (ws.map Int.ofNat).getD i 0 = ((ws.getD i 0 : Nat) : Int) := by
  rw [List.getD_eq_getElem?_getD, List.getD_eq_getElem?_getD, List.getElem?_map]
  cases ws[i]? <;> rfl
theorem tow_load {w : World} {a b : Nat} {ws : List Nat} {c : Int} (h : IsArena w a b ⟨ws.map Int.ofNat, c⟩) (hl : ws.length = 4) (l : Nat) (h4 : l < 4) :
    Calls Tryd.prog 23 #[.pointer (some ⟨a, 0, none⟩), .int .i64 l] w fun e w' => e = .returned (.int .u64 (ws.getD l 0 : Nat)) ∧ (∃ c', IsArena w' a b ⟨ws.map Int.ofNat, c'⟩) ∧ Only (Two a b) w w' := by
  have := arena_load h l
  have ho : AS.on ⟨ws.map Int.ofNat, c⟩ (l : Int) = true := by simp [AS.on, hl]; omega
  refine this.mono ?_
  rintro e w' ⟨rfl, h1, o⟩
  refine ⟨ret_int ?_, ?_, o⟩
  · simp only [AS.load, ho, if_true]; rw [← getD_map]; rfl
  · simp only [AS.tick, ho, if_true] at h1; exact ⟨_, h1⟩
theorem tow_cas {w : World} {a b : Nat} {ws : List Nat} {c : Int} (h : IsArena w a b ⟨ws.map Int.ofNat, c⟩) (hl : ws.length = 4) (l : Nat) (h4 : l < 4) (x n : Nat) (hx : ws.getD l 0 = x) :
    Calls Tryd.prog 29 #[.pointer (some ⟨a, 0, none⟩), .int .i64 l, .int .u64 x, .int .u64 n] w fun e w' => e = .returned (.bool true) ∧ (∃ c', IsArena w' a b ⟨(ws.set l n).map Int.ofNat, c'⟩) ∧ Only (Two a b) w w' := by
  subst hx
  have := arena_cas h l ((ws.getD l 0 : Nat) : Int) n
  have ho : AS.on ⟨ws.map Int.ofNat, c⟩ (l : Int) = true := by simp [AS.on, hl]; omega
  have hc : AS.casOk ⟨ws.map Int.ofNat, c⟩ (l : Int) ((ws.getD l 0 : Nat) : Int) = true := by
    simp only [AS.casOk, ho, Bool.true_and]; rw [← getD_map]; simp
  refine this.mono ?_
  rintro e w' ⟨rfl, h1, o⟩
  refine ⟨by rw [hc], ?_, o⟩
  rw [AS.cas, if_pos hc] at h1
  simp only [AS.store, ho, if_true] at h1
  exact ⟨_, by rw [List.map_set]; exact h1⟩

/-- What turn makes of a word. -/
def turned (x k : Nat) (set : Bool) : Nat := if set then x ||| 2 ^ k else x &&& (18446744073709551615 - 2 ^ k)
theorem turned_lt (x k : Nat) (set : Bool) (hx : x < 18446744073709551616) (hk : k < 64) : turned x k set < 18446744073709551616 := by
  have h1 : 2 ^ k < 2 ^ 64 := Nat.pow_lt_pow_right (by decide) hk
  unfold turned
  split
  · exact Nat.or_lt_two_pow (n := 64) hx h1
  · exact Nat.lt_of_le_of_lt Nat.and_le_left hx

theorem wrap_pow (k : Nat) (hk : k < 64) : IntKind.u64.wrap ((2 : Int) ^ k) = ((2 ^ k : Nat) : Int) := by
  have h1 : 2 ^ k < 2 ^ 64 := Nat.pow_lt_pow_right (by decide) hk
  rw [IntKind.wrap_u64]
  have : ((2 : Int) ^ k) = ((2 ^ k : Nat) : Int) := by simp
  rw [this]
  generalize 2 ^ k = B at *
  omega

set_option maxHeartbeats 2000000 in
theorem turn_any {w : World} {t a b : Nat} {ws : List Nat} (h : IsTow w t a b ws) (l k : Nat) (hl : l < 4) (hk : k < 64) (set : Bool) :
    Calls Tryd.prog 22 #[.pointer (some ⟨t, 0, none⟩), .int .i64 l, .int .i64 k, .bool set] w fun e w' => e = .returned (.tuple #[]) ∧ IsTow w' t a b (ws.set l (turned (ws.getD l 0) k set)) ∧ Only (Two a b) w w' := by
  have c0 : w.cell? ⟨t, 0, none⟩ = some (.pointer (some ⟨a, 0, none⟩)) := by rw [h.ptr.cell]; rfl
  obtain ⟨c, hc⟩ := h.arena
  have L := tow_load hc h.ok.1 l hl
  obtain ⟨x, hx⟩ : ∃ x, x = ws.getD l 0 := ⟨_, rfl⟩
  have xlt : x < 18446744073709551616 := by
    rw [hx, List.getD_eq_getElem?_getD, List.getElem?_eq_getElem (by rw [h.ok.1]; exact hl)]
    exact h.ok.2 _ (List.getElem_mem _)
  rw [← hx] at L ⊢
  have T := turned_lt x k set xlt hk
  have hb1 : 2 ^ k < 18446744073709551616 := Nat.pow_lt_pow_right (m := k) (n := 64) (by decide) hk
  have g1 := wrap_pow k hk
  have g2 : set = false → bits .andNot .u64 (x : Int) ((2 ^ k : Nat) : Int) = (turned x k set : Nat) := fun e => by
    rw [u64_andNot_nat x _ xlt hb1, turned, e]; rfl
  have g3 : set = true → bits .or .u64 (x : Int) ((2 ^ k : Nat) : Int) = (turned x k set : Nat) := fun e => by
    rw [u64_or_nat x _ xlt hb1, turned, e]; rfl
  generalize 2 ^ k = B at g1 g2 g3 hb1
  obtain ⟨y, hy⟩ : ∃ y, y = turned x k set := ⟨_, rfl⟩
  rw [← hy] at g2 g3 T ⊢
  have FIN : ∀ w1 w2 : World, Only (Two a b) w w1 → Only (Two a b) w1 w2 → (∃ c', IsArena w2 a b ⟨(ws.set l y).map Int.ofNat, c'⟩) → IsTow w2 t a b (ws.set l y) ∧ Only (Two a b) w w2 := by
    intro w1 w2 o1 o2 hA
    have nt : ¬ Two a b t := by rintro (e | e); exact h.ta e; exact h.tb e
    refine ⟨⟨(o1.trans o2).blk h.ptr nt, hA, h.ta, h.tb, by simp [h.ok.1], fun z hz => ?_⟩, o1.trans o2⟩
    rcases List.mem_or_eq_of_mem_set hz with hz | rfl
    · exact h.ok.2 z hz
    · exact T
  have e0 : ∀ w1, Only (Two a b) w w1 → w1.cell? ⟨t, 0, none⟩ = some (.pointer (some ⟨a, 0, none⟩)) := fun w1 o1 => by
    rw [(o1.blk h.ptr (by rintro (e | e); exact h.ta e; exact h.tb e)).cell]; rfl
  have E0 := Lib.hid e0
  have FI := Lib.hid FIN
  have HL := Lib.hid h.ok.1
  have HX := Lib.hid hx
  have HY := Lib.hid hy
  clear e0 FIN hx hy h hc
  cases set
  · replace g2 := g2 rfl
    clear g3
    go_enter Tryd.func22, Tryd.ntmps22
    go_wp2_with fail
    refine wp_loop_rounds 1 ?_; rw [rounds_succ]
    go_wp2_with fail
    refine L.mono ?_
    rintro e w1 ⟨rfl, ⟨c1, h1⟩, o1⟩
    have e1 := E0.out w1 o1
    clear c0 L
    go_wp2_with fail
    refine (tow_cas h1 HL.out l hl x y HX.out.symm).mono ?_
    rintro e w2 ⟨rfl, hA, o2⟩
    go_wp2_with fail
    exact bodyPost_ret (results_none rfl _ _ _) rfl ⟨rfl, FI.out _ _ o1 o2 hA⟩
  · replace g3 := g3 rfl
    clear g2
    go_enter Tryd.func22, Tryd.ntmps22
    go_wp2_with fail
    refine wp_loop_rounds 1 ?_; rw [rounds_succ]
    go_wp2_with fail
    refine L.mono ?_
    rintro e w1 ⟨rfl, ⟨c1, h1⟩, o1⟩
    have e1 := E0.out w1 o1
    clear c0 L
    go_wp2_with fail
    refine (tow_cas h1 HL.out l hl x y HX.out.symm).mono ?_
    rintro e w2 ⟨rfl, hA, o2⟩
    go_wp2_with fail
    exact bodyPost_ret (results_none rfl _ _ _) rfl ⟨rfl, FI.out _ _ o1 o2 hA⟩

theorem bit_shift (x k : Nat) : bits .and .u64 ((x : Int) / 2 ^ k) 1 = ((x / 2 ^ k % 2 : Nat) : Int) := by
  rw [u64_and1]
  have e : ((x : Int) / 2 ^ k) = ((x / 2 ^ k : Nat) : Int) := by simp
  rw [e]; simp
theorem testBit_eq (x k : Nat) : x.testBit k = decide (x / 2 ^ k % 2 = 1) := by
  rw [Nat.testBit_eq_decide_div_mod_eq]

/-- Whether a key stands at a level. -/
def atB (ws : List Nat) (l : Nat) (key : Int) : Bool := isKeyB key && (ws.getD l 0).testBit key.toNat
set_option maxHeartbeats 2000000 in
theorem at_any {w : World} {t a b : Nat} {ws : List Nat} (h : IsTow w t a b ws) (l : Nat) (hl : l < 4) (key : Int) :
    Calls Tryd.prog 26 #[.pointer (some ⟨t, 0, none⟩), .int .i64 l, .int .i64 key] w fun e w' => e = .returned (.bool (atB ws l key)) ∧ IsTow w' t a b ws ∧ Only (Two a b) w w' := by
  have c0 : w.cell? ⟨t, 0, none⟩ = some (.pointer (some ⟨a, 0, none⟩)) := by rw [h.ptr.cell]; rfl
  obtain ⟨c, hc⟩ := h.arena
  have L := tow_load hc h.ok.1 l hl
  have FIN : ∀ w1 : World, Only (Two a b) w w1 → (∃ c', IsArena w1 a b ⟨ws.map Int.ofNat, c'⟩) → IsTow w1 t a b ws := by
    intro w1 o1 hA
    have nt : ¬ Two a b t := by rintro (e | e); exact h.ta e; exact h.tb e
    exact ⟨o1.blk h.ptr nt, hA, h.ta, h.tb, h.ok⟩
  have FI := Lib.hid FIN
  have H0 := Lib.hid h
  clear FIN h hc
  cases hik : isKeyB key with
  | false =>
    have E := Lib.hid (show atB ws l key = false by simp [atB, hik])
    clear L
    go_enter Tryd.func26, Tryd.ntmps26
    go_wp2_with fail
    refine (tis_any key _).mono ?_
    rintro e w1 ⟨rfl, rfl⟩
    rw [hik]
    go_wp2_with fail
    go_ret
    exact ⟨ret_bool E.out.symm, H0.out, Only.refl _ _⟩
  | true =>
    obtain ⟨k, rfl, hk⟩ : ∃ k : Nat, key = k ∧ k < 64 := by
      simp [isKeyB] at hik; exact ⟨key.toNat, by omega, by omega⟩
    obtain ⟨x, hx⟩ : ∃ x, x = ws.getD l 0 := ⟨_, rfl⟩
    have E := Lib.hid (show atB ws l (k : Int) = decide (x / 2 ^ k % 2 = 1) by rw [atB, hik, ← hx, Int.toNat_natCast, testBit_eq]; rfl)
    rw [← hx] at L
    have g := bit_shift x k
    obtain ⟨r, hr⟩ : ∃ r, r = x / 2 ^ k % 2 := ⟨_, rfl⟩
    rw [← hr] at g E
    have r2 : r = 0 ∨ r = 1 := by omega
    clear hr hx
    rcases r2 with rfl | rfl
    all_goals
      go_enter Tryd.func26, Tryd.ntmps26
      go_wp2_with fail
      refine (tis_any (k : Int) _).mono ?_
      rintro e w1 ⟨rfl, rfl⟩
      rw [hik]
      go_wp2_with fail
      refine L.mono ?_
      rintro e w1 ⟨rfl, hA, o1⟩
      go_wp2_with fail
      go_ret
      exact ⟨ret_bool E.out.symm, FI.out _ o1 hA, o1⟩
end Go.Proofs.YtoemmnojgfnmiaaDoor

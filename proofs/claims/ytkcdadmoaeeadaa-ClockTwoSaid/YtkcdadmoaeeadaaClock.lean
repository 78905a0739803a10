/-
  What package clock does: New, Draw, Now and Limit, of a Clock on one word of an Arena.
-/
import Derived.Test.YtkcdadmoaeeadaaArenaNew
namespace Go.Proofs.Ytkcdadmoaeeadaa
open Go.RowKit

/-- A Clock: a block of three fields. -/
def IsClock (w : World) (c a : Nat) (at_ limit : Int) : Prop := Blk w c 70 #[.pointer (some ⟨a, 0, none⟩), .int .i64 at_, .int .u64 limit]
theorem IsClock.c0 {w : World} {c a : Nat} {x limit : Int} (h : IsClock w c a x limit) : w.cell? ⟨c, 0, none⟩ = some (.pointer (some ⟨a, 0, none⟩)) := by rw [Blk.cell h]; rfl
theorem IsClock.c1 {w : World} {c a : Nat} {x limit : Int} (h : IsClock w c a x limit) : w.cell? ⟨c, 1, none⟩ = some (.int .i64 x) := by rw [Blk.cell h]; rfl
theorem IsClock.c2 {w : World} {c a : Nat} {x limit : Int} (h : IsClock w c a x limit) : w.cell? ⟨c, 2, none⟩ = some (.int .u64 limit) := by rw [Blk.cell h]; rfl
theorem IsClock.only {w w' : World} {c a : Nat} {x limit : Int} {S : Nat → Prop} (h : IsClock w c a x limit) (ho : Only S w w') (hc : ¬ S c) : IsClock w' c a x limit := ho.blk h hc
theorem IsClock.alloc {w : World} {c a : Nat} {x limit : Int} (h : IsClock w c a x limit) (o : Obj) : IsClock (w.alloc o) c a x limit := Blk.alloc h o
theorem IsClock.drew {w : World} {c a : Nat} {x limit : Int} (h : IsClock w c a x limit) : IsClock w.drew c a x limit := h

/-- Word i of an Arena of n words is v. -/
def WordAt (w : World) (a b n : Nat) (i v : Int) : Prop := ∃ s, IsArena w a b s ∧ s.ws.length = n ∧ s.on i = true ∧ s.load i = v

theorem AS.on_tick (s : AS) (i j : Int) : (s.tick i).on j = s.on j := by unfold AS.tick; split <;> rfl
theorem AS.load_tick (s : AS) (i j : Int) : (s.tick i).load j = s.load j := by unfold AS.load; rw [AS.on_tick]; unfold AS.tick; split <;> (try split) <;> rfl
theorem AS.len_tick (s : AS) (i : Int) : (s.tick i).ws.length = s.ws.length := by unfold AS.tick; split <;> rfl
theorem AS.on_store (s : AS) (i v j : Int) : (s.store i v).on j = s.on j := by unfold AS.store; split <;> simp [AS.on]
theorem AS.len_store (s : AS) (i v : Int) : (s.store i v).ws.length = s.ws.length := by unfold AS.store; split <;> simp
theorem AS.load_store (s : AS) (i v : Int) (h : s.on i = true) : (s.store i v).load i = v := by
  obtain ⟨h0, h1⟩ := (AS.on_iff s i).1 h
  unfold AS.load; rw [AS.on_store, if_pos h]
  unfold AS.store; rw [if_pos h]
  have : i.toNat < s.ws.length := by omega
  simp [this]
theorem AS.casOk_iff (s : AS) (i old : Int) (h : s.on i = true) : s.casOk i old = decide (s.load i = old) := by simp [AS.casOk, AS.load, h]

theorem WordAt.only {w w' : World} {a b n : Nat} {i v : Int} {S : Nat → Prop} (h : WordAt w a b n i v) (ho : Only S w w') (ha : ¬ S a) (hb : ¬ S b) : WordAt w' a b n i v := by
  obtain ⟨s, h1, h2⟩ := h; exact ⟨s, h1.only ho ha hb, h2⟩
theorem WordAt.alloc {w : World} {a b n : Nat} {i v : Int} (h : WordAt w a b n i v) (o : Obj) : WordAt (w.alloc o) a b n i v := by
  obtain ⟨s, h1, h2⟩ := h; exact ⟨s, h1.alloc o, h2⟩
theorem WordAt.drew {w : World} {a b n : Nat} {i v : Int} (h : WordAt w a b n i v) : WordAt w.drew a b n i v := by
  obtain ⟨s, h1, h2⟩ := h; exact ⟨s, h1.drew, h2⟩
theorem WordAt.load {w : World} {a b n : Nat} {i v : Int} (h : WordAt w a b n i v) :
    Calls Try.prog 14 #[.pointer (some ⟨a, 0, none⟩), .int .i64 i] w fun e w' => e = .returned (.int .u64 v) ∧ WordAt w' a b n i v ∧ Only (Two a b) w w' := by
  obtain ⟨s, h1, h2, h3, h4⟩ := h
  refine (arena_load h1 i).mono fun e w' ⟨he, hA, ho⟩ => ⟨by rw [he, h4], ⟨s.tick i, hA, by rw [AS.len_tick, h2], by rw [AS.on_tick, h3], by rw [AS.load_tick, h4]⟩, ho⟩
theorem WordAt.store {w : World} {a b n : Nat} {i v : Int} (h : WordAt w a b n i v) (x : Int) :
    Calls Try.prog 12 #[.pointer (some ⟨a, 0, none⟩), .int .i64 i, .int .u64 x] w fun e w' => e = .returned (.tuple #[]) ∧ WordAt w' a b n i x ∧ Only (Two a b) w w' := by
  obtain ⟨s, h1, h2, h3, h4⟩ := h
  refine (arena_store h1 i x).mono fun e w' ⟨he, hA, ho⟩ => ⟨he, ⟨s.store i x, hA, by rw [AS.len_store, h2], by rw [AS.on_store, h3], by rw [AS.load_store _ _ _ h3]⟩, ho⟩
theorem WordAt.cas {w : World} {a b n : Nat} {i v : Int} (h : WordAt w a b n i v) (x : Int) :
    Calls Try.prog 13 #[.pointer (some ⟨a, 0, none⟩), .int .i64 i, .int .u64 v, .int .u64 x] w fun e w' => e = .returned (.bool true) ∧ WordAt w' a b n i x ∧ Only (Two a b) w w' := by
  obtain ⟨s, h1, h2, h3, h4⟩ := h
  have hok : s.casOk i v = true := by rw [AS.casOk_iff _ _ _ h3, h4]; simp
  refine (arena_cas h1 i v x).mono fun e w' ⟨he, hA, ho⟩ => ⟨by rw [he, hok], ⟨s.store i x, by simpa [AS.cas, hok] using hA, by rw [AS.len_store, h2], by rw [AS.on_store, h3], by rw [AS.load_store _ _ _ h3]⟩, ho⟩
theorem WordAt.len {w : World} {a b n : Nat} {i v : Int} (h : WordAt w a b n i v) :
    Calls Try.prog 26 #[.pointer (some ⟨a, 0, none⟩)] w fun e w' => e = .returned (.int .i64 n) ∧ w = w' := by
  obtain ⟨s, h1, h2, h3, h4⟩ := h
  subst h2
  exact arena_len h1
theorem WordAt.ne {w : World} {a b n : Nat} {i v : Int} (h : WordAt w a b n i v) : a ≠ b := by obtain ⟨s, h1, _⟩ := h; exact h1.ne
theorem WordAt.lta {w : World} {a b n : Nat} {i v : Int} (h : WordAt w a b n i v) : a < w.heap.size := by obtain ⟨s, h1, _⟩ := h; exact h1.head.lt
theorem WordAt.ltb {w : World} {a b n : Nat} {i v : Int} (h : WordAt w a b n i v) : b < w.heap.size := by obtain ⟨s, h1, _⟩ := h; exact h1.words.lt
/-- A fresh Arena's word. -/
theorem WordAt.zero {w : World} {a b : Nat} (n : Nat) (h : IsArena w a b (AS.zero n)) (i : Int) (h0 : 0 ≤ i) (h1 : i < n) : WordAt w a b n i 0 := by
  refine ⟨_, h, by simp [AS.zero], ?_, ?_⟩
  · rw [AS.on_iff]; simp [AS.zero]; omega
  · unfold AS.load
    have : i.toNat < n := by omega
    split <;> simp [AS.zero, this]

theorem not_two {a b c : Nat} (h : c ≠ a ∧ c ≠ b) : ¬ Two a b c := fun hh => hh.elim h.1 h.2

set_option maxHeartbeats 400000 in
theorem clock_new_nil (x limit : Int) (w : World) : Calls Try.prog 18 #[.pointer none, .int .i64 x, .int .u64 limit] w fun e w' => e = .returned (.tuple #[.pointer none, .int .i64 1]) ∧ w = w' := by
  go_enter Try.func18, Try.ntmps18
  go_wp2_with fail
  go_ret2
  exact ⟨rfl, rfl⟩

set_option maxHeartbeats 400000 in
theorem clock_new {w : World} {a b : Nat} {s : AS} (h : IsArena w a b s) (x limit : Int) (h0 : 0 ≤ x) (h1 : x < s.ws.length) (l0 : 1 ≤ limit) (l1 : limit ≤ 1099511627776) :
    Calls Try.prog 18 #[.pointer (some ⟨a, 0, none⟩), .int .i64 x, .int .u64 limit] w fun e w' => e = .returned (.tuple #[.pointer (some ⟨w.heap.size, 0, none⟩), .int .i64 0]) ∧ w.alloc (.cells #[.pointer (some ⟨a, 0, none⟩), .int .i64 x, .int .u64 limit] 70) = w' := by
  go_enter Try.func18, Try.ntmps18
  go_wp2_with (go_at_call 26; refine (arena_len h).mono ?_; rintro e w' ⟨rfl, rfl⟩)
  go_ret2
  exact ⟨rfl, rfl⟩

set_option maxHeartbeats 400000 in
theorem clock_new_bad {w : World} {a b : Nat} {s : AS} (h : IsArena w a b s) (x limit : Int) (hb : x < 0 ∨ (0 ≤ x ∧ (s.ws.length : Int) ≤ x) ∨ (0 ≤ x ∧ x < s.ws.length ∧ limit < 1) ∨ (0 ≤ x ∧ x < s.ws.length ∧ 1 ≤ limit ∧ 1099511627776 < limit)) :
    Calls Try.prog 18 #[.pointer (some ⟨a, 0, none⟩), .int .i64 x, .int .u64 limit] w fun e w' => e = .returned (.tuple #[.pointer none, .int .i64 1]) ∧ w = w' := by
  rcases hb with hb | ⟨h0, hb⟩ | ⟨h0, h1, hb⟩ | ⟨h0, h1, h2, hb⟩
  all_goals
    go_enter Try.func18, Try.ntmps18
    go_wp2_with (go_at_call 26; refine (arena_len h).mono ?_; rintro e w' ⟨rfl, rfl⟩)
    go_ret2
    exact ⟨rfl, rfl⟩

set_option maxHeartbeats 400000 in
theorem clock_limit {w : World} {c a : Nat} {x limit : Int} (h : IsClock w c a x limit) : Calls Try.prog 24 #[.pointer (some ⟨c, 0, none⟩)] w fun e w' => e = .returned (.int .u64 limit) ∧ w = w' := by
  have c2 := h.c2
  go_enter Try.func24, Try.ntmps24
  go_wp2_with fail
  go_ret
  exact ⟨rfl, rfl⟩

set_option maxHeartbeats 400000 in
theorem clock_now {w : World} {c a b n : Nat} {x limit v : Int} (h : IsClock w c a x limit) (hA : WordAt w a b n x v) :
    Calls Try.prog 20 #[.pointer (some ⟨c, 0, none⟩)] w fun e w' => e = .returned (.int .u64 v) ∧ WordAt w' a b n x v ∧ Only (Two a b) w w' := by
  have c0 := h.c0
  have c1 := h.c1
  go_enter Try.func20, Try.ntmps20
  go_wp2_with fail
  go_still_tail 8, (by kernel_rfl)
  change wpList _ _ _ _ _ w.drew
  go_wp2_with fail
  refine (WordAt.load (w := w.drew) hA.drew).mono ?_
  rintro e w1 ⟨rfl, h1, o1⟩
  go_wp2_with fail
  go_ret
  exact ⟨rfl, h1, (Only.refl _ w).drew.trans o1⟩

set_option maxHeartbeats 800000 in
theorem clock_draw_over {w : World} {c a b n : Nat} {x limit v : Int} (h : IsClock w c a x limit) (hA : WordAt w a b n x v) (hc : c ≠ a ∧ c ≠ b) (hv : limit ≤ v) :
    Calls Try.prog 19 #[.pointer (some ⟨c, 0, none⟩)] w fun e w' => e = .returned (.tuple #[.int .u64 0, .int .i64 16]) ∧ WordAt w' a b n x v ∧ Only (Two a b) w w' := by
  have c0 := h.c0
  have c1 := h.c1
  go_enter Try.func19, Try.ntmps19
  go_wp2_with fail
  refine wp_loop_rounds 1 ?_
  rw [rounds_succ]
  go_wp2_with fail
  go_still_tail 8, (by kernel_rfl)
  change wpList _ _ _ _ _ w.drew
  go_wp2_with fail
  refine (WordAt.load (w := w.drew) hA.drew).mono ?_
  rintro e w1 ⟨rfl, h1, o1⟩
  have c2 := (h.drew.only o1 (not_two hc)).c2
  go_wp2_with fail
  go_ret2
  exact ⟨rfl, h1, (Only.refl _ w).drew.trans o1⟩

set_option maxHeartbeats 800000 in
theorem clock_draw {w : World} {c a b n : Nat} {x limit v : Int} (h : IsClock w c a x limit) (hA : WordAt w a b n x v) (hc : c ≠ a ∧ c ≠ b) (hv : v < limit) (v0 : 0 ≤ v) (hl : limit ≤ 1099511627776) :
    Calls Try.prog 19 #[.pointer (some ⟨c, 0, none⟩)] w fun e w' => e = .returned (.tuple #[.int .u64 (v + 1), .int .i64 0]) ∧ WordAt w' a b n x (v + 1) ∧ Only (Two a b) w w' := by
  have c0 := h.c0
  have c1 := h.c1
  go_enter Try.func19, Try.ntmps19
  go_wp2_with fail
  refine wp_loop_rounds 1 ?_
  rw [rounds_succ]
  go_wp2_with fail
  go_still_tail 8, (by kernel_rfl)
  change wpList _ _ _ _ _ w.drew
  go_wp2_with fail
  refine (WordAt.load (w := w.drew) hA.drew).mono ?_
  rintro e w1 ⟨rfl, h1, o1⟩
  have hC := h.drew.only o1 (not_two hc)
  have c0 := hC.c0
  have c1 := hC.c1
  have c2 := hC.c2
  go_wp2_with fail
  go_still_tail 11, (by kernel_rfl)
  change wpList _ _ _ _ _ w1.drew
  go_wp2_with fail
  refine (WordAt.cas (w := w1.drew) h1.drew (v + 1)).mono ?_
  rintro e w2 ⟨rfl, h2, o2⟩
  go_wp2_with fail
  go_ret2
  exact ⟨rfl, h2, ((Only.refl _ w).drew.trans o1).drew.trans o2⟩
end Go.Proofs.Ytkcdadmoaeeadaa

/-
  What each call does to both Tables of the law TablePlays.
-/
import Derived.Test.YtlomgbnggmaeeaaTabPl
namespace Go.Proofs.Ytlomgbnggmaeeaa
open Go.RowKit
set_option linter.unusedVariables false

variable {w0 w : World} {t r : Nat} {v u : Value} {ps : List Nat} {most : Int} {ts rs : List TX}
/-- The blocks of the law's own struct variable stand as they were. -/
def KeepOp (w w' : World) : Prop := ∀ b cs, Blk w b 34 cs → Blk w' b 34 cs
theorem TP.keepT {w' : World} (h : TP w0 w t v ps r u most ts rs) (o : Only (Foot t v ps) w w') : KeepOp w w' := fun b cs hb => o.blk hb (h.tab.not_foot hb (by decide) (by decide) (by decide))
theorem TP.keepR {w' : World} (h : TP w0 w t v ps r u most ts rs) (o : Only (RFoot r u) w w') : KeepOp w w' := fun b cs hb => o.blk hb (h.ref.not_foot hb (by decide) (by decide))
theorem TP.c_make (h : TP w0 w t v ps r u most ts rs) (level beg : Int) : Calls Try.prog 6 #[.pointer (some ⟨t, 0, none⟩), .int .i64 level, .int .u64 beg] w fun e w' =>
    e = .returned (.tuple #[.int .i64 (mkId most ts level beg), .int .i64 (mkErr most ts level beg)]) ∧ (∃ v' ps', TP w0 w' t v' ps' r u most (mkTs most ts level beg) rs) ∧ KeepOp w w' := by
  refine (tab_make h.tab level beg).mono ?_
  rintro e w' ⟨he, v', ps', h', o⟩
  exact ⟨he, ⟨v', ps', h.turned h' o (mk_pos h.pos)⟩, h.keepT o⟩
theorem TP.c_rmake (h : TP w0 w t v ps r u most ts rs) (level beg : Int) (hs : rs.length + 1 ≤ 65535) : Calls Try.prog 7 #[.pointer (some ⟨r, 0, none⟩), .int .i64 level, .int .u64 beg] w fun e w' =>
    e = .returned (.tuple #[.int .i64 (mkId most rs level beg), .int .i64 (mkErr most rs level beg)]) ∧ (∃ u', TP w0 w' t v ps r u' most ts (mkTs most rs level beg)) ∧ KeepOp w w' := by
  refine (rt_make h.ref level beg hs).mono ?_
  rintro e w' ⟨he, u', h', o⟩
  exact ⟨he, ⟨u', h.refd h' o⟩, h.keepR o⟩
theorem TP.c_turn (h : TP w0 w t v ps r u most ts rs) (id to : Int) (hto : -9223372036854775808 ≤ to ∧ to ≤ 9223372036854775807) : Calls Try.prog 8 #[.pointer (some ⟨t, 0, none⟩), .int .i64 id, .int .i64 to] w fun e w' =>
    e = .returned (.int .i64 (turnErr ts id to)) ∧ TP w0 w' t v ps r u most (turnTs ts id to) rs ∧ KeepOp w w' := by
  refine (table_turn h.tab id to hto).mono ?_
  rintro e w' ⟨he, h', o⟩
  exact ⟨he, h.turned h' o (turn_pos h.pos), h.keepT o⟩
theorem TP.c_rturn (h : TP w0 w t v ps r u most ts rs) (id to : Int) : Calls Try.prog 9 #[.pointer (some ⟨r, 0, none⟩), .int .i64 id, .int .i64 to] w fun e w' =>
    e = .returned (.int .i64 (turnErr rs id to)) ∧ TP w0 w' t v ps r u most ts (turnTs rs id to) ∧ KeepOp w w' := by
  refine (rt_turn h.ref id to).mono ?_
  rintro e w' ⟨he, h', o⟩
  exact ⟨he, h.refd h' o, h.keepR o⟩
theorem TP.c_end (h : TP w0 w t v ps r u most ts rs) (id en : Int) (he : 0 ≤ en ∧ en ≤ 18446744073709551615) : Calls Try.prog 10 #[.pointer (some ⟨t, 0, none⟩), .int .i64 id, .int .u64 en] w fun e w' =>
    e = .returned (.int .i64 (endErr ts id en)) ∧ TP w0 w' t v ps r u most (endTs ts id en) rs ∧ KeepOp w w' := by
  refine (table_end h.tab id en he h.pos).mono ?_
  rintro e w' ⟨he', h', o⟩
  exact ⟨he', h.turned h' o (end_pos he.1 h.pos), h.keepT o⟩
theorem TP.c_rend (h : TP w0 w t v ps r u most ts rs) (id en : Int) (he : 0 ≤ en ∧ en ≤ 18446744073709551615) (hp : ∀ x ∈ rs, 0 ≤ x.en) : Calls Try.prog 11 #[.pointer (some ⟨r, 0, none⟩), .int .i64 id, .int .u64 en] w fun e w' =>
    e = .returned (.int .i64 (endErr rs id en)) ∧ TP w0 w' t v ps r u most ts (endTs rs id en) ∧ KeepOp w w' := by
  refine (rt_end h.ref id en he hp).mono ?_
  rintro e w' ⟨he', h', o⟩
  exact ⟨he', h.refd h' o, h.keepR o⟩
theorem TP.c_len (h : TP w0 w t v ps r u most ts rs) : Calls Try.prog 13 #[.pointer (some ⟨t, 0, none⟩)] w fun e w' => e = .returned (.int .i64 ts.length) ∧ w = w' := table_len h.tab
theorem TP.c_live (h : TP w0 w t v ps r u most ts rs) : Calls Try.prog 15 #[.pointer (some ⟨t, 0, none⟩)] w fun e w' => (∃ a c, e = .returned (.slice a (liveTs ts).length c) ∧ Ints .i64 w' a (liveTs ts)) ∧ Only0 w w' := by
  refine (table_live h.tab).mono ?_
  rintro e w' ⟨x, rfl, ho, o⟩
  refine ⟨?_, o⟩
  rcases ho.2 with ⟨h0, h1⟩ | ⟨g, c, cur, h0, _⟩
  · exact ⟨none, 0, by rw [h0, h1], by rw [List.eq_nil_of_length_eq_zero h1]; exact Ints.nil _ _ _⟩
  · rw [h0] at ho ⊢
    exact ⟨_, c, rfl, own_ints ho⟩
theorem TP.c_rlive (h : TP w0 w t v ps r u most ts rs) : Calls Try.prog 16 #[.pointer (some ⟨r, 0, none⟩)] w fun e w' => (∃ a c, e = .returned (.slice a (liveTs rs).length c) ∧ Ints .i64 w' a (liveTs rs)) ∧ Only0 w w' := by
  refine (rt_live h.ref).mono ?_
  rintro e w' ⟨x, rfl, ho, o⟩
  refine ⟨?_, o⟩
  rcases ho.2 with ⟨h0, h1⟩ | ⟨g, c, cur, h0, _⟩
  · exact ⟨none, 0, by rw [h0, h1], by rw [List.eq_nil_of_length_eq_zero h1]; exact Ints.nil _ _ _⟩
  · rw [h0] at ho ⊢
    exact ⟨_, c, rfl, own_ints ho⟩
theorem TP.c_old (h : TP w0 w t v ps r u most ts rs) (now : Int) : Calls Try.prog 17 #[.pointer (some ⟨t, 0, none⟩), .int .u64 now] w fun e w' => e = .returned (.int .u64 (oldTs ts now)) ∧ w = w' := table_oldest h.tab now
theorem TP.c_rold (h : TP w0 w t v ps r u most ts rs) (now : Int) : Calls Try.prog 18 #[.pointer (some ⟨r, 0, none⟩), .int .u64 now] w fun e w' => e = .returned (.int .u64 (oldTs rs now)) ∧ Only0 w w' := rt_oldest h.ref now
theorem TP.c_get (h : TP w0 w t v ps r u most ts rs) (id : Int) (h0 : 1 ≤ id) (h1 : id ≤ (ts.length : Int)) : Calls Try.prog 12 #[.pointer (some ⟨t, 0, none⟩), .int .i64 id] w fun e w' => e = .returned (.tuple #[(ts.getD (id - 1).toNat TX.zero).agg, .bool true]) ∧ Only0 w w' := table_get h.tab id h0 h1
theorem TP.c_get_off (h : TP w0 w t v ps r u most ts rs) (id : Int) (hi : id < 1 ∨ (ts.length : Int) < id) : Calls Try.prog 12 #[.pointer (some ⟨t, 0, none⟩), .int .i64 id] w fun e w' => e = .returned (.tuple #[.agg #[.int .i64 0, .int .i64 0, .int .u64 0, .int .u64 0], .bool false]) ∧ Only0 w w' := table_get_off h.tab id hi
theorem ints_self (a a' : Option Addr) (c c' : Nat) (xs : List Int) (w : World) (hx : Ints .i64 w a xs) (hy : Ints .i64 w a' xs) (lx : xs.length ≤ 1000000000) :
    Calls Try.prog 14 #[.slice a xs.length c, .slice a' xs.length c'] w fun e w' => e = .returned (.bool true) ∧ Only0 w w' := by
  refine (sameInts_any a a' c c' xs xs w hx hy lx lx).mono ?_
  rintro e w' ⟨rfl, n, rfl⟩
  exact ⟨by rw [decide_eq_true rfl], (Only0.refl w).drewN n⟩
end Go.Proofs.Ytlomgbnggmaeeaa

/-
  judge.level and judge.Needs.
-/
import Derived.Test.YtjkdofhlcdimcaaSpans
import Derived.Test.YtjkdofhlcdimcaaJudge
namespace Go.Proofs.Ytjkdofhlcdimcaa
open Go.RowKit
set_option linter.unusedVariables false
set_option linter.unusedSimpArgs false

def lvl (l : Int) : Bool := decide (1 ≤ l) && decide (l ≤ 3)
set_option maxHeartbeats 1000000 in
theorem level_any (l : Int) (w : World) : Calls Try.prog 54 #[.int .i64 l] w fun e w' => e = .returned (.bool (lvl l)) ∧ w = w' := by
  by_cases h0 : 1 ≤ l
  · go_enter Try.func54, Try.ntmps54
    go_wp2_with fail
    go_ret; exact ⟨ret_bool (by simp [lvl, h0]), rfl⟩
  · go_enter Try.func54, Try.ntmps54
    go_wp2_with fail
    go_ret; exact ⟨ret_bool (by simp [lvl]; omega), rfl⟩

def found (lk : Nat → Int) (k : Int) : Bool := lk k.toNat != 0
def needK (l : Int) (keys : List Int) (lk : Nat → Int) : List Int := if l = 3 then keys else if l = 2 then keys.filter (found lk) else []
def needR (l : Int) (rs : List Rg) : List Rg := if l = 3 then rs else []
theorem needK_mem {l : Int} {keys : List Int} {lk : Nat → Int} {k : Int} (h : k ∈ needK l keys lk) : k ∈ keys := by
  unfold needK at h
  split at h
  · exact h
  · split at h
    · exact (List.mem_filter.1 h).1
    · simp at h
theorem needK_len (l : Int) (keys : List Int) (lk : Nat → Int) : (needK l keys lk).length ≤ keys.length := by
  unfold needK
  split
  · exact Nat.le_refl _
  · split
    · exact List.length_filter_le _ _
    · simp
theorem needR_len (l : Int) (rs : List Rg) : (needR l rs).length ≤ rs.length := by
  unfold needR; split <;> simp
theorem filter_take {p : Int → Bool} {zs : List Int} {k : Nat} (h : k < zs.length) : (zs.take (k + 1)).filter p = (zs.take k).filter p ++ (if p (zs.getD k 0) then [zs.getD k 0] else []) := by
  rw [List.take_succ_eq_append_getElem h, List.filter_append, List.getD_eq_getElem?_getD, List.getElem?_eq_getElem h]
  simp [List.filter_cons]
/-- What Needs tells. -/
def Needed (w w' : World) (l : Int) (keys : List Int) (lk : Nat → Int) (rs : List Rg) (e : Ending) : Prop :=
  ∃ a b ss, e = .returned (.tuple #[.slice a (needK l keys lk).length (needK l keys lk).length, .slice b (needR l rs).length (needR l rs).length]) ∧ Ints .i64 w' a (needK l keys lk) ∧ (∀ x, a = some x → w.heap.size ≤ x.block) ∧ SpansOut w.heap.size w' (fun b => w.heap.size ≤ b ∧ b < w'.heap.size) b ss (needR l rs)
theorem SpansOut.none (B : Nat) (w : World) (P : Nat → Prop) : SpansOut B w P none [] [] := ⟨⟨0, World.ownsRow_nil _ _ _ _⟩, rfl, fun i hi => by simp at hi⟩

theorem needed_none {w : World} {l : Int} {keys : List Int} {lk : Nat → Int} {rs : List Rg} (h2 : ¬ l = 2) (h3 : ¬ l = 3) : Needed w w l keys lk rs (.returned (.tuple #[.slice none 0 0, .slice none 0 0])) := by
  have e1 : needK l keys lk = [] := by simp [needK, h2, h3]
  have e2 : needR l rs = [] := by simp [needR, h3]
  unfold Needed
  rw [e1, e2]
  exact ⟨none, none, [], rfl, Ints.nil _ _ _, (fun x hx => by cases hx), SpansOut.none _ _ _⟩
set_option maxRecDepth 100000 in
set_option maxHeartbeats 4000000 in
theorem needs_none {B : Nat} {w : World} {P : Nat → Prop} {s : Nat} {keys : List Int} {lk : Nat → Int} {rs : List Rg} (h : SetAt B w P s keys lk rs) (l : Int) (hl : ¬ l = 2 ∧ ¬ l = 3) :
    Calls Try.prog 32 #[.int .i64 l, .pointer (some ⟨s, 0, none⟩)] w fun e w' => Needed w w' l keys lk rs e ∧ Below w.heap.size w w' := by
  have L := level_any l w
  have HN := Lib.hid (needed_none (w := w) (keys := keys) (lk := lk) (rs := rs) hl.1 hl.2)
  obtain ⟨h2, h3⟩ := hl
  clear h
  by_cases h1 : l = 1
  · subst h1
    rw [show lvl 1 = true from rfl] at L
    go_enter Try.func32, Try.ntmps32
    go_wp2_with fail
    refine L.mono ?_
    rintro e w1 ⟨rfl, rfl⟩
    go_wp2_with fail
    go_ret2
    exact ⟨HN.out, Below.refl _ _⟩
  · rw [show lvl l = false by simp [lvl]; omega] at L
    go_enter Try.func32, Try.ntmps32
    go_wp2_with fail
    refine L.mono ?_
    rintro e w1 ⟨rfl, rfl⟩
    go_wp2_with fail
    go_ret2
    exact ⟨HN.out, Below.refl _ _⟩
set_option maxRecDepth 100000 in
set_option maxHeartbeats 4000000 in
theorem needs_serial {B : Nat} {w : World} {P : Nat → Prop} {s : Nat} {keys : List Int} {lk : Nat → Int} {rs : List Rg} (h : SetAt B w P s keys lk rs) :
    Calls Try.prog 32 #[.int .i64 3, .pointer (some ⟨s, 0, none⟩)] w fun e w' => Needed w w' 3 keys lk rs e ∧ Below w.heap.size w w' := by
  have L := level_any 3 w
  rw [show lvl 3 = true from rfl] at L
  go_enter Try.func32, Try.ntmps32
  go_wp2_with fail
  refine L.mono ?_
  rintro e w1 ⟨rfl, rfl⟩
  go_wp2_with fail
  refine (set_keys h).mono ?_
  rintro e w1 ⟨⟨a, rfl, hi, hb⟩, b1⟩
  have h1 := h.only0 (Below.only0 b1)
  have z1 := b1.size
  go_wp2_with fail
  refine (set_spans h1).mono ?_
  rintro e w2 ⟨⟨b, ss, rfl, ho, _⟩, b2⟩
  have hi2 := hi.below b2
  have bb := b1.trans (b2.mono z1)
  have HO := Lib.hid (show SpansOut w.heap.size w2 (fun b => w.heap.size ≤ b ∧ b < w2.heap.size) b ss rs from by
    obtain ⟨⟨cap, hc⟩, hl, ha⟩ := ho
    refine ⟨⟨cap, rows_base hc z1⟩, hl, fun i hi => ?_⟩
    obtain ⟨q1, q2, q3, ⟨cp, q4⟩, q5, q6⟩ := ha i hi
    exact ⟨q1, q2, q3, ⟨cp, rows_base q4 z1⟩, (fun x hx => by have := q5 x hx; omega), q6⟩)
  have HI := Lib.hid hi2
  have HB := Lib.hid hb
  clear ho hi hi2 h h1 hb
  go_wp2_with fail
  go_ret2
  exact ⟨⟨a, b, ss, rfl, HI.out, HB.out, HO.out⟩, bb⟩
set_option maxRecDepth 100000 in
set_option maxHeartbeats 4000000 in
theorem needs_repeat {B : Nat} {w : World} {P : Nat → Prop} {s : Nat} {keys : List Int} {lk : Nat → Int} {rs : List Rg} (h : SetAt B w P s keys lk rs) :
    Calls Try.prog 32 #[.int .i64 2, .pointer (some ⟨s, 0, none⟩)] w fun e w' => Needed w w' 2 keys lk rs e ∧ Below w.heap.size w w' := by
  have L := level_any 2 w
  rw [show lvl 2 = true from rfl] at L
  obtain ⟨i0, hi0, hz0, hz1, hz2⟩ := info_parts info_int
  have hfew := h.few
  go_enter Try.func32, Try.ntmps32
  go_wp2_with fail
  refine L.mono ?_
  rintro e w1 ⟨rfl, rfl⟩
  clear L
  go_wp2_with fail
  refine (set_keys h).mono ?_
  rintro e w1 ⟨⟨a, rfl, hi, hb⟩, b1⟩
  have HH := Lib.hid h
  have HI := Lib.hid hi
  have B1 := b1
  have z1 := b1.size
  clear h hi hb b1
  go_wp2_with fail
  go_loopw [4, 30] (fun v i wr => ∃ (k : Nat) (v0 : Value), v0 = v ∧ k ≤ keys.length ∧ i = .int .i64 k ∧ wr.ownsRow w1.heap.size 3 1 v0 ((keys.take k).filter (found lk)).length (((keys.take k).filter (found lk)).map (Value.int .i64)) ∧ Below w1.heap.size w1 wr) (fun _ i _ => keys.length - (intOf i).toNat)
  case atStart => exact ⟨0, _, rfl, by omega, rfl, World.ownsRow_nil _ _ _ _, Below.refl _ _⟩
  case round =>
    obtain ⟨k, v, rfl, hk, rfl, hown, hbel⟩ := hrel
    have hbw := hbel.size
    have hs2 := HH.out.only0 ((Below.only0 B1).trans (Below.only0 hbel))
    have hal : ((keys.take k).filter (found lk)).length ≤ 64 := Nat.le_trans (List.length_filter_le _ _) (by rw [List.length_take]; omega)
    by_cases hlt : k < keys.length
    · obtain ⟨b, off, rfl, hc⟩ := (HI.out.below hbel).at (by omega)
      have q := hc k hlt
      have hft := filter_take (p := found lk) hlt
      have hmem : keys.getD k 0 ∈ keys := by rw [List.getD_eq_getElem?_getD, List.getElem?_eq_getElem hlt]; exact List.getElem_mem _
      have A := set_link hs2 (keys.getD k 0)
      rw [if_pos hmem, decide_eq_true hmem] at A
      have hfd : found lk (keys.getD k 0) = (lk (keys.getD k 0).toNat != 0) := rfl
      obtain ⟨x, hx⟩ : ∃ x, x = lk (keys.getD k 0).toNat := ⟨_, rfl⟩
      rw [← hx] at hfd A
      obtain ⟨y, hy⟩ : ∃ y, y = keys.getD k 0 := ⟨_, rfl⟩
      rw [← hy] at q hft A hfd
      have HF := Lib.hid hft
      have HT := Lib.hid (show ∀ m, wr.ownsRow w1.heap.size 3 1 v ((keys.take k).filter (found lk)).length (((keys.take k).filter (found lk)).map (Value.int .i64)) → (wr.drewN m).ownsRow w1.heap.size 3 1 v ((keys.take k).filter (found lk)).length (((keys.take k).filter (found lk)).map (Value.int .i64)) from fun m h => rows_only h (S := fun _ => False) ((Only0.refl wr).drewN m) (fun _ _ hf => hf))
      clear hc hx hy hmem hft hs2
      by_cases hz : x = 0
      · subst hz
        have hf0 : found lk y = false := by rw [hfd]; rfl
        have HR := Lib.hid (show (keys.take (k + 1)).filter (found lk) = (keys.take k).filter (found lk) by rw [HF.out, hf0]; simp)
        have HO := Lib.hid (fun m => HT.out m hown)
        clear hfd hf0 HF HT hown
        go_wp2_with fail
        refine A.mono ?_
        rintro e w3 ⟨rfl, m, rfl⟩
        clear A
        go_wp2_with fail
        go_roundw
        case rel => exact ⟨k + 1, _, rfl, by omega, by go_num, by rw [HR.out]; exact HO.out m, hbel.trans (((Only0.refl wr).drewN m).below.mono hbw)⟩
        case measure => simp [intOf]; omega
      · have hzb : (x != 0) = true := by simpa using hz
        have hf0 : found lk y = true := by rw [hfd]; exact hzb
        have HR := Lib.hid (show (keys.take (k + 1)).filter (found lk) = (keys.take k).filter (found lk) ++ [y] by rw [HF.out, hf0]; simp)
        have HO := fun m => HT.out m hown
        clear hfd hf0 HF HT hown
        go_wp2_with fail
        refine A.mono ?_
        rintro e w3 ⟨rfl, m, rfl⟩
        have hO := HO m
        have hB3 : Below w1.heap.size w1 (wr.drewN m) := hbel.trans (((Only0.refl wr).drewN m).below.mono hbw)
        have zz : w1.heap.size ≤ (wr.drewN m).heap.size := hB3.size
        clear A HO hbel
        generalize wr.drewN m = w3 at *
        generalize (keys.take k).filter (found lk) = acc at *
        go_wp2_with (at_builtin; refine wpList_append_own _ rfl _ _ 28 rfl w1.heap.size 3 i0 (.int .i64 0) 1 8 Try.underlying28 hi0 hz0 hz1 hz2 rfl (by decide) _ _ _ rfl (hO.alloc _) ⟨w3.heap.size, 0, none⟩ 1 1 [.int .i64 y] rfl rfl ?c1 ?c2 ?c3 ?c4 ?c5 ?_)
        case c1 =>
          intro j u hj
          match j, hj with
          | 0, hj => simp at hj; subst hj; simp [Addr.add]
        case c2 => intro u hu; simp at hu; subst hu; rfl
        case c3 => unfold maxLen; omega
        case c4 => omega
        case c5 => simp; omega
        intro v' w4 hown3 hgrow _
        have hb4 : Below w1.heap.size w1 w4 := (hB3.alloc (by omega) _).grown hgrow (by simp; omega) (fun k hk => (hO.lt k hk).1)
        have HO4 := Lib.hid (show w4.ownsRow w1.heap.size 3 1 v' ((keys.take (k + 1)).filter (found lk)).length (((keys.take (k + 1)).filter (found lk)).map (Value.int .i64)) by rw [HR.out]; simpa using hown3)
        clear hown3 hgrow hO hB3 HR
        go_wp2_with fail
        go_roundw
        case rel => exact ⟨k + 1, _, rfl, by omega, by go_num, HO4.out, hb4⟩
        case measure => simp [intOf]; omega
    · obtain rfl : k = keys.length := by omega
      rw [List.take_length] at hown hal
      have hne : needK 2 keys lk = keys.filter (found lk) := by simp [needK]
      have bb := B1.trans (hbel.mono z1)
      obtain ⟨a', cp, hv, hI, hblk, hcap⟩ : ∃ a' cp, v = .slice a' (keys.filter (found lk)).length cp ∧ Ints .i64 wr a' (keys.filter (found lk)) ∧ (∀ x, a' = some x → w.heap.size ≤ x.block) ∧ (keys.filter (found lk)).length ≤ cp ∧ cp ≤ maxLen := by
        have ho := hown
        rcases hown.2 with ⟨rfl, h0⟩ | ⟨g, cap, cur, rfl, hg, _, c1, c2, _⟩
        · have : keys.filter (found lk) = [] := List.eq_nil_of_length_eq_zero h0
          rw [this]
          exact ⟨none, 0, rfl, Ints.nil _ _ _, (fun x hx => by cases hx), by simp, by simp [maxLen]⟩
        · exact ⟨_, cap, rfl, ints_of_own ho, (fun x hx => by cases hx; exact Nat.le_trans z1 hg), c1, c2⟩
      subst hv
      have D := clip_any a' (keys.filter (found lk)).length cp wr hcap.1 (by have := hcap.2; unfold maxLen at this; omega)
      have HN := Lib.hid (show Needed w wr 2 keys lk rs (.returned (.tuple #[.slice a' (keys.filter (found lk)).length (keys.filter (found lk)).length, .slice none 0 0])) by
        unfold Needed
        rw [hne, show needR 2 rs = [] by simp [needR]]
        exact ⟨a', none, [], rfl, hI, hblk, SpansOut.none _ _ _⟩)
      clear hown hI hblk hcap hne hs2 hlt hal
      go_wp2_with fail
      refine D.mono ?_
      rintro e w5 ⟨rfl, rfl⟩
      go_wp2_with fail
      go_ret2
      exact ⟨HN.out, bb⟩
theorem needs_any {B : Nat} {w : World} {P : Nat → Prop} {s : Nat} {keys : List Int} {lk : Nat → Int} {rs : List Rg} (h : SetAt B w P s keys lk rs) (l : Int) :
    Calls Try.prog 32 #[.int .i64 l, .pointer (some ⟨s, 0, none⟩)] w fun e w' => Needed w w' l keys lk rs e ∧ Below w.heap.size w w' := by
  by_cases h2 : l = 2
  · subst h2; exact needs_repeat h
  · by_cases h3 : l = 3
    · subst h3; exact needs_serial h
    · exact needs_none h l ⟨h2, h3⟩
end Go.Proofs.Ytjkdofhlcdimcaa

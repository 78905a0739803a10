/-
  WritesPlays: the merge that the law makes, as plain Lean; the row of writes that it keeps.
-/
import Derived.Test.YtldfkcldfjfohaaWLaw2
namespace Go.Proofs.Ytldfkcldfjfohaa
open Go.RowKit Go.ChangeShapes Go.WideShapes Go.Deep
set_option linter.unusedVariables false
set_option linter.unusedSimpArgs false

/-- What the law has laid together of the keys below k; i of the Pairs are done. -/
structure MI (s : Wr) (lo hi : Int) (ps : PL) (k i : Nat) (want : PL) : Prop where
  il : i ≤ ps.length
  lt : ∀ p ∈ ps.take i, p.1 < (k : Int)
  ge : 0 < k → ∀ p ∈ ps.drop i, (k : Int) ≤ p.1
  srt : Srt want
  mem : ∀ p, p ∈ want ↔ (p ∈ ps.take i ∧ s.mine lo hi p.1 = false) ∨ (s.mine lo hi p.1 = true ∧ p.1 < (k : Int) ∧ s.gone p.1 = false ∧ p.2 = s.val p.1)
  few : want.length ≤ k + i
theorem MI.start (s : Wr) (lo hi : Int) (ps : PL) (hs : WOk s) : MI s lo hi ps 0 0 [] := by
  refine ⟨Nat.zero_le _, by simp, fun h => absurd h (by omega), List.Pairwise.nil, fun p => ?_, by simp⟩
  simp only [List.take_zero, List.not_mem_nil, false_and, false_or, false_iff]
  rintro ⟨h1, h2, _⟩
  have := hs.key p.1 (mine_iff.1 h1).2.2
  omega
theorem MI.below {s : Wr} {lo hi : Int} {ps : PL} {k i : Nat} {want : PL} (h : MI s lo hi ps k i want) : ∀ p ∈ want, p.1 < (k : Int) := by
  intro p hp
  rcases (h.mem p).1 hp with h1 | h1
  · exact h.lt p h1.1
  · exact h1.2.1
theorem getD_at {ps : PL} {i : Nat} (hi : i < ps.length) : ps[i] = ps.getD i (0, 0) := by simp [List.getD_eq_getElem?_getD, hi]
theorem take_snoc {ps : PL} {i : Nat} (hi : i < ps.length) : ps.take (i + 1) = ps.take i ++ [ps.getD i (0, 0)] := by
  rw [List.take_succ_eq_append_getElem hi, getD_at hi]
theorem drop_cons' {ps : PL} {i : Nat} (hi : i < ps.length) : ps.drop i = ps.getD i (0, 0) :: ps.drop (i + 1) := by
  rw [List.drop_eq_getElem_cons hi, getD_at hi]
theorem srt_split {ps : PL} (h : Srt ps) {i : Nat} : (∀ p ∈ ps.take i, ∀ q ∈ ps.drop i, p.1 < q.1) := by
  have : Srt (ps.take i ++ ps.drop i) := by rw [List.take_append_drop]; exact h
  exact (List.pairwise_append.1 this).2.2
theorem MI.eat {s : Wr} {lo hi : Int} {ps : PL} {k i : Nat} {want : PL} (h : MI s lo hi ps k i want) (hs : WOk s) (hr : Srt ps) (hin : i < ps.length) (hlt : (ps.getD i (0, 0)).1 < (k : Int)) : MI s lo hi ps k (i + 1) (want ++ [ps.getD i (0, 0)]) := by
  have hk : k = 0 := by
    rcases Nat.eq_zero_or_pos k with h0 | h0
    · exact h0
    · have := h.ge h0 (ps.getD i (0, 0)) (by rw [drop_cons' hin]; simp)
      omega
  subst hk
  have hnm : ∀ p : Int × Int, p.1 < 0 → s.mine lo hi p.1 = false := fun p hp => mine_false.2 (fun hm => by have := hs.key p.1 hm.2.2; omega)
  have hq : ∀ p ∈ want, p.1 < (ps.getD i (0, 0)).1 := by
    intro p hp
    rcases (h.mem p).1 hp with h1 | h1
    · exact srt_split hr p h1.1 _ (by rw [drop_cons' hin]; simp)
    · have := hs.key p.1 (mine_iff.1 h1.1).2.2
      have := h1.2.1
      omega
  refine ⟨hin, fun p hp => ?_, fun h0 => absurd h0 (by omega), ?_, fun p => ?_, by have := h.few; simp; omega⟩
  · rw [take_snoc hin] at hp
    rcases List.mem_append.1 hp with hp | hp
    · exact h.lt p hp
    · simp only [List.mem_singleton] at hp; subst hp; exact hlt
  · exact List.pairwise_append.2 ⟨h.srt, List.pairwise_singleton _ _, fun a ha b hb => by simp only [List.mem_singleton] at hb; subst hb; exact hq a ha⟩
  · rw [List.mem_append, h.mem, take_snoc hin, List.mem_append]
    simp only [List.mem_singleton]
    constructor
    · rintro ((⟨h1, h2⟩ | h1) | rfl)
      · exact .inl ⟨.inl h1, h2⟩
      · exact .inr h1
      · exact .inl ⟨.inr rfl, hnm _ hlt⟩
    · rintro (⟨h1 | h1, h2⟩ | h1)
      · exact .inl (.inl ⟨h1, h2⟩)
      · exact .inr h1
      · exact .inl (.inr h1)
/-- No Pair that is left lies below k. -/
def Ripe (ps : PL) (k i : Nat) : Prop := ∀ p ∈ ps.drop i, (k : Int) ≤ p.1
theorem ripe_end {ps : PL} {k i : Nat} (h : ps.length ≤ i) : Ripe ps k i := fun p hp => by rw [List.drop_eq_nil_of_le h] at hp; cases hp
theorem ripe_at {ps : PL} (hr : Srt ps) {k i : Nat} (hi : i < ps.length) (h : ¬ (ps.getD i (0, 0)).1 < (k : Int)) : Ripe ps k i := by
  intro p hp
  rw [drop_cons' hi] at hp
  rcases List.mem_cons.1 hp with rfl | hp
  · omega
  · have hs : Srt (ps.drop i) := hr.sublist (List.drop_sublist _ _)
    rw [drop_cons' hi] at hs
    have := hs.head p hp
    omega
theorem ripe_next {ps : PL} (hr : Srt ps) {k i : Nat} (h : Ripe ps k i) (hi : i < ps.length) (he : (ps.getD i (0, 0)).1 = (k : Int)) : ∀ p ∈ ps.drop (i + 1), ((k + 1 : Nat) : Int) ≤ p.1 := by
  intro p hp
  have hs : Srt (ps.drop i) := hr.sublist (List.drop_sublist _ _)
  rw [drop_cons' hi] at hs
  have := hs.head p hp
  omega
theorem ripe_stay {ps : PL} {k i : Nat} (hr : Srt ps) (h : Ripe ps k i) (ho : ¬ (i < ps.length ∧ (ps.getD i (0, 0)).1 = (k : Int))) : ∀ p ∈ ps.drop i, ((k + 1 : Nat) : Int) ≤ p.1 := by
  intro p hp
  have hi : i < ps.length := by
    rcases Nat.lt_or_ge i ps.length with h | h
    · exact h
    · rw [List.drop_eq_nil_of_le h] at hp; cases hp
  have h1 := h (ps.getD i (0, 0)) (by rw [drop_cons' hi]; simp)
  have h2 : (k : Int) < (ps.getD i (0, 0)).1 := by
    rcases Int.lt_or_eq_of_le h1 with h | h
    · exact h
    · exact absurd ⟨hi, h.symm⟩ ho
  rw [drop_cons' hi] at hp
  rcases List.mem_cons.1 hp with rfl | hp
  · omega
  · have hs : Srt (ps.drop i) := hr.sublist (List.drop_sublist _ _)
    rw [drop_cons' hi] at hs
    have := hs.head p hp
    omega
/-- One key more: what is added of it. -/
theorem MI.next {s : Wr} {lo hi : Int} {ps : PL} {k i i' : Nat} {want add : PL} (h : MI s lo hi ps k i want) (hr : Srt ps) (hrp : Ripe ps k i)
    (hi' : (i' = i + 1 ∧ i < ps.length ∧ (ps.getD i (0, 0)).1 = (k : Int)) ∨ (i' = i ∧ ¬ (i < ps.length ∧ (ps.getD i (0, 0)).1 = (k : Int))))
    (hadd : (add = [((k : Int), s.val k)] ∧ s.mine lo hi k = true ∧ s.gone k = false) ∨ (add = [] ∧ s.mine lo hi k = true ∧ s.gone k = true) ∨ (add = [ps.getD i (0, 0)] ∧ s.mine lo hi k = false ∧ i' = i + 1) ∨ (add = [] ∧ s.mine lo hi k = false ∧ i' = i)) :
    MI s lo hi ps (k + 1) i' (want ++ add) := by
  have hak : ∀ p ∈ add, p.1 = (k : Int) := by
    intro p hp
    rcases hadd with ⟨rfl, _⟩ | ⟨rfl, _⟩ | ⟨rfl, _, h1⟩ | ⟨rfl, _⟩
    · simp at hp; subst hp; rfl
    · cases hp
    · simp only [List.mem_singleton] at hp
      subst hp
      rcases hi' with h | h
      · exact h.2.2
      · omega
    · cases hp
  have hadl : add.length ≤ 1 := by rcases hadd with ⟨rfl, _⟩ | ⟨rfl, _⟩ | ⟨rfl, _⟩ | ⟨rfl, _⟩ <;> simp
  have hle : i ≤ i' := by rcases hi' with h | h <;> omega
  have htk : ∀ p, p ∈ ps.take i' ↔ p ∈ ps.take i ∨ (i' = i + 1 ∧ p = ps.getD i (0, 0)) := by
    intro p
    rcases hi' with ⟨rfl, h1, _⟩ | ⟨rfl, _⟩
    · rw [take_snoc h1, List.mem_append]; simp
    · simp
  refine ⟨?_, fun p hp => ?_, fun _ => ?_, ?_, fun p => ?_, by have := h.few; simp; omega⟩
  · rcases hi' with h1 | h1
    · omega
    · have := h.il; omega
  · rcases (htk p).1 hp with h1 | ⟨h1, rfl⟩
    · have := h.lt p h1; omega
    · rcases hi' with h2 | h2
      · have := h2.2.2; omega
      · omega
  · rcases hi' with ⟨rfl, h1, h2⟩ | ⟨rfl, h1⟩
    · exact ripe_next hr hrp h1 h2
    · exact ripe_stay hr hrp h1
  · refine List.pairwise_append.2 ⟨h.srt, ?_, fun a ha b hb => ?_⟩
    · rcases hadd with ⟨rfl, _⟩ | ⟨rfl, _⟩ | ⟨rfl, _⟩ | ⟨rfl, _⟩ <;> simp
    · have := h.below a ha
      have := hak b hb
      omega
  · rw [List.mem_append, h.mem, htk]
    by_cases hpk : p.1 = (k : Int)
    · have n1 : p ∉ ps.take i := fun hp => by have := h.lt p hp; omega
      have e1 : s.mine lo hi p.1 = s.mine lo hi k := by rw [hpk]
      have e2 : s.gone p.1 = s.gone k := by rw [hpk]
      have e3 : s.val p.1 = s.val k := by rw [hpk]
      have hlt1 : p.1 < ((k + 1 : Nat) : Int) := by omega
      have hlt0 : ¬ p.1 < (k : Int) := by omega
      have hpe : p = ((k : Int), p.2) := by rw [← hpk]
      rw [e1, e2, e3]
      rcases hadd with ⟨rfl, h1, h2⟩ | ⟨rfl, h1, h2⟩ | ⟨rfl, h1, h2⟩ | ⟨rfl, h1, h2⟩
      · simp only [n1, h1, h2, hlt0, hlt1, List.mem_singleton, false_and, and_false, false_or, true_and, Bool.true_eq_false, and_true, or_false]
        constructor
        · rintro rfl; rfl
        · intro h; rw [hpe, h]
      · simp [n1, h1, h2, hlt0]
      · simp [n1, h1, h2, hlt0]
      · simp [n1, h1, h2, hlt0]
    · have n2 : p ∉ add := fun hp => hpk (hak p hp)
      have n3 : ¬ (i' = i + 1 ∧ p = ps.getD i (0, 0)) := by
        rintro ⟨h1, rfl⟩
        rcases hi' with h2 | h2
        · exact hpk h2.2.2
        · omega
      have e : (p.1 < ((k + 1 : Nat) : Int)) ↔ p.1 < (k : Int) := by omega
      simp only [n2, n3, or_false, e]
theorem MI.fin {s : Wr} {lo hi : Int} {ps : PL} {i : Nat} {want : PL} (h : MI s lo hi ps 64 i want) (hs : WOk s) (hr : Srt ps) : IsOver s ps lo hi (want ++ ps.drop i) := by
  have hge := h.ge (by omega)
  have hnm : ∀ p ∈ ps.drop i, s.mine lo hi p.1 = false := fun p hp => mine_false.2 (fun hm => by have := hs.key p.1 hm.2.2; have := hge p hp; omega)
  refine ⟨List.pairwise_append.2 ⟨h.srt, hr.sublist (List.drop_sublist _ _), fun a ha b hb => ?_⟩, fun p => ?_⟩
  · have := h.below a ha
    have := hge b hb
    omega
  · rw [List.mem_append, h.mem]
    have hps : p ∈ ps ↔ p ∈ ps.take i ∨ p ∈ ps.drop i := by rw [← List.mem_append, List.take_append_drop]
    rw [hps]
    constructor
    · rintro ((⟨h1, h2⟩ | ⟨h1, h2, h3⟩) | h1)
      · exact .inl ⟨.inl h1, h2⟩
      · exact .inr ⟨h1, h3⟩
      · exact .inl ⟨.inr h1, hnm p h1⟩
    · rintro (⟨h1 | h1, h2⟩ | ⟨h1, h2⟩)
      · exact .inl (.inl ⟨h1, h2⟩)
      · exact .inr h1
      · refine .inl (.inr ⟨h1, ?_, h2⟩)
        have := hs.key p.1 (mine_iff.1 h1).2.2
        omega

/-- Where a key was met among the first j. -/
def AtIs (keys : List Int) (c : Bool) (x : Int) (j : Nat) (a : Int) : Prop :=
  (a = -1 ∧ ∀ t, t < j → keys.getD t 0 = x → c = false) ∨ ∃ t : Nat, t < j ∧ a = (t : Int) ∧ keys.getD t 0 = x ∧ c = true
theorem AtIs.start (keys : List Int) (c : Bool) (x : Int) : AtIs keys c x 0 (-1) := .inl ⟨rfl, fun t ht => by omega⟩
theorem AtIs.hit {keys : List Int} {c : Bool} {x : Int} {j : Nat} (h1 : keys.getD j 0 = x) (h2 : c = true) : AtIs keys c x (j + 1) (j : Int) := .inr ⟨j, by omega, rfl, h1, h2⟩
theorem AtIs.pass {keys : List Int} {c : Bool} {x : Int} {j : Nat} {a : Int} (h : AtIs keys c x j a) (h1 : keys.getD j 0 = x → c = false) : AtIs keys c x (j + 1) a := by
  rcases h with ⟨rfl, h⟩ | ⟨t, ht, h⟩
  · refine .inl ⟨rfl, fun t ht => ?_⟩
    rcases Nat.lt_or_ge t j with h2 | h2
    · exact h t h2
    · obtain rfl : t = j := by omega
      exact h1
  · exact .inr ⟨t, by omega, h⟩
theorem getD_in {keys : List Int} {t : Nat} (h : t < keys.length) : keys.getD t 0 ∈ keys := by
  rw [List.getD_eq_getElem?_getD, List.getElem?_eq_getElem h]; exact List.getElem_mem _
theorem AtIs.out {keys : List Int} {c : Bool} {x : Int} {a : Int} (h : AtIs keys c x keys.length a) : (a = -1 ∧ (x ∈ keys → c = false)) ∨ ∃ t : Nat, t < keys.length ∧ a = (t : Int) ∧ keys.getD t 0 = x ∧ x ∈ keys ∧ c = true := by
  rcases h with ⟨rfl, h⟩ | ⟨t, ht, h1, h2, h3⟩
  · refine .inl ⟨rfl, fun hx => ?_⟩
    obtain ⟨t, ht, rfl⟩ := List.getElem_of_mem hx
    exact h t ht (by simp [List.getD_eq_getElem?_getD, ht])
  · exact .inr ⟨t, ht, h1, h2, by rw [← h2]; exact getD_in ht, h3⟩
/-- What was taken away bears no value. -/
def WZ (s : Wr) : Prop := ∀ k ∈ s.keys, s.gone k = true → s.val k = 0
theorem WZ.new : WZ Wr.new := fun k hk => by cases hk
theorem WZ.write {s : Wr} (h : WZ s) (k x : Int) (g : Bool) (hg : g = true → x = 0) : WZ (s.write k x g) := by
  unfold Wr.write
  split
  · intro j hj hgj
    unfold Wr.put at *
    by_cases e : j = k
    · subst e; simp [updK] at hgj ⊢; exact hg hgj
    · simp only [updK, e, if_false] at hgj ⊢
      refine h j ?_ hgj
      split at hj
      · exact hj
      · simp at hj; rcases hj with hj | hj
        · exact hj
        · exact absurd hj e
  · exact h

/-- A write lies at place i of some cells. -/
def RowAtW (cs : Array Value) (i : Nat) (k v : Int) (g : Bool) : Prop := cs[i * 3]? = some (.int .i64 k) ∧ cs[i * 3 + 1]? = some (.int .i64 v) ∧ cs[i * 3 + 2]? = some (.bool g)
def putW (cs : Array Value) (i : Nat) (k v : Int) (g : Bool) : Array Value := ((cs.setIfInBounds (i * 3) (.int .i64 k)).setIfInBounds (i * 3 + 1) (.int .i64 v)).setIfInBounds (i * 3 + 2) (.bool g)
theorem putW_same {cs : Array Value} {i : Nat} {k v : Int} {g : Bool} (h : i * 3 + 2 < cs.size) : RowAtW (putW cs i k v g) i k v g := by
  unfold putW
  refine ⟨?_, ?_, ?_⟩
  · rw [Array.getElem?_setIfInBounds_ne (by omega), Array.getElem?_setIfInBounds_ne (by omega), Array.getElem?_setIfInBounds_self_of_lt (by omega)]
  · rw [Array.getElem?_setIfInBounds_ne (by omega), Array.getElem?_setIfInBounds_self_of_lt (by simp; omega)]
  · rw [Array.getElem?_setIfInBounds_self_of_lt (by simp; omega)]
theorem putW_other {cs : Array Value} {i j : Nat} {k v : Int} {g : Bool} (hj : j ≠ i) (t : Nat) (ht : t < 3) : (putW cs i k v g)[j * 3 + t]? = cs[j * 3 + t]? := by
  unfold putW
  rw [Array.getElem?_setIfInBounds_ne (by omega), Array.getElem?_setIfInBounds_ne (by omega), Array.getElem?_setIfInBounds_ne (by omega)]
theorem rows_of {cs : Array Value} {s : Wr} {ks : List Int} (h : ∀ i, i < ks.length → RowAtW cs i (ks.getD i 0) (s.val (ks.getD i 0)) (s.gone (ks.getD i 0))) : cs.toList.take (ks.length * 3) = s.rowsOf ks := by
  apply List.ext_getElem?
  intro t
  by_cases ht : t < ks.length * 3
  · rw [List.getElem?_take_of_lt ht, Array.getElem?_toList]
    have G := rowsOf_get s ks (t / 3) (by omega)
    have H := h (t / 3) (by omega)
    have : t = t / 3 * 3 ∨ t = t / 3 * 3 + 1 ∨ t = t / 3 * 3 + 2 := by omega
    rcases this with e | e | e
    · rw [e]; exact H.1.trans G.1.symm
    · rw [e]; exact H.2.1.trans G.2.1.symm
    · rw [e]; exact H.2.2.trans G.2.2.symm
  · rw [List.getElem?_eq_none (by simp; omega), List.getElem?_eq_none (by rw [rowsOf_len]; omega)]
theorem rows_at {cs : Array Value} {s : Wr} {ks : List Int} (h : cs.toList.take (ks.length * 3) = s.rowsOf ks) (i : Nat) (hi : i < ks.length) : RowAtW cs i (ks.getD i 0) (s.val (ks.getD i 0)) (s.gone (ks.getD i 0)) := by
  have G := rowsOf_get s ks i hi
  rw [← h] at G
  refine ⟨?_, ?_, ?_⟩
  · have := G.1; rwa [List.getElem?_take_of_lt (by omega), Array.getElem?_toList] at this
  · have := G.2.1; rwa [List.getElem?_take_of_lt (by omega), Array.getElem?_toList] at this
  · have := G.2.2; rwa [List.getElem?_take_of_lt (by omega), Array.getElem?_toList] at this
theorem getD_inj {ks : List Int} (hn : ks.Nodup) {i j : Nat} (hi : i < ks.length) (hj : j < ks.length) (h : ks.getD i 0 = ks.getD j 0) : i = j := by
  simp only [List.getD_eq_getElem?_getD, hi, hj, List.getElem?_eq_getElem, Option.getD_some] at h
  exact (List.getElem_inj hn).1 h
/-- The write of a key that is there, laid on its place. -/
theorem rows_put {cs : Array Value} {s : Wr} {i : Nat} {x : Int} {g : Bool} (hn : s.keys.Nodup) (hi : i < s.keys.length) (hz : s.keys.length * 3 ≤ cs.size) (h : cs.toList.take (s.keys.length * 3) = s.rowsOf s.keys) :
    (putW cs i (s.keys.getD i 0) x g).toList.take (s.keys.length * 3) = (s.put (s.keys.getD i 0) x g).rowsOf s.keys := by
  refine rows_of (fun j hj => ?_)
  by_cases e : j = i
  · subst e
    have := putW_same (cs := cs) (i := j) (k := s.keys.getD j 0) (v := x) (g := g) (by omega)
    simpa [Wr.put, updK] using this
  · have hne : s.keys.getD j 0 ≠ s.keys.getD i 0 := fun h => e (getD_inj hn hj hi h)
    have H := rows_at h j hj
    refine ⟨?_, ?_, ?_⟩
    · exact (putW_other e 0 (by omega)).trans H.1
    · rw [show (s.put (s.keys.getD i 0) x g).val (s.keys.getD j 0) = s.val (s.keys.getD j 0) by simp only [Wr.put, updK, hne, if_false]]
      exact (putW_other e 1 (by omega)).trans H.2.1
    · rw [show (s.put (s.keys.getD i 0) x g).gone (s.keys.getD j 0) = s.gone (s.keys.getD j 0) by simp only [Wr.put, updK, hne, if_false]]
      exact (putW_other e 2 (by omega)).trans H.2.2
theorem put_keys_old {s : Wr} {k x : Int} {g : Bool} (h : k ∈ s.keys) : (s.put k x g).keys = s.keys := by unfold Wr.put; rw [if_pos (hasK_iff.2 h)]
theorem put_keys_new {s : Wr} {k x : Int} {g : Bool} (h : k ∉ s.keys) : (s.put k x g).keys = s.keys ++ [k] := by unfold Wr.put; rw [if_neg (fun e => h (hasK_iff.1 e))]
theorem rows_new {s : Wr} {k x : Int} {g : Bool} (h : k ∉ s.keys) : (s.put k x g).rowsOf (s.keys ++ [k]) = s.rowsOf s.keys ++ [.int .i64 k, .int .i64 x, .bool g] := by
  rw [rowsOf_snoc]
  congr 1
  · unfold Wr.rowsOf
    have : ∀ ks : List Int, (∀ j ∈ ks, j ≠ k) → ks.flatMap (s.put k x g).row = ks.flatMap s.row := by
      intro ks
      induction ks with
      | nil => intro _; rfl
      | cons a ks ih =>
        intro h
        have ha := h a (by simp)
        simp only [List.flatMap_cons]
        rw [ih (fun j hj => h j (by simp [hj]))]
        simp only [Wr.row, Wr.put, updK, ha, if_false]
    exact this s.keys (fun j hj e => h (e ▸ hj))
  · simp [Wr.row, Wr.put, updK]

def prKinds : List IntKind := [.i64, .i64]
theorem plain_pair {H : Type} {enc : TypeId × Value → H} {W : World} : Plain enc Try.prog W 0 (fun _ => true) true 31 prKinds := by
  have i1 : Plain enc Try.prog W 0 (fun _ => true) true 3 [.i64] := Plain.int Try.underlying3 (by kernel_rfl)
  refine Plain.struct Try.underlying31 (by kernel_rfl) ?_
  change FP enc Try.prog W 0 _ true 0 [_, _] ([.i64] ++ ([.i64] ++ []))
  exact FP.cons i1 rfl (FP.cons i1 rfl (FP.nil _))
theorem take_Pair {H : Type} {enc : TypeId × Value → H} {W : World} {a : Option Addr} {len cap : Nat} {d : DataW H} {p : List MemPlace} {ts : List TypeId} {ds : List (DataW H)} (j : Nat)
    (h : DataW.Trod enc Try.prog W 0 (fun _ => true) true 32 (.slice a len cap) d p) (hsz : (DataW.weightsEach Try.prog ts ds).all (· ≤ reachBytes) = true) (hj : ts[j]? = some 32) (hd : ds[j]? = some d) :
    ∃ rows : List (List Int), rows.length = len ∧ (Recs prKinds W a rows ∧ ∀ r ∈ rows, r.length = prKinds.length ∧ wfs prKinds r) ∧ len * 16 ≤ 140737488351232 ∧ len ≤ cap ∧ cap ≤ 9223372036854775807 :=
  take_recs j Try.underlying32 plain_pair (by decide) (by kernel_rfl) h hsz hj hd
def toPL (rows : List (List Int)) : PL := rows.map fun r => (r.getD 0 0, r.getD 1 0)
theorem pairs_of_recs {w : World} {a : Option Addr} {rows : List (List Int)} (h : Recs prKinds w a rows ∧ ∀ r ∈ rows, r.length = prKinds.length ∧ wfs prKinds r) : PairsIn w a (toPL rows) := by
  rcases h.1 with rfl | ⟨b, off, rfl, hc⟩
  · exact .inl rfl
  · refine .inr ⟨b, off, rfl, fun i hi => ?_⟩
    have hi' : i < rows.length := by simpa [toPL] using hi
    have hm : rows.getD i [] ∈ rows := by rw [List.getD_eq_getElem?_getD, List.getElem?_eq_getElem hi']; exact List.getElem_mem _
    obtain ⟨x, y, hr⟩ : ∃ x y, rows.getD i [] = [x, y] := by
      have := (h.2 _ hm).1
      match rows.getD i [], this with
      | [x, y], _ => exact ⟨x, y, rfl⟩
    have he : (toPL rows).getD i (0, 0) = (x, y) := by
      unfold toPL
      rw [List.getD_eq_getElem?_getD, List.getElem?_map, List.getElem?_eq_getElem hi']
      rw [List.getD_eq_getElem?_getD, List.getElem?_eq_getElem hi'] at hr
      simp at hr
      simp [hr]
    have q0 := hc i 0 hi' (by decide)
    have q1 := hc i 1 hi' (by decide)
    rw [hr] at q0 q1
    rw [he]
    exact ⟨q0, q1⟩
end Go.Proofs.Ytldfkcldfjfohaa

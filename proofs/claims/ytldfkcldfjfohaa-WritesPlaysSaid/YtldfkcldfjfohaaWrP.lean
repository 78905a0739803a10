/-
  What was written, laid over Pairs: plain Lean. No program is named here.
-/
namespace Go.Proofs.Ytldfkcldfjfohaa
set_option linter.unusedVariables false
set_option linter.unusedSimpArgs false

abbrev PL := List (Int × Int)
/-- Pairs that rise by their keys. -/
def Srt (l : PL) : Prop := l.Pairwise fun a b => a.1 < b.1
theorem Srt.tail {a : Int × Int} {l : PL} (h : Srt (a :: l)) : Srt l := (List.pairwise_cons.1 h).2
theorem Srt.head {a : Int × Int} {l : PL} (h : Srt (a :: l)) : ∀ b ∈ l, a.1 < b.1 := (List.pairwise_cons.1 h).1
/-- Two rising rows of the same Pairs are one. -/
theorem Srt.ext : ∀ {a b : PL}, Srt a → Srt b → (∀ p, p ∈ a ↔ p ∈ b) → a = b := by
  intro a
  induction a with
  | nil =>
    intro b _ _ h
    cases b with
    | nil => rfl
    | cons y b => exact absurd ((h y).2 (by simp)) (by simp)
  | cons x a ih =>
    intro b ha hb h
    cases b with
    | nil => exact absurd ((h x).1 (by simp)) (by simp)
    | cons y b =>
      have hxy : x = y := by
        rcases List.mem_cons.1 ((h x).1 (by simp)) with e | hx
        · exact e
        · rcases List.mem_cons.1 ((h y).2 (by simp)) with e | hy
          · exact e.symm
          · have h1 := hb.head x hx
            have h2 := ha.head y hy
            omega
      subst hxy
      congr 1
      refine ih ha.tail hb.tail (fun p => ?_)
      constructor
      · intro hp
        rcases List.mem_cons.1 ((h p).1 (by simp [hp])) with e | hp'
        · subst e; have := ha.head p hp; omega
        · exact hp'
      · intro hp
        rcases List.mem_cons.1 ((h p).2 (by simp [hp])) with e | hp'
        · subst e; have := hb.head p hp; omega
        · exact hp'
theorem Srt.filter {l : PL} (h : Srt l) (f : Int × Int → Bool) : Srt (l.filter f) := h.sublist (List.filter_sublist)
/-- A key has one Pair. -/
theorem Srt.one {l : PL} (h : Srt l) {p q : Int × Int} (hp : p ∈ l) (hq : q ∈ l) (e : p.1 = q.1) : p = q := by
  induction l with
  | nil => cases hp
  | cons a l ih =>
    rcases List.mem_cons.1 hp with rfl | hp'
    · rcases List.mem_cons.1 hq with rfl | hq'
      · rfl
      · have := h.head q hq'; omega
    · rcases List.mem_cons.1 hq with rfl | hq'
      · have := h.head p hp'; omega
      · exact ih h.tail hp' hq'

/-- What was written: the keys in the order of their first writes, and of each what was written last. -/
structure Wr where
  keys : List Int
  val : Int → Int
  gone : Int → Bool
def hasK (l : List Int) (k : Int) : Bool := l.any fun x => decide (x = k)
theorem hasK_iff {l : List Int} {k : Int} : hasK l k = true ↔ k ∈ l := by unfold hasK; simp
def Wr.new : Wr := ⟨[], fun _ => 0, fun _ => false⟩
def updK {α : Type} (f : Int → α) (k : Int) (x : α) : Int → α := fun j => if j = k then x else f j
def Wr.put (s : Wr) (k x : Int) (g : Bool) : Wr := ⟨if hasK s.keys k then s.keys else s.keys ++ [k], updK s.val k x, updK s.gone k g⟩
def wrOkB (k x : Int) : Bool := decide (0 ≤ k) && decide (k ≤ 63) && decide (0 ≤ x) && decide (x ≤ 65535)
/-- A write as it is called. -/
def Wr.write (s : Wr) (k x : Int) (g : Bool) : Wr := if wrOkB k x then s.put k x g else s
structure WOk (s : Wr) : Prop where
  nodup : s.keys.Nodup
  key : ∀ k ∈ s.keys, 0 ≤ k ∧ k ≤ 63
theorem WOk.new : WOk Wr.new := ⟨List.nodup_nil, fun k hk => by cases hk⟩
theorem WOk.put {s : Wr} (h : WOk s) {k : Int} (hk : 0 ≤ k ∧ k ≤ 63) (x : Int) (g : Bool) : WOk (s.put k x g) := by
  unfold Wr.put
  by_cases e : hasK s.keys k = true
  · simp only [e, if_true]; exact ⟨h.nodup, h.key⟩
  · simp only [e, Bool.false_eq_true, if_false]
    refine ⟨?_, fun j hj => ?_⟩
    · rw [List.nodup_append]
      refine ⟨h.nodup, by simp, fun a ha b hb => ?_⟩
      simp at hb
      subst hb
      intro e2; subst e2
      exact e (hasK_iff.2 ha)
    · rcases List.mem_append.1 hj with hj | hj
      · exact h.key j hj
      · simp at hj; subst hj; exact hk
theorem WOk.write {s : Wr} (h : WOk s) (k x : Int) (g : Bool) : WOk (s.write k x g) := by
  unfold Wr.write
  split
  · rename_i e
    simp [wrOkB] at e
    exact h.put ⟨by omega, by omega⟩ x g
  · exact h
theorem WOk.few {s : Wr} (h : WOk s) : s.keys.length ≤ 64 := by
  have key : ∀ (n : Nat) (l : List Int), l.Nodup → (∀ k ∈ l, 0 ≤ k ∧ k < (n : Int)) → l.length ≤ n := by
    intro n
    induction n with
    | zero =>
      intro l _ hk
      cases l with
      | nil => simp
      | cons a l => have := hk a (by simp); omega
    | succ n ih =>
      intro l hn hk
      have h1 := ih (l.filter fun x => decide (x ≠ (n : Int))) (hn.sublist List.filter_sublist) (fun k hkm => by
        have hm := List.mem_filter.1 hkm
        have := hk k hm.1
        have h2 := hm.2
        simp at h2
        omega)
      have h2 : l.length ≤ (l.filter fun x => decide (x ≠ (n : Int))).length + 1 := by
        clear h1 hk ih
        induction l with
        | nil => simp
        | cons a l ih =>
          have hn' := List.nodup_cons.1 hn
          rw [List.filter_cons]
          by_cases e : a = (n : Int)
          · subst e
            simp only [ne_eq, not_true_eq_false, decide_false, Bool.false_eq_true, if_false]
            have : l.filter (fun x => decide (x ≠ (n : Int))) = l := by
              rw [List.filter_eq_self]
              intro x hx
              simp only [ne_eq, decide_eq_true_eq]
              intro e2; subst e2; exact hn'.1 hx
            rw [this]; simp
          · have := ih hn'.2
            simp [e]
            simp at this
            omega
      omega
  exact key 64 s.keys h.nodup (fun k hk => by have := h.key k hk; omega)
theorem put_mem {s : Wr} {k x : Int} {g : Bool} {j : Int} : j ∈ (s.put k x g).keys ↔ j ∈ s.keys ∨ j = k := by
  unfold Wr.put
  by_cases e : hasK s.keys k = true
  · simp only [e, if_true]
    exact ⟨.inl, fun h => h.elim id (fun h => by subst h; exact hasK_iff.1 e)⟩
  · simp only [e, Bool.false_eq_true, if_false]
    simp
/-- Is a key of a range, and written? -/
def Wr.mine (s : Wr) (lo hi k : Int) : Bool := decide (lo ≤ k) && decide (k ≤ hi) && hasK s.keys k
def Wr.adds (s : Wr) (lo hi : Int) : PL := s.keys.filterMap fun k => if s.mine lo hi k && !s.gone k then some (k, s.val k) else none
def Wr.pre (s : Wr) (l : PL) (lo hi : Int) : PL := (l.filter fun p => !s.mine lo hi p.1) ++ s.adds lo hi
theorem mem_adds {s : Wr} {lo hi : Int} {p : Int × Int} : p ∈ s.adds lo hi ↔ s.mine lo hi p.1 = true ∧ s.gone p.1 = false ∧ p.2 = s.val p.1 := by
  unfold Wr.adds
  rw [List.mem_filterMap]
  constructor
  · rintro ⟨k, hk, h⟩
    split at h
    · rename_i e
      injection h with h
      subst h
      rw [Bool.and_eq_true] at e
      exact ⟨e.1, by simpa using e.2, rfl⟩
    · cases h
  · rintro ⟨h1, h2, h3⟩
    refine ⟨p.1, ?_, ?_⟩
    · unfold Wr.mine at h1
      rw [Bool.and_eq_true] at h1
      exact hasK_iff.1 h1.2
    · rw [h1, h2]; simp only [Bool.not_false, Bool.and_true, if_true]
      rw [← h3]
/-- A row is what was written laid over others. -/
structure IsOver (s : Wr) (l : PL) (lo hi : Int) (o : PL) : Prop where
  srt : Srt o
  mem : ∀ p, p ∈ o ↔ (p ∈ l ∧ s.mine lo hi p.1 = false) ∨ (s.mine lo hi p.1 = true ∧ s.gone p.1 = false ∧ p.2 = s.val p.1)
theorem IsOver.uniq {s : Wr} {l : PL} {lo hi : Int} {o o' : PL} (h : IsOver s l lo hi o) (h' : IsOver s l lo hi o') : o = o' := h.srt.ext h'.srt (fun p => by rw [h.mem, h'.mem])
theorem mem_pre {s : Wr} {l : PL} {lo hi : Int} {p : Int × Int} : p ∈ s.pre l lo hi ↔ (p ∈ l ∧ s.mine lo hi p.1 = false) ∨ (s.mine lo hi p.1 = true ∧ s.gone p.1 = false ∧ p.2 = s.val p.1) := by
  unfold Wr.pre
  rw [List.mem_append, mem_adds, List.mem_filter]
  simp
/-- The keys of what is sorted are unlike. -/
theorem pre_keys {s : Wr} (hs : WOk s) {l : PL} (hl : Srt l) (lo hi : Int) : (s.pre l lo hi).Pairwise fun a b => a.1 ≠ b.1 := by
  unfold Wr.pre
  rw [List.pairwise_append]
  refine ⟨?_, ?_, fun a ha b hb => ?_⟩
  · exact (hl.filter _).imp (fun h => by omega)
  · unfold Wr.adds
    rw [List.pairwise_filterMap]
    refine hs.nodup.imp ?_
    intro a b hab x hx y hy
    split at hx
    · split at hy
      · injection hx with hx; injection hy with hy
        subst hx hy; exact hab
      · cases hy
    · cases hx
  · have h1 := (List.mem_filter.1 ha).2
    have h2 := (mem_adds.1 hb).1
    intro e
    rw [e, h2] at h1
    cases h1
theorem pre_len {s : Wr} (hs : WOk s) (l : PL) (lo hi : Int) : (s.pre l lo hi).length ≤ l.length + 64 := by
  unfold Wr.pre Wr.adds
  rw [List.length_append]
  have h1 := List.length_filter_le (fun p : Int × Int => !s.mine lo hi p.1) l
  have h2 := List.length_filterMap_le (fun k => if s.mine lo hi k && !s.gone k then some (k, s.val k) else none) s.keys
  have := hs.few
  omega
/-- A sorted row of the same Pairs. -/
theorem isOver_of {s : Wr} (hs : WOk s) {l : PL} (hl : Srt l) {lo hi : Int} {o : PL} (hp : o.Perm (s.pre l lo hi)) (ho : o.Pairwise fun a b => ¬ b.1 < a.1) : IsOver s l lo hi o := by
  refine ⟨?_, fun p => by rw [hp.mem_iff, mem_pre]⟩
  have hne : o.Pairwise fun a b => a.1 ≠ b.1 := by
    refine (hp.symm.pairwise (pre_keys hs hl lo hi) ?_)
    intro a b h e
    exact h e.symm
  unfold Srt
  have := ho.and hne
  exact this.imp (fun h => by have h1 := h.1; have h2 := h.2; omega)
theorem mine_iff {s : Wr} {lo hi k : Int} : s.mine lo hi k = true ↔ lo ≤ k ∧ k ≤ hi ∧ k ∈ s.keys := by
  unfold Wr.mine
  rw [Bool.and_eq_true, Bool.and_eq_true, hasK_iff]
  simp only [decide_eq_true_eq]
  exact and_assoc
theorem mine_false {s : Wr} {lo hi k : Int} : s.mine lo hi k = false ↔ ¬ (lo ≤ k ∧ k ≤ hi ∧ k ∈ s.keys) := by
  rw [← mine_iff]; cases s.mine lo hi k <;> simp
/-- Laid over two ranges that are the whole of it. -/
theorem over_over {s : Wr} {l x o z : PL} {a b c d lo hi : Int} (h1 : IsOver s l a b x) (h2 : IsOver s x c d o) (hz : IsOver s l lo hi z)
    (hk : ∀ k, k ∈ s.keys → (lo ≤ k ∧ k ≤ hi ↔ (a ≤ k ∧ k ≤ b) ∨ (c ≤ k ∧ k ≤ d))) : o = z := by
  refine h2.srt.ext hz.srt (fun p => ?_)
  rw [h2.mem, h1.mem, hz.mem]
  simp only [mine_iff, mine_false]
  by_cases hm : p.1 ∈ s.keys
  · have := hk p.1 hm
    by_cases e1 : a ≤ p.1 ∧ p.1 ≤ b <;> by_cases e2 : c ≤ p.1 ∧ p.1 ≤ d <;> by_cases e3 : lo ≤ p.1 ∧ p.1 ≤ hi <;> simp only [hm, and_true, true_and, e1, e2, e3] <;> first | (exfalso; omega) | (simp_all <;> omega) | skip
  · simp [hm]
/-- An empty range, or nothing written, changes nothing. -/
theorem over_none {s : Wr} {l o : PL} {lo hi : Int} (h : IsOver s l lo hi o) (hl : Srt l) (hk : ∀ k, k ∈ s.keys → ¬ (lo ≤ k ∧ k ≤ hi)) : o = l := by
  refine h.srt.ext hl (fun p => ?_)
  rw [h.mem]
  simp only [mine_iff, mine_false]
  have := hk p.1
  by_cases hm : p.1 ∈ s.keys
  · have := this hm
    constructor
    · rintro (⟨h1, _⟩ | ⟨⟨h1, h2, _⟩, _⟩)
      · exact h1
      · exact absurd ⟨h1, h2⟩ this
    · intro h1; exact .inl ⟨h1, fun h => this ⟨h.1, h.2.1⟩⟩
  · simp [hm]
theorem over_congr {s t : Wr} {l o p : PL} {lo hi : Int} (h : IsOver s l lo hi o) (h' : IsOver t l lo hi p) (hk : ∀ k, k ∈ s.keys ↔ k ∈ t.keys) (hv : ∀ k, k ∈ s.keys → s.val k = t.val k ∧ s.gone k = t.gone k) : o = p := by
  refine h.srt.ext h'.srt (fun x => ?_)
  rw [h.mem, h'.mem]
  simp only [mine_iff, mine_false, hk]
  by_cases hm : x.1 ∈ t.keys
  · obtain ⟨e1, e2⟩ := hv x.1 ((hk _).2 hm)
    rw [e1, e2]
  · simp [hm]
end Go.Proofs.Ytldfkcldfjfohaa

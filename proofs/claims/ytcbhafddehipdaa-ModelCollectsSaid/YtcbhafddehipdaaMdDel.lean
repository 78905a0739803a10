/-
  model.Model: slices.DeleteFunc over pointers to versions.
-/
import Derived.Test.YtcbhafddehipdaaMdGone
import Derived.Lib.SliceRun
namespace Go.Proofs.Ytcbhafddehipdaa
open Go.RowKit
set_option linter.unusedVariables false
set_option linter.unusedSimpArgs false

def keptTo (p : Nat → Bool) (l : List Nat) (j : Nat) : List Nat := (l.take j).filter fun i => !p i
theorem keptTo_drop {p : Nat → Bool} {l : List Nat} {j : Nat} (hj : j < l.length) (h : p (l.getD j 0) = true) : keptTo p l (j + 1) = keptTo p l j := by
  have e : l[j] = l.getD j 0 := by simp [hj]
  unfold keptTo
  rw [List.take_succ_eq_append_getElem hj, List.filter_append, e]
  simp only [List.filter_cons, h, List.filter_nil]
  simp
theorem keptTo_keep {p : Nat → Bool} {l : List Nat} {j : Nat} (hj : j < l.length) (h : p (l.getD j 0) = false) : keptTo p l (j + 1) = keptTo p l j ++ [l.getD j 0] := by
  have e : l[j] = l.getD j 0 := by simp [hj]
  unfold keptTo
  rw [List.take_succ_eq_append_getElem hj, List.filter_append, e]
  simp only [List.filter_cons, h, List.filter_nil]
  simp
theorem keptTo_none {p : Nat → Bool} {l : List Nat} : ∀ {j : Nat}, j ≤ l.length → (∀ k, k < j → p (l.getD k 0) = false) → keptTo p l j = l.take j
  | 0, _, _ => by simp [keptTo]
  | j + 1, hj, h => by
    rw [keptTo_keep (by omega) (h j (by omega)), keptTo_none (by omega) (fun k hk => h k (by omega)), List.take_succ_eq_append_getElem (by omega)]
    congr 2
    simp [show j < l.length by omega]
theorem keptTo_all (p : Nat → Bool) (l : List Nat) : keptTo p l l.length = l.filter fun i => !p i := by simp [keptTo]

/-- The row while DeleteFunc turns it: i kept, j looked at. -/
structure DelI (w wr : World) (g N : Nat) (va : Nat → Nat) (p : Nat → Bool) (l : List Nat) (i j : Nat) : Prop where
  len : (keptTo p l j).length = i
  lt : i < j
  o : Only (fun b => b = g) w wr
  row : ∃ cs, Blk wr g 115 cs ∧ cs.size = N ∧ (∀ k, k < i → cs[k]? = some (.pointer (some ⟨va ((keptTo p l j).getD k 0), 0, none⟩))) ∧ ∀ k, j ≤ k → k < l.length → cs[k]? = some (.pointer (some ⟨va (l.getD k 0), 0, none⟩))
theorem DelI.start {w : World} {g N n : Nat} {va : Nat → Nat} {p : Nat → Bool} {l : List Nat} {cs : Array Value} (hb : Blk w g 115 cs) (hN : cs.size = N) (hrow : ∀ k, k < l.length → cs[k]? = some (.pointer (some ⟨va (l.getD k 0), 0, none⟩))) {k : Nat} (hk : k < l.length) (hp : p (l.getD k 0) = true) (hn : ∀ j, j < k → p (l.getD j 0) = false) :
    DelI w (w.drewN n) g N va p l k (k + 1) := by
  have e : keptTo p l (k + 1) = l.take k := by rw [keptTo_drop hk hp, keptTo_none (by omega) hn]
  refine ⟨by rw [e]; simp; omega, by omega, (Only.refl _ w).drewN n, cs, hb, hN, fun q hq => ?_, fun q _ hq => hrow q hq⟩
  rw [hrow q (by omega), e]
  simp [List.getD_eq_getElem?_getD, List.getElem?_take, hq]
theorem DelI.drewN {w wr : World} {g N : Nat} {va : Nat → Nat} {p : Nat → Bool} {l : List Nat} {i j : Nat} (h : DelI w wr g N va p l i j) (n : Nat) : DelI w (wr.drewN n) g N va p l i j := ⟨h.len, h.lt, h.o.drewN n, h.row⟩
theorem DelI.skip {w wr : World} {g N : Nat} {va : Nat → Nat} {p : Nat → Bool} {l : List Nat} {i j : Nat} (h : DelI w wr g N va p l i j) (hj : j < l.length) (hp : p (l.getD j 0) = true) : DelI w wr g N va p l i (j + 1) := by
  obtain ⟨cs, h1, h2, h3, h4⟩ := h.row
  exact ⟨by rw [keptTo_drop hj hp]; exact h.len, by have := h.lt; omega, h.o, cs, h1, h2, by rw [keptTo_drop hj hp]; exact h3, fun k hk hk2 => h4 k (by omega) hk2⟩
theorem DelI.keep {w wr : World} {g N : Nat} {va : Nat → Nat} {p : Nat → Bool} {l : List Nat} {i j : Nat} (h : DelI w wr g N va p l i j) (hj : j < l.length) (hN : l.length ≤ N) (hp : p (l.getD j 0) = false) :
    DelI w (wr.setCell ⟨g, i, none⟩ (.pointer (some ⟨va (l.getD j 0), 0, none⟩))) g N va p l (i + 1) (j + 1) := by
  obtain ⟨cs, h1, h2, h3, h4⟩ := h.row
  have hlt := h.lt
  have hlen := h.len
  refine ⟨by rw [keptTo_keep hj hp]; simp [hlen], by omega, h.o.trans (Only.set1 wr g i _), _, h1.set i _, by simpa using h2, fun k hk => ?_, fun k hk hk2 => ?_⟩
  · rw [keptTo_keep hj hp]
    by_cases e : k = i
    · subst e
      rw [Array.getElem?_setIfInBounds_self_of_lt (by omega)]
      simp [List.getD_eq_getElem?_getD, ← hlen]
    · rw [Array.getElem?_setIfInBounds_ne (fun e' => e e'.symm), h3 k (by omega)]
      simp [List.getD_eq_getElem?_getD, List.getElem?_append_left (show k < (keptTo p l j).length by omega)]
  · rw [Array.getElem?_setIfInBounds_ne (by omega)]
    exact h4 k (by omega) hk2
theorem DelI.cellJ {w wr : World} {g N : Nat} {va : Nat → Nat} {p : Nat → Bool} {l : List Nat} {i j : Nat} (h : DelI w wr g N va p l i j) (hj : j < l.length) (hN : l.length ≤ N) :
    wr.cell? ⟨g, j, none⟩ = some (.pointer (some ⟨va (l.getD j 0), 0, none⟩)) ∧ (∃ v, wr.cell? ⟨g, i, none⟩ = some v) ∧ ∀ k, wr.frozen? ⟨g, k, none⟩ = false := by
  obtain ⟨cs, h1, h2, h3, h4⟩ := h.row
  have := h.lt
  refine ⟨by rw [h1.cell]; exact h4 j (by omega) hj, ⟨cs[i]'(by omega), ?_⟩, fun k => h1.free k⟩
  rw [h1.cell]
  simp
theorem Blk.setCells {b : Nat} {t : TypeId} : ∀ (vs : List Value) (o : Nat) {w : World} {cs : Array Value}, Blk w b t cs → ∃ cs' : Array Value, Blk (w.setCells b o vs) b t cs' ∧ cs'.size = cs.size ∧ (∀ k, k < o → cs'[k]? = cs[k]?) ∧ Only (fun c => c = b) w (w.setCells b o vs)
  | [], o, w, cs, h => ⟨cs, h, rfl, fun _ _ => rfl, Only.refl _ w⟩
  | v :: r, o, w, cs, h => by
    obtain ⟨cs', h1, h2, h3, h4⟩ := Blk.setCells r (o + 1) (h.set o v)
    refine ⟨cs', h1, by simpa using h2, fun k hk => ?_, (Only.set1 w b o v).trans h4⟩
    rw [h3 k (by omega), Array.getElem?_setIfInBounds_ne (by omega)]
/-- What DeleteFunc leaves of the row. -/
def DelOut (w w' : World) (g N : Nat) (va : Nat → Nat) (l : List Nat) : Prop :=
  ∃ cs, Blk w' g 115 cs ∧ cs.size = N ∧ (∀ k, k < l.length → cs[k]? = some (.pointer (some ⟨va (l.getD k 0), 0, none⟩))) ∧ Only (fun b => b = g) w w'
theorem DelI.fin {w wr : World} {g N : Nat} {va : Nat → Nat} {p : Nat → Bool} {l : List Nat} {i : Nat} (h : DelI w wr g N va p l i l.length) (vs : List Value) :
    DelOut w (wr.setCells g i vs) g N va (l.filter fun i => !p i) ∧ (l.filter fun i => !p i).length = i := by
  obtain ⟨cs, h1, h2, h3, h4⟩ := h.row
  obtain ⟨cs', k1, k2, k3, k4⟩ := Blk.setCells vs i h1
  have hl := h.len
  rw [keptTo_all] at hl h3
  refine ⟨⟨cs', k1, by omega, fun k hk => ?_, h.o.trans k4⟩, hl⟩
  rw [k3 k (by omega)]
  exact h3 k (by omega)
theorem zero_ptr (w : World) : (zeroValue 115).run Try.prog w = .ok (.pointer none) w := by kernel_rfl
theorem filter_none {p : Nat → Bool} {l : List Nat} (h : ∀ k, k < l.length → p (l.getD k 0) = false) : (l.filter fun i => !p i) = l := by
  rw [← keptTo_all, keptTo_none (Nat.le_refl _) h, List.take_length]

set_option maxRecDepth 100000 in
set_option maxHeartbeats 8000000 in
theorem del_vers (w : World) (g c N bx : Nat) (va : Nat → Nat) (l : List Nat) (p : Nat → Bool) (cs : Array Value) (hlen : l.length ≤ 256) (hlc : l.length ≤ c) (hc : c ≤ 9223372036854775807) (hb : Blk w g 115 cs) (hN : cs.size = N) (hlN : l.length ≤ N) (hrow : ∀ k, k < l.length → cs[k]? = some (.pointer (some ⟨va (l.getD k 0), 0, none⟩))) (ha : Asks w g bx va l p) :
    Calls Try.prog 63 #[.slice (some ⟨g, 0, none⟩) l.length c, .func (.func 64) #[] #[.pointer (some ⟨bx, 0, none⟩)]] w fun e w' => e = .returned (.slice (some ⟨g, 0, none⟩) (l.filter fun i => !p i).length c) ∧ DelOut w w' g N va (l.filter fun i => !p i) := by
  have CI := idx_vers w g c bx va l p hlen (fun k hk => by rw [hb.cell]; exact hrow k hk) ha
  have HA := Lib.hid ha
  have HB := Lib.hid hb
  have HR := Lib.hid hrow
  clear ha hb hrow
  go_enter Try.func63, Try.ntmps63
  go_wp2_with fail
  refine CI.mono ?_
  rintro e w1 ⟨r, rfl, hh, n1, rfl⟩
  clear CI
  rcases hh with ⟨rfl, hn⟩ | ⟨k0, hk0, rfl, hp, hn⟩
  · have R := Lib.hid (show (l.filter fun i => !p i) = l ∧ DelOut w (w.drewN n1) g N va l from ⟨filter_none hn, cs, HB.out, hN, HR.out, (Only.refl _ w).drewN n1⟩)
    clear hn HA HB HR
    go_wp2_with fail
    go_ret
    rw [R.out.1]
    exact ⟨rfl, R.out.2⟩
  · have hD := Lib.hid (DelI.start (n := n1) HB.out hN HR.out hk0 hp hn)
    have hne : ((k0 : Int) == -1) = false := beq_eq_false_iff_ne.2 (by omega)
    have hk6 : k0 < 256 := by omega
    clear hp hn HB HR
    go_wp2_with fail
    go_loopw [5, 6] (fun s5 s6 wr => ∃ (i j : Nat), s5 = .int .i64 i ∧ s6 = .int .i64 j ∧ j ≤ l.length ∧ i < j ∧ Hid (DelI w wr g N va p l i j)) (fun _ s6 _ => l.length - (intOf s6).toNat)
    case atStart => exact ⟨k0, k0 + 1, rfl, by go_num, by omega, by omega, hD⟩
    case round =>
      obtain ⟨i, j, rfl, rfl, hj, hij, HD⟩ := hrel
      by_cases hlt : j < l.length
      · obtain ⟨cj, ⟨old, ci⟩, cf⟩ := HD.out.cellJ hlt hlN
        have fi := cf i
        have hmem : l.getD j 0 ∈ l := by rw [List.getD_eq_getElem?_getD, List.getElem?_eq_getElem hlt]; exact List.getElem_mem hlt
        have C := HA.out wr HD.out.o _ hmem
        have HS := Lib.hid (fun (h : p (l.getD j 0) = true) n => (HD.out.drewN n).skip hlt h)
        have HK := Lib.hid (fun (h : p (l.getD j 0) = false) n => (HD.out.drewN n).keep hlt hlN h)
        clear hD cf hmem
        cases hp : p (l.getD j 0) with
        | true =>
          rw [hp] at C
          have R := Lib.hid (HS.out hp)
          clear HS HK hp
          generalize va (l.getD j 0) = vq at *
          go_wp2_with fail
          refine C.mono ?_
          rintro e w2 ⟨rfl, n2, rfl⟩
          go_wp2_with fail
          go_roundw
          case rel => exact ⟨i, j + 1, rfl, by go_num, by omega, by omega, Lib.hid (R.out n2)⟩
          case measure => simp [intOf]; omega
        | false =>
          rw [hp] at C
          have R := Lib.hid (HK.out hp)
          clear HS HK hp
          generalize va (l.getD j 0) = vq at *
          go_wp2_with fail
          refine C.mono ?_
          rintro e w2 ⟨rfl, n2, rfl⟩
          go_wp2_with fail
          go_roundw
          case rel => exact ⟨i + 1, j + 1, by go_num, by go_num, by omega, by omega, Lib.hid (R.out n2)⟩
          case measure => simp [intOf]; omega
      · obtain rfl : j = l.length := by omega
        have hcl : ∀ ty, (Builtin.clear_ #[93] ty #[.slice (some ⟨g, 0 + i, none⟩) (l.length - i) (c - i)]).run Try.prog wr = .ok (.tuple #[]) (wr.setCells g (0 + i) (List.replicate (l.length - i) (.pointer none))) := fun ty => by
          obtain ⟨cs1, b1, b2, -, -⟩ := HD.out.row
          refine Lib.run_clear_slice wr _ 115 ty _ Try.underlying93 zero_ptr rfl rfl g (0 + i) _ _ (by omega) (fun q hq => ?_) (fun q hq => b1.free _)
          rw [b1.cell]
          simp
          omega
        have R := Lib.hid (HD.out.fin (List.replicate (l.length - i) (.pointer none)))
        rw [Nat.zero_add] at hcl
        clear hD HD HA
        go_wp2_with fail
        go_ret
        obtain ⟨R1, R2⟩ := R.out
        rw [R2]
        exact ⟨rfl, R1⟩
end Go.Proofs.Ytcbhafddehipdaa

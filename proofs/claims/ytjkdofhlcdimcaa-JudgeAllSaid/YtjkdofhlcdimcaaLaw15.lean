/-
  The walk of JudgeLevels.
-/
import Derived.Test.YtjkdofhlcdimcaaAll
import Derived.Test.YtjkdofhlcdimcaaLaw13
import Derived.Test.YtjkdofhlcdimcaaBitFacts
namespace Go.Proofs.Ytjkdofhlcdimcaa
open Go.RowKit
set_option linter.unusedVariables false
set_option linter.unusedSimpArgs false

theorem all_good {l : Int} {keys : List Int} {lk : Nat → Int} {rs : List Rg} {nowf : Int → Int} {spanf : Int → Int → List Int} (h : ∀ k ∈ needK l keys lk, jkey l (lk k.toNat) (nowf k) = true) (h' : ∀ r ∈ needR l rs, jspan l r.ls (spanf r.lo r.hi) = true) : allRes l keys lk rs nowf spanf = (lvl l, -1) := by
  have e1 : (needK l keys lk).find? (badK l lk nowf) = none := by
    rw [List.find?_eq_none]; intro k hk; simp [badK, h k hk]
  have e2 : (needR l rs).find? (badR l spanf) = none := by
    rw [List.find?_eq_none]; intro r hr; simp [badR, h' r hr]
  unfold allRes
  rw [e1, e2]
  cases lvl l <;> rfl
theorem jkey_self (l x : Int) (h : lvl l = true) : jkey l x x = true := by
  have : l = 1 ∨ l = 2 ∨ l = 3 := by simp [lvl] at h; omega
  rcases this with rfl | rfl | rfl <;> simp [jkey]
theorem needK_lvl {l : Int} {keys : List Int} {lk : Nat → Int} {k : Int} (h : k ∈ needK l keys lk) : lvl l = true := by
  unfold needK at h
  split at h
  · subst_vars; rfl
  · split at h
    · subst_vars; rfl
    · simp at h
theorem needR_lvl {l : Int} {rs : List Rg} {r : Rg} (h : r ∈ needR l rs) : l = 3 := by
  unfold needR at h
  split at h
  · assumption
  · simp at h

set_option maxHeartbeats 1000000 in
theorem levels_fn (b : Nat) (x k : Int) (w : World) (hb : Blk w b 22 #[.int .u64 x]) :
    Calls Try.prog 31 #[.int .i64 k, .pointer (some ⟨b, 0, none⟩)] w fun e w' => e = .returned (.int .u64 x) ∧ w = w' := by
  have c0 : w.cell? ⟨b, 0, none⟩ = some (.int .u64 x) := by rw [hb.cell]; rfl
  go_enter Try.func31, Try.ntmps31
  go_wp2_with fail
  go_ret
  exact ⟨rfl, rfl⟩
theorem levels_now (b : Nat) (x : Int) (w : World) (hb : Blk w b 22 #[.int .u64 x]) : NowIs w (.func (.func 31) #[] #[.pointer (some ⟨b, 0, none⟩)]) (fun _ => x) := by
  refine .inr ⟨_, _, rfl, fun k w => by kernel_rfl, fun w' k o _ _ => ?_⟩
  have := levels_fn b x k w' (o.blk hb (fun hf => hf))
  rw [show (#[.int .i64 k] ++ #[.pointer (some ⟨b, 0, none⟩)] : Array Value) = #[.int .i64 k, .pointer (some ⟨b, 0, none⟩)] from rfl]
  refine this.mono ?_
  rintro e w1 ⟨rfl, rfl⟩
  exact ⟨rfl, Only0.refl _⟩
theorem nil_now (w : World) : NowIs w Value.nilFunc (fun _ => 0) := .inl ⟨rfl, fun _ => rfl⟩
theorem nil_span (w : World) : SpanIs w Value.nilFunc (fun _ _ => []) := .inl ⟨rfl, fun _ _ => rfl⟩

theorem levels_ways (l x : Int) : (l = 3) ∨ (l = 2 ∧ x = 0) ∨ (l = 2 ∧ ¬ x = 0) ∨ l = 1 ∨ l < 1 ∨ 3 < l := by omega

set_option maxRecDepth 100000 in
set_option maxHeartbeats 8000000 in
theorem judgeLevels_walk (l key x : Int) (w : World) (w0 : (Lit.int .i64 l).wf = true) (w1 : (Lit.int .i64 key).wf = true) (w2 : (Lit.int .u64 x).wf = true) :
    Calls Try.prog 9 #[.int .i64 l, .int .i64 key, .int .u64 x] w fun e w' => e = .returned (.bool true) ∧ Below w.heap.size w w' := by
  have x1 := i64_and63 key
  obtain ⟨p, hp, hp1⟩ : ∃ p : Nat, key % 64 = (p : Int) ∧ p < 64 := ⟨(key % 64).toNat, by omega, by omega⟩
  rw [hp] at x1
  clear hp w0 w1 w2
  have hB := Blk.new w 22 #[.int .u64 x]
  have o0 : Only0 w (w.alloc (.cells #[.int .u64 x] 22)) := (Only0.refl w).alloc _
  obtain ⟨W, hW⟩ : ∃ W, W = w.alloc (.cells #[.int .u64 x] 22) := ⟨_, rfl⟩
  have N1 := set_new W
  rw [← hW] at hB o0
  have hlt := hB.lt
  have hcb : W.cell? ⟨w.heap.size, 0, none⟩ = some (.int .u64 x) := by rw [hB.cell]; rfl
  have HB := Lib.hid hB
  have HO := Lib.hid o0
  rw [hW] at N1
  clear hB o0
  rcases levels_ways l x with rfl | ⟨rfl, hx⟩ | ⟨rfl, hx⟩ | rfl | hl | hl
  · go_enter Try.func9, Try.ntmps9
    go_wp2_with fail
    refine N1.mono ?_
    rintro e w3 ⟨rfl, h3, o3, -⟩
    rw [← hW] at h3 o3 ⊢
    have H3 := SW.new HO.out.below h3 o3
    have B3 := o3.blk HB.out (fun hf => hf)
    have hs1 := H3.set.under _ rfl
    clear h3 o3 N1
    generalize W.heap.size = s at *
    go_wp2_with fail
    refine (set_new w3).mono ?_
    rintro e w4 ⟨rfl, h4, o4, -⟩
    have Hz4 := SW.new H3.bel h4 o4
    have H4 := H3.only0 o4
    have B4 := o4.blk B3 (fun hf => hf)
    clear h4 o4 H3 B3
    generalize w3.heap.size = z at *
    have c4 : w4.cell? ⟨w.heap.size, 0, none⟩ = some (.int .u64 x) := B4.cell 0
    have A := set_add H4.set p hp1 x
    go_wp2_with fail
    refine A.mono ?_
    rintro e w5 ⟨rfl, P5, h5, o5, g5⟩
    have H5 := H4.step h5 o5
    have Hz5 : SW w w5 (fun b => b = z) z [] (fun _ => 0) [] := ⟨Hz4.set.only o5 (fun b hb e => by omega), H5.bel⟩
    have B5 := o5.blk B4 (fun e => by omega)
    rw [show addK [] (p : Int) = [(p : Int)] from rfl] at H5
    have hlk : addL [] (fun _ => 0) p x p = x := by simp [addL, lkSet]
    generalize addL [] (fun _ => 0) p x = lk at *
    clear h5 o5 g5 H4 Hz4 B4 A c4 hs1 hcb
    have A6 := all_any H5.set (3) (levels_now _ x w5 B5) (nil_span w5)
    rw [all_good (fun k hk => by
        obtain rfl : k = (p : Int) := by simpa using needK_mem hk
        rw [show ((p : Int)).toNat = p from rfl, hlk]; exact jkey_self _ _ (needK_lvl hk)) (fun r hr => by simp [needR] at hr), show lvl 3 = true from rfl] at A6
    have HLK := Lib.hid hlk
    clear hlk
    go_wp2_with fail
    refine A6.mono ?_
    rintro e w6 ⟨rfl, o6⟩
    have H6 := H5.only0 o6
    have Hz6 := Hz5.only0 o6
    have B6 := o6.blk B5 (fun hf => hf)
    clear A6 o6 H5 Hz5 B5
    have A7 := all_any Hz6.set (3) (nil_now w6) (nil_span w6)
    rw [all_good (fun k hk => by have := needK_mem hk; simp at this) (fun r hr => by simp [needR] at hr), show lvl 3 = true from rfl] at A7
    go_wp2_with fail
    refine A7.mono ?_
    rintro e w7 ⟨rfl, o7⟩
    have H7 := H6.only0 o7
    have B7 := o7.blk B6 (fun hf => hf)
    clear A7 o7 H6 Hz6 B6
    have hm : (needK (3) [(p : Int)] lk).length = 1 := by simp [needK]
    have hr : (needR (3) []).length = 0 := by simp [needR]
    go_wp2_with fail
    refine (needs_any H7.set (3)).mono ?_
    rintro e w8 ⟨⟨a, b, ss, rfl, -, -, -⟩, b8⟩
    rw [hm, hr]
    have H8 := H7.bel0 b8
    have B8 := (Below.only0 b8).blk B7 (fun hf => hf)
    have c8 : w8.cell? ⟨w.heap.size, 0, none⟩ = some (.int .u64 x) := B8.cell 0
    clear H7 B7 b8 B8 hm hr HLK
    go_wp2_with fail
    refine (awake15_any _).mono ?_
    rintro e w9 ⟨rfl, rfl⟩
    go_wp2_with fail
    go_ret
    exact ⟨rfl, H8.bel⟩
  · have hxb : (x != 0) = false := by simp [hx]
    have hx0 := Lib.hid hx
    clear hx
    go_enter Try.func9, Try.ntmps9
    go_wp2_with fail
    refine N1.mono ?_
    rintro e w3 ⟨rfl, h3, o3, -⟩
    rw [← hW] at h3 o3 ⊢
    have H3 := SW.new HO.out.below h3 o3
    have B3 := o3.blk HB.out (fun hf => hf)
    have hs1 := H3.set.under _ rfl
    clear h3 o3 N1
    generalize W.heap.size = s at *
    go_wp2_with fail
    refine (set_new w3).mono ?_
    rintro e w4 ⟨rfl, h4, o4, -⟩
    have Hz4 := SW.new H3.bel h4 o4
    have H4 := H3.only0 o4
    have B4 := o4.blk B3 (fun hf => hf)
    clear h4 o4 H3 B3
    generalize w3.heap.size = z at *
    have c4 : w4.cell? ⟨w.heap.size, 0, none⟩ = some (.int .u64 x) := B4.cell 0
    have A := set_add H4.set p hp1 x
    go_wp2_with fail
    refine A.mono ?_
    rintro e w5 ⟨rfl, P5, h5, o5, g5⟩
    have H5 := H4.step h5 o5
    have Hz5 : SW w w5 (fun b => b = z) z [] (fun _ => 0) [] := ⟨Hz4.set.only o5 (fun b hb e => by omega), H5.bel⟩
    have B5 := o5.blk B4 (fun e => by omega)
    rw [show addK [] (p : Int) = [(p : Int)] from rfl] at H5
    have hlk : addL [] (fun _ => 0) p x p = x := by simp [addL, lkSet]
    generalize addL [] (fun _ => 0) p x = lk at *
    clear h5 o5 g5 H4 Hz4 B4 A c4 hs1 hcb
    have A6 := all_any H5.set (2) (levels_now _ x w5 B5) (nil_span w5)
    rw [all_good (fun k hk => by
        obtain rfl : k = (p : Int) := by simpa using needK_mem hk
        rw [show ((p : Int)).toNat = p from rfl, hlk]; exact jkey_self _ _ (needK_lvl hk)) (fun r hr => by simp [needR] at hr), show lvl 2 = true from rfl] at A6
    have HLK := Lib.hid hlk
    clear hlk
    go_wp2_with fail
    refine A6.mono ?_
    rintro e w6 ⟨rfl, o6⟩
    have H6 := H5.only0 o6
    have Hz6 := Hz5.only0 o6
    have B6 := o6.blk B5 (fun hf => hf)
    clear A6 o6 H5 Hz5 B5
    have A7 := all_any Hz6.set (2) (nil_now w6) (nil_span w6)
    rw [all_good (fun k hk => by have := needK_mem hk; simp at this) (fun r hr => by simp [needR] at hr), show lvl 2 = true from rfl] at A7
    go_wp2_with fail
    refine A7.mono ?_
    rintro e w7 ⟨rfl, o7⟩
    have H7 := H6.only0 o7
    have B7 := o7.blk B6 (fun hf => hf)
    clear A7 o7 H6 Hz6 B6
    have hm : (needK (2) [(p : Int)] lk).length = 0 := by simp [needK, found, HLK.out, hx0.out]
    have hr : (needR (2) []).length = 0 := by simp [needR]
    go_wp2_with fail
    refine (needs_any H7.set (2)).mono ?_
    rintro e w8 ⟨⟨a, b, ss, rfl, -, -, -⟩, b8⟩
    rw [hm, hr]
    have H8 := H7.bel0 b8
    have B8 := (Below.only0 b8).blk B7 (fun hf => hf)
    have c8 : w8.cell? ⟨w.heap.size, 0, none⟩ = some (.int .u64 x) := B8.cell 0
    clear H7 B7 b8 B8 hm hr HLK
    go_wp2_with fail
    refine (awake15_any _).mono ?_
    rintro e w9 ⟨rfl, rfl⟩
    go_wp2_with fail
    go_ret
    exact ⟨rfl, H8.bel⟩
  · have hxb : (x != 0) = true := by simpa using hx
    have hx0 := Lib.hid hx
    clear hx
    go_enter Try.func9, Try.ntmps9
    go_wp2_with fail
    refine N1.mono ?_
    rintro e w3 ⟨rfl, h3, o3, -⟩
    rw [← hW] at h3 o3 ⊢
    have H3 := SW.new HO.out.below h3 o3
    have B3 := o3.blk HB.out (fun hf => hf)
    have hs1 := H3.set.under _ rfl
    clear h3 o3 N1
    generalize W.heap.size = s at *
    go_wp2_with fail
    refine (set_new w3).mono ?_
    rintro e w4 ⟨rfl, h4, o4, -⟩
    have Hz4 := SW.new H3.bel h4 o4
    have H4 := H3.only0 o4
    have B4 := o4.blk B3 (fun hf => hf)
    clear h4 o4 H3 B3
    generalize w3.heap.size = z at *
    have c4 : w4.cell? ⟨w.heap.size, 0, none⟩ = some (.int .u64 x) := B4.cell 0
    have A := set_add H4.set p hp1 x
    go_wp2_with fail
    refine A.mono ?_
    rintro e w5 ⟨rfl, P5, h5, o5, g5⟩
    have H5 := H4.step h5 o5
    have Hz5 : SW w w5 (fun b => b = z) z [] (fun _ => 0) [] := ⟨Hz4.set.only o5 (fun b hb e => by omega), H5.bel⟩
    have B5 := o5.blk B4 (fun e => by omega)
    rw [show addK [] (p : Int) = [(p : Int)] from rfl] at H5
    have hlk : addL [] (fun _ => 0) p x p = x := by simp [addL, lkSet]
    generalize addL [] (fun _ => 0) p x = lk at *
    clear h5 o5 g5 H4 Hz4 B4 A c4 hs1 hcb
    have A6 := all_any H5.set (2) (levels_now _ x w5 B5) (nil_span w5)
    rw [all_good (fun k hk => by
        obtain rfl : k = (p : Int) := by simpa using needK_mem hk
        rw [show ((p : Int)).toNat = p from rfl, hlk]; exact jkey_self _ _ (needK_lvl hk)) (fun r hr => by simp [needR] at hr), show lvl 2 = true from rfl] at A6
    have HLK := Lib.hid hlk
    clear hlk
    go_wp2_with fail
    refine A6.mono ?_
    rintro e w6 ⟨rfl, o6⟩
    have H6 := H5.only0 o6
    have Hz6 := Hz5.only0 o6
    have B6 := o6.blk B5 (fun hf => hf)
    clear A6 o6 H5 Hz5 B5
    have A7 := all_any Hz6.set (2) (nil_now w6) (nil_span w6)
    rw [all_good (fun k hk => by have := needK_mem hk; simp at this) (fun r hr => by simp [needR] at hr), show lvl 2 = true from rfl] at A7
    go_wp2_with fail
    refine A7.mono ?_
    rintro e w7 ⟨rfl, o7⟩
    have H7 := H6.only0 o7
    have B7 := o7.blk B6 (fun hf => hf)
    clear A7 o7 H6 Hz6 B6
    have hm : (needK (2) [(p : Int)] lk).length = 1 := by simp [needK, found, HLK.out, hx0.out]
    have hr : (needR (2) []).length = 0 := by simp [needR]
    go_wp2_with fail
    refine (needs_any H7.set (2)).mono ?_
    rintro e w8 ⟨⟨a, b, ss, rfl, -, -, -⟩, b8⟩
    rw [hm, hr]
    have H8 := H7.bel0 b8
    have B8 := (Below.only0 b8).blk B7 (fun hf => hf)
    have c8 : w8.cell? ⟨w.heap.size, 0, none⟩ = some (.int .u64 x) := B8.cell 0
    clear H7 B7 b8 B8 hm hr HLK
    go_wp2_with fail
    refine (awake15_any _).mono ?_
    rintro e w9 ⟨rfl, rfl⟩
    go_wp2_with fail
    go_ret
    exact ⟨rfl, H8.bel⟩
  · go_enter Try.func9, Try.ntmps9
    go_wp2_with fail
    refine N1.mono ?_
    rintro e w3 ⟨rfl, h3, o3, -⟩
    rw [← hW] at h3 o3 ⊢
    have H3 := SW.new HO.out.below h3 o3
    have B3 := o3.blk HB.out (fun hf => hf)
    have hs1 := H3.set.under _ rfl
    clear h3 o3 N1
    generalize W.heap.size = s at *
    go_wp2_with fail
    refine (set_new w3).mono ?_
    rintro e w4 ⟨rfl, h4, o4, -⟩
    have Hz4 := SW.new H3.bel h4 o4
    have H4 := H3.only0 o4
    have B4 := o4.blk B3 (fun hf => hf)
    clear h4 o4 H3 B3
    generalize w3.heap.size = z at *
    have c4 : w4.cell? ⟨w.heap.size, 0, none⟩ = some (.int .u64 x) := B4.cell 0
    have A := set_add H4.set p hp1 x
    go_wp2_with fail
    refine A.mono ?_
    rintro e w5 ⟨rfl, P5, h5, o5, g5⟩
    have H5 := H4.step h5 o5
    have Hz5 : SW w w5 (fun b => b = z) z [] (fun _ => 0) [] := ⟨Hz4.set.only o5 (fun b hb e => by omega), H5.bel⟩
    have B5 := o5.blk B4 (fun e => by omega)
    rw [show addK [] (p : Int) = [(p : Int)] from rfl] at H5
    have hlk : addL [] (fun _ => 0) p x p = x := by simp [addL, lkSet]
    generalize addL [] (fun _ => 0) p x = lk at *
    clear h5 o5 g5 H4 Hz4 B4 A c4 hs1 hcb
    have A6 := all_any H5.set (1) (levels_now _ x w5 B5) (nil_span w5)
    rw [all_good (fun k hk => by
        obtain rfl : k = (p : Int) := by simpa using needK_mem hk
        rw [show ((p : Int)).toNat = p from rfl, hlk]; exact jkey_self _ _ (needK_lvl hk)) (fun r hr => by simp [needR] at hr), show lvl 1 = true from rfl] at A6
    have HLK := Lib.hid hlk
    clear hlk
    go_wp2_with fail
    refine A6.mono ?_
    rintro e w6 ⟨rfl, o6⟩
    have H6 := H5.only0 o6
    have Hz6 := Hz5.only0 o6
    have B6 := o6.blk B5 (fun hf => hf)
    clear A6 o6 H5 Hz5 B5
    have A7 := all_any Hz6.set (1) (nil_now w6) (nil_span w6)
    rw [all_good (fun k hk => by have := needK_mem hk; simp at this) (fun r hr => by simp [needR] at hr), show lvl 1 = true from rfl] at A7
    go_wp2_with fail
    refine A7.mono ?_
    rintro e w7 ⟨rfl, o7⟩
    have H7 := H6.only0 o7
    have B7 := o7.blk B6 (fun hf => hf)
    clear A7 o7 H6 Hz6 B6
    have hm : (needK (1) [(p : Int)] lk).length = 0 := by simp [needK]
    have hr : (needR (1) []).length = 0 := by simp [needR]
    go_wp2_with fail
    refine (needs_any H7.set (1)).mono ?_
    rintro e w8 ⟨⟨a, b, ss, rfl, -, -, -⟩, b8⟩
    rw [hm, hr]
    have H8 := H7.bel0 b8
    have B8 := (Below.only0 b8).blk B7 (fun hf => hf)
    have c8 : w8.cell? ⟨w.heap.size, 0, none⟩ = some (.int .u64 x) := B8.cell 0
    clear H7 B7 b8 B8 hm hr HLK
    go_wp2_with fail
    refine (awake15_any _).mono ?_
    rintro e w9 ⟨rfl, rfl⟩
    go_wp2_with fail
    go_ret
    exact ⟨rfl, H8.bel⟩
  · have hb3 : (l == 3) = false := by simp; omega
    have hb2 : (l == 2) = false := by simp; omega
    go_enter Try.func9, Try.ntmps9
    go_wp2_with fail
    refine N1.mono ?_
    rintro e w3 ⟨rfl, h3, o3, -⟩
    rw [← hW] at h3 o3 ⊢
    have H3 := SW.new HO.out.below h3 o3
    have B3 := o3.blk HB.out (fun hf => hf)
    have hs1 := H3.set.under _ rfl
    clear h3 o3 N1
    generalize W.heap.size = s at *
    go_wp2_with fail
    refine (set_new w3).mono ?_
    rintro e w4 ⟨rfl, h4, o4, -⟩
    have Hz4 := SW.new H3.bel h4 o4
    have H4 := H3.only0 o4
    have B4 := o4.blk B3 (fun hf => hf)
    clear h4 o4 H3 B3
    generalize w3.heap.size = z at *
    have c4 : w4.cell? ⟨w.heap.size, 0, none⟩ = some (.int .u64 x) := B4.cell 0
    have A := set_add H4.set p hp1 x
    go_wp2_with fail
    refine A.mono ?_
    rintro e w5 ⟨rfl, P5, h5, o5, g5⟩
    have H5 := H4.step h5 o5
    have Hz5 : SW w w5 (fun b => b = z) z [] (fun _ => 0) [] := ⟨Hz4.set.only o5 (fun b hb e => by omega), H5.bel⟩
    have B5 := o5.blk B4 (fun e => by omega)
    rw [show addK [] (p : Int) = [(p : Int)] from rfl] at H5
    have hlk : addL [] (fun _ => 0) p x p = x := by simp [addL, lkSet]
    generalize addL [] (fun _ => 0) p x = lk at *
    clear h5 o5 g5 H4 Hz4 B4 A c4 hs1 hcb
    have A6 := all_any H5.set (l) (levels_now _ x w5 B5) (nil_span w5)
    rw [all_good (fun k hk => by
        obtain rfl : k = (p : Int) := by simpa using needK_mem hk
        rw [show ((p : Int)).toNat = p from rfl, hlk]; exact jkey_self _ _ (needK_lvl hk)) (fun r hr => by simp [needR] at hr), show lvl l = false by simp [lvl]; omega] at A6
    have HLK := Lib.hid hlk
    clear hlk
    go_wp2_with fail
    refine A6.mono ?_
    rintro e w6 ⟨rfl, o6⟩
    have H6 := H5.only0 o6
    have Hz6 := Hz5.only0 o6
    have B6 := o6.blk B5 (fun hf => hf)
    clear A6 o6 H5 Hz5 B5
    have A7 := all_any Hz6.set (l) (nil_now w6) (nil_span w6)
    rw [all_good (fun k hk => by have := needK_mem hk; simp at this) (fun r hr => by simp [needR] at hr), show lvl l = false by simp [lvl]; omega] at A7
    go_wp2_with fail
    refine A7.mono ?_
    rintro e w7 ⟨rfl, o7⟩
    have H7 := H6.only0 o7
    have B7 := o7.blk B6 (fun hf => hf)
    clear A7 o7 H6 Hz6 B6
    have hm : (needK (l) [(p : Int)] lk).length = 0 := by simp [needK, show ¬ l = 3 by omega, show ¬ l = 2 by omega]
    have hr : (needR (l) []).length = 0 := by simp [needR]
    go_wp2_with fail
    refine (needs_any H7.set (l)).mono ?_
    rintro e w8 ⟨⟨a, b, ss, rfl, -, -, -⟩, b8⟩
    rw [hm, hr]
    have H8 := H7.bel0 b8
    have B8 := (Below.only0 b8).blk B7 (fun hf => hf)
    have c8 : w8.cell? ⟨w.heap.size, 0, none⟩ = some (.int .u64 x) := B8.cell 0
    clear H7 B7 b8 B8 hm hr HLK
    go_wp2_with fail
    refine (awake15_any _).mono ?_
    rintro e w9 ⟨rfl, rfl⟩
    go_wp2_with fail
    go_ret
    exact ⟨rfl, H8.bel⟩
  · have hb3 : (l == 3) = false := by simp; omega
    have hb2 : (l == 2) = false := by simp; omega
    go_enter Try.func9, Try.ntmps9
    go_wp2_with fail
    refine N1.mono ?_
    rintro e w3 ⟨rfl, h3, o3, -⟩
    rw [← hW] at h3 o3 ⊢
    have H3 := SW.new HO.out.below h3 o3
    have B3 := o3.blk HB.out (fun hf => hf)
    have hs1 := H3.set.under _ rfl
    clear h3 o3 N1
    generalize W.heap.size = s at *
    go_wp2_with fail
    refine (set_new w3).mono ?_
    rintro e w4 ⟨rfl, h4, o4, -⟩
    have Hz4 := SW.new H3.bel h4 o4
    have H4 := H3.only0 o4
    have B4 := o4.blk B3 (fun hf => hf)
    clear h4 o4 H3 B3
    generalize w3.heap.size = z at *
    have c4 : w4.cell? ⟨w.heap.size, 0, none⟩ = some (.int .u64 x) := B4.cell 0
    have A := set_add H4.set p hp1 x
    go_wp2_with fail
    refine A.mono ?_
    rintro e w5 ⟨rfl, P5, h5, o5, g5⟩
    have H5 := H4.step h5 o5
    have Hz5 : SW w w5 (fun b => b = z) z [] (fun _ => 0) [] := ⟨Hz4.set.only o5 (fun b hb e => by omega), H5.bel⟩
    have B5 := o5.blk B4 (fun e => by omega)
    rw [show addK [] (p : Int) = [(p : Int)] from rfl] at H5
    have hlk : addL [] (fun _ => 0) p x p = x := by simp [addL, lkSet]
    generalize addL [] (fun _ => 0) p x = lk at *
    clear h5 o5 g5 H4 Hz4 B4 A c4 hs1 hcb
    have A6 := all_any H5.set (l) (levels_now _ x w5 B5) (nil_span w5)
    rw [all_good (fun k hk => by
        obtain rfl : k = (p : Int) := by simpa using needK_mem hk
        rw [show ((p : Int)).toNat = p from rfl, hlk]; exact jkey_self _ _ (needK_lvl hk)) (fun r hr => by simp [needR] at hr), show lvl l = false by simp [lvl]; omega] at A6
    have HLK := Lib.hid hlk
    clear hlk
    go_wp2_with fail
    refine A6.mono ?_
    rintro e w6 ⟨rfl, o6⟩
    have H6 := H5.only0 o6
    have Hz6 := Hz5.only0 o6
    have B6 := o6.blk B5 (fun hf => hf)
    clear A6 o6 H5 Hz5 B5
    have A7 := all_any Hz6.set (l) (nil_now w6) (nil_span w6)
    rw [all_good (fun k hk => by have := needK_mem hk; simp at this) (fun r hr => by simp [needR] at hr), show lvl l = false by simp [lvl]; omega] at A7
    go_wp2_with fail
    refine A7.mono ?_
    rintro e w7 ⟨rfl, o7⟩
    have H7 := H6.only0 o7
    have B7 := o7.blk B6 (fun hf => hf)
    clear A7 o7 H6 Hz6 B6
    have hm : (needK (l) [(p : Int)] lk).length = 0 := by simp [needK, show ¬ l = 3 by omega, show ¬ l = 2 by omega]
    have hr : (needR (l) []).length = 0 := by simp [needR]
    go_wp2_with fail
    refine (needs_any H7.set (l)).mono ?_
    rintro e w8 ⟨⟨a, b, ss, rfl, -, -, -⟩, b8⟩
    rw [hm, hr]
    have H8 := H7.bel0 b8
    have B8 := (Below.only0 b8).blk B7 (fun hf => hf)
    have c8 : w8.cell? ⟨w.heap.size, 0, none⟩ = some (.int .u64 x) := B8.cell 0
    clear H7 B7 b8 B8 hm hr HLK
    go_wp2_with fail
    refine (awake15_any _).mono ?_
    rintro e w9 ⟨rfl, rfl⟩
    go_wp2_with fail
    go_ret
    exact ⟨rfl, H8.bel⟩
end Go.Proofs.Ytjkdofhlcdimcaa

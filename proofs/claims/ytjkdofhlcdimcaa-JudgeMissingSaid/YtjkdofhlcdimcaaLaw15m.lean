/-
  The walk of JudgeMissing.
-/
import Derived.Test.YtjkdofhlcdimcaaLaw15
import Derived.Test.YtjkdofhlcdimcaaLaw13k
import Derived.Laws.AppendOwnNone
namespace Go.Proofs.Ytjkdofhlcdimcaa
open Go.RowKit
set_option linter.unusedVariables false
set_option linter.unusedSimpArgs false

set_option maxHeartbeats 1000000 in
theorem missing_fn1 (b : Nat) (x k : Int) (w : World) (hb : Blk w b 22 #[.int .u64 x]) :
    Calls Try.prog 33 #[.int .i64 k, .pointer (some ⟨b, 0, none⟩)] w fun e w' => e = .returned (.int .u64 x) ∧ w = w' := by
  have c0 : w.cell? ⟨b, 0, none⟩ = some (.int .u64 x) := by rw [hb.cell]; rfl
  go_enter Try.func33, Try.ntmps33
  go_wp2_with fail
  go_ret
  exact ⟨rfl, rfl⟩
theorem missing_now (b : Nat) (x : Int) (w : World) (hb : Blk w b 22 #[.int .u64 x]) : NowIs w (.func (.func 33) #[] #[.pointer (some ⟨b, 0, none⟩)]) (fun _ => x) := by
  refine .inr ⟨_, _, rfl, fun k w => by kernel_rfl, fun w' k o _ _ => ?_⟩
  have := missing_fn1 b x k w' (o.blk hb (fun hf => hf))
  rw [show (#[.int .i64 k] ++ #[.pointer (some ⟨b, 0, none⟩)] : Array Value) = #[.int .i64 k, .pointer (some ⟨b, 0, none⟩)] from rfl]
  refine this.mono ?_
  rintro e w1 ⟨rfl, rfl⟩
  exact ⟨rfl, Only0.refl _⟩

set_option maxHeartbeats 1000000 in
theorem missing_fn2 (b : Nat) (v : Value) (x y : Int) (w : World) (hv : v.oneCell' = true) (hb : Blk w b 23 #[v]) :
    Calls Try.prog 34 #[.int .i64 x, .int .i64 y, .pointer (some ⟨b, 0, none⟩)] w fun e w' => e = .returned v ∧ w = w' := by
  have c0 : w.cell? ⟨b, 0, none⟩ = some v := by rw [hb.cell]; rfl
  go_enter Try.func34, Try.ntmps34
  go_wp2_with fail
  go_ret
  exact ⟨rfl, rfl⟩
theorem missing_span2 (b : Nat) (a : Option Addr) (c : Nat) (ls : List Int) (w : World) (hb : Blk w b 23 #[.slice a ls.length c]) (hI : Ints .u64 w a ls) (hl : ls.length ≤ 1000000) : SpanIs w (.func (.func 34) #[] #[.pointer (some ⟨b, 0, none⟩)]) (fun _ _ => ls) := by
  refine .inr ⟨_, _, rfl, fun x y w => by kernel_rfl, fun w' x y o => ?_⟩
  have := missing_fn2 b (.slice a ls.length c) x y w' rfl (o.blk hb (fun hf => hf))
  rw [show (#[.int .i64 x, .int .i64 y] ++ #[.pointer (some ⟨b, 0, none⟩)] : Array Value) = #[.int .i64 x, .int .i64 y, .pointer (some ⟨b, 0, none⟩)] from rfl]
  refine this.mono ?_
  rintro e w1 ⟨rfl, rfl⟩
  exact ⟨⟨a, c, rfl, hI.below o.below, hl⟩, Only0.refl _⟩

set_option maxHeartbeats 1000000 in
theorem missing_fn3 (b : Nat) (v : Value) (x y : Int) (w : World) (hv : v.oneCell' = true) (hb : Blk w b 23 #[v]) :
    Calls Try.prog 35 #[.int .i64 x, .int .i64 y, .pointer (some ⟨b, 0, none⟩)] w fun e w' => e = .returned v ∧ w = w' := by
  have c0 : w.cell? ⟨b, 0, none⟩ = some v := by rw [hb.cell]; rfl
  go_enter Try.func35, Try.ntmps35
  go_wp2_with fail
  go_ret
  exact ⟨rfl, rfl⟩
theorem missing_span3 (b : Nat) (a : Option Addr) (c : Nat) (ls : List Int) (w : World) (hb : Blk w b 23 #[.slice a ls.length c]) (hI : Ints .u64 w a ls) (hl : ls.length ≤ 1000000) : SpanIs w (.func (.func 35) #[] #[.pointer (some ⟨b, 0, none⟩)]) (fun _ _ => ls) := by
  refine .inr ⟨_, _, rfl, fun x y w => by kernel_rfl, fun w' x y o => ?_⟩
  have := missing_fn3 b (.slice a ls.length c) x y w' rfl (o.blk hb (fun hf => hf))
  rw [show (#[.int .i64 x, .int .i64 y] ++ #[.pointer (some ⟨b, 0, none⟩)] : Array Value) = #[.int .i64 x, .int .i64 y, .pointer (some ⟨b, 0, none⟩)] from rfl]
  refine this.mono ?_
  rintro e w1 ⟨rfl, rfl⟩
  exact ⟨⟨a, c, rfl, hI.below o.below, hl⟩, Only0.refl _⟩

theorem xor_ne (x b : Int) (hx : (Lit.int .u64 x).wf = true) (hb : (Lit.int .u64 b).wf = true) : bits .xor .u64 x (bits .or .u64 b 1) ≠ x := by
  obtain ⟨X, rfl, hX⟩ := u64_nat hx
  obtain ⟨B, rfl, hB⟩ := u64_nat hb
  have h1 : bits .or .u64 (B : Int) ((1 : Nat) : Int) = ((B ||| 1 : Nat) : Int) := u64_or_nat B 1 hB (by decide)
  have h2 : B ||| 1 < 18446744073709551616 := Nat.or_lt_two_pow (n := 64) hB (by decide)
  rw [show (1 : Int) = ((1 : Nat) : Int) from rfl, h1, u64_xor_nat X _ hX h2]
  intro e
  have e' : X ^^^ (B ||| 1) = X := by exact_mod_cast e
  have e2 : X ^^^ (X ^^^ (B ||| 1)) = X ^^^ X := by rw [e']
  rw [← Nat.xor_assoc, Nat.xor_self, Nat.zero_xor] at e2
  have : (B ||| 1).testBit 0 = true := by rw [Nat.testBit_or]; simp
  rw [e2] at this
  simp at this
theorem set_ne {z : List Int} {i : Nat} {v : Int} (hi : i < z.length) (h : v ≠ z.getD i 0) : z ≠ z.set i v := by
  intro e
  have : (z.set i v).getD i 0 = v := by simp [List.getD_eq_getElem?_getD, hi]
  rw [← e] at this
  exact h this.symm
/-- What comes of the five questions. -/
theorem missing_res (p : Nat) (hp : p < 64) (lk : Nat → Int) (hlk : lk p = 0) (x : Int) (spanf : Int → Int → List Int) : allRes 2 [(p : Int)] lk [] (fun _ => x) spanf = (true, -1) ∧ allRes 3 [(p : Int)] lk [] (fun _ => x) spanf = (decide (x = 0), if x = 0 then -1 else (p : Int)) := by
  constructor
  · rw [all_good (fun k hk => by
      obtain rfl : k = (p : Int) := by simpa using needK_mem hk
      rw [show ((p : Int)).toNat = p from rfl, hlk]; simp [jkey]) (fun r hr => by simp [needR] at hr)]; rfl
  · by_cases hx : x = 0
    · subst hx
      rw [all_good (fun k hk => by
        obtain rfl : k = (p : Int) := by simpa using needK_mem hk
        rw [show ((p : Int)).toNat = p from rfl, hlk]; simp [jkey]) (fun r hr => by simp [needR] at hr)]; rfl
    · have h1 : badK 3 lk (fun _ => x) (p : Int) = true := by
        simp only [badK, show ((p : Int)).toNat = p from rfl, hlk]
        simp [jkey, hx]
      simp only [allRes, show lvl 3 = true from rfl, if_true, needK, List.find?_cons, h1, hx, decide_false, if_false]
theorem missing_res2 (lk : Nat → Int) (ls is : List Int) (nowf : Int → Int) (hne : ls ≠ is) : allRes 2 [] lk [⟨0, 9, ls⟩] nowf (fun _ _ => is) = (true, -1) ∧ allRes 3 [] lk [⟨0, 9, ls⟩] nowf (fun _ _ => is) = (false, 0) ∧ allRes 3 [] lk [⟨0, 9, ls⟩] nowf (fun _ _ => ls) = (true, -1) := by
  refine ⟨?_, ?_, ?_⟩
  · rw [all_good (fun k hk => by have := needK_mem hk; simp at this) (fun r hr => by simp [needR] at hr)]; rfl
  · have h1 : badR 3 (fun _ _ => is) ⟨0, 9, ls⟩ = true := by simp [badR, jspan, hne]
    simp only [allRes, show lvl 3 = true from rfl, if_true, needK, needR, List.find?_nil, List.find?_cons, h1]
  · rw [all_good (fun k hk => by have := needK_mem hk; simp at this) (fun r hr => by
      have : r = ⟨0, 9, ls⟩ := by simpa [needR] using hr
      subst this; simp [jspan])]; rfl

set_option maxRecDepth 100000 in
set_option maxHeartbeats 4000000 in
theorem missing_long (key x : Int) (a : Option Addr) (c : Nat) (n : Nat) (at_ by_ : Int) (w : World) (h : 40 < n) :
    Calls Try.prog 10 #[.int .i64 key, .int .u64 x, .slice a n c, .int .i64 at_, .int .u64 by_] w fun e w' => e = .returned (.bool true) ∧ Below w.heap.size w w' := by
  go_enter Try.func10, Try.ntmps10
  go_wp2_with fail
  refine (awake15_any _).mono ?_
  rintro e w9 ⟨rfl, rfl⟩
  go_wp2_with fail
  go_ret
  exact ⟨rfl, (((Only0.refl w).alloc _).alloc _).below⟩

set_option maxRecDepth 100000 in
set_option maxHeartbeats 8000000 in
theorem missing_full (key x : Int) (b off : Nat) (c : Nat) (z : List Int) (at_ by_ : Int) (w : World) (w1 : (Lit.int .u64 x).wf = true) (w4 : (Lit.int .u64 by_).wf = true)
    (i2 : Ints .u64 w (some ⟨b, off, none⟩) z) (f2 : ∀ n ∈ z, (Lit.int .u64 n).wf = true) (hz : 0 < z.length ∧ z.length ≤ 40) (hc2 : z.length ≤ c) :
    Calls Try.prog 10 #[.int .i64 key, .int .u64 x, .slice (some ⟨b, off, none⟩) z.length c, .int .i64 at_, .int .u64 by_] w fun e w' => e = .returned (.bool true) ∧ Below w.heap.size w w' := by
  have x1 := i64_and63 key
  obtain ⟨p, hp, hp1⟩ : ∃ p : Nat, key % 64 = (p : Int) ∧ p < 64 := ⟨(key % 64).toNat, by omega, by omega⟩
  rw [hp] at x1
  clear hp
  obtain ⟨hz1, hz2⟩ := hz
  have t0 : ¬ z.length = 0 := by omega
  have t1 : ¬ z = [] := fun e => t0 (by rw [e]; rfl)
  have t2 : ((z.length : Int) == 0) = false := by simpa using t1
  obtain ⟨b', off', hba, hc⟩ := i2.at hz1
  obtain ⟨rfl, rfl⟩ : b = b' ∧ off = off' := by simpa using hba
  have hbw := block_lt_of_cell (hc 0 hz1)
  have HCC := Lib.hid hc
  have LN := Lib.hid (show ∀ wx, Below w.heap.size w wx → ∀ (o : Obj) (j : Nat) (u : Value), (z.map (Value.int .u64))[j]? = some u → (wx.alloc o).cell? ((⟨b, off, none⟩ : Addr).add j) = some u from fun wx hb o j u hj => by
    have hjn : j < z.length := by
      have := (List.getElem?_eq_some_iff.1 hj).1
      simpa using this
    rw [Addr.add_lit]
    refine Lib.cell?_alloc_some _ ?_
    rw [hb.cell (p := ⟨b, off + j, none⟩) hbw, HCC.out j hjn]
    have e : (z.map (Value.int .u64))[j]? = some (Value.int .u64 (z.getD j 0)) := by simp [List.getD, List.getElem?_eq_getElem hjn]
    rw [e] at hj
    exact hj)
  have gz := f2 (z.getD 0 0) (by rw [List.getD_eq_getElem?_getD, List.getElem?_eq_getElem hz1]; exact List.getElem_mem _)
  have hm := i64_and255 at_
  obtain ⟨kk, hkk, hkn⟩ : ∃ kk : Nat, (at_ % 256).tmod (z.length : Int) = (kk : Int) ∧ kk < z.length := by
    refine ⟨((at_ % 256) % (z.length : Int)).toNat, ?_, ?_⟩
    · rw [Int.tmod_eq_emod_of_nonneg (by omega)]
      have := Int.emod_nonneg (at_ % 256) (show (z.length : Int) ≠ 0 by omega)
      omega
    · have h1 := Int.emod_nonneg (at_ % 256) (show (z.length : Int) ≠ 0 by omega)
      have h2 := Int.emod_lt_of_pos (at_ % 256) (show 0 < (z.length : Int) by omega)
      omega
  have hkw : IntKind.i64.wrap (kk : Int) = (kk : Int) := IntWalk.i64_in _ (by omega)
  have hzk := f2 (z.getD kk 0) (by rw [List.getD_eq_getElem?_getD, List.getElem?_eq_getElem hkn]; exact List.getElem_mem _)
  have HXN := Lib.hid (set_ne hkn (xor_ne _ _ hzk w4))
  have HM := Lib.hid hm
  have HKK := Lib.hid hkk
  clear hba hc hm hkk hzk gz f2 w1
  obtain ⟨i0, hi0, hz0, hz1', hz2'⟩ := info_parts info_u64'
  have hB6 : Blk ((w.alloc (.cells #[.int .u64 x] 22)).alloc (.cells #[.slice (some ⟨b, off, none⟩) z.length c] 23)) w.heap.size 22 #[.int .u64 x] := (Blk.new _ _ _).alloc _
  have hB7 : Blk ((w.alloc (.cells #[.int .u64 x] 22)).alloc (.cells #[.slice (some ⟨b, off, none⟩) z.length c] 23)) (w.heap.size + 1) 23 #[.slice (some ⟨b, off, none⟩) z.length c] := Blk.new' _ _ _ _ (by simp)
  have o0 : Only0 w ((w.alloc (.cells #[.int .u64 x] 22)).alloc (.cells #[.slice (some ⟨b, off, none⟩) z.length c] 23)) := ((Only0.refl w).alloc _).alloc _
  obtain ⟨W, hW⟩ : ∃ W, W = ((w.alloc (.cells #[.int .u64 x] 22)).alloc (.cells #[.slice (some ⟨b, off, none⟩) z.length c] 23)) := ⟨_, rfl⟩
  have N1 := set_new W
  rw [← hW] at hB6 hB7 o0
  have hlt := hB7.lt
  have hlt6 := hB6.lt
  rw [hW] at N1
  have HB6 := Lib.hid hB6
  have HB7 := Lib.hid hB7
  have HO := Lib.hid o0
  have II := Lib.hid i2
  clear hB6 hB7 o0 i2
  go_enter Try.func10, Try.ntmps10
  go_wp2_with fail
  refine N1.mono ?_
  rintro e w3 ⟨rfl, h3, o3, -⟩
  rw [← hW] at h3 o3 ⊢
  have H3 := SW.new HO.out.below h3 o3
  have B3 := o3.blk HB6.out (fun hf => hf)
  have C3 := o3.blk HB7.out (fun hf => hf)
  have hs1 := H3.set.under _ rfl
  clear h3 o3 N1
  generalize W.heap.size = s at *
  go_wp2_with fail
  refine (set_new w3).mono ?_
  rintro e w4 ⟨rfl, h4, o4, -⟩
  have Hz4 := SW.new H3.bel h4 o4
  have H4 := H3.only0 o4
  have B4 := o4.blk B3 (fun hf => hf)
  have C4 := o4.blk C3 (fun hf => hf)
  clear h4 o4 H3 B3 C3
  generalize w3.heap.size = t at *
  have A := set_add H4.set p hp1 0
  go_wp2_with fail
  refine A.mono ?_
  rintro e w5 ⟨rfl, P5, h5, o5, g5⟩
  have H5 := H4.step h5 o5
  have Hz5 : SW w w5 (fun b => b = t) t [] (fun _ => 0) [] := ⟨Hz4.set.only o5 (fun b hb e => by omega), H5.bel⟩
  have B5 := o5.blk B4 (fun e => by omega)
  have C5 := o5.blk C4 (fun e => by omega)
  have ap5 : Apart (fun b => b = t) P5 := Apart.grew' (fun b hb e => by omega) g5 Hz4.set.under
  rw [show addK [] (p : Int) = [(p : Int)] from rfl] at H5
  have hlk : addL [] (fun _ => 0) p 0 p = 0 := by simp [addL, lkSet]
  generalize addL [] (fun _ => 0) p 0 = lk at *
  clear h5 o5 g5 H4 Hz4 B4 C4 A
  have c5 : w5.cell? ⟨w.heap.size + 1, 0, none⟩ = some (.slice (some ⟨b, off, none⟩) z.length c) := C5.cell 0
  have S := set_span Hz5.set 0 9 (some ⟨b, off, none⟩) c z (II.out.below H5.bel) (fun e => by cases e) (by omega)
  rw [show spanRes [] 0 9 = 0 from rfl, show spanRs [] 0 9 z = [⟨0, 9, z⟩] from rfl] at S
  have HLK := Lib.hid hlk
  clear hlk
  go_wp2_with fail
  refine S.mono ?_
  rintro e w6 ⟨rfl, P6, h6, o6, g6⟩
  have Hz6 := Hz5.step h6 o6
  have H6 : SW w w6 P5 s [(p : Int)] lk [] := ⟨H5.set.only o6 ap5.symm, Hz6.bel⟩
  have B6 := o6.blk B5 (fun e => by omega)
  have C6 := o6.blk C5 (fun e => by omega)
  have u5 : Under P5 w6.heap.size := H6.set.under
  have u6 : Under P6 w6.heap.size := Hz6.set.under
  clear h6 o6 g6 H5 Hz5 B5 C5 S c5 ap5
  have c6 : w6.cell? ⟨w.heap.size + 1, 0, none⟩ = some (.slice (some ⟨b, off, none⟩) z.length c) := C6.cell 0
  have c6a : (w6.alloc (.cells #[] 22)).cell? ⟨w.heap.size + 1, 0, none⟩ = some (.slice (some ⟨b, off, none⟩) z.length c) := (C6.alloc _).cell 0
  go_wp2_with (at_builtin; refine wpList_append_own _ rfl _ _ 23 rfl w6.heap.size 22 i0 (.int .u64 0) 1 8 Try.underlying23 hi0 hz0 hz1' hz2' rfl (by decide) _ _ _ rfl (World.ownsRow_made w6 #[] 0 (Nat.le_refl _) (Nat.zero_le _) rfl) ⟨b, off, none⟩ z.length c (z.map (Value.int .u64)) rfl ?qc1 ?qc2 ?qc3 ?qc4 ?qc5 ?qc6 ?_)
  case qc1 => simp
  case qc2 => exact LN.out w6 H6.bel _
  case qc3 => intro u hu; obtain ⟨x, _, rfl⟩ := List.mem_map.1 hu; rfl
  case qc4 => unfold maxLen; omega
  case qc5 => omega
  case qc6 => simp
  intro v7 w7 hown7 hgrow7 hnil7
  obtain ⟨g7, cap7, rfl, hg7, hg7'⟩ := own_some (n := z.length) (m := 0) (cap := 0) (by simpa using hown7) hnil7
  have V7 : w7.ownsRow w6.heap.size 22 1 (.slice (some ⟨g7, 0, none⟩) z.length cap7) z.length (z.map (Value.int .u64)) := by simpa using hown7
  have o7 : Only0 w6 w7 := ((Only0.refl w6).alloc _).grown hgrow7 (fun k hk => by simp [Value.ownBlock] at hk; omega)
  clear hown7 hgrow7 hnil7
  -- Ov: the other's row: value OV at box Bo
  obtain ⟨y, hy⟩ : ∃ y, y = z.getD kk 0 := ⟨_, rfl⟩
  have HY := Lib.hid hy
  have V7k := V7.cellAt kk (by omega)
  rw [List.getElem?_map, List.getElem?_eq_getElem hkn, show some z[kk] = some (z.getD kk 0) by rw [List.getD_eq_getElem?_getD, List.getElem?_eq_getElem hkn]; rfl, Option.map_some, ← hy] at V7k
  have F7k := V7.frozenAt kk
  clear hy
  go_wp2_with fail
  obtain ⟨w8, hw8⟩ : ∃ w8, w8 = w7.alloc (.cells #[.slice (some ⟨g7, 0, none⟩) z.length cap7] 23) := ⟨_, rfl⟩
  rw [← hw8]
  have D8 : Blk w8 w7.heap.size 23 #[.slice (some ⟨g7, 0, none⟩) z.length cap7] := by rw [hw8]; exact Blk.new _ _ _
  have o78 : Only0 w7 w8 := by rw [hw8]; exact (Only0.refl w7).alloc _
  have z78 := D8.lt
  have d0 : w8.drew.cell? ⟨w7.heap.size, 0, none⟩ = some (.slice (some ⟨g7, 0, none⟩) z.length cap7) := D8.cell 0
  have d1 : w8.drew.cell? ⟨g7, kk, none⟩ = some (.int .u64 y) := (o78.below.cell (p := ⟨g7, kk, none⟩) hg7').trans V7k
  have d2 : w8.drew.frozen? ⟨g7, kk, none⟩ = false := (o78.below.frozen (p := ⟨g7, kk, none⟩) hg7').trans F7k
  have V8 := Lib.hid (show w8.ownsRow w6.heap.size 22 1 (.slice (some ⟨g7, 0, none⟩) z.length cap7) z.length (z.map (Value.int .u64)) from rows_only V7 (S := fun _ => False) o78 (fun _ _ hf => hf))
  have OO8 := Lib.hid (show Only0 w6 w8 from o7.trans o78)
  have hm := HM.out
  have hkk := HKK.out
  have k0 : (0 : Int) ≤ (kk : Int) := by omega
  have k1 : (kk : Int) < (z.length : Int) := by omega
  clear hw8 V7 V7k F7k o7 o78
  go_region
  clear d0 d1 d2 hm hkk hkw
  go_wp2_with fail
  generalize hv : bits .xor .u64 _ _ = v
  obtain ⟨w10, hw10⟩ : ∃ w10, w10 = (w8.setCell ⟨g7, kk, none⟩ (.int .u64 v)).drew := ⟨_, rfl⟩
  rw [← hw10]
  have oS : Only (fun b => b = g7) w8 w10 := by rw [hw10]; exact ((Only.refl (fun b => b = g7) w8).setCell (p := ⟨g7, kk, none⟩) (fun _ => rfl) _).drew
  have V10 : w10.ownsRow w6.heap.size 22 1 (.slice (some ⟨g7, 0, none⟩) z.length cap7) z.length ((z.set kk v).map (Value.int .u64)) := by
    have := (V8.out.stored kk (.int .u64 v)).1
    rw [hw10, List.map_set]; exact this
  have oA : Only (fun b => b = g7) w6 w10 := (OO8.out.any _).trans oS
  have hlS : (z.set kk v).length = z.length := by simp
  have H10 : SW w w10 P5 s [(p : Int)] lk [] := ⟨H6.set.only oA (fun b hb e => by have := u5 b hb; omega), H6.bel.trans (oA.below _ H6.bel.size (fun b hb => by have := H6.bel.size; omega))⟩
  have Hz10 : SW w w10 P6 t [] (fun _ => 0) [⟨0, 9, z⟩] := ⟨Hz6.set.only oA (fun b hb e => by have := u6 b hb; omega), H10.bel⟩
  have B10 := oA.blk B6 (fun e => by have := B6.lt; omega)
  have C10 := oA.blk C6 (fun e => by have := C6.lt; omega)
  have D10 : Blk w10 w7.heap.size 23 #[.slice (some ⟨g7, 0, none⟩) (z.set kk v).length cap7] := by rw [hlS]; exact oS.blk D8 (fun e => by omega)
  have IO : Ints .u64 w10 (some ⟨g7, 0, none⟩) (z.set kk v) := by rw [← hlS] at V10; exact ints_of_own V10
  have OSL : (z.set kk v).length ≤ 1000000 := by omega
  have HNE : z ≠ z.set kk v := by rw [← hv, HY.out]; exact HXN.out
  clear V8 OO8 D8 V10 oA oS hw10 H6 Hz6 B6 C6 hv HY HXN
  have HN := missing_res p hp1 lk HLK.out x (fun _ _ => [])
  have HM := missing_res2 (fun _ => 0) z (z.set kk v) (fun _ => 0) HNE
  obtain ⟨r1, r2'⟩ := HN
  obtain ⟨d, kv, r2, hd⟩ : ∃ (d : Bool) (kv : Int), allRes 3 [(p : Int)] lk [] (fun _ => x) (fun _ _ => []) = (d, kv) ∧ d = decide (x = 0) := ⟨_, _, r2', rfl⟩
  have HDX := Lib.hid hd
  clear r2' hd
  obtain ⟨r3, r4, r5⟩ := HM
  have NX := fun wx (o : Only0 w10 wx) => missing_now w.heap.size x wx (o.blk B10 (fun hf => hf))
  have SX := fun wx (o : Only0 w10 wx) => missing_span2 w7.heap.size (some ⟨g7, 0, none⟩) cap7 (z.set kk v) wx (o.blk D10 (fun hf => hf)) (IO.below o.below) (by omega)
  have SZ := fun wx (o : Only0 w10 wx) => missing_span3 (w.heap.size + 1) (some ⟨b, off, none⟩) c z wx (by have := (o.blk C10 (fun hf => hf)); exact this) ((II.out.below H10.bel).below o.below) (by omega)
  have A1 := all_any H10.set 2 (NX w10 (Only0.refl _)) (nil_span w10)
  rw [r1] at A1
  have HD := Lib.hid (And.intro NX (And.intro SX SZ))
  have cx := fun wx (o : Only0 w10 wx) => (o.blk B10 (fun hf => hf)).cell 0
  have HCX := Lib.hid cx
  clear NX SX SZ B10 C10 D10 IO cx HLK
  refine A1.mono ?_
  rintro e w11 ⟨rfl, o11⟩
  have A2 := all_any (H10.only0 o11).set 3 (HD.out.1 w11 o11) (nil_span w11)
  rw [r2] at A2
  have o11' := Lib.hid o11
  clear A1 o11
  go_wp2_with fail
  refine A2.mono ?_
  rintro e w12 ⟨rfl, o12⟩
  have o12' := Lib.hid (o11'.out.trans o12)
  have A3 := all_any (Hz10.only0 o12'.out).set 2 (nil_now w12) (HD.out.2.1 w12 o12'.out)
  rw [r3] at A3
  clear A2 o12 o11'
  go_wp2_with fail
  refine A3.mono ?_
  rintro e w13 ⟨rfl, o13⟩
  have o13' := Lib.hid (o12'.out.trans o13)
  have A4 := all_any (Hz10.only0 o13'.out).set 3 (nil_now w13) (HD.out.2.1 w13 o13'.out)
  rw [r4] at A4
  clear A3 o13 o12'
  go_wp2_with fail
  refine A4.mono ?_
  rintro e w14 ⟨rfl, o14⟩
  have o14' := Lib.hid (o13'.out.trans o14)
  have A5 := all_any (Hz10.only0 o14'.out).set 3 (nil_now w14) (HD.out.2.2 w14 o14'.out)
  rw [r5] at A5
  clear A4 o14 o13'
  go_wp2_with fail
  refine A5.mono ?_
  rintro e w15 ⟨rfl, o15⟩
  have o15' := Lib.hid (o14'.out.trans o15)
  have c15 : w15.cell? ⟨w.heap.size, 0, none⟩ = some (.int .u64 x) := HCX.out w15 o15'.out
  have hbel := (H10.only0 o15'.out).bel
  clear A5 o15 o14' HCX HD Hz10 H10
  by_cases hx : x = 0
  · have hxb : (x == 0) = true := by simpa using hx
    have HX := Lib.hid hx
    have d1 : decide (x = 0) = true := decide_eq_true hx
    obtain rfl : d = true := HDX.out.trans d1
    clear hx d1
    go_wp2_with fail
    refine (awake15_any _).mono ?_
    rintro e w9 ⟨rfl, rfl⟩
    go_wp2_with fail
    go_ret
    exact ⟨rfl, hbel⟩
  · have hxb : (x == 0) = false := by simpa using hx
    have d1 : decide (x = 0) = false := decide_eq_false hx
    obtain rfl : d = false := HDX.out.trans d1
    go_wp2_with fail
    refine (awake15_any _).mono ?_
    rintro e w9 ⟨rfl, rfl⟩
    go_wp2_with fail
    go_ret
    exact ⟨rfl, hbel⟩

set_option maxRecDepth 100000 in
set_option maxHeartbeats 8000000 in
theorem missing_ad (key x : Int) (ad : Addr) (c : Nat) (at_ by_ : Int) (w : World) (w1 : (Lit.int .u64 x).wf = true) (w4 : (Lit.int .u64 by_).wf = true)
    (i2 : Ints .u64 w (some ad) ([] : List Int)) (hz : True) (hc2 : True) :
    Calls Try.prog 10 #[.int .i64 key, .int .u64 x, .slice (some ad) 0 c, .int .i64 at_, .int .u64 by_] w fun e w' => e = .returned (.bool true) ∧ Below w.heap.size w w' := by
  have x1 := i64_and63 key
  obtain ⟨p, hp, hp1⟩ : ∃ p : Nat, key % 64 = (p : Int) ∧ p < 64 := ⟨(key % 64).toNat, by omega, by omega⟩
  rw [hp] at x1
  clear hp
  obtain ⟨i0, hi0, hz0, hz1', hz2'⟩ := info_parts info_u64'
  have hB6 : Blk ((w.alloc (.cells #[.int .u64 x] 22)).alloc (.cells #[.slice (some ad) 0 c] 23)) w.heap.size 22 #[.int .u64 x] := (Blk.new _ _ _).alloc _
  have hB7 : Blk ((w.alloc (.cells #[.int .u64 x] 22)).alloc (.cells #[.slice (some ad) 0 c] 23)) (w.heap.size + 1) 23 #[.slice (some ad) 0 c] := Blk.new' _ _ _ _ (by simp)
  have o0 : Only0 w ((w.alloc (.cells #[.int .u64 x] 22)).alloc (.cells #[.slice (some ad) 0 c] 23)) := ((Only0.refl w).alloc _).alloc _
  obtain ⟨W, hW⟩ : ∃ W, W = ((w.alloc (.cells #[.int .u64 x] 22)).alloc (.cells #[.slice (some ad) 0 c] 23)) := ⟨_, rfl⟩
  have N1 := set_new W
  rw [← hW] at hB6 hB7 o0
  have hlt := hB7.lt
  have hlt6 := hB6.lt
  rw [hW] at N1
  have HB6 := Lib.hid hB6
  have HB7 := Lib.hid hB7
  have HO := Lib.hid o0
  have II := Lib.hid i2
  clear hB6 hB7 o0 i2
  go_enter Try.func10, Try.ntmps10
  go_wp2_with fail
  refine N1.mono ?_
  rintro e w3 ⟨rfl, h3, o3, -⟩
  rw [← hW] at h3 o3 ⊢
  have H3 := SW.new HO.out.below h3 o3
  have B3 := o3.blk HB6.out (fun hf => hf)
  have C3 := o3.blk HB7.out (fun hf => hf)
  have hs1 := H3.set.under _ rfl
  clear h3 o3 N1
  generalize W.heap.size = s at *
  go_wp2_with fail
  refine (set_new w3).mono ?_
  rintro e w4 ⟨rfl, h4, o4, -⟩
  have Hz4 := SW.new H3.bel h4 o4
  have H4 := H3.only0 o4
  have B4 := o4.blk B3 (fun hf => hf)
  have C4 := o4.blk C3 (fun hf => hf)
  clear h4 o4 H3 B3 C3
  generalize w3.heap.size = t at *
  have A := set_add H4.set p hp1 0
  go_wp2_with fail
  refine A.mono ?_
  rintro e w5 ⟨rfl, P5, h5, o5, g5⟩
  have H5 := H4.step h5 o5
  have Hz5 : SW w w5 (fun b => b = t) t [] (fun _ => 0) [] := ⟨Hz4.set.only o5 (fun b hb e => by omega), H5.bel⟩
  have B5 := o5.blk B4 (fun e => by omega)
  have C5 := o5.blk C4 (fun e => by omega)
  have ap5 : Apart (fun b => b = t) P5 := Apart.grew' (fun b hb e => by omega) g5 Hz4.set.under
  rw [show addK [] (p : Int) = [(p : Int)] from rfl] at H5
  have hlk : addL [] (fun _ => 0) p 0 p = 0 := by simp [addL, lkSet]
  generalize addL [] (fun _ => 0) p 0 = lk at *
  clear h5 o5 g5 H4 Hz4 B4 C4 A
  have c5 : w5.cell? ⟨w.heap.size + 1, 0, none⟩ = some (.slice (some ad) 0 c) := C5.cell 0
  have S := set_span Hz5.set 0 9 (some ad) c ([] : List Int) (II.out.below H5.bel) (fun _ => rfl) (by simp)
  rw [show spanRes [] 0 9 = 0 from rfl, show spanRs [] 0 9 ([] : List Int) = [⟨0, 9, ([] : List Int)⟩] from rfl] at S
  have HLK := Lib.hid hlk
  clear hlk
  go_wp2_with fail
  refine S.mono ?_
  rintro e w6 ⟨rfl, P6, h6, o6, g6⟩
  have Hz6 := Hz5.step h6 o6
  have H6 : SW w w6 P5 s [(p : Int)] lk [] := ⟨H5.set.only o6 ap5.symm, Hz6.bel⟩
  have B6 := o6.blk B5 (fun e => by omega)
  have C6 := o6.blk C5 (fun e => by omega)
  have u5 : Under P5 w6.heap.size := H6.set.under
  have u6 : Under P6 w6.heap.size := Hz6.set.under
  clear h6 o6 g6 H5 Hz5 B5 C5 S c5 ap5
  have c6 : w6.cell? ⟨w.heap.size + 1, 0, none⟩ = some (.slice (some ad) 0 c) := C6.cell 0
  have c6a : (w6.alloc (.cells #[] 22)).cell? ⟨w.heap.size + 1, 0, none⟩ = some (.slice (some ad) 0 c) := (C6.alloc _).cell 0
  go_wp2_with (at_builtin; refine wpList_append_own _ rfl _ _ 23 rfl w6.heap.size 22 i0 (.int .u64 0) 1 8 Try.underlying23 hi0 hz0 hz1' hz2' rfl (by decide) _ _ _ rfl (World.ownsRow_made w6 #[] 0 (Nat.le_refl _) (Nat.zero_le _) rfl) ad 0 c (([] : List Int).map (Value.int .u64)) rfl ?qc1 ?qc2 ?qc3 ?qc4 ?qc5 ?qc6 ?_)
  case qc1 => simp
  case qc2 => intro j u hj; simp at hj
  case qc3 => intro u hu; obtain ⟨x, _, rfl⟩ := List.mem_map.1 hu; rfl
  case qc4 => unfold maxLen; omega
  case qc5 => omega
  case qc6 => simp
  intro v7 w7 hown7 hgrow7 hnil7
  obtain ⟨g7, cap7, rfl, hg7, hg7'⟩ := own_some (n := 0) (m := 0) (cap := 0) (by simpa using hown7) hnil7
  have V7 : w7.ownsRow w6.heap.size 22 1 (.slice (some ⟨g7, 0, none⟩) 0 cap7) 0 (([] : List Int).map (Value.int .u64)) := by simpa using hown7
  have o7 : Only0 w6 w7 := ((Only0.refl w6).alloc _).grown hgrow7 (fun k hk => by simp [Value.ownBlock] at hk; omega)
  clear hown7 hgrow7 hnil7
  -- Ov: the other's row: value OV at box Bo
  go_wp2_with fail
  obtain ⟨w10, hW10⟩ : ∃ w10, w10 = ((w7.alloc (.cells #[.slice (some ⟨w7.heap.size + 1, 0, none⟩) 1 1] 23)).alloc (.cells #[.int .u64 by_] 22)) := ⟨_, rfl⟩
  rw [← hW10]
  have o10 : Only0 w6 w10 := by rw [hW10]; exact (o7.alloc _).alloc _
  have D10 : Blk w10 w7.heap.size 23 #[.slice (some ⟨w7.heap.size + 1, 0, none⟩) [by_].length 1] := by rw [hW10]; exact (Blk.new _ _ _).alloc _
  have E10 : Blk w10 (w7.heap.size + 1) 22 #[.int .u64 by_] := by rw [hW10]; exact Blk.new' _ _ _ _ (by simp)
  have IO : Ints .u64 w10 (some ⟨w7.heap.size + 1, 0, none⟩) [by_] := Ints.of_blk (zs := [by_]) E10
  have H10 := H6.only0 o10
  have Hz10 := Hz6.only0 o10
  have B10 := o10.blk B6 (fun hf => hf)
  have C10 := o10.blk C6 (fun hf => hf)
  have HNE : ([] : List Int) ≠ [by_] := by simp
  have OSL : [by_].length ≤ 1000000 := by simp
  clear hW10 o10 E10 o7 H6 Hz6 B6 C6
  have HN := missing_res p hp1 lk HLK.out x (fun _ _ => [])
  have HM := missing_res2 (fun _ => 0) ([] : List Int) [by_] (fun _ => 0) HNE
  obtain ⟨r1, r2'⟩ := HN
  obtain ⟨d, kv, r2, hd⟩ : ∃ (d : Bool) (kv : Int), allRes 3 [(p : Int)] lk [] (fun _ => x) (fun _ _ => []) = (d, kv) ∧ d = decide (x = 0) := ⟨_, _, r2', rfl⟩
  have HDX := Lib.hid hd
  clear r2' hd
  obtain ⟨r3, r4, r5⟩ := HM
  have NX := fun wx (o : Only0 w10 wx) => missing_now w.heap.size x wx (o.blk B10 (fun hf => hf))
  have SX := fun wx (o : Only0 w10 wx) => missing_span2 w7.heap.size (some ⟨w7.heap.size + 1, 0, none⟩) 1 [by_] wx (o.blk D10 (fun hf => hf)) (IO.below o.below) (by simp)
  have SZ := fun wx (o : Only0 w10 wx) => missing_span3 (w.heap.size + 1) (some ad) c ([] : List Int) wx (by have := (o.blk C10 (fun hf => hf)); exact this) ((II.out.below H10.bel).below o.below) (by simp)
  have A1 := all_any H10.set 2 (NX w10 (Only0.refl _)) (nil_span w10)
  rw [r1] at A1
  have HD := Lib.hid (And.intro NX (And.intro SX SZ))
  have cx := fun wx (o : Only0 w10 wx) => (o.blk B10 (fun hf => hf)).cell 0
  have HCX := Lib.hid cx
  clear NX SX SZ B10 C10 D10 IO cx HLK
  refine A1.mono ?_
  rintro e w11 ⟨rfl, o11⟩
  have A2 := all_any (H10.only0 o11).set 3 (HD.out.1 w11 o11) (nil_span w11)
  rw [r2] at A2
  have o11' := Lib.hid o11
  clear A1 o11
  go_wp2_with fail
  refine A2.mono ?_
  rintro e w12 ⟨rfl, o12⟩
  have o12' := Lib.hid (o11'.out.trans o12)
  have A3 := all_any (Hz10.only0 o12'.out).set 2 (nil_now w12) (HD.out.2.1 w12 o12'.out)
  rw [r3] at A3
  clear A2 o12 o11'
  go_wp2_with fail
  refine A3.mono ?_
  rintro e w13 ⟨rfl, o13⟩
  have o13' := Lib.hid (o12'.out.trans o13)
  have A4 := all_any (Hz10.only0 o13'.out).set 3 (nil_now w13) (HD.out.2.1 w13 o13'.out)
  rw [r4] at A4
  clear A3 o13 o12'
  go_wp2_with fail
  refine A4.mono ?_
  rintro e w14 ⟨rfl, o14⟩
  have o14' := Lib.hid (o13'.out.trans o14)
  have A5 := all_any (Hz10.only0 o14'.out).set 3 (nil_now w14) (HD.out.2.2 w14 o14'.out)
  rw [r5] at A5
  clear A4 o14 o13'
  go_wp2_with fail
  refine A5.mono ?_
  rintro e w15 ⟨rfl, o15⟩
  have o15' := Lib.hid (o14'.out.trans o15)
  have c15 : w15.cell? ⟨w.heap.size, 0, none⟩ = some (.int .u64 x) := HCX.out w15 o15'.out
  have hbel := (H10.only0 o15'.out).bel
  clear A5 o15 o14' HCX HD Hz10 H10
  by_cases hx : x = 0
  · have hxb : (x == 0) = true := by simpa using hx
    have HX := Lib.hid hx
    have d1 : decide (x = 0) = true := decide_eq_true hx
    obtain rfl : d = true := HDX.out.trans d1
    clear hx d1
    go_wp2_with fail
    refine (awake15_any _).mono ?_
    rintro e w9 ⟨rfl, rfl⟩
    go_wp2_with fail
    go_ret
    exact ⟨rfl, hbel⟩
  · have hxb : (x == 0) = false := by simpa using hx
    have d1 : decide (x = 0) = false := decide_eq_false hx
    obtain rfl : d = false := HDX.out.trans d1
    go_wp2_with fail
    refine (awake15_any _).mono ?_
    rintro e w9 ⟨rfl, rfl⟩
    go_wp2_with fail
    go_ret
    exact ⟨rfl, hbel⟩

set_option maxRecDepth 100000 in
set_option maxHeartbeats 8000000 in
theorem missing_none (key x : Int) (_h : True) (at_ by_ : Int) (w : World) (w1 : (Lit.int .u64 x).wf = true) (w4 : (Lit.int .u64 by_).wf = true)
    (i2 : Ints .u64 w none ([] : List Int)) (hz : True) :
    Calls Try.prog 10 #[.int .i64 key, .int .u64 x, .slice none 0 0, .int .i64 at_, .int .u64 by_] w fun e w' => e = .returned (.bool true) ∧ Below w.heap.size w w' := by
  have x1 := i64_and63 key
  obtain ⟨p, hp, hp1⟩ : ∃ p : Nat, key % 64 = (p : Int) ∧ p < 64 := ⟨(key % 64).toNat, by omega, by omega⟩
  rw [hp] at x1
  clear hp
  obtain ⟨i0, hi0, hz0, hz1', hz2'⟩ := info_parts info_u64'
  have hB6 : Blk ((w.alloc (.cells #[.int .u64 x] 22)).alloc (.cells #[.slice none 0 0] 23)) w.heap.size 22 #[.int .u64 x] := (Blk.new _ _ _).alloc _
  have hB7 : Blk ((w.alloc (.cells #[.int .u64 x] 22)).alloc (.cells #[.slice none 0 0] 23)) (w.heap.size + 1) 23 #[.slice none 0 0] := Blk.new' _ _ _ _ (by simp)
  have o0 : Only0 w ((w.alloc (.cells #[.int .u64 x] 22)).alloc (.cells #[.slice none 0 0] 23)) := ((Only0.refl w).alloc _).alloc _
  obtain ⟨W, hW⟩ : ∃ W, W = ((w.alloc (.cells #[.int .u64 x] 22)).alloc (.cells #[.slice none 0 0] 23)) := ⟨_, rfl⟩
  have N1 := set_new W
  rw [← hW] at hB6 hB7 o0
  have hlt := hB7.lt
  have hlt6 := hB6.lt
  rw [hW] at N1
  have HB6 := Lib.hid hB6
  have HB7 := Lib.hid hB7
  have HO := Lib.hid o0
  have II := Lib.hid i2
  clear hB6 hB7 o0 i2
  go_enter Try.func10, Try.ntmps10
  go_wp2_with fail
  refine N1.mono ?_
  rintro e w3 ⟨rfl, h3, o3, -⟩
  rw [← hW] at h3 o3 ⊢
  have H3 := SW.new HO.out.below h3 o3
  have B3 := o3.blk HB6.out (fun hf => hf)
  have C3 := o3.blk HB7.out (fun hf => hf)
  have hs1 := H3.set.under _ rfl
  clear h3 o3 N1
  generalize W.heap.size = s at *
  go_wp2_with fail
  refine (set_new w3).mono ?_
  rintro e w4 ⟨rfl, h4, o4, -⟩
  have Hz4 := SW.new H3.bel h4 o4
  have H4 := H3.only0 o4
  have B4 := o4.blk B3 (fun hf => hf)
  have C4 := o4.blk C3 (fun hf => hf)
  clear h4 o4 H3 B3 C3
  generalize w3.heap.size = t at *
  have A := set_add H4.set p hp1 0
  go_wp2_with fail
  refine A.mono ?_
  rintro e w5 ⟨rfl, P5, h5, o5, g5⟩
  have H5 := H4.step h5 o5
  have Hz5 : SW w w5 (fun b => b = t) t [] (fun _ => 0) [] := ⟨Hz4.set.only o5 (fun b hb e => by omega), H5.bel⟩
  have B5 := o5.blk B4 (fun e => by omega)
  have C5 := o5.blk C4 (fun e => by omega)
  have ap5 : Apart (fun b => b = t) P5 := Apart.grew' (fun b hb e => by omega) g5 Hz4.set.under
  rw [show addK [] (p : Int) = [(p : Int)] from rfl] at H5
  have hlk : addL [] (fun _ => 0) p 0 p = 0 := by simp [addL, lkSet]
  generalize addL [] (fun _ => 0) p 0 = lk at *
  clear h5 o5 g5 H4 Hz4 B4 C4 A
  have c5 : w5.cell? ⟨w.heap.size + 1, 0, none⟩ = some (.slice none 0 0) := C5.cell 0
  have S := set_span Hz5.set 0 9 none 0 ([] : List Int) (II.out.below H5.bel) (fun _ => rfl) (by simp)
  rw [show spanRes [] 0 9 = 0 from rfl, show spanRs [] 0 9 ([] : List Int) = [⟨0, 9, ([] : List Int)⟩] from rfl] at S
  have HLK := Lib.hid hlk
  clear hlk
  go_wp2_with fail
  refine S.mono ?_
  rintro e w6 ⟨rfl, P6, h6, o6, g6⟩
  have Hz6 := Hz5.step h6 o6
  have H6 : SW w w6 P5 s [(p : Int)] lk [] := ⟨H5.set.only o6 ap5.symm, Hz6.bel⟩
  have B6 := o6.blk B5 (fun e => by omega)
  have C6 := o6.blk C5 (fun e => by omega)
  have u5 : Under P5 w6.heap.size := H6.set.under
  have u6 : Under P6 w6.heap.size := Hz6.set.under
  clear h6 o6 g6 H5 Hz5 B5 C5 S c5 ap5
  have c6 : w6.cell? ⟨w.heap.size + 1, 0, none⟩ = some (.slice none 0 0) := C6.cell 0
  have c6a : (w6.alloc (.cells #[] 22)).cell? ⟨w.heap.size + 1, 0, none⟩ = some (.slice none 0 0) := (C6.alloc _).cell 0
  go_wp2_with (at_builtin; refine wpList_append_own_none rfl _ _ 23 rfl w6.heap.size 22 i0 1 Try.underlying23 hi0 _ _ _ rfl (World.ownsRow_made w6 #[] 0 (Nat.le_refl _) (Nat.zero_le _) rfl) rfl ?_)
  obtain ⟨w7, hw7⟩ : ∃ w7, w7 = w6.alloc (.cells #[] 22) := ⟨_, rfl⟩
  have V7 : (w6.alloc (.cells #[] 22)).ownsRow w6.heap.size 22 1 (.slice (some ⟨w6.heap.size, 0, none⟩) 0 0) 0 [] := World.ownsRow_made w6 #[] 0 (Nat.le_refl _) (Nat.zero_le _) rfl
  have o7 : Only0 w6 (w6.alloc (.cells #[] 22)) := (Only0.refl w6).alloc _
  rw [← hw7] at o7 ⊢
  have hz7 : w6.heap.size + 1 = w7.heap.size := by rw [hw7]; simp
  rw [hz7]
  clear V7 hw7 hz7
  go_wp2_with fail
  obtain ⟨w10, hW10⟩ : ∃ w10, w10 = ((w7.alloc (.cells #[.slice (some ⟨w7.heap.size + 1, 0, none⟩) 1 1] 23)).alloc (.cells #[.int .u64 by_] 22)) := ⟨_, rfl⟩
  rw [← hW10]
  have o10 : Only0 w6 w10 := by rw [hW10]; exact (o7.alloc _).alloc _
  have D10 : Blk w10 w7.heap.size 23 #[.slice (some ⟨w7.heap.size + 1, 0, none⟩) [by_].length 1] := by rw [hW10]; exact (Blk.new _ _ _).alloc _
  have E10 : Blk w10 (w7.heap.size + 1) 22 #[.int .u64 by_] := by rw [hW10]; exact Blk.new' _ _ _ _ (by simp)
  have IO : Ints .u64 w10 (some ⟨w7.heap.size + 1, 0, none⟩) [by_] := Ints.of_blk (zs := [by_]) E10
  have H10 := H6.only0 o10
  have Hz10 := Hz6.only0 o10
  have B10 := o10.blk B6 (fun hf => hf)
  have C10 := o10.blk C6 (fun hf => hf)
  have HNE : ([] : List Int) ≠ [by_] := by simp
  have OSL : [by_].length ≤ 1000000 := by simp
  clear hW10 o10 E10 o7 H6 Hz6 B6 C6
  have HN := missing_res p hp1 lk HLK.out x (fun _ _ => [])
  have HM := missing_res2 (fun _ => 0) ([] : List Int) [by_] (fun _ => 0) HNE
  obtain ⟨r1, r2'⟩ := HN
  obtain ⟨d, kv, r2, hd⟩ : ∃ (d : Bool) (kv : Int), allRes 3 [(p : Int)] lk [] (fun _ => x) (fun _ _ => []) = (d, kv) ∧ d = decide (x = 0) := ⟨_, _, r2', rfl⟩
  have HDX := Lib.hid hd
  clear r2' hd
  obtain ⟨r3, r4, r5⟩ := HM
  have NX := fun wx (o : Only0 w10 wx) => missing_now w.heap.size x wx (o.blk B10 (fun hf => hf))
  have SX := fun wx (o : Only0 w10 wx) => missing_span2 w7.heap.size (some ⟨w7.heap.size + 1, 0, none⟩) 1 [by_] wx (o.blk D10 (fun hf => hf)) (IO.below o.below) (by simp)
  have SZ := fun wx (o : Only0 w10 wx) => missing_span3 (w.heap.size + 1) none 0 ([] : List Int) wx (by have := (o.blk C10 (fun hf => hf)); exact this) ((II.out.below H10.bel).below o.below) (by simp)
  have A1 := all_any H10.set 2 (NX w10 (Only0.refl _)) (nil_span w10)
  rw [r1] at A1
  have HD := Lib.hid (And.intro NX (And.intro SX SZ))
  have cx := fun wx (o : Only0 w10 wx) => (o.blk B10 (fun hf => hf)).cell 0
  have HCX := Lib.hid cx
  clear NX SX SZ B10 C10 D10 IO cx HLK
  refine A1.mono ?_
  rintro e w11 ⟨rfl, o11⟩
  have A2 := all_any (H10.only0 o11).set 3 (HD.out.1 w11 o11) (nil_span w11)
  rw [r2] at A2
  have o11' := Lib.hid o11
  clear A1 o11
  go_wp2_with fail
  refine A2.mono ?_
  rintro e w12 ⟨rfl, o12⟩
  have o12' := Lib.hid (o11'.out.trans o12)
  have A3 := all_any (Hz10.only0 o12'.out).set 2 (nil_now w12) (HD.out.2.1 w12 o12'.out)
  rw [r3] at A3
  clear A2 o12 o11'
  go_wp2_with fail
  refine A3.mono ?_
  rintro e w13 ⟨rfl, o13⟩
  have o13' := Lib.hid (o12'.out.trans o13)
  have A4 := all_any (Hz10.only0 o13'.out).set 3 (nil_now w13) (HD.out.2.1 w13 o13'.out)
  rw [r4] at A4
  clear A3 o13 o12'
  go_wp2_with fail
  refine A4.mono ?_
  rintro e w14 ⟨rfl, o14⟩
  have o14' := Lib.hid (o13'.out.trans o14)
  have A5 := all_any (Hz10.only0 o14'.out).set 3 (nil_now w14) (HD.out.2.2 w14 o14'.out)
  rw [r5] at A5
  clear A4 o14 o13'
  go_wp2_with fail
  refine A5.mono ?_
  rintro e w15 ⟨rfl, o15⟩
  have o15' := Lib.hid (o14'.out.trans o15)
  have c15 : w15.cell? ⟨w.heap.size, 0, none⟩ = some (.int .u64 x) := HCX.out w15 o15'.out
  have hbel := (H10.only0 o15'.out).bel
  clear A5 o15 o14' HCX HD Hz10 H10
  by_cases hx : x = 0
  · have hxb : (x == 0) = true := by simpa using hx
    have HX := Lib.hid hx
    have d1 : decide (x = 0) = true := decide_eq_true hx
    obtain rfl : d = true := HDX.out.trans d1
    clear hx d1
    go_wp2_with fail
    refine (awake15_any _).mono ?_
    rintro e w9 ⟨rfl, rfl⟩
    go_wp2_with fail
    go_ret
    exact ⟨rfl, hbel⟩
  · have hxb : (x == 0) = false := by simpa using hx
    have d1 : decide (x = 0) = false := decide_eq_false hx
    obtain rfl : d = false := HDX.out.trans d1
    go_wp2_with fail
    refine (awake15_any _).mono ?_
    rintro e w9 ⟨rfl, rfl⟩
    go_wp2_with fail
    go_ret
    exact ⟨rfl, hbel⟩

theorem judgeMissing_walk (key x : Int) (a : Option Addr) (c : Nat) (z : List Int) (at_ by_ : Int) (w : World) (w0 : (Lit.int .i64 key).wf = true) (w1 : (Lit.int .u64 x).wf = true)
    (i2 : Ints .u64 w a z) (f2 : ∀ n ∈ z, (Lit.int .u64 n).wf = true) (s2 : z.length * 8 ≤ 140737488351232) (l2 : z.length ≤ c) (m2 : c ≤ 9223372036854775807) (o2 : a = none → c = 0) (w3 : (Lit.int .i64 at_).wf = true) (w4 : (Lit.int .u64 by_).wf = true) :
    Calls Try.prog 10 #[.int .i64 key, .int .u64 x, .slice a z.length c, .int .i64 at_, .int .u64 by_] w fun e w' => e = .returned (.bool true) ∧ Below w.heap.size w w' := by
  by_cases h40 : 40 < z.length
  · exact missing_long key x a c z.length at_ by_ w h40
  · by_cases h0 : 0 < z.length
    · obtain ⟨b, off, rfl, hc⟩ := i2.at h0
      exact missing_full key x b off c z at_ by_ w w1 w4 i2 f2 ⟨h0, by omega⟩ l2
    · obtain rfl : z = [] := List.eq_nil_of_length_eq_zero (by omega)
      rcases a with _ | ad
      · exact (o2 rfl ▸ missing_none key x trivial at_ by_ w w1 w4 i2 trivial)
      · exact missing_ad key x ad c at_ by_ w w1 w4 i2 trivial trivial
end Go.Proofs.Ytjkdofhlcdimcaa

/-
  The walk of WritesOrder.
-/
import Derived.Test.YtldfkcldfjfohaaWOrderP
namespace Go.Proofs.Ytldfkcldfjfohaa
open Go.RowKit Go.ChangeShapes Go.WideShapes Go.Deep
attribute [local go_sem ↓] Go.wp_at_zero Go.wp_at_succ
set_option linter.unusedVariables false
set_option linter.unusedSimpArgs false

theorem IsW.putG {Y : Nat} {s : Wr} {ks : List Int} (h : IsW Y s ks) {k : Int} (hk : 0 ≤ k ∧ k ≤ 63) (hn : k ∉ ks) (hy : Y.testBit k.toNat = true) : IsW Y (s.write k 0 true) (ks ++ [k]) := by
  have := h.put hk hn
  rwa [show ordV Y k = 0 by unfold ordV; rw [if_pos hy], show ordG Y k = true from hy] at this
theorem IsW.putN {Y : Nat} {s : Wr} {ks : List Int} (h : IsW Y s ks) {k : Int} (hk : 0 ≤ k ∧ k ≤ 63) (hn : k ∉ ks) (hy : Y.testBit k.toNat = false) : IsW Y (s.write k (k + 100) false) (ks ++ [k]) := by
  have := h.put hk hn
  rwa [show ordV Y k = k + 100 by unfold ordV; rw [if_neg (by rw [hy]; simp)], show ordG Y k = false from hy] at this
theorem code0 {k : Int} (hk : 0 ≤ k ∧ k ≤ 63) : wrCode k 0 = 0 := by unfold wrCode wrOkB; simp; omega
theorem code100 {k : Int} (hk : 0 ≤ k ∧ k ≤ 63) : wrCode k (k + 100) = 0 := by unfold wrCode wrOkB; simp; omega
def ps3 : PL := [(0, 1), (31, 2), (63, 3)]
theorem srt3 : Srt ps3 := (risesB_iff ps3).1 (by decide)
theorem rev_get {l : List Int} {k m : Nat} (hk : k < l.length) (hm : m + k + 1 = l.length) : l.reverse.getD m 0 = l.getD k 0 := by
  have h1 : m < l.reverse.length := by simp; omega
  rw [List.getD_eq_getElem?_getD, List.getD_eq_getElem?_getD, List.getElem?_eq_getElem h1, List.getElem?_eq_getElem hk, List.getElem_reverse]
  have : l.length - 1 - m = k := by omega
  simp only [this]

set_option maxRecDepth 100000 in
set_option maxHeartbeats 32000000 in
theorem writesOrder_walk (keys gone : Int) (w : World) (hk : (Lit.int .u64 keys).wf = true) (hg : (Lit.int .u64 gone).wf = true) :
    Calls Try.prog 3 #[.int .u64 keys, .int .u64 gone] w fun e w' => e = .returned (.bool true) ∧ Below w.heap.size w w' := by
  obtain ⟨X, rfl, hX⟩ := u64_nat hk
  obtain ⟨Y, rfl, hY⟩ := u64_nat hg
  have NW := wr_new w
  obtain ⟨b, hb⟩ : ∃ b, b = w.heap.size := ⟨_, rfl⟩
  rw [← hb] at NW
  have HB := Lib.hid hb
  clear hb hk hg
  go_enter Try.func3, Try.ntmps3
  go_wp2_with fail
  refine NW.mono ?_
  rintro e w1 ⟨rfl, h1, o1, z1⟩
  have K00 : Hid (SW w w1 (fun x => x = b) b Wr.new) := Lib.hid (by have hb := HB.out; subst hb; exact SW.new (Only0.refl w) h1 o1)
  have NW2 := wr_new w1
  obtain ⟨c, hc0⟩ : ∃ c, c = w1.heap.size := ⟨_, rfl⟩
  rw [← hc0] at NW2
  have HC := Lib.hid hc0
  clear NW h1 o1 z1 hc0
  go_wp2_with fail
  refine NW2.mono ?_
  rintro e w2 ⟨rfl, h2, o2, z2⟩
  have K0 : Hid (∃ s z, W2 w w2 b c s z (fun _ => False) ∧ IsW Y s (keysUp X 0) ∧ IsW Y z (keysDn X 0)) := by
    refine Lib.hid ⟨_, _, ⟨_, _, K00.out.only0 o2, by have hc := HC.out; subst hc; exact SW.new K00.out.o h2 o2, ?_, fun x hx => hx.elim⟩, IsW.new Y, IsW.new Y⟩
    intro x hx hx2
    have := K00.out.set.under x hx
    have := HC.out
    have hx2' : x = w1.heap.size := hx2
    omega
  clear NW2 h2 o2 z2 K00
  go_wp2_with fail
  go_loopw [7, 8, 10] (fun s7 s8 s10 wr => ∃ (k len : Nat) (v : Value), s10 = v ∧ s8 = .int .i64 k ∧ k ≤ 64 ∧ s7 = .int .i64 len ∧ len ≤ k ∧ Hid (len = (keysUp X k).length ∧ ∃ s z, W2 w wr b c s z (fun _ => False) ∧ IsW Y s (keysUp X k) ∧ IsW Y z (keysDn X k))) (fun _ s8 _ _ => 64 - (intOf s8).toNat)
  case atStart => exact ⟨0, 0, _, rfl, rfl, by omega, rfl, by omega, Lib.hid ⟨rfl, K0.out⟩⟩
  case round =>
    clear K0
    obtain ⟨k, len, v, rfl, rfl, hk, rfl, hlen, KR⟩ := hrel
    by_cases hlt : k < 64
    · obtain ⟨m, hmk⟩ : ∃ m, m = 63 - k := ⟨_, rfl⟩
      have hm : (63 : Int) - (k : Int) = (m : Int) := by omega
      have hm63 : m ≤ 63 := by omega
      have hlt64 : decide ((k : Int) < 64) = true := decide_eq_true (by omega)
      have HMK := Lib.hid hmk
      clear hmk
      obtain ⟨g, hg0⟩ : ∃ g, g = wr.heap.size := ⟨_, rfl⟩
      obtain ⟨W, hW⟩ : ∃ W, W = wr.alloc (.cells #[.pointer (some ⟨b, 0, none⟩), .int .i64 k, .pointer (some ⟨c, 0, none⟩), .int .i64 m] 25) := ⟨_, rfl⟩
      have KI : Hid (∃ s z, W2 w W b c s z (fun x => x = g) ∧ Blk W g 25 #[.pointer (some ⟨b, 0, none⟩), .int .i64 k, .pointer (some ⟨c, 0, none⟩), .int .i64 m] ∧ IsW Y s (keysUp X k) ∧ IsW Y z (keysDn X k)) := by
        obtain ⟨s, z, h1, h2, h3⟩ := KR.out.2
        rw [hW, hg0]
        exact Lib.hid ⟨s, z, h1.alloc _, Blk.new _ _ _, h2, h3⟩
      have HLEN := Lib.hid KR.out.1
      have HG := Lib.hid hg0
      clear KR hg0
      go_wp2_with fail
      rw [← hW, ← HG.out]
      clear hW HG
      go_loopw [10, 36] (fun s10 s36 wr => ∃ (v : Value) (q : Int), s10 = v ∧ s36 = .int .i64 q ∧ ((q = 0 ∧ Hid (∃ s z, W2 w wr b c s z (fun x => x = g) ∧ Blk wr g 25 #[.pointer (some ⟨b, 0, none⟩), .int .i64 k, .pointer (some ⟨c, 0, none⟩), .int .i64 m] ∧ IsW Y s (keysUp X k) ∧ IsW Y z (keysDn X k))) ∨ (q = 1 ∧ Hid (∃ s z, W2 w wr b c s z (fun x => x = g) ∧ Blk wr g 25 #[.pointer (some ⟨b, 0, none⟩), .int .i64 k, .pointer (some ⟨c, 0, none⟩), .int .i64 m] ∧ IsW Y s (keysUp X (k + 1)) ∧ IsW Y z (keysDn X k))) ∨ (q = 2 ∧ Hid (∃ s z, W2 w wr b c s z (fun x => x = g) ∧ Blk wr g 25 #[.pointer (some ⟨b, 0, none⟩), .int .i64 k, .pointer (some ⟨c, 0, none⟩), .int .i64 m] ∧ IsW Y s (keysUp X (k + 1)) ∧ IsW Y z (keysDn X (k + 1)))))) (fun _ s36 _ => 2 - (intOf s36).toNat)
      case atStart => exact ⟨_, 0, rfl, rfl, .inl ⟨rfl, KI⟩⟩
      case round =>
        clear KI
        obtain ⟨v, q, rfl, rfl, hcase⟩ := hrel
        rcases hcase with ⟨rfl, HA⟩ | ⟨rfl, HA⟩ | ⟨rfl, HA⟩
        · obtain ⟨s, z, hw2, hb0, i1, i2⟩ := HA.out
          clear HA
          have c0 : wr.cell? ⟨g, 0, none⟩ = some (.pointer (some ⟨b, 0, none⟩)) := hb0.cell 0
          have c1 : wr.cell? ⟨g, 1, none⟩ = some (.int .i64 k) := hb0.cell 1
          have KA := hw2.only0 ((Only0.refl wr).alloc (.cells #[.pointer (some ⟨b, 0, none⟩), .int .i64 k] 25))
          have hb1 := hb0.alloc (.cells #[.pointer (some ⟨b, 0, none⟩), .int .i64 k] 25)
          clear hw2
          rcases bit_fact X k with ⟨br, tr⟩ | ⟨br, tr⟩
          · have KN : Hid (∃ s' z', W2 w (wr.alloc (.cells #[.pointer (some ⟨b, 0, none⟩), .int .i64 k] 25)) b c s' z' (fun x => x = g) ∧ Blk (wr.alloc (.cells #[.pointer (some ⟨b, 0, none⟩), .int .i64 k] 25)) g 25 #[.pointer (some ⟨b, 0, none⟩), .int .i64 k, .pointer (some ⟨c, 0, none⟩), .int .i64 m] ∧ IsW Y s' (keysUp X (k + 1)) ∧ IsW Y z' (keysDn X k)) := Lib.hid ⟨s, z, KA, hb1, (by rw [keysUp_no tr]; exact i1), i2⟩
            clear KA hb1 hb0 i1 i2 tr
            go_wp2_with fail
            go_roundw
            case rel => exact ⟨_, _, rfl, rfl, (.inr (.inl ⟨rfl, KN⟩))⟩
            case measure => simp [intOf]
          · rcases bit_fact Y k with ⟨by_, ty⟩ | ⟨by_, ty⟩
            · have C := w2_put KA (k : Int) ((k : Int) + 100)
              rw [code100 (by omega)] at C
              have HI := Lib.hid (And.intro i1 i2)
              have HBK := Lib.hid hb1
              clear i1 i2 hb1 KA hb0
              go_wp2_with fail
              refine C.mono ?_
              rintro e w5 ⟨rfl, k5, o5⟩
              have hb5 := o5.blk HBK.out (fun h => h rfl)
              obtain ⟨i1, i2⟩ := HI.out
              have KN : Hid (∃ s' z', W2 w w5 b c s' z' (fun x => x = g) ∧ Blk w5 g 25 #[.pointer (some ⟨b, 0, none⟩), .int .i64 k, .pointer (some ⟨c, 0, none⟩), .int .i64 m] ∧ IsW Y s' (keysUp X (k + 1)) ∧ IsW Y z' (keysDn X k)) := Lib.hid ⟨_, _, k5, hb5, (by rw [keysUp_yes tr]; exact i1.putN (by omega) keysUp_new (by simpa using ty)), i2⟩
              clear HI HBK i1 i2 hb5 k5 o5 C tr ty
              go_wp2_with fail
              go_roundw
              case rel => exact ⟨_, _, rfl, rfl, (.inr (.inl ⟨rfl, KN⟩))⟩
              case measure => simp [intOf]
            · have C := w2_drop KA (k : Int)
              rw [code0 (by omega)] at C
              have HI := Lib.hid (And.intro i1 i2)
              have HBK := Lib.hid hb1
              clear i1 i2 hb1 KA hb0
              go_wp2_with fail
              refine C.mono ?_
              rintro e w5 ⟨rfl, k5, o5⟩
              have hb5 := o5.blk HBK.out (fun h => h rfl)
              obtain ⟨i1, i2⟩ := HI.out
              have KN : Hid (∃ s' z', W2 w w5 b c s' z' (fun x => x = g) ∧ Blk w5 g 25 #[.pointer (some ⟨b, 0, none⟩), .int .i64 k, .pointer (some ⟨c, 0, none⟩), .int .i64 m] ∧ IsW Y s' (keysUp X (k + 1)) ∧ IsW Y z' (keysDn X k)) := Lib.hid ⟨_, _, k5, hb5, (by rw [keysUp_yes tr]; exact i1.putG (by omega) keysUp_new (by simpa using ty)), i2⟩
              clear HI HBK i1 i2 hb5 k5 o5 C tr ty
              go_wp2_with fail
              go_roundw
              case rel => exact ⟨_, _, rfl, rfl, (.inr (.inl ⟨rfl, KN⟩))⟩
              case measure => simp [intOf]
        · obtain ⟨s, z, hw2, hb0, i1, i2⟩ := HA.out
          clear HA
          have c0 : wr.cell? ⟨g, 2, none⟩ = some (.pointer (some ⟨c, 0, none⟩)) := hb0.cell 2
          have c1 : wr.cell? ⟨g, 3, none⟩ = some (.int .i64 m) := hb0.cell 3
          have KA := hw2.only0 ((Only0.refl wr).alloc (.cells #[.pointer (some ⟨c, 0, none⟩), .int .i64 m] 25))
          have hb1 := hb0.alloc (.cells #[.pointer (some ⟨c, 0, none⟩), .int .i64 m] 25)
          clear hw2
          rcases bit_fact X m with ⟨br, tr⟩ | ⟨br, tr⟩
          · have KN : Hid (∃ s' z', W2 w (wr.alloc (.cells #[.pointer (some ⟨c, 0, none⟩), .int .i64 m] 25)) b c s' z' (fun x => x = g) ∧ Blk (wr.alloc (.cells #[.pointer (some ⟨c, 0, none⟩), .int .i64 m] 25)) g 25 #[.pointer (some ⟨b, 0, none⟩), .int .i64 k, .pointer (some ⟨c, 0, none⟩), .int .i64 m] ∧ IsW Y s' (keysUp X (k + 1)) ∧ IsW Y z' (keysDn X (k + 1))) := Lib.hid ⟨s, z, KA, hb1, i1, (by rw [keysDn_no (by rw [← HMK.out]; exact tr)]; exact i2)⟩
            clear KA hb1 hb0 i1 i2 tr
            go_wp2_with fail
            go_roundw
            case rel => exact ⟨_, _, rfl, rfl, (.inr (.inr ⟨rfl, KN⟩))⟩
            case measure => simp [intOf]
          · rcases bit_fact Y m with ⟨by_, ty⟩ | ⟨by_, ty⟩
            · have C := w2_put KA.swap (m : Int) ((m : Int) + 100)
              rw [code100 (by omega)] at C
              have HI := Lib.hid (And.intro i1 i2)
              have HBK := Lib.hid hb1
              clear i1 i2 hb1 KA hb0
              go_wp2_with fail
              refine C.mono ?_
              rintro e w5 ⟨rfl, k5, o5⟩
              have hb5 := o5.blk HBK.out (fun h => h rfl)
              obtain ⟨i1, i2⟩ := HI.out
              have KN : Hid (∃ s' z', W2 w w5 b c s' z' (fun x => x = g) ∧ Blk w5 g 25 #[.pointer (some ⟨b, 0, none⟩), .int .i64 k, .pointer (some ⟨c, 0, none⟩), .int .i64 m] ∧ IsW Y s' (keysUp X (k + 1)) ∧ IsW Y z' (keysDn X (k + 1))) := Lib.hid ⟨_, _, k5.swap, hb5, i1, (by rw [keysDn_yes (by rw [← HMK.out]; exact tr), ← HMK.out]; exact i2.putN (by omega) (by have := keysDn_new (X := X) (show k < 64 by omega); rwa [← HMK.out] at this) (by simpa using ty))⟩
              clear HI HBK i1 i2 hb5 k5 o5 C tr ty
              go_wp2_with fail
              go_roundw
              case rel => exact ⟨_, _, rfl, rfl, (.inr (.inr ⟨rfl, KN⟩))⟩
              case measure => simp [intOf]
            · have C := w2_drop KA.swap (m : Int)
              rw [code0 (by omega)] at C
              have HI := Lib.hid (And.intro i1 i2)
              have HBK := Lib.hid hb1
              clear i1 i2 hb1 KA hb0
              go_wp2_with fail
              refine C.mono ?_
              rintro e w5 ⟨rfl, k5, o5⟩
              have hb5 := o5.blk HBK.out (fun h => h rfl)
              obtain ⟨i1, i2⟩ := HI.out
              have KN : Hid (∃ s' z', W2 w w5 b c s' z' (fun x => x = g) ∧ Blk w5 g 25 #[.pointer (some ⟨b, 0, none⟩), .int .i64 k, .pointer (some ⟨c, 0, none⟩), .int .i64 m] ∧ IsW Y s' (keysUp X (k + 1)) ∧ IsW Y z' (keysDn X (k + 1))) := Lib.hid ⟨_, _, k5.swap, hb5, i1, (by rw [keysDn_yes (by rw [← HMK.out]; exact tr), ← HMK.out]; exact i2.putG (by omega) (by have := keysDn_new (X := X) (show k < 64 by omega); rwa [← HMK.out] at this) (by simpa using ty))⟩
              clear HI HBK i1 i2 hb5 k5 o5 C tr ty
              go_wp2_with fail
              go_roundw
              case rel => exact ⟨_, _, rfl, rfl, (.inr (.inr ⟨rfl, KN⟩))⟩
              case measure => simp [intOf]
        · rcases bit_fact X k with ⟨br, tr⟩ | ⟨br, tr⟩
          · have KN : Hid (len = (keysUp X (k + 1)).length ∧ ∃ s z, W2 w wr b c s z (fun _ => False) ∧ IsW Y s (keysUp X (k + 1)) ∧ IsW Y z (keysDn X (k + 1))) := by
              obtain ⟨s, z, h1, h2, h3, h4⟩ := HA.out
              exact Lib.hid ⟨by rw [keysUp_no tr]; exact HLEN.out, s, z, h1.less, h3, h4⟩
            clear HA HLEN tr
            go_wp2_with fail
            go_roundw
            case rel => exact ⟨k + 1, len, _, rfl, by go_num, by omega, rfl, by omega, KN⟩
            case measure => simp [intOf]; omega
          · have KN : Hid (len + 1 = (keysUp X (k + 1)).length ∧ ∃ s z, W2 w wr b c s z (fun _ => False) ∧ IsW Y s (keysUp X (k + 1)) ∧ IsW Y z (keysDn X (k + 1))) := by
              obtain ⟨s, z, h1, h2, h3, h4⟩ := HA.out
              exact Lib.hid ⟨by rw [keysUp_yes tr]; simp [HLEN.out], s, z, h1.less, h3, h4⟩
            clear HA HLEN tr
            go_wp2_with fail
            go_roundw
            case rel => exact ⟨k + 1, len + 1, _, rfl, by go_num, by omega, by go_num, by omega, KN⟩
            case measure => simp [intOf]; omega
    · obtain rfl : k = 64 := by omega
      have HLEN := Lib.hid KR.out.1
      obtain ⟨s, z, hw2, i1, i2⟩ := KR.out.2
      have HW2 := Lib.hid hw2
      have H1 := Lib.hid i1
      have H2 := Lib.hid i2
      clear KR hw2 i1 i2
      obtain ⟨W, hW⟩ : ∃ W, W = wr.alloc (.cells #[.int .i64 0, .int .i64 1, .int .i64 31, .int .i64 2, .int .i64 63, .int .i64 3] 31) := ⟨_, rfl⟩
      obtain ⟨g, hg0⟩ : ∃ g, g = wr.heap.size := ⟨_, rfl⟩
      have PI : Hid (PairsIn W (some ⟨g, 0, none⟩) ps3) := by
        have hB : Blk W g 31 #[.int .i64 0, .int .i64 1, .int .i64 31, .int .i64 2, .int .i64 63, .int .i64 3] := by rw [hW, hg0]; exact Blk.new _ _ _
        refine Lib.hid (.inr ⟨g, 0, rfl, fun i hi => ?_⟩)
        have : i = 0 ∨ i = 1 ∨ i = 2 := by simp [ps3] at hi; omega
        rcases this with rfl | rfl | rfl <;> exact ⟨hB.cell _, hB.cell _⟩
      have HWW := Lib.hid (by rw [hW]; exact HW2.out.only0 ((Only0.refl wr).alloc _) : W2 w W b c s z (fun _ => False))
      have HG := Lib.hid hg0
      clear HW2 hg0
      obtain ⟨P, Q, hP, hQ, -, -⟩ := HWW.out
      have C1 := wr_all hP.set
      rw [show s.keys.length = len by rw [H1.out.keys]; exact HLEN.out.symm] at C1
      have HP := Lib.hid hP
      have HQ := Lib.hid hQ
      clear hP hQ
      go_wp2_with fail
      rw [← hW, ← HG.out]
      clear hW HG HWW
      refine C1.mono ?_
      rintro e w3 ⟨⟨a1, c1, rfl, own1⟩, o3⟩
      have P3 := Lib.hid (HP.out.only0 o3)
      have Q3 := Lib.hid (HQ.out.only0 o3)
      have PI3 := Lib.hid (PI.out.only o3 (fun _ _ hf => hf))
      have W1 := Lib.hid (WritesIn.of_own (ks := s.keys) (by rw [show s.keys.length = len by rw [H1.out.keys]; exact HLEN.out.symm]; exact own1))
      have C2 := wr_all Q3.out.set
      have hzl : z.keys.length = len := by rw [H2.out.keys, keys_rev, List.length_reverse]; exact HLEN.out.symm
      rw [hzl] at C2
      clear C1 own1 o3 HP HQ PI
      go_wp2_with fail
      refine C2.mono ?_
      rintro e w4 ⟨⟨a2, c2, rfl, own2⟩, o4⟩
      have P4 := Lib.hid (P3.out.only0 o4)
      have Q4 := Lib.hid (Q3.out.only0 o4)
      have PI4 := Lib.hid (PI3.out.only o4 (fun _ _ hf => hf))
      have W14 := Lib.hid (W1.out.only o4 (fun _ _ hf => hf))
      have W24 := Lib.hid (WritesIn.of_own (ks := z.keys) (by rw [hzl]; exact own2))
      have C3 : Calls Try.prog 12 #[.pointer (some ⟨b, 0, none⟩), .slice (some ⟨g, 0, none⟩) 3 3, .int .i64 0, .int .i64 63] w4 _ := sw_over P4.out (some ⟨g, 0, none⟩) 3 ps3 0 63 PI4.out srt3 (by decide)
      clear C2 own2 o4 P3 Q3 PI3 W1 hzl
      go_wp2_with fail
      refine C3.mono ?_
      rintro e w5 ⟨x, ax, cx, rfl, v5, p5, l5, k5⟩
      have Q5 := Lib.hid (Q4.out.only0 k5)
      have PI5 := Lib.hid (PI4.out.only k5 (fun _ _ hf => hf))
      have W15 := Lib.hid (W14.out.only k5 (fun _ _ hf => hf))
      have W25 := Lib.hid (W24.out.only k5 (fun _ _ hf => hf))
      have V5 := Lib.hid v5
      have PX5 := Lib.hid p5
      have C4 : Calls Try.prog 12 #[.pointer (some ⟨c, 0, none⟩), .slice (some ⟨g, 0, none⟩) 3 3, .int .i64 0, .int .i64 63] w5 _ := sw_over Q5.out (some ⟨g, 0, none⟩) 3 ps3 0 63 PI5.out srt3 (by decide)
      have lx : x.length ≤ 67 := by simpa [ps3] using l5
      clear C3 v5 p5 k5 l5 P4 Q4 PI4 W14 W24
      go_wp2_with fail
      refine C4.mono ?_
      rintro e w6 ⟨y, ay, cy, rfl, v6, p6, l6, k6⟩
      have E := ord_over H1.out H2.out V5.out v6
      have Q6 := Lib.hid (Q5.out.only0 k6)
      have W16 := Lib.hid (W15.out.only k6 (fun _ _ hf => hf))
      have W26 := Lib.hid (W25.out.only k6 (fun _ _ hf => hf))
      have ly : y.length ≤ 67 := by simpa [ps3] using l6
      have C5 := samePairs_any ax ay cx cy x y w6 (PX5.out.only k6 (fun _ _ hf => hf)) p6 (by omega) (by omega)
      rw [decide_eq_true E] at C5
      clear C4 v6 p6 k6 l6 Q5 PI5 W15 W25 V5 PX5 E
      go_wp2_with fail
      refine C5.mono ?_
      rintro e w7 ⟨rfl, n7, rfl⟩
      clear C5
      go_wp2_with fail
      go_loopw [14] (fun s14 wr => ∃ k n : Nat, s14 = .int .i64 k ∧ k ≤ len ∧ wr = w6.drewN n) (fun s14 _ => len - (intOf s14).toNat)
      case atStart => exact ⟨0, n7, rfl, by omega, rfl⟩
      case round =>
        obtain ⟨k, n, rfl, hkl, rfl⟩ := hrel
        by_cases hk2 : k < len
        · obtain ⟨m, hm0⟩ : ∃ m, m + k + 1 = len := ⟨len - k - 1, by omega⟩
          have hm : (len : Int) - 1 - (k : Int) = (m : Int) := by omega
          obtain ⟨g1, rfl, q1⟩ : ∃ g, a1 = some ⟨g, 0, none⟩ ∧ ∀ i, i < s.keys.length → w6.cell? ⟨g, i * 3, none⟩ = some (.int .i64 (s.keys.getD i 0)) ∧ w6.cell? ⟨g, i * 3 + 1, none⟩ = some (.int .i64 (s.val (s.keys.getD i 0))) ∧ w6.cell? ⟨g, i * 3 + 2, none⟩ = some (.bool (s.gone (s.keys.getD i 0))) := by
            rcases W16.out with h | h
            · have := HLEN.out; rw [← H1.out.keys, h] at this; simp at this; omega
            · exact h
          obtain ⟨g2, rfl, q2⟩ : ∃ g, a2 = some ⟨g, 0, none⟩ ∧ ∀ i, i < z.keys.length → w6.cell? ⟨g, i * 3, none⟩ = some (.int .i64 (z.keys.getD i 0)) ∧ w6.cell? ⟨g, i * 3 + 1, none⟩ = some (.int .i64 (z.val (z.keys.getD i 0))) ∧ w6.cell? ⟨g, i * 3 + 2, none⟩ = some (.bool (z.gone (z.keys.getD i 0))) := by
            rcases W26.out with h | h
            · have := HLEN.out; rw [← List.length_reverse, ← keys_rev, ← H2.out.keys, h] at this; simp at this; omega
            · exact h
          have q1k := q1 k (by rw [H1.out.keys, ← HLEN.out]; exact hk2)
          have q2m := q2 m (by rw [H2.out.keys, keys_rev, List.length_reverse, ← HLEN.out]; omega)
          have hkey : z.keys.getD m 0 = s.keys.getD k 0 := by
            rw [H2.out.keys, keys_rev, H1.out.keys]
            exact rev_get (by rw [← HLEN.out]; exact hk2) (by rw [← HLEN.out]; exact hm0)
          have hmem : s.keys.getD k 0 ∈ keysUp X 64 := by
            rw [H1.out.keys, List.getD_eq_getElem?_getD, List.getElem?_eq_getElem (by rw [← HLEN.out]; exact hk2)]
            exact List.getElem_mem _
          rw [hkey] at q2m
          rw [H1.out.val _ hmem, H1.out.gone _ hmem] at q1k
          rw [H2.out.val _ (by rw [keys_rev, List.mem_reverse]; exact hmem), H2.out.gone _ (by rw [keys_rev, List.mem_reverse]; exact hmem)] at q2m
          generalize s.keys.getD k 0 = K at *
          generalize ordV Y K = V at *
          generalize ordG Y K = G at *
          obtain ⟨c10, c11, c12⟩ := q1k
          obtain ⟨c20, c21, c22⟩ := q2m
          have hq : ∀ nn, (binOp .neq 38 (.agg #[.int .i64 K, .int .i64 V, .bool G]) (.agg #[.int .i64 K, .int .i64 V, .bool G])).run Try.prog ((w6.drewN n).drewN nn) = .ok (.bool false) ((w6.drewN n).drewN nn) := fun nn => by rw [write_neq]; simp
          have hq2 : ∀ nn, (Op.equalIn 10000 38 (.agg #[.int .i64 K, .int .i64 V, .bool G]) (.agg #[.int .i64 K, .int .i64 V, .bool G])).run Try.prog ((w6.drewN n).drewN nn) = .ok true ((w6.drewN n).drewN nn) := fun nn => by rw [write_equalIn]; simp
          have hgt := guardt_write
          have m0 : (0 : Int) ≤ (m : Int) := by omega
          have m1 : (m : Int) < (len : Int) := by omega
          have k0 : (0 : Int) ≤ (k : Int) := by omega
          have k1 : (k : Int) < (len : Int) := by omega
          clear q1 q2 hkey hmem hm0
          go_wp2_with fail
          go_quiet (fail)
          go_wp2_with fail
          go_roundw
          case rel => exact ⟨k + 1, _, by go_num, by omega, rfl⟩
          case measure => simp [intOf]; omega
        · obtain rfl : k = len := by omega
          have C6 := awake_any (w6.drewN n)
          go_wp2_with fail
          refine C6.mono ?_
          rintro e w8 ⟨rfl, k8⟩
          clear C6
          have FIN := Lib.hid ((Q6.out.o.trans ((Only0.refl w6).drewN n)).trans k8)
          go_wp2_with fail
          go_ret
          exact ⟨rfl, FIN.out.below⟩
end Go.Proofs.Ytldfkcldfjfohaa

/-
  The walk of WritesPlays.
-/
import Derived.Test.YtldfkcldfjfohaaWPlaysP
import Derived.Test.YtldfkcldfjfohaaWOrderP
import Derived.Test.YtldfkcldfjfohaaWApp0
import Derived.Deep.CutBlock
import Derived.Deep.DeepCutAuto
namespace Go.Proofs.Ytldfkcldfjfohaa
open Go.RowKit Go.ChangeShapes Go.WideShapes Go.Deep
attribute [local go_sem ↓] Go.wp_at_zero Go.wp_at_succ
set_option linter.unusedVariables false
set_option linter.unusedSimpArgs false

/-- The set, and the row of writes that the law keeps beside it. -/
structure PW (w0 w : World) (P : Nat → Prop) (b : Nat) (s : Wr) (wa : Option Addr) (wc : Nat) : Prop where
  sw : SW w0 w P b s
  row : w.ownsRow w0.heap.size 38 3 (.slice wa s.keys.length wc) s.keys.length (s.rowsOf s.keys)
  ap : Apart P (rowOf (.slice wa s.keys.length wc))
  wz : WZ s
theorem PW.only0 {w0 w w' : World} {P : Nat → Prop} {b : Nat} {s : Wr} {wa : Option Addr} {wc : Nat} (h : PW w0 w P b s wa wc) (o : Only0 w w') : PW w0 w' P b s wa wc :=
  ⟨h.sw.only0 o, rows_only h.row o (fun _ _ h => h), h.ap, h.wz⟩
def inB (I : Int) : Bool := decide (0 ≤ I) && decide (I ≤ 63)
def Found (keys : List Int) (I : Int) (k : Nat) : Prop := (k = keys.length ∧ I ∉ keys) ∨ (k < keys.length ∧ keys.getD k 0 = I)
theorem PW.cell {w0 w : World} {P : Nat → Prop} {b : Nat} {s : Wr} {wa : Option Addr} {wc : Nat} (h : PW w0 w P b s wa wc) {k : Nat} (hk : k < s.keys.length) :
    ∃ g, wa = some ⟨g, 0, none⟩ ∧ w.cell? ⟨g, k * 3, none⟩ = some (.int .i64 (s.keys.getD k 0)) ∧ w.cell? ⟨g, k * 3 + 1, none⟩ = some (.int .i64 (s.val (s.keys.getD k 0))) ∧ w.cell? ⟨g, k * 3 + 2, none⟩ = some (.bool (s.gone (s.keys.getD k 0))) := by
  rcases WritesIn.of_own h.row with h1 | ⟨g, h1, h2⟩
  · rw [h1] at hk; simp at hk
  · exact ⟨g, h1, h2 k hk⟩

theorem row_cell {w : World} {B : Nat} {s : Wr} {wa : Option Addr} {wc : Nat} (h : w.ownsRow B 38 3 (.slice wa s.keys.length wc) s.keys.length (s.rowsOf s.keys)) {k : Nat} (hk : k < s.keys.length) :
    ∃ g, wa = some ⟨g, 0, none⟩ ∧ w.cell? ⟨g, k * 3, none⟩ = some (.int .i64 (s.keys.getD k 0)) ∧ w.cell? ⟨g, k * 3 + 1, none⟩ = some (.int .i64 (s.val (s.keys.getD k 0))) ∧ w.cell? ⟨g, k * 3 + 2, none⟩ = some (.bool (s.gone (s.keys.getD k 0))) ∧ ∀ j, w.frozen? ⟨g, j, none⟩ = false := by
  rcases h.2 with ⟨_, h0⟩ | ⟨g, cap, cur, hv, h1, h2, _⟩
  · omega
  · injection hv with hv _ _
    subst hv
    have hb : Blk w g 38 cur := h2
    rcases WritesIn.of_own h with h1 | ⟨g', h1, h3⟩
    · rw [h1] at hk; simp at hk
    · injection h1 with h1
      injection h1 with h1
      subst h1
      obtain ⟨q0, q1, q2⟩ := h3 k hk
      exact ⟨_, rfl, q0, q1, q2, fun j => hb.free j⟩
theorem pairCells_append (a b : PL) : pairCells (a ++ b) = pairCells a ++ pairCells b := by
  induction a with
  | nil => rfl
  | cons x a ih => simp only [List.cons_append, pairCells, ih]
theorem row_slice {B n : Nat} {w : World} {v : Value} {l : PL} (h : w.ownsRow B 31 2 v n (pairCells l)) : ∃ a c, v = .slice a l.length c ∧ w.ownsRow B 31 2 (.slice a l.length c) l.length (pairCells l) := by
  have hn : n = l.length := by have := h.1; rw [pairCells_len] at this; omega
  subst hn
  rcases h.2 with ⟨rfl, h0⟩ | ⟨g, cap, cur, rfl, h1⟩
  · refine ⟨none, 0, by rw [h0], ?_⟩
    rw [h0]
    rw [h0] at h
    exact h
  · exact ⟨_, cap, rfl, h⟩
theorem news_drop {w : World} {ps : PL} {b off i : Nat} (hc : ∀ k, k < ps.length → w.cell? ⟨b, off + k * 2, none⟩ = some (.int .i64 (ps.getD k (0, 0)).1) ∧ w.cell? ⟨b, off + (k * 2 + 1), none⟩ = some (.int .i64 (ps.getD k (0, 0)).2)) {j : Nat} {u : Value} (hj : (pairCells (ps.drop i))[j]? = some u) : w.cell? ((⟨b, off + i * 2, none⟩ : Addr).add j) = some u := by
  have hjl : j < (ps.drop i).length * 2 := by have := (List.getElem?_eq_some_iff.1 hj).1; rwa [pairCells_len] at this
  have hl : (ps.drop i).length = ps.length - i := List.length_drop ..
  have G := pairCells_get (ps.drop i) (j / 2) (by omega)
  have H := hc (i + j / 2) (by omega)
  have e : (ps.drop i).getD (j / 2) (0, 0) = ps.getD (i + j / 2) (0, 0) := by simp [List.getD_eq_getElem?_getD, List.getElem?_drop]
  rw [e] at G
  rw [Addr.add_lit]
  have : j = j / 2 * 2 ∨ j = j / 2 * 2 + 1 := by omega
  rcases this with q | q
  · rw [q] at hj
    rw [G.1] at hj
    rw [← hj, q, show off + i * 2 + j / 2 * 2 = off + (i + j / 2) * 2 by omega]
    have : j / 2 * 2 / 2 = j / 2 := by omega
    rw [this]
    exact H.1
  · rw [q] at hj
    rw [G.2] at hj
    rw [← hj, q, show off + i * 2 + (j / 2 * 2 + 1) = off + ((i + j / 2) * 2 + 1) by omega]
    have : (j / 2 * 2 + 1) / 2 = j / 2 := by omega
    rw [this]
    exact H.2
/-- The set has been written; the row stands as it was. -/
structure PM (w0 w : World) (P : Nat → Prop) (b : Nat) (s s' : Wr) (wa : Option Addr) (wc : Nat) : Prop where
  sw : SW w0 w P b s'
  row : w.ownsRow w0.heap.size 38 3 (.slice wa s.keys.length wc) s.keys.length (s.rowsOf s.keys)
  ap : Apart P (rowOf (.slice wa s.keys.length wc))
  wz : WZ s'
theorem PW.mid {w0 w w' : World} {P P' : Nat → Prop} {b : Nat} {s s' : Wr} {wa : Option Addr} {wc : Nat} (h : PW w0 w P b s wa wc) (h' : WAt w0.heap.size w' P' b s') (o : Only P w w') (g : Grew w.heap.size P P') (hz : WZ s') : PM w0 w' P' b s s' wa wc :=
  ⟨h.sw.step h' o, rows_only h.row o h.ap.symm, h.ap.grew g (rows_under h.row), hz⟩
theorem PM.same {w0 w : World} {P : Nat → Prop} {b : Nat} {s s' : Wr} {wa : Option Addr} {wc : Nat} (h : PM w0 w P b s s' wa wc) (e : s' = s) : PW w0 w P b s wa wc := by subst e; exact ⟨h.sw, h.row, h.ap, h.wz⟩
theorem PM.old {w0 w : World} {P : Nat → Prop} {b : Nat} {s : Wr} {g wc k : Nat} {I X : Int} {G : Bool} (h : PM w0 w P b s (s.put I X G) (some ⟨g, 0, none⟩) wc) (hn : s.keys.Nodup) (hk : k < s.keys.length) (he : s.keys.getD k 0 = I) :
    PW w0 (((w.setCell ⟨g, k * 3, none⟩ (.int .i64 I)).setCell ⟨g, k * 3 + 1, none⟩ (.int .i64 X)).setCell ⟨g, k * 3 + 2, none⟩ (.bool G)) P b (s.put I X G) (some ⟨g, 0, none⟩) wc := by
  have o1 : Only (rowOf (.slice (some ⟨g, 0, none⟩) s.keys.length wc)) w (((w.setCell ⟨g, k * 3, none⟩ (.int .i64 I)).setCell ⟨g, k * 3 + 1, none⟩ (.int .i64 X)).setCell ⟨g, k * 3 + 2, none⟩ (.bool G)) :=
    Only.setCell (p := ⟨g, k * 3 + 2, none⟩) (Only.setCell (p := ⟨g, k * 3 + 1, none⟩) (Only.setCell (p := ⟨g, k * 3, none⟩) (Only.refl _ w) (fun _ => rowOf_some.2 rfl) _) (fun _ => rowOf_some.2 rfl) _) (fun _ => rowOf_some.2 rfl) _
  have hkeys : (s.put I X G).keys = s.keys := put_keys_old (by rw [← he]; exact getD_in hk)
  have hab := rows_above h.row
  rcases h.row.2 with ⟨h0, _⟩ | ⟨g', cap, cur, hv, h1, h2, h3, h4, h5, h6⟩
  · cases h0
  · injection hv with hv _ hv3
    injection hv with hv
    injection hv with hv
    subst hv hv3
    have hb : Blk w g 38 cur := h2
    refine ⟨⟨h.sw.set.only o1 h.ap, ((h.sw.o.any _).trans o1).mono (fun k hk hP => by have := hab k hP; omega)⟩, ?_, by rw [hkeys]; exact h.ap, h.wz⟩
    rw [hkeys]
    refine ⟨by rw [rowsOf_len], .inr ⟨g, _, putW cur k I X G, rfl, h1, ((hb.set _ _).set _ _).set _ _, h3, h4, by simpa [putW] using h5, ?_⟩⟩
    have := rows_put (x := X) (g := G) hn hk (by omega) h6
    rw [he] at this
    exact this
theorem PM.fresh {w0 w w2 : World} {P : Nat → Prop} {b : Nat} {s : Wr} {wa : Option Addr} {wc gg cap : Nat} {I X : Int} {G : Bool} {o : Obj} (h : PM w0 w P b s (s.put I X G) wa wc) (hn : I ∉ s.keys)
    (h2 : w2.ownsRow w0.heap.size 38 3 (.slice (some ⟨gg, 0, none⟩) (s.keys.length + 1) cap) (s.keys.length + 1) (s.rowsOf s.keys ++ [.int .i64 I, .int .i64 X, .bool G])) (hg : (w.alloc o).grownBy w2 (Value.slice wa s.keys.length wc).ownBlock) (hat : (Value.slice wa s.keys.length wc).ownBlock = some gg ∨ gg = w.heap.size + 1) :
    PW w0 w2 P b (s.put I X G) (some ⟨gg, 0, none⟩) cap := by
  have hkeys : (s.put I X G).keys = s.keys ++ [I] := put_keys_new hn
  have hl : (s.put I X G).keys.length = s.keys.length + 1 := by rw [hkeys]; simp
  refine ⟨h.sw.grown (rows_above h.row) h.ap hg, ?_, ap_grown h.sw.set.under h.ap hat, h.wz⟩
  rw [hl, hkeys, rows_new hn]
  exact h2

set_option maxRecDepth 100000 in
set_option maxHeartbeats 64000000 in
theorem writesPlays_walk (la : Option Addr) (lc : Nat) (l : List (List Int)) (pa : Option Addr) (pc : Nat) (prs : List (List Int)) (lo hi key : Int) (w : World) (hl : OpsIn w la l) (hs : l.length * 24 ≤ 140737488351232) (hlc : l.length ≤ lc) (hm : lc ≤ 9223372036854775807)
    (hp : Recs prKinds w pa prs ∧ ∀ r ∈ prs, r.length = prKinds.length ∧ wfs prKinds r) (hps : prs.length * 16 ≤ 140737488351232) (hpl : prs.length ≤ pc) (hpm : pc ≤ 9223372036854775807)
    (hlo : (Lit.int .i64 lo).wf = true) (hhi : (Lit.int .i64 hi).wf = true) (hkey : (Lit.int .i64 key).wf = true) :
    Calls Try.prog 5 #[.slice la l.length lc, .slice pa prs.length pc, .int .i64 lo, .int .i64 hi, .int .i64 key] w fun e w' => e = .returned (.bool true) ∧ Below w.heap.size w w' := by
  obtain ⟨i0, hi0, hz0, hz1, hz2⟩ := info_parts info_pair
  obtain ⟨j0, hj0, hy0, hy1, hy2⟩ := info_parts info_write
  have hpi := pairs_of_recs hp
  obtain ⟨ps, hps0⟩ : ∃ ps, ps = toPL prs := ⟨_, rfl⟩
  have hlp : prs.length = ps.length := by rw [hps0]; simp [toPL]
  rw [← hps0] at hpi
  rw [hlp] at hpl hps ⊢
  have HL := Lib.hid hl
  have HPI := Lib.hid hpi
  clear hp hpi hps0 hlp hl hlo hhi hkey
  have NW := wr_new w
  obtain ⟨b, hb⟩ : ∃ b, b = w.heap.size := ⟨_, rfl⟩
  rw [← hb] at NW
  have HB := Lib.hid hb
  clear hb
  by_cases h100 : 100 < ps.length
  · have h100' : (100 : Int) < (ps.length : Int) := by omega
    go_enter Try.func5, Try.ntmps5
    go_wp2_with fail
    refine NW.mono ?_
    rintro e w1 ⟨rfl, h1, o1, z1⟩
    have C := awake_any w1
    have O1 := Lib.hid o1
    clear NW h1 o1 z1
    go_wp2_with fail
    refine C.mono ?_
    rintro e w2 ⟨rfl, o2⟩
    have FIN := Lib.hid (O1.out.trans o2)
    go_wp2_with fail
    go_ret
    exact ⟨rfl, FIN.out.below⟩
  · have h100' : ¬ (100 : Int) < (ps.length : Int) := by omega
    go_enter Try.func5, Try.ntmps5
    go_wp2_with fail
    refine NW.mono ?_
    rintro e w1 ⟨rfl, h1, o1, z1⟩
    have C := awake_any w1
    have O1 := Lib.hid (show SW w w1 (fun x => x = b) b Wr.new by have hb := HB.out; subst hb; exact SW.new (Only0.refl w) h1 o1)
    clear NW h1 o1 z1
    go_wp2_with fail
    refine C.mono ?_
    rintro e w2 ⟨rfl, o2⟩
    have K0 : Hid (PW w w2 (fun x => x = b) b Wr.new none 0) := Lib.hid ⟨O1.out.only0 o2, World.ownsRow_nil _ _ _ _, fun c hc h => rowOf_none _ _ _ h, WZ.new⟩
    clear C O1 o2 h100'
    go_upto_block 0 with (fail)
    go_cut [12] (fun s12 wx => ∃ (P : Nat → Prop) (s : Wr) (wa : Option Addr) (wcp len : Nat), s12 = .slice wa len wcp ∧ len = s.keys.length ∧ len ≤ 64 ∧ Hid (PW w wx P b s wa wcp))
    case first => as_aux_lemma =>
      go_wp2_with fail
      go_loopw [12, 13, 14, 15, 16, 17, 18] (fun s12 s13 s14 s15 s16 s17 s18 wr => ∃ (n : Nat) (P : Nat → Prop) (s : Wr) (wa : Option Addr) (wcp len : Nat) (v14 v15 v16 v17 v18 : Value), n ≤ l.length ∧ n ≤ 60 ∧ s13 = .int .i64 n ∧ s12 = .slice wa len wcp ∧ s14 = v14 ∧ s15 = v15 ∧ s16 = v16 ∧ s17 = v17 ∧ s18 = v18 ∧ len = s.keys.length ∧ len ≤ 64 ∧ Hid (PW w wr P b s wa wcp)) (fun _ s13 _ _ _ _ _ _ => 60 - (intOf s13).toNat)
      case atStart => exact ⟨0, _, Wr.new, none, 0, 0, _, _, _, _, _, by omega, by omega, rfl, rfl, rfl, rfl, rfl, rfl, rfl, rfl, by omega, K0⟩
      case round =>
        clear K0
        obtain ⟨n, P, s, wa, wcp, len, v14, v15, v16, v17, v18, hn1, hn2, rfl, rfl, rfl, rfl, rfl, rfl, rfl, hlen, hl64, KR⟩ := hrel
        by_cases hlt : n < l.length ∧ n < 60
        · obtain ⟨hlt1, hlt2⟩ := hlt
          obtain ⟨bl, off, Kd, I, V, rfl, -, q0, q1, q2⟩ := op_at HL.out KR.out.sw.o hlt1
          have i0 : (0 : Int) ≤ (n : Int) := by omega
          have i1 : (n : Int) < (l.length : Int) := by omega
          have i2 : (n : Int) < 60 := by omega
          obtain ⟨W, hW⟩ : ∃ W, W = wr.alloc (.cells #[.int .i64 Kd, .int .i64 I, .int .i64 V] 43) := ⟨_, rfl⟩
          obtain ⟨bo, hbo⟩ : ∃ bo, bo = wr.heap.size := ⟨_, rfl⟩
          have KW := Lib.hid (by rw [hW]; exact KR.out.only0 ((Only0.refl wr).alloc _) : PW w W P b s wa wcp)
          have KB : Hid (Blk W bo 43 #[.int .i64 Kd, .int .i64 I, .int .i64 V]) := by rw [hW, hbo]; exact Lib.hid (Blk.new _ _ _)
          have KP : Hid (∀ x, P x → x < bo) := by rw [hbo]; exact Lib.hid (fun x hx => KR.out.sw.set.under x hx)
          have HBO := Lib.hid hbo
          have HLN := Lib.hid hlen
          have b0 : W.cell? ⟨bo, 1, none⟩ = some (.int .i64 I) := KB.out.cell 1
          clear KR hbo hlen
          go_upto_region 9 with (fail)
          rw [← hW, ← HBO.out]
          clear hW HBO q0 q1 q2
          go_cut [15] (fun s15 wx => s15 = .bool (inB I) ∧ wx = W)
          case first => as_aux_lemma =>
            have h3 : I < 0 ∨ (0 ≤ I ∧ I ≤ 63) ∨ (0 ≤ I ∧ 63 < I) := by omega
            rcases h3 with h | ⟨h, h'⟩ | ⟨h, h'⟩
            · have e : inB I = false := by simp [inB]; omega
              go_wp2_with fail
              go_meet
              case rel => exact ⟨by rw [e]; try exact congrArg Value.bool (decide_eq_false (by omega)), rfl⟩
            · have e : inB I = true := by simp [inB]; omega
              go_wp2_with fail
              go_meet
              case rel => exact ⟨by rw [e]; try exact congrArg Value.bool (decide_eq_true (by omega)), rfl⟩
            · have e : inB I = false := by simp [inB]; omega
              go_wp2_with fail
              go_meet
              case rel => exact ⟨by rw [e]; try exact congrArg Value.bool (decide_eq_false (by omega)), rfl⟩
          case rest => as_aux_lemma =>
            obtain ⟨rfl, hwx⟩ := hcut
            obtain rfl : W = _ := hwx.symm
            go_upto_block 2 with (fail)
            go_cut [16] (fun s16 wx => ∃ k : Nat, s16 = .int .i64 k ∧ k ≤ len ∧ Hid (Found s.keys I k ∧ Only0 W wx))
            case first => as_aux_lemma =>
              go_wp2_with fail
              go_loopw [16] (fun s16 wr => ∃ k n : Nat, s16 = .int .i64 k ∧ k ≤ len ∧ wr = W.drewN n ∧ Hid (∀ j, j < k → s.keys.getD j 0 ≠ I)) (fun s16 _ => len - (intOf s16).toNat)
              case atStart => exact ⟨0, 0, rfl, Nat.zero_le _, rfl, Lib.hid (fun j hj => by omega)⟩
              case round =>
                obtain ⟨k, m, rfl, hk, rfl, HF⟩ := hrel
                by_cases hkl : k < len
                · obtain ⟨g, rfl, d0, -, -⟩ := KW.out.cell (by rw [← HLN.out]; exact hkl)
                  have hki : (k : Int) < (len : Int) := by omega
                  have hk0 : (0 : Int) ≤ (k : Int) := by omega
                  by_cases he : s.keys.getD k 0 = I
                  · have R : Hid (Found s.keys I k ∧ True) := Lib.hid ⟨.inr ⟨by rw [← HLN.out]; exact hkl, he⟩, trivial⟩
                    rw [he] at d0
                    have hbne : (I != I) = false := by simp
                    clear HF
                    go_wp2_with fail
                    go_quiet (fail)
                    go_wp2_with fail
                    go_meet
                    case rel => exact ⟨k, rfl, by omega, Lib.hid ⟨R.out.1, ((Only0.refl W).drewN m).drewN _⟩⟩
                  · have R : Hid (∀ j, j < k + 1 → s.keys.getD j 0 ≠ I) := Lib.hid (fun j hj => by
                      rcases Nat.lt_or_ge j k with h | h
                      · exact HF.out j h
                      · obtain rfl : j = k := by omega
                        exact he)
                    clear HF
                    generalize s.keys.getD k 0 = K at d0 he
                    have hbne : (K != I) = true := by simpa using he
                    go_wp2_with fail
                    go_quiet (fail)
                    go_wp2_with fail
                    go_roundw
                    case rel => exact ⟨k + 1, _, by go_num, by omega, rfl, R⟩
                    case measure => simp [intOf]; omega
                · obtain rfl : k = len := by omega
                  have R : Hid (Found s.keys I k ∧ True) := Lib.hid ⟨.inl ⟨HLN.out, fun hm => by
                    obtain ⟨j, hj, rfl⟩ := List.getElem_of_mem hm
                    exact HF.out j (by rw [HLN.out]; exact hj) (by simp [List.getD_eq_getElem?_getD, hj])⟩, trivial⟩
                  have hki : decide ((k : Int) < (k : Int)) = false := decide_eq_false (by omega)
                  clear HF
                  go_wp2_with fail
                  go_quiet (fail)
                  go_wp2_with fail
                  go_meet
                  case rel => exact ⟨k, rfl, by omega, Lib.hid ⟨R.out.1, ((Only0.refl W).drewN m).drewN _⟩⟩
            case rest => as_aux_lemma =>
              obtain ⟨k, rfl, hk, HF⟩ := hcut
              have K5 := Lib.hid (KW.out.only0 HF.out.2)
              have KB5 := Lib.hid (HF.out.2.blk KB.out (fun h => h))
              have b51 : wc.cell? ⟨bo, 1, none⟩ = some (.int .i64 I) := KB5.out.cell 1
              obtain ⟨xb, hxb⟩ : ∃ xb, xb = wc.heap.size := ⟨_, rfl⟩
              obtain ⟨W3, hW3⟩ : ∃ W3, W3 = wc.alloc (.cells #[.int .i64 I, .int .i64 0, .bool true] 38) := ⟨_, rfl⟩
              have o3 : Only0 wc W3 := by rw [hW3]; exact (Only0.refl wc).alloc _
              have KB3 := Lib.hid (o3.blk KB5.out (fun h => h))
              have b30 : W3.cell? ⟨bo, 0, none⟩ = some (.int .i64 Kd) := KB3.out.cell 0
              have b31 : W3.cell? ⟨bo, 1, none⟩ = some (.int .i64 I) := KB3.out.cell 1
              have b32 : W3.cell? ⟨bo, 2, none⟩ = some (.int .i64 V) := KB3.out.cell 2
              have hX3 : Blk W3 xb 38 #[.int .i64 I, .int .i64 0, .bool true] := by rw [hW3, hxb]; exact Blk.new _ _ _
              have HX := Lib.hid hxb
              clear hxb
              go_upto_region 14 with (fail)
              rw [← hW3, ← HX.out]
              have O3 := Lib.hid o3
              clear hW3 o3 b51 b0
              by_cases hK : Kd = 0
              · subst hK
                have x0 : W3.cell? ⟨xb, 0, none⟩ = some (.int .i64 I) := hX3.cell 0
                have x1 : W3.cell? ⟨xb, 1, none⟩ = some (.int .i64 0) := hX3.cell 1
                have x2 : W3.cell? ⟨xb, 2, none⟩ = some (.bool true) := hX3.cell 2
                have f0 := hX3.free 0
                have f1 := hX3.free 1
                have f2 := hX3.free 2
                obtain ⟨W4, hW4⟩ : ∃ W4, W4 = ((W3.setCell ⟨xb, 0, none⟩ (.int .i64 I)).setCell ⟨xb, 1, none⟩ (.int .i64 V)).setCell ⟨xb, 2, none⟩ (.bool false) := ⟨_, rfl⟩
                have HX4 : Hid (Blk W4 xb 38 #[.int .i64 I, .int .i64 V, .bool false]) := by rw [hW4]; exact Lib.hid (((hX3.set 0 _).set 1 _).set 2 _)
                have o4 : Only0 wc W4 := by
                  rw [hW4]
                  exact ((O3.out.setCell (p := ⟨xb, 0, none⟩) (by rw [HX.out]; exact Nat.le_refl _) _).setCell (p := ⟨xb, 1, none⟩) (by rw [HX.out]; exact Nat.le_refl _) _).setCell (p := ⟨xb, 2, none⟩) (by rw [HX.out]; exact Nat.le_refl _) _
                have K4 := Lib.hid (K5.out.only0 o4)
                have HK4 := Lib.hid (fun x (hp : P x) => KP.out x hp)
                have HBX := Lib.hid (show bo ≤ xb by have h1 := KB5.out.lt; have h2 := HX.out; omega)
                have KB4 := Lib.hid (o4.blk KB5.out (fun h => h))
                have b41 : W4.cell? ⟨bo, 1, none⟩ = some (.int .i64 I) := KB4.out.cell 1
                have b42 : W4.cell? ⟨bo, 2, none⟩ = some (.int .i64 V) := KB4.out.cell 2
                have HI3 : Hid (inB I = true → 0 ≤ I ∧ I ≤ 63) := Lib.hid (by unfold inB; simp)
                go_upto_region 17 with (fail)
                rw [← hW4]
                clear hW4 x0 x1 x2 f0 f1 f2 b30 b31 b32 hX3 O3 o4
                go_cut [15, 18] (fun s15 s18 wx => s15 = .bool (inB I) ∧ s18 = .bool (wrOkB I V) ∧ wx = W4)
                case first => as_aux_lemma =>
                  cases hin : inB I with
                  | false =>
                    have e : wrOkB I V = false := by
                      unfold inB at hin; unfold wrOkB; rw [hin]; rfl
                    go_wp2_with fail
                    go_meet
                    case rel => exact ⟨by rw [hin], by rw [e], rfl⟩
                  | true =>
                    obtain ⟨I0, I63⟩ := HI3.out hin
                    have h3 : V < 0 ∨ (0 ≤ V ∧ V ≤ 65535) ∨ (0 ≤ V ∧ 65535 < V) := by omega
                    rcases h3 with h | ⟨h, h'⟩ | ⟨h, h'⟩
                    · have e : wrOkB I V = false := by simp [wrOkB]; omega
                      go_wp2_with fail
                      go_meet
                      case rel => exact ⟨by rw [hin], by rw [e]; try exact congrArg Value.bool (decide_eq_false (by omega)), rfl⟩
                    · have e : wrOkB I V = true := by simp [wrOkB]; omega
                      go_wp2_with fail
                      go_meet
                      case rel => exact ⟨by rw [hin], by rw [e]; try exact congrArg Value.bool (decide_eq_true (by omega)), rfl⟩
                    · have e : wrOkB I V = false := by simp [wrOkB]; omega
                      go_wp2_with fail
                      go_meet
                      case rel => exact ⟨by rw [hin], by rw [e]; try exact congrArg Value.bool (decide_eq_false (by omega)), rfl⟩
                case rest => as_aux_lemma =>
                  obtain ⟨rfl, rfl, hwx2⟩ := hcut
                  obtain rfl : W4 = _ := hwx2.symm
                  clear KB KW KB5 K5 KB3
                  obtain ⟨ok, hok⟩ : ∃ ok, wrOkB I V = ok := ⟨_, rfl⟩
                  rw [hok]
                  have C := wr_put K4.out.sw.set I V
                  have HOK : Hid (wrOkB I V = ok) := Lib.hid hok
                  have HZ := Lib.hid (WZ.write K4.out.wz I V false (by simp))
                  unfold wrCode at C
                  cases ok with
                  | false =>
                    rw [HOK.out] at C
                    rw [if_neg (by simp)] at C
                    clear hok
                    go_wp2_with fail
                    refine C.mono ?_
                    rintro e w7 ⟨rfl, P7, h7, o7, g7⟩
                    have K7 := Lib.hid ((K4.out.mid h7 o7 g7 HZ.out).same (by unfold Wr.write; rw [HOK.out]; rfl))
                    clear C h7 o7 g7 HZ K4 HX4
                    go_wp2_with fail
                    go_roundw
                    case rel => exact ⟨n + 1, P7, s, wa, wcp, len, _, _, _, _, _, by omega, by omega, by go_num, rfl, rfl, rfl, rfl, rfl, rfl, HLN.out, hl64, K7⟩
                    case measure => simp [intOf]; omega
                  | true =>
                    rw [HOK.out] at C
                    rw [if_pos rfl] at C
                    clear hok
                    have hwr : s.write I V false = s.put I V false := by unfold Wr.write; rw [HOK.out]; rfl
                    rw [hwr] at C HZ
                    go_wp2_with fail
                    refine C.mono ?_
                    rintro e w7 ⟨rfl, P7, h7, o7, g7⟩
                    have M7 := Lib.hid (K4.out.mid h7 o7 g7 HZ.out)
                    have hX7 := o7.blk HX4.out (fun hp => by have h1 := HK4.out _ hp; have h2 := HBX.out; omega)
                    have y0 : w7.cell? ⟨xb, 0, none⟩ = some (.int .i64 I) := hX7.cell 0
                    have y1 : w7.cell? ⟨xb, 1, none⟩ = some (.int .i64 V) := hX7.cell 1
                    have y2 : w7.cell? ⟨xb, 2, none⟩ = some (.bool false) := hX7.cell 2
                    have hnd := K4.out.sw.set.ok.nodup
                    have HND := Lib.hid hnd
                    have HFW := Lib.hid (show (s.put I V false).keys.length ≤ 64 from M7.out.sw.set.ok.few)
                    clear C h7 o7 g7 HZ K4 HX4 hX7 hnd hwr
                    rcases HF.out.1 with ⟨hkl, hno⟩ | ⟨hkl, he⟩
                    · obtain rfl : k = len := by rw [hkl]; exact HLN.out.symm
                      have HNO := Lib.hid hno
                      have hown := M7.out.row
                      rw [← HLN.out] at hown
                      have hwz : w.heap.size ≤ w7.heap.size := M7.out.sw.o.size
                      have hl65 : (s.put I V false).keys.length = k + 1 := by rw [put_keys_new hno, HLN.out]; simp
                      have HL65 := Lib.hid hl65
                      have hl63 : k + 1 ≤ 64 := by rw [← hl65]; exact HFW.out
                      have NEXT := Lib.hid (fun (gg cap : Nat) (w2 : World) (h2 : w2.ownsRow w.heap.size 38 3 (.slice (some ⟨gg, 0, none⟩) (k + 1) cap) (k + 1) (s.rowsOf s.keys ++ [.int .i64 I, .int .i64 V, .bool false])) (h3 : (w7.alloc (.cells #[.int .i64 I, .int .i64 V, .bool false] 38)).grownBy w2 (Value.slice wa k wcp).ownBlock) (h4 : (Value.slice wa k wcp).ownBlock = some gg ∨ gg = w7.heap.size + 1) =>
                        (show PW w w2 P7 b (s.put I V false) (some ⟨gg, 0, none⟩) cap by
                          rw [HLN.out] at h2 h3 h4
                          exact M7.out.fresh HNO.out h2 h3 h4))
                      generalize s.rowsOf s.keys = RS at *
                      clear M7 hno hkl hl65
                      go_wp2_with (at_builtin; refine wpList_append_lies _ rfl _ _ 33 rfl w.heap.size 38 j0 _ 3 24 Try.underlying33 hj0 hy0 hy1 hy2 rfl (by decide) (.slice wa k wcp) k RS rfl (hown.alloc _) ⟨w7.heap.size, 0, none⟩ 1 1 [.int .i64 I, .int .i64 V, .bool false] rfl rfl ?c1 ?c2 (by decide) ?c3 ?c4 ?c5 (w7.heap.size + 1) ?c6 ?_)
                      case c1 => exact World.news_of_block (cs := #[.int .i64 I, .int .i64 V, .bool false]) (t := 38) (fr := (0, 0)) (heap_alloc_new w7 _)
                      case c2 => intro u hu; simp at hu; rcases hu with rfl | rfl | rfl <;> rfl
                      case c3 => unfold maxLen; omega
                      case c4 => omega
                      case c5 => simp; omega
                      case c6 => simp
                      intro gg cap w8 hown2 hgrow hat hlt2
                      have K8 := Lib.hid (NEXT.out gg cap w8 hown2 hgrow hat)
                      clear NEXT hown hown2 hgrow hat hlt2
                      go_wp2_with fail
                      go_roundw
                      case rel => exact ⟨n + 1, P7, _, _, cap, k + 1, _, _, _, _, _, by omega, by omega, by go_num, rfl, rfl, rfl, rfl, rfl, rfl, HL65.out.symm, hl63, K8⟩
                      case measure => simp [intOf]; omega
                    · have hkk : (k : Int) < (len : Int) := by have := HLN.out; omega
                      have hk0 : (0 : Int) ≤ (k : Int) := by omega
                      obtain ⟨g, rfl, q0, q1, q2, fr⟩ := row_cell M7.out.row hkl
                      have f0 := fr (k * 3)
                      have f1 := fr (k * 3 + 1)
                      have f2 := fr (k * 3 + 2)
                      have K8 := Lib.hid (M7.out.old HND.out hkl he)
                      have hl65 : (s.put I V false).keys.length = len := by rw [put_keys_old (by rw [← he]; exact getD_in hkl)]; exact HLN.out.symm
                      have HL65 := Lib.hid hl65
                      generalize s.keys.getD k 0 = zz0 at q0
                      generalize s.val zz0 = zz1 at q1
                      clear M7 fr he hkl hl65
                      go_wp2_with fail
                      go_roundw
                      case rel => exact ⟨n + 1, P7, _, _, wcp, len, _, _, _, _, _, by omega, by omega, by go_num, rfl, rfl, rfl, rfl, rfl, rfl, HL65.out.symm, hl64, K8⟩
                      case measure => simp [intOf]; omega
              · have K4 := Lib.hid (K5.out.only0 O3.out)
                have HX4 := Lib.hid hX3
                have HK4 := Lib.hid (fun x (hp : P x) => KP.out x hp)
                have HBX := Lib.hid (show bo ≤ xb by have h1 := KB5.out.lt; have h2 := HX.out; omega)
                clear hX3 O3 KB KW KB5 K5 KB3 b32
                obtain ⟨ok, hok⟩ : ∃ ok, wrOkB I 0 = ok := ⟨_, rfl⟩
                rw [show inB I = ok by rw [← hok]; simp [wrOkB, inB]]
                have C := wr_drop K4.out.sw.set I
                have HOK : Hid (wrOkB I 0 = ok) := Lib.hid hok
                have HZ := Lib.hid (WZ.write K4.out.wz I 0 true (by simp))
                unfold wrCode at C
                cases ok with
                | false =>
                  rw [HOK.out] at C
                  rw [if_neg (by simp)] at C
                  clear hok
                  go_wp2_with fail
                  refine C.mono ?_
                  rintro e w7 ⟨rfl, P7, h7, o7, g7⟩
                  have K7 := Lib.hid ((K4.out.mid h7 o7 g7 HZ.out).same (by unfold Wr.write; rw [HOK.out]; rfl))
                  clear C h7 o7 g7 HZ K4 HX4
                  go_wp2_with fail
                  go_roundw
                  case rel => exact ⟨n + 1, P7, s, wa, wcp, len, _, _, _, _, _, by omega, by omega, by go_num, rfl, rfl, rfl, rfl, rfl, rfl, HLN.out, hl64, K7⟩
                  case measure => simp [intOf]; omega
                | true =>
                  rw [HOK.out] at C
                  rw [if_pos rfl] at C
                  clear hok
                  have hwr : s.write I 0 true = s.put I 0 true := by unfold Wr.write; rw [HOK.out]; rfl
                  rw [hwr] at C HZ
                  go_wp2_with fail
                  refine C.mono ?_
                  rintro e w7 ⟨rfl, P7, h7, o7, g7⟩
                  have M7 := Lib.hid (K4.out.mid h7 o7 g7 HZ.out)
                  have hX7 := o7.blk HX4.out (fun hp => by have h1 := HK4.out _ hp; have h2 := HBX.out; omega)
                  have y0 : w7.cell? ⟨xb, 0, none⟩ = some (.int .i64 I) := hX7.cell 0
                  have y1 : w7.cell? ⟨xb, 1, none⟩ = some (.int .i64 0) := hX7.cell 1
                  have y2 : w7.cell? ⟨xb, 2, none⟩ = some (.bool true) := hX7.cell 2
                  have hnd := K4.out.sw.set.ok.nodup
                  have HND := Lib.hid hnd
                  have HFW := Lib.hid (show (s.put I 0 true).keys.length ≤ 64 from M7.out.sw.set.ok.few)
                  clear C h7 o7 g7 HZ K4 HX4 hX7 hnd hwr
                  rcases HF.out.1 with ⟨hkl, hno⟩ | ⟨hkl, he⟩
                  · obtain rfl : k = len := by rw [hkl]; exact HLN.out.symm
                    have HNO := Lib.hid hno
                    have hown := M7.out.row
                    rw [← HLN.out] at hown
                    have hwz : w.heap.size ≤ w7.heap.size := M7.out.sw.o.size
                    have hl65 : (s.put I 0 true).keys.length = k + 1 := by rw [put_keys_new hno, HLN.out]; simp
                    have HL65 := Lib.hid hl65
                    have hl63 : k + 1 ≤ 64 := by rw [← hl65]; exact HFW.out
                    have NEXT := Lib.hid (fun (gg cap : Nat) (w2 : World) (h2 : w2.ownsRow w.heap.size 38 3 (.slice (some ⟨gg, 0, none⟩) (k + 1) cap) (k + 1) (s.rowsOf s.keys ++ [.int .i64 I, .int .i64 0, .bool true])) (h3 : (w7.alloc (.cells #[.int .i64 I, .int .i64 0, .bool true] 38)).grownBy w2 (Value.slice wa k wcp).ownBlock) (h4 : (Value.slice wa k wcp).ownBlock = some gg ∨ gg = w7.heap.size + 1) =>
                      (show PW w w2 P7 b (s.put I 0 true) (some ⟨gg, 0, none⟩) cap by
                        rw [HLN.out] at h2 h3 h4
                        exact M7.out.fresh HNO.out h2 h3 h4))
                    generalize s.rowsOf s.keys = RS at *
                    clear M7 hno hkl hl65
                    go_wp2_with (at_builtin; refine wpList_append_lies _ rfl _ _ 33 rfl w.heap.size 38 j0 _ 3 24 Try.underlying33 hj0 hy0 hy1 hy2 rfl (by decide) (.slice wa k wcp) k RS rfl (hown.alloc _) ⟨w7.heap.size, 0, none⟩ 1 1 [.int .i64 I, .int .i64 0, .bool true] rfl rfl ?c1 ?c2 (by decide) ?c3 ?c4 ?c5 (w7.heap.size + 1) ?c6 ?_)
                    case c1 => exact World.news_of_block (cs := #[.int .i64 I, .int .i64 0, .bool true]) (t := 38) (fr := (0, 0)) (heap_alloc_new w7 _)
                    case c2 => intro u hu; simp at hu; rcases hu with rfl | rfl | rfl <;> rfl
                    case c3 => unfold maxLen; omega
                    case c4 => omega
                    case c5 => simp; omega
                    case c6 => simp
                    intro gg cap w8 hown2 hgrow hat hlt2
                    have K8 := Lib.hid (NEXT.out gg cap w8 hown2 hgrow hat)
                    clear NEXT hown hown2 hgrow hat hlt2
                    go_wp2_with fail
                    go_roundw
                    case rel => exact ⟨n + 1, P7, _, _, cap, k + 1, _, _, _, _, _, by omega, by omega, by go_num, rfl, rfl, rfl, rfl, rfl, rfl, HL65.out.symm, hl63, K8⟩
                    case measure => simp [intOf]; omega
                  · have hkk : (k : Int) < (len : Int) := by have := HLN.out; omega
                    have hk0 : (0 : Int) ≤ (k : Int) := by omega
                    obtain ⟨g, rfl, q0, q1, q2, fr⟩ := row_cell M7.out.row hkl
                    have f0 := fr (k * 3)
                    have f1 := fr (k * 3 + 1)
                    have f2 := fr (k * 3 + 2)
                    have K8 := Lib.hid (M7.out.old HND.out hkl he)
                    have hl65 : (s.put I 0 true).keys.length = len := by rw [put_keys_old (by rw [← he]; exact getD_in hkl)]; exact HLN.out.symm
                    have HL65 := Lib.hid hl65
                    generalize s.keys.getD k 0 = zz0 at q0
                    generalize s.val zz0 = zz1 at q1
                    clear M7 fr he hkl hl65
                    go_wp2_with fail
                    go_roundw
                    case rel => exact ⟨n + 1, P7, _, _, wcp, len, _, _, _, _, _, by omega, by omega, by go_num, rfl, rfl, rfl, rfl, rfl, rfl, HL65.out.symm, hl64, K8⟩
                    case measure => simp [intOf]; omega
        · have K1 := Lib.hid KR.out
          have HLN := Lib.hid hlen
          clear KR hlen
          rcases Nat.lt_or_ge n l.length with hll | hll
          · obtain rfl : n = 60 := by omega
            go_wp2_with fail
            go_meet
            case rel => exact ⟨P, s, wa, wcp, len, rfl, HLN.out, hl64, K1⟩
          · obtain rfl : n = l.length := by omega
            go_wp2_with fail
            go_meet
            case rel => exact ⟨P, s, wa, wcp, len, rfl, HLN.out, hl64, K1⟩
    case rest => as_aux_lemma =>
      obtain ⟨P, s, wa, wcp, len, rfl, hlen, hl64, KR⟩ := hcut
      have HLN := Lib.hid hlen
      have HP := Lib.hid KR.out
      clear KR hlen K0
      have C1 := wr_all HP.out.sw.set
      rw [← HLN.out] at C1
      go_wp2_with fail
      refine C1.mono ?_
      rintro e W1 ⟨⟨a1, c1, rfl, own1⟩, o1⟩
      have P1 := Lib.hid (HP.out.only0 o1)
      have AL1 := Lib.hid (WritesIn.of_own (ks := s.keys) (by rw [← HLN.out]; exact own1))
      have C2 := wr_len P1.out.sw.set
      rw [← HLN.out] at C2
      clear C1 own1 o1 HP
      go_wp2_with fail
      refine C2.mono ?_
      rintro e W2 ⟨rfl, rfl⟩
      clear C2
      go_upto_block 4 with (fail)
      go_cut [20] (fun s20 wx => ∃ (at_ : Int), s20 = .int .i64 at_ ∧ Hid (AtIs s.keys true key len at_ ∧ Only0 W1 wx))
      case first => as_aux_lemma =>
        go_wp2_with fail
        go_loopw [20, 21] (fun s20 s21 wr => ∃ (k n : Nat) (at_ : Int), s21 = .int .i64 k ∧ s20 = .int .i64 at_ ∧ k ≤ len ∧ wr = W1.drewN n ∧ Hid (AtIs s.keys true key k at_)) (fun _ s21 _ => len - (intOf s21).toNat)
        case atStart => exact ⟨0, 0, -1, rfl, rfl, by omega, rfl, Lib.hid (AtIs.start _ _ _)⟩
        case round =>
          obtain ⟨k, n, at_, rfl, rfl, hk, rfl, HA⟩ := hrel
          by_cases hkl : k < len
          · have hks : k < s.keys.length := by rw [← HLN.out]; exact hkl
            obtain ⟨g1, rfl, q1⟩ : ∃ g, a1 = some ⟨g, 0, none⟩ ∧ ∀ i, i < s.keys.length → W1.cell? ⟨g, i * 3, none⟩ = some (.int .i64 (s.keys.getD i 0)) ∧ W1.cell? ⟨g, i * 3 + 1, none⟩ = some (.int .i64 (s.val (s.keys.getD i 0))) ∧ W1.cell? ⟨g, i * 3 + 2, none⟩ = some (.bool (s.gone (s.keys.getD i 0))) := by
              rcases AL1.out with h | h
              · rw [h] at hks; simp at hks
              · exact h
            obtain ⟨g2, rfl, c20, c21, c22, -⟩ := row_cell P1.out.row hks
            obtain ⟨c10, c11, c12⟩ := q1 k hks
            have HK := Lib.hid (show s.keys.getD k 0 = s.keys.getD k 0 from rfl)
            obtain ⟨K, hK⟩ : ∃ K, K = s.keys.getD k 0 := ⟨_, rfl⟩
            rw [← hK] at c10 c11 c12 c20 c21 c22
            have HKK := Lib.hid hK
            clear hK q1 HK
            generalize s.val K = V at *
            generalize s.gone K = G at *
            have hq : ∀ nn, (binOp .neq 38 (.agg #[.int .i64 K, .int .i64 V, .bool G]) (.agg #[.int .i64 K, .int .i64 V, .bool G])).run Try.prog ((W1.drewN n).drewN nn) = .ok (.bool false) ((W1.drewN n).drewN nn) := fun nn => by rw [write_neq]; simp
            have hq2 : ∀ nn, (Op.equalIn 10000 38 (.agg #[.int .i64 K, .int .i64 V, .bool G]) (.agg #[.int .i64 K, .int .i64 V, .bool G])).run Try.prog ((W1.drewN n).drewN nn) = .ok true ((W1.drewN n).drewN nn) := fun nn => by rw [write_equalIn]; simp
            have hgt := guardt_write
            have k0 : (0 : Int) ≤ (k : Int) := by omega
            have k1 : (k : Int) < (len : Int) := by omega
            by_cases he : K = key
            · have R := Lib.hid (AtIs.hit (keys := s.keys) (c := true) (x := key) (j := k) (by rw [← HKK.out]; exact he) rfl)
              clear HA HKK
              go_wp2_with fail
              go_quiet (fail)
              go_wp2_with fail
              go_roundw
              case rel => exact ⟨k + 1, _, k, by go_num, rfl, by omega, rfl, R⟩
              case measure => simp [intOf]; omega
            · have R := Lib.hid (HA.out.pass (fun h => absurd (HKK.out.trans h) he))
              clear HA HKK
              go_wp2_with fail
              go_quiet (fail)
              go_wp2_with fail
              go_roundw
              case rel => exact ⟨k + 1, _, at_, by go_num, rfl, by omega, rfl, R⟩
              case measure => simp [intOf]; omega
          · obtain rfl : k = len := by omega
            have R := Lib.hid HA.out
            clear HA
            go_wp2_with fail
            go_meet
            case rel => exact ⟨at_, rfl, Lib.hid ⟨R.out, (Only0.refl W1).drewN n⟩⟩
      case rest => as_aux_lemma =>
        obtain ⟨at_, rfl, HA⟩ := hcut
        have P2 := Lib.hid (P1.out.only0 HA.out.2)
        have AO := Lib.hid (AtIs.out (keys := s.keys) (c := true) (x := key) (a := at_) (by rw [← HLN.out]; exact HA.out.1))
        have C3 : Calls Try.prog 15 #[.pointer (some ⟨b, 0, none⟩), .int .i64 key] wc fun e w' => ∃ (v : Int) (is_ wro : Bool), e = .returned (.tuple #[.int .i64 v, .bool is_, .bool wro]) ∧ Hid ((at_ = -1 ∧ v = 0 ∧ is_ = false ∧ wro = false) ∨ ∃ t : Nat, t < s.keys.length ∧ at_ = (t : Int) ∧ s.keys.getD t 0 = key ∧ wro = true ∧ is_ = (!s.gone key) ∧ v = s.val key ∧ (s.gone key = true → s.val key = 0)) ∧ ∃ n, wc.drewN n = w' := by
          refine (wr_get P2.out.sw.set key).mono ?_
          rintro e w' ⟨he, hn⟩
          rcases AO.out with ⟨h1, h2⟩ | ⟨t, h1, h2, h3, h4, h5⟩
          · have hno : key ∉ s.keys := fun h => by have := h2 h; cases this
            rw [if_neg hno] at he
            exact ⟨0, false, false, he, Lib.hid (.inl ⟨h1, rfl, rfl, rfl⟩), hn⟩
          · rw [if_pos h4] at he
            exact ⟨_, _, true, he, Lib.hid (.inr ⟨t, h1, h2, h3, rfl, rfl, rfl, fun hg => P2.out.wz key h4 hg⟩), hn⟩
        clear P1 AL1 HA AO
        go_wp2_with fail
        refine C3.mono ?_
        rintro e W3' ⟨v, is_, wro, rfl, HG, n3, hW3⟩
        obtain ⟨W3, hW33⟩ : ∃ W3, W3 = W3' := ⟨_, rfl⟩
        obtain rfl : W3 = W3' := hW33
        have P3 := Lib.hid (P2.out.only0 (show Only0 wc W3 by rw [← hW3]; exact (Only0.refl wc).drewN n3))
        clear C3 hW3 P2
        go_upto_region 38 with (fail)
        go_cut [222] (fun s222 wx => s222 = .bool false ∧ wx = W3)
        case first => as_aux_lemma =>
          rcases HG.out with ⟨rfl, rfl, rfl, rfl⟩ | ⟨t, ht, rfl, hk, rfl, hi, hv, hz⟩
          · clear HG
            go_wp2_with fail
            go_meet
            case rel => exact ⟨rfl, rfl⟩
          · obtain ⟨g2, rfl, c20, c21, c22, -⟩ := row_cell P3.out.row ht
            rw [hk] at c21 c22
            have t0 : (0 : Int) ≤ (t : Int) := by omega
            have t1 : (t : Int) < (len : Int) := by rw [HLN.out]; omega
            have HV := Lib.hid hz
            clear HG hz hk c20
            cases hg : s.gone key with
            | true =>
              have hv0 := HV.out hg
              rw [hg] at hi c22
              rw [hv0] at hv c21
              clear HV hg hv0
              subst hi hv
              go_wp2_with fail
              go_meet
              case rel => exact ⟨rfl, rfl⟩
            | false =>
              rw [hg] at hi c22
              clear HV hg
              subst hi
              rw [← hv] at c21
              clear hv
              have hvv : (v != v) = false := by simp
              go_wp2_with fail
              go_meet
              case rel => exact ⟨rfl, rfl⟩
        case rest => as_aux_lemma =>
          obtain ⟨rfl, hwx3⟩ := hcut
          obtain rfl : W3 = _ := hwx3.symm
          have P3I := Lib.hid (HPI.out.only P3.out.sw.o (fun _ _ hf => hf))
          have C4 := wr_over P3.out.sw.set pa pc ps lo hi P3I.out (by omega)
          clear HG
          go_wp2_with fail
          refine C4.mono ?_
          rintro e W4 ⟨⟨o, ao, co, rfl, hO, hpo, hlo, -⟩, o4⟩
          have P4 := Lib.hid (P3.out.only0 o4)
          have P4I := Lib.hid (P3I.out.only o4 (fun _ _ hf => hf))
          have HOV := Lib.hid hO
          have HPO := Lib.hid hpo
          have C5 := rising_any pa pc ps W4 P4I.out (by omega)
          clear C4 hO hpo o4 P3 P3I
          go_wp2_with fail
          refine C5.mono ?_
          rintro e W5 ⟨rfl, n5, hW5⟩
          have P5 := Lib.hid (P4.out.only0 (show Only0 W4 W5 by rw [hW5]; exact (Only0.refl W4).drewN n5))
          have P5I := Lib.hid (P4I.out.only (show Only0 W4 W5 by rw [hW5]; exact (Only0.refl W4).drewN n5) (fun _ _ hf => hf))
          have P5O := Lib.hid (HPO.out.only (show Only0 W4 W5 by rw [hW5]; exact (Only0.refl W4).drewN n5) (fun _ _ hf => hf))
          clear C5 P4 P4I HPO hW5
          cases hr : risesB ps with
          | false =>
            have hOe : o = [] := by have := HOV.out; unfold OverOut at this; rw [hr] at this; exact this
            subst hOe
            clear HOV hr
            go_wp2_with fail
            go_ret
            exact ⟨rfl, P5.out.sw.o.below⟩
          | true =>
            have VO : Hid (IsOver s ps lo hi o) := Lib.hid (by have := HOV.out; unfold OverOut at this; rw [hr] at this; exact this)
            have HSR := Lib.hid ((risesB_iff ps).1 hr)
            clear HOV hr
            go_wp2_with fail
            go_loopw [20, 26, 27, 28, 29, 30] (fun s20 s26 s27 s28 s29 s30 wr => ∃ (k i m : Nat) (qa : Option Addr) (qc : Nat) (v20 v29 v30 : Value), s20 = v20 ∧ s29 = v29 ∧ s30 = v30 ∧ s28 = .int .i64 k ∧ s27 = .int .i64 i ∧ s26 = .slice qa m qc ∧ k ≤ 64 ∧ i ≤ ps.length ∧ Hid (Only0 W5 wr ∧ ∃ want : PL, want.length = m ∧ MI s lo hi ps k i want ∧ wr.ownsRow W5.heap.size 31 2 (.slice qa m qc) m (pairCells want))) (fun _ _ _ s28 _ _ _ => 64 - (intOf s28).toNat)
            case atStart => exact ⟨0, 0, 0, none, 0, _, _, _, rfl, rfl, rfl, rfl, rfl, rfl, by omega, by omega, Lib.hid ⟨Only0.refl _, [], rfl, MI.start s lo hi ps P5.out.sw.set.ok, World.ownsRow_nil _ _ _ _⟩⟩
            case round =>
              obtain ⟨k, i, m, qa, qc, v20, v29, v30, rfl, rfl, rfl, rfl, rfl, rfl, hk64, hil, HM⟩ := hrel
              by_cases hlt : k < 64
              · have hlt64 : decide ((k : Int) < 64) = true := decide_eq_true (by omega)
                go_upto_block 8 with (fail)
                go_cut [26, 27] (fun s26 s27 wx => ∃ (i m : Nat) (qa : Option Addr) (qc : Nat), s26 = .slice qa m qc ∧ s27 = .int .i64 i ∧ i ≤ ps.length ∧ Hid (Only0 W5 wx ∧ Ripe ps k i ∧ ∃ want : PL, want.length = m ∧ MI s lo hi ps k i want ∧ wx.ownsRow W5.heap.size 31 2 (.slice qa m qc) m (pairCells want)))
                case first => as_aux_lemma =>
                  go_wp2_with fail
                  go_loopw [26, 27] (fun s26 s27 wr => ∃ (i m : Nat) (qa : Option Addr) (qc : Nat), s26 = .slice qa m qc ∧ s27 = .int .i64 i ∧ i ≤ ps.length ∧ Hid (Only0 W5 wr ∧ ∃ want : PL, want.length = m ∧ MI s lo hi ps k i want ∧ wr.ownsRow W5.heap.size 31 2 (.slice qa m qc) m (pairCells want))) (fun _ s27 _ => ps.length - (intOf s27).toNat)
                  case atStart => exact ⟨i, m, qa, qc, rfl, rfl, hil, HM⟩
                  case round =>
                    clear HM hil
                    obtain ⟨i, m, qa, qc, rfl, rfl, hil, HM⟩ := hrel
                    by_cases hlx : i < ps.length
                    · obtain ⟨pb, pof, rfl, hc⟩ := (P5I.out.only HM.out.1 (fun _ _ hf => hf)).at (by omega)
                      obtain ⟨d1, d2⟩ := hc i hlx
                      rw [← Nat.add_assoc] at d2
                      have ii0 : (0 : Int) ≤ (i : Int) := by omega
                      have ii1 : (i : Int) < (ps.length : Int) := by omega
                      by_cases hl : (ps.getD i (0, 0)).1 < (k : Int)
                      · obtain ⟨oo, want, hwl, hmi, hown⟩ := HM.out
                        have few := hmi.few
                        have hm164 : m ≤ 164 := by omega
                        have NEXT := Lib.hid (fun (gg cap : Nat) (w2 : World) (h2 : w2.ownsRow W5.heap.size 31 2 (.slice (some ⟨gg, 0, none⟩) (m + 1) cap) (m + 1) (pairCells want ++ [.int .i64 (ps.getD i (0, 0)).1, .int .i64 (ps.getD i (0, 0)).2])) (h3 : (wr.alloc (.cells #[.int .i64 (ps.getD i (0, 0)).1, .int .i64 (ps.getD i (0, 0)).2] 31)).grownBy w2 (Value.slice qa m qc).ownBlock) =>
                          (show Only0 W5 w2 ∧ ∃ want : PL, want.length = m + 1 ∧ MI s lo hi ps k (i + 1) want ∧ w2.ownsRow W5.heap.size 31 2 (.slice (some ⟨gg, 0, none⟩) (m + 1) cap) (m + 1) (pairCells want) from
                            ⟨(oo.alloc _).grown h3 (fun c hc => rows_above hown c hc), _, by simp [hwl], hmi.eat P5.out.sw.set.ok HSR.out hlx hl, by rw [pairCells_snoc]; exact h2⟩))
                        have hbw : W5.heap.size ≤ wr.heap.size := oo.size
                        generalize pairCells want = PC at *
                        generalize (ps.getD i (0, 0)).1 = x1 at *
                        generalize (ps.getD i (0, 0)).2 = x2 at *
                        clear HM hc hmi few hwl oo
                        go_wp2_with (at_builtin; refine wpList_append_lies _ rfl _ _ 32 rfl W5.heap.size 31 i0 _ 2 16 Try.underlying32 hi0 hz0 hz1 hz2 rfl (by decide) (.slice qa m qc) m PC rfl (hown.alloc _) ⟨wr.heap.size, 0, none⟩ 1 1 [.int .i64 x1, .int .i64 x2] rfl rfl ?c1 ?c2 (by decide) ?c3 ?c4 ?c5 (wr.heap.size + 1) ?c6 ?_)
                        try (case c1 => exact World.news_of_block (cs := #[.int .i64 x1, .int .i64 x2]) (t := 31) (fr := (0, 0)) (heap_alloc_new wr _))
                        try (case c2 => first | exact ⟨rfl, rfl⟩ | (intro u hu; simp at hu; rcases hu with rfl | rfl <;> rfl))
                        try (case c3 => unfold maxLen; omega)
                        try (case c4 => omega)
                        try (case c5 => first | omega | (simp; omega))
                        try (case c6 => simp)
                        intro gg cap w8 hown2 hgrow hat hlt2
                        have K8 := Lib.hid (NEXT.out gg cap w8 hown2 hgrow)
                        clear NEXT hown hown2 hgrow hat hlt2 d1 d2
                        go_wp2_with fail
                        go_roundw
                        case rel => exact ⟨i + 1, m + 1, _, cap, rfl, by go_num, by omega, K8⟩
                        case measure => simp [intOf]; omega
                      · have R : Hid (Only0 W5 wr ∧ Ripe ps k i ∧ ∃ want : PL, want.length = m ∧ MI s lo hi ps k i want ∧ wr.ownsRow W5.heap.size 31 2 (.slice qa m qc) m (pairCells want)) := Lib.hid ⟨HM.out.1, ripe_at HSR.out hlx hl, HM.out.2⟩
                        generalize (ps.getD i (0, 0)).1 = x1 at *
                        generalize (ps.getD i (0, 0)).2 = x2 at *
                        have hl' : decide (x1 < (k : Int)) = false := decide_eq_false hl
                        clear HM hc
                        go_wp2_with fail
                        go_meet
                        case rel => exact ⟨i, m, qa, qc, rfl, rfl, hil, R⟩
                    · obtain rfl : i = ps.length := by omega
                      have R : Hid (Only0 W5 wr ∧ Ripe ps k ps.length ∧ ∃ want : PL, want.length = m ∧ MI s lo hi ps k ps.length want ∧ wr.ownsRow W5.heap.size 31 2 (.slice qa m qc) m (pairCells want)) := Lib.hid ⟨HM.out.1, ripe_end (Nat.le_refl _), HM.out.2⟩
                      clear HM
                      go_wp2_with fail
                      go_meet
                      case rel => exact ⟨ps.length, m, qa, qc, rfl, rfl, hil, R⟩
                case rest => as_aux_lemma =>
                  clear HM hil
                  obtain ⟨i, m, qa, qc, rfl, rfl, hil, HM⟩ := hcut
                  obtain ⟨W7, hW77⟩ : ∃ x, x = wc := ⟨_, rfl⟩
                  obtain rfl : W7 = wc := hW77
                  obtain ⟨cc, hcc⟩ : ∃ cc, cc = (decide (lo ≤ (k : Int)) && decide ((k : Int) ≤ hi)) := ⟨_, rfl⟩
                  have HCC := Lib.hid hcc
                  clear hcc
                  have P7 := Lib.hid (P5.out.only0 HM.out.1)
                  go_upto_block 10 with (fail)
                  go_cut [20] (fun s20 wx => ∃ at_ : Int, s20 = .int .i64 at_ ∧ Hid (AtIs s.keys cc k len at_) ∧ wx = W7)
                  case first => as_aux_lemma =>
                    go_wp2_with fail
                    go_loopw [20, 29] (fun s20 s29 wr => ∃ (j : Nat) (at_ : Int), s29 = .int .i64 j ∧ s20 = .int .i64 at_ ∧ j ≤ len ∧ wr = W7 ∧ Hid (AtIs s.keys cc k j at_)) (fun _ s29 _ => len - (intOf s29).toNat)
                    case atStart => exact ⟨0, -1, rfl, rfl, by omega, rfl, Lib.hid (AtIs.start _ _ _)⟩
                    case round =>
                      obtain ⟨j, at_, rfl, rfl, hj, hwr, HA⟩ := hrel
                      obtain rfl : W7 = wr := hwr.symm
                      by_cases hjl : j < len
                      · obtain ⟨g2, rfl, c20, c21, c22, -⟩ := row_cell P7.out.row (by rw [← HLN.out]; exact hjl)
                        have j0 : (0 : Int) ≤ (j : Int) := by omega
                        have j1 : (j : Int) < (len : Int) := by omega
                        by_cases he : s.keys.getD j 0 = (k : Int)
                        · rw [he] at c20
                          by_cases h1 : lo ≤ (k : Int)
                          · by_cases h2 : (k : Int) ≤ hi
                            · have R := Lib.hid (AtIs.hit (c := cc) (j := j) he (by rw [HCC.out]; simp [h1, h2]))
                              clear HA c21 c22 he
                              go_wp2_with fail
                              go_roundw
                              case rel => exact ⟨j + 1, j, by go_num, rfl, by omega, trivial, R⟩
                              case measure => simp [intOf]; omega
                            · have R := Lib.hid (HA.out.pass (fun _ => by rw [HCC.out]; simp [h1, h2]))
                              clear HA c21 c22 he
                              go_wp2_with fail
                              go_roundw
                              case rel => exact ⟨j + 1, at_, by go_num, rfl, by omega, trivial, R⟩
                              case measure => simp [intOf]; omega
                          · have R := Lib.hid (HA.out.pass (fun _ => by rw [HCC.out]; simp [h1]))
                            clear HA c21 c22 he
                            go_wp2_with fail
                            go_roundw
                            case rel => exact ⟨j + 1, at_, by go_num, rfl, by omega, trivial, R⟩
                            case measure => simp [intOf]; omega
                        · have R := Lib.hid (HA.out.pass (c := cc) (fun h => absurd h he))
                          have heb : (s.keys.getD j 0 == (k : Int)) = false := beq_eq_false_iff_ne.2 he
                          generalize s.keys.getD j 0 = K at *
                          clear HA c21 c22
                          go_wp2_with fail
                          go_roundw
                          case rel => exact ⟨j + 1, at_, by go_num, rfl, by omega, trivial, R⟩
                          case measure => simp [intOf]; omega
                      · obtain rfl : j = len := by omega
                        have R := Lib.hid HA.out
                        clear HA
                        go_wp2_with fail
                        go_meet
                        case rel => exact ⟨at_, rfl, R, rfl⟩
                  case rest => as_aux_lemma =>
                    obtain ⟨at_, rfl, HA, hw7⟩ := hcut
                    obtain rfl : W7 = _ := hw7.symm
                    go_upto_region 57 with (fail)
                    go_cut [30] (fun s30 wx => ∃ old : Bool, s30 = .bool old ∧ Hid (old = true ↔ (i < ps.length ∧ (ps.getD i (0, 0)).1 = (k : Int))) ∧ wx = W7)
                    case first => as_aux_lemma =>
                      by_cases hlx : i < ps.length
                      · obtain ⟨pb, pof, rfl, hc⟩ := (P5I.out.only HM.out.1 (fun _ _ hf => hf)).at (by omega)
                        obtain ⟨d1, d2⟩ := hc i hlx
                        have ii0 : (0 : Int) ≤ (i : Int) := by omega
                        have ii1 : (i : Int) < (ps.length : Int) := by omega
                        obtain ⟨x1, hx1⟩ : ∃ x, x = (ps.getD i (0, 0)).1 := ⟨_, rfl⟩
                        have HX1 := Lib.hid hx1
                        rw [← hx1] at d1
                        clear hc d2 hx1
                        by_cases he : x1 = (k : Int)
                        · subst he
                          go_wp2_with fail
                          go_meet
                          case rel => exact ⟨true, rfl, Lib.hid ⟨fun _ => ⟨hlx, HX1.out.symm⟩, fun _ => rfl⟩, rfl⟩
                        · have R : Hid (false = true ↔ (i < ps.length ∧ (ps.getD i (0, 0)).1 = (k : Int))) := Lib.hid ⟨fun h => (by cases h), fun h => absurd (HX1.out.trans h.2) he⟩
                          have heb : (x1 == (k : Int)) = false := beq_eq_false_iff_ne.2 he
                          go_wp2_with fail
                          go_meet
                          case rel => exact ⟨false, rfl, R, rfl⟩
                      · obtain rfl : i = ps.length := by omega
                        have R : Hid (false = true ↔ (ps.length < ps.length ∧ (ps.getD ps.length (0, 0)).1 = (k : Int))) := Lib.hid ⟨fun h => (by cases h), fun h => absurd h.1 hlx⟩
                        go_wp2_with fail
                        go_meet
                        case rel => exact ⟨false, rfl, R, rfl⟩
                    case rest => as_aux_lemma =>
                      obtain ⟨old, rfl, HO2, hw7⟩ := hcut
                      obtain rfl : W7 = _ := hw7.symm
                      have AO := Lib.hid (AtIs.out (keys := s.keys) (by rw [← HLN.out]; exact HA.out))
                      clear HA
                      obtain ⟨oo, hrp, want, hwl, hmi, hown⟩ := HM.out
                      have few := hmi.few
                      have hm164 : m ≤ 164 := by omega
                      have HMI := Lib.hid hmi
                      have HRP := Lib.hid hrp
                      have HWL := Lib.hid hwl
                      have HOO7 := Lib.hid oo
                      have hbw : W5.heap.size ≤ W7.heap.size := oo.size
                      clear HM hmi hrp hwl few oo
                      go_upto_block 12 with (fail)
                      go_cut [26] (fun s26 wx => ∃ (m' : Nat) (qa' : Option Addr) (qc' : Nat), s26 = .slice qa' m' qc' ∧ Hid (Only0 W5 wx ∧ ∃ add : PL, (want ++ add).length = m' ∧ ((add = [((k : Int), s.val k)] ∧ s.mine lo hi k = true ∧ s.gone k = false) ∨ (add = [] ∧ s.mine lo hi k = true ∧ s.gone k = true) ∨ (add = [ps.getD i (0, 0)] ∧ s.mine lo hi k = false ∧ old = true) ∨ (add = [] ∧ s.mine lo hi k = false ∧ old = false)) ∧ wx.ownsRow W5.heap.size 31 2 (.slice qa' m' qc') m' (pairCells (want ++ add))))
                      case first => as_aux_lemma =>
                        have ADD := Lib.hid (fun (x : Int × Int) (gg cap : Nat) (w2 : World) (h2 : w2.ownsRow W5.heap.size 31 2 (.slice (some ⟨gg, 0, none⟩) (m + 1) cap) (m + 1) (pairCells want ++ [.int .i64 x.1, .int .i64 x.2])) (h3 : (W7.alloc (.cells #[.int .i64 x.1, .int .i64 x.2] 31)).grownBy w2 (Value.slice qa m qc).ownBlock) =>
                          (show Only0 W5 w2 ∧ (want ++ [x]).length = m + 1 ∧ w2.ownsRow W5.heap.size 31 2 (.slice (some ⟨gg, 0, none⟩) (m + 1) cap) (m + 1) (pairCells (want ++ [x])) from
                            ⟨(HOO7.out.alloc _).grown h3 (fun c hc => rows_above hown c hc), by simp [HWL.out], by rw [pairCells_snoc]; exact h2⟩))
                        have SAME := Lib.hid (show Only0 W5 W7 ∧ (want ++ []).length = m ∧ W7.ownsRow W5.heap.size 31 2 (.slice qa m qc) m (pairCells (want ++ [])) from ⟨HOO7.out, by simpa using HWL.out, by simpa using hown⟩)
                        rcases AO.out with ⟨rfl, hno⟩ | ⟨t, ht, rfl, htk, hin, hcc⟩
                        · have hmine : s.mine lo hi k = false := mine_false.2 (fun h => by have := hno h.2.2; rw [HCC.out] at this; simp at this; omega)
                          have HMN := Lib.hid hmine
                          clear hno hmine AO
                          cases old with
                          | false =>
                            have R := Lib.hid (show Only0 W5 W7 ∧ ∃ add : PL, (want ++ add).length = m ∧ ((add = [((k : Int), s.val k)] ∧ s.mine lo hi k = true ∧ s.gone k = false) ∨ (add = [] ∧ s.mine lo hi k = true ∧ s.gone k = true) ∨ (add = [ps.getD i (0, 0)] ∧ s.mine lo hi k = false ∧ false = true) ∨ (add = [] ∧ s.mine lo hi k = false ∧ false = false)) ∧ W7.ownsRow W5.heap.size 31 2 (.slice qa m qc) m (pairCells (want ++ add)) from ⟨SAME.out.1, [], SAME.out.2.1, .inr (.inr (.inr ⟨rfl, HMN.out, rfl⟩)), SAME.out.2.2⟩)
                            clear ADD SAME hown
                            go_wp2_with fail
                            go_meet
                            case rel => exact ⟨m, qa, qc, rfl, R⟩
                          | true =>
                            have hlx := HO2.out.1 rfl
                            obtain ⟨pb, pof, rfl, hc⟩ := (P5I.out.only HOO7.out (fun _ _ hf => hf)).at (by omega)
                            obtain ⟨d1, d2⟩ := hc i hlx.1
                            rw [← Nat.add_assoc] at d2
                            have ii0 : (0 : Int) ≤ (i : Int) := by omega
                            have ii1 : (i : Int) < (ps.length : Int) := by omega
                            have A1 := Lib.hid (ADD.out (ps.getD i (0, 0)))
                            have FIN := Lib.hid (fun (m' : Nat) (qa' : Option Addr) (qc' : Nat) (wx : World) (h : Only0 W5 wx ∧ (want ++ [ps.getD i (0, 0)]).length = m' ∧ wx.ownsRow W5.heap.size 31 2 (.slice qa' m' qc') m' (pairCells (want ++ [ps.getD i (0, 0)]))) =>
                              (show Only0 W5 wx ∧ ∃ add : PL, (want ++ add).length = m' ∧ ((add = [((k : Int), s.val k)] ∧ s.mine lo hi k = true ∧ s.gone k = false) ∨ (add = [] ∧ s.mine lo hi k = true ∧ s.gone k = true) ∨ (add = [ps.getD i (0, 0)] ∧ s.mine lo hi k = false ∧ true = true) ∨ (add = [] ∧ s.mine lo hi k = false ∧ true = false)) ∧ wx.ownsRow W5.heap.size 31 2 (.slice qa' m' qc') m' (pairCells (want ++ add)) from ⟨h.1, _, h.2.1, .inr (.inr (.inl ⟨rfl, HMN.out, rfl⟩)), h.2.2⟩))
                            have GO := Lib.hid (fun gg cap w2 h2 h3 => FIN.out (m + 1) (some ⟨gg, 0, none⟩) cap w2 (A1.out gg cap w2 h2 h3))
                            generalize pairCells want = PC at hown GO
                            generalize (ps.getD i (0, 0)).1 = x1 at d1 GO hlx
                            generalize (ps.getD i (0, 0)).2 = x2 at d2 GO
                            clear ADD SAME hc A1 FIN hlx HO2
                            go_wp2_with (at_builtin; refine wpList_append_lies _ rfl _ _ 32 rfl W5.heap.size 31 i0 _ 2 16 Try.underlying32 hi0 hz0 hz1 hz2 rfl (by decide) (.slice qa m qc) m PC rfl (hown.alloc _) ⟨W7.heap.size, 0, none⟩ 1 1 [.int .i64 x1, .int .i64 x2] rfl rfl ?ea1 ?ea2 (by decide) ?ea3 ?ea4 ?ea5 (W7.heap.size + 1) ?ea6 ?_)
                            try (case ea1 => exact World.news_of_block (cs := #[.int .i64 x1, .int .i64 x2]) (t := 31) (fr := (0, 0)) (heap_alloc_new W7 _))
                            try (case ea2 => first | exact ⟨rfl, rfl⟩ | (intro u hu; simp at hu; rcases hu with rfl | rfl <;> rfl))
                            try (case ea3 => unfold maxLen; omega)
                            try (case ea4 => omega)
                            try (case ea5 => first | omega | (simp; omega))
                            try (case ea6 => simp)
                            intro gg cap w8 hown2 hgrow hat hlt2
                            have R := Lib.hid (GO.out gg cap w8 hown2 hgrow)
                            clear GO hown hown2 hgrow hat hlt2 d1 d2
                            go_wp2_with fail
                            go_meet
                            case rel => exact ⟨m + 1, _, cap, rfl, R⟩
                        · have hmine : s.mine lo hi k = true := mine_iff.2 (by rw [HCC.out] at hcc; simp at hcc; exact ⟨hcc.1, hcc.2, hin⟩)
                          have HMN := Lib.hid hmine
                          obtain ⟨g2, rfl, c20, c21, c22, -⟩ := row_cell P7.out.row ht
                          rw [htk] at c21 c22
                          have t0 : (0 : Int) ≤ (t : Int) := by omega
                          have t1 : (t : Int) < (len : Int) := by rw [HLN.out]; omega
                          clear hmine AO hcc hin htk c20
                          cases hg : s.gone (k : Int) with
                          | true =>
                            have R := Lib.hid (show Only0 W5 W7 ∧ ∃ add : PL, (want ++ add).length = m ∧ ((add = [((k : Int), s.val k)] ∧ s.mine lo hi k = true ∧ s.gone k = false) ∨ (add = [] ∧ s.mine lo hi k = true ∧ s.gone k = true) ∨ (add = [ps.getD i (0, 0)] ∧ s.mine lo hi k = false ∧ old = true) ∨ (add = [] ∧ s.mine lo hi k = false ∧ old = false)) ∧ W7.ownsRow W5.heap.size 31 2 (.slice qa m qc) m (pairCells (want ++ add)) from ⟨SAME.out.1, [], SAME.out.2.1, .inr (.inl ⟨rfl, HMN.out, hg⟩), SAME.out.2.2⟩)
                            rw [hg] at c22
                            clear ADD SAME hown c21
                            go_wp2_with fail
                            go_meet
                            case rel => exact ⟨m, qa, qc, rfl, R⟩
                          | false =>
                            have FIN := Lib.hid (fun (m' : Nat) (qa' : Option Addr) (qc' : Nat) (wx : World) (h : Only0 W5 wx ∧ (want ++ [((k : Int), s.val k)]).length = m' ∧ wx.ownsRow W5.heap.size 31 2 (.slice qa' m' qc') m' (pairCells (want ++ [((k : Int), s.val k)]))) =>
                              (show Only0 W5 wx ∧ ∃ add : PL, (want ++ add).length = m' ∧ ((add = [((k : Int), s.val k)] ∧ s.mine lo hi k = true ∧ s.gone k = false) ∨ (add = [] ∧ s.mine lo hi k = true ∧ s.gone k = true) ∨ (add = [ps.getD i (0, 0)] ∧ s.mine lo hi k = false ∧ old = true) ∨ (add = [] ∧ s.mine lo hi k = false ∧ old = false)) ∧ wx.ownsRow W5.heap.size 31 2 (.slice qa' m' qc') m' (pairCells (want ++ add)) from ⟨h.1, _, h.2.1, .inl ⟨rfl, HMN.out, hg⟩, h.2.2⟩))
                            have A1 := Lib.hid (ADD.out ((k : Int), s.val k))
                            have GO := Lib.hid (fun gg cap w2 h2 h3 => FIN.out (m + 1) (some ⟨gg, 0, none⟩) cap w2 (A1.out gg cap w2 h2 h3))
                            rw [hg] at c22
                            generalize pairCells want = PC at hown GO
                            generalize hx2 : s.val (k : Int) = x2 at c21
                            simp only [hx2] at GO
                            clear ADD SAME A1 FIN hg
                            go_wp2_with (at_builtin; refine wpList_append_lies _ rfl _ _ 32 rfl W5.heap.size 31 i0 _ 2 16 Try.underlying32 hi0 hz0 hz1 hz2 rfl (by decide) (.slice qa m qc) m PC rfl (hown.alloc _) ⟨W7.heap.size, 0, none⟩ 1 1 [.int .i64 k, .int .i64 x2] rfl rfl ?eb1 ?eb2 (by decide) ?eb3 ?eb4 ?eb5 (W7.heap.size + 1) ?eb6 ?_)
                            try (case eb1 => exact World.news_of_block (cs := #[.int .i64 k, .int .i64 x2]) (t := 31) (fr := (0, 0)) (heap_alloc_new W7 _))
                            try (case eb2 => first | exact ⟨rfl, rfl⟩ | (intro u hu; simp at hu; rcases hu with rfl | rfl <;> rfl))
                            try (case eb3 => unfold maxLen; omega)
                            try (case eb4 => omega)
                            try (case eb5 => first | omega | (simp; omega))
                            try (case eb6 => simp)
                            intro gg cap w8 hown2 hgrow hat hlt2
                            have R := Lib.hid (GO.out gg cap w8 hown2 hgrow)
                            clear GO hown hown2 hgrow hat hlt2 c21 c22
                            go_wp2_with fail
                            go_meet
                            case rel => exact ⟨m + 1, _, cap, rfl, by rw [hx2]; exact R⟩
                      case rest => as_aux_lemma =>
                        obtain ⟨m', qa', qc', rfl, HN⟩ := hcut
                        clear hown
                        have FIN : Hid (∀ i' : Nat, ((i' = i + 1 ∧ old = true) ∨ (i' = i ∧ old = false)) → i' ≤ ps.length ∧ Only0 W5 wc ∧ ∃ want : PL, want.length = m' ∧ MI s lo hi ps (k + 1) i' want ∧ wc.ownsRow W5.heap.size 31 2 (.slice qa' m' qc') m' (pairCells want)) := by
                          refine Lib.hid (fun i' hi' => ?_)
                          obtain ⟨q1, add, q2, q3, q4⟩ := HN.out
                          have hmn : MI s lo hi ps (k + 1) i' (want ++ add) := by
                            refine HMI.out.next HSR.out HRP.out ?_ ?_
                            · rcases hi' with ⟨rfl, h⟩ | ⟨rfl, h⟩
                              · exact .inl ⟨rfl, HO2.out.1 h⟩
                              · exact .inr ⟨rfl, fun hh => by have := HO2.out.2 hh; rw [h] at this; cases this⟩
                            · rcases q3 with h | h | h | h
                              · exact .inl h
                              · exact .inr (.inl h)
                              · refine .inr (.inr (.inl ⟨h.1, h.2.1, ?_⟩))
                                rcases hi' with ⟨rfl, _⟩ | ⟨_, h2⟩
                                · rfl
                                · rw [h.2.2] at h2; cases h2
                              · refine .inr (.inr (.inr ⟨h.1, h.2.1, ?_⟩))
                                rcases hi' with ⟨_, h2⟩ | ⟨rfl, _⟩
                                · rw [h.2.2] at h2; cases h2
                                · rfl
                          exact ⟨hmn.il, q1, _, q2, hmn, q4⟩
                        clear HN HMI HRP HWL HOO7 AO
                        cases old with
                        | false =>
                          have R := Lib.hid (FIN.out i (.inr ⟨rfl, rfl⟩)).2
                          clear FIN
                          go_wp2_with fail
                          go_roundw
                          case rel => exact ⟨k + 1, i, m', qa', qc', _, _, _, rfl, rfl, rfl, by go_num, rfl, rfl, by omega, hil, R⟩
                          case measure => simp [intOf]; omega
                        | true =>
                          have hil2 := (FIN.out (i + 1) (.inl ⟨rfl, rfl⟩)).1
                          have R := Lib.hid (FIN.out (i + 1) (.inl ⟨rfl, rfl⟩)).2
                          clear FIN
                          go_wp2_with fail
                          go_roundw
                          case rel => exact ⟨k + 1, i + 1, m', qa', qc', _, _, _, rfl, rfl, rfl, by go_num, by go_num, rfl, by omega, hil2, R⟩
                          case measure => simp [intOf]; omega
              · obtain rfl : k = 64 := by omega
                have e64 : ((64 : Nat) : Int) = 64 := rfl
                obtain ⟨oo, want, hwl, hmi, hown⟩ := HM.out
                have HE := Lib.hid (VO.out.uniq (hmi.fin P5.out.sw.set.ok HSR.out))
                have few := hmi.few
                have hbw := oo.size
                have hwd : (want ++ ps.drop i).length ≤ 1000 := by simp; omega
                have END : Hid (∀ (v' : Value) (w9 : World) (nn : Nat), w9.ownsRow W5.heap.size 31 2 v' nn (pairCells want ++ pairCells (ps.drop i)) → wr.grownBy w9 (Value.slice qa m qc).ownBlock → ∃ a9 c9, v' = .slice a9 (want ++ ps.drop i).length c9 ∧ PairsIn w9 a9 (want ++ ps.drop i) ∧ Only0 W5 w9) := by
                  refine Lib.hid (fun v' w9 nn h1 h2 => ?_)
                  rw [← pairCells_append] at h1
                  obtain ⟨a9, c9, e1, e2⟩ := row_slice h1
                  exact ⟨a9, c9, e1, PairsIn.of_own e2, oo.grown h2 (fun c hc => rows_above hown c hc)⟩
                have HOO := Lib.hid oo
                obtain ⟨Z, hZ⟩ : ∃ Z : PL, Z = want ++ ps.drop i := ⟨_, rfl⟩
                rw [← hZ] at HE END hwd
                have HZ := Lib.hid hZ
                clear HM hmi VO HSR oo hZ
                by_cases hlx : i < ps.length
                · obtain ⟨pb, pof, rfl, hc⟩ := (P5I.out.only HOO.out (fun _ _ hf => hf)).at (by omega)
                  have ii0 : (0 : Int) ≤ (i : Int) := by omega
                  have ii1 : (i : Int) ≤ (ps.length : Int) := by omega
                  have NEWS : Hid (∀ j u, (pairCells (ps.drop i))[j]? = some u → wr.cell? ((⟨pb, pof + i * 2, none⟩ : Addr).add j) = some u) := Lib.hid (fun j u hj => news_drop hc hj)
                  have hnl : (pairCells (ps.drop i)).length = (ps.length - i) * 2 := by rw [pairCells_len, List.length_drop]
                  have HN1 := Lib.hid (pairCells_one (ps.drop i))
                  have hm164 : m ≤ 164 := by omega
                  clear hc few
                  generalize pairCells want = PC at *
                  generalize pairCells (ps.drop i) = NC at *
                  go_wp2_with (at_builtin; refine wpList_append_own _ rfl _ _ 32 rfl W5.heap.size 31 i0 (.agg #[.int .i64 0, .int .i64 0]) 2 16 Try.underlying32 hi0 hz0 hz1 hz2 rfl (by decide) (.slice qa m qc) m PC rfl hown ⟨pb, pof + i * 2, none⟩ (ps.length - i) (pc - i) NC rfl ?ga1 ?ga2 ?ga3 ?ga4 ?ga5 ?ga6 ?_)
                  try (case ga1 => exact hnl)
                  try (case ga2 => exact NEWS.out)
                  try (case ga3 => exact HN1.out)
                  try (case ga4 => unfold maxLen; omega)
                  try (case ga5 => omega)
                  try (case ga6 => omega)
                  intro v' w9 hown2 hgrow hnil
                  obtain ⟨a9, c9, rfl, hp9, o9⟩ := END.out v' w9 _ hown2 hgrow
                  clear hown2 hgrow hnil hown NEWS HN1 hnl
                  have C6 := samePairs_any ao a9 co c9 o Z w9 (P5O.out.only o9 (fun _ _ hf => hf)) hp9 (by omega) (by omega)
                  rw [decide_eq_true HE.out] at C6
                  have FIN := Lib.hid (P5.out.sw.o.trans o9)
                  clear END hp9 o9 HOO
                  go_wp2_with fail
                  refine C6.mono ?_
                  rintro e w10 ⟨rfl, n10, hw10⟩
                  clear C6
                  have FIN2 := Lib.hid (FIN.out.trans (show Only0 w9 w10 by rw [hw10]; exact (Only0.refl w9).drewN n10))
                  clear hw10
                  go_wp2_with fail
                  go_ret
                  exact ⟨rfl, FIN2.out.below⟩
                · obtain rfl : i = ps.length := by omega
                  have hcap : m ≤ qc := by
                    rcases hown.2 with ⟨h0, h1⟩ | ⟨g, cap, cur, hv, _, _, h1, h2, _⟩
                    · omega
                    · injection hv with _ _ hv; omega
                  have E9 : Hid (m = Z.length ∧ PairsIn wr qa Z) := by
                    have h0 : ps.drop ps.length = [] := List.drop_length
                    rw [HZ.out, h0, List.append_nil]
                    refine Lib.hid ⟨hwl.symm, ?_⟩
                    rw [← hwl] at hown
                    exact PairsIn.of_own hown
                  have o9 := HOO.out
                  clear few hown
                  cases pa with
                  | none =>
                    go_wp2_with (at_builtin; refine wpList_append_zero rfl _ _ 32 rfl 31 i0 Try.underlying32 hi0 qa _ m qc _ _ rfl rfl (by omega) hcap ?_)
                    obtain ⟨rfl, hp9⟩ := E9.out
                    have C6 := samePairs_any ao qa co qc o Z wr (P5O.out.only o9 (fun _ _ hf => hf)) hp9 (by omega) (by omega)
                    rw [decide_eq_true HE.out] at C6
                    have FIN := Lib.hid (P5.out.sw.o.trans o9)
                    clear END hp9 o9 HOO E9
                    go_wp2_with fail
                    refine C6.mono ?_
                    rintro e w10 ⟨rfl, n10, hw10⟩
                    clear C6
                    have FIN2 := Lib.hid (FIN.out.trans (show Only0 wr w10 by rw [hw10]; exact (Only0.refl wr).drewN n10))
                    clear hw10
                    go_wp2_with fail
                    go_ret
                    exact ⟨rfl, FIN2.out.below⟩
                  | some ad =>
                    go_wp2_with (at_builtin; refine wpList_append_zero rfl _ _ 32 rfl 31 i0 Try.underlying32 hi0 qa _ m qc _ _ rfl rfl (by omega) hcap ?_)
                    all_goals
                      obtain ⟨rfl, hp9⟩ := E9.out
                      have C6 := samePairs_any ao qa co qc o Z wr (P5O.out.only o9 (fun _ _ hf => hf)) hp9 (by omega) (by omega)
                      rw [decide_eq_true HE.out] at C6
                      have FIN := Lib.hid (P5.out.sw.o.trans o9)
                      clear END hp9 o9 HOO E9
                      go_wp2_with fail
                      refine C6.mono ?_
                      rintro e w10 ⟨rfl, n10, hw10⟩
                      clear C6
                      have FIN2 := Lib.hid (FIN.out.trans (show Only0 wr w10 by rw [hw10]; exact (Only0.refl wr).drewN n10))
                      clear hw10
                      go_wp2_with fail
                      go_ret
                      exact ⟨rfl, FIN2.out.below⟩
end Go.Proofs.Ytldfkcldfjfohaa

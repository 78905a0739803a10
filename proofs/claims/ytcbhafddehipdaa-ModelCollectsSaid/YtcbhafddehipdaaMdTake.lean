/-
  model.Model: take.
-/
import Derived.Test.YtcbhafddehipdaaMdCell
import Derived.Deep.QuietTactic
import Derived.BigQuiet
import Derived.Outline
namespace Go.Proofs.Ytcbhafddehipdaa
open Go.RowKit
set_option linter.unusedVariables false
set_option linter.unusedSimpArgs false

/-- What take leaves. -/
def TakeRes (B m : Nat) (w : World) (P : Nat → Prop) (s : St) (A : Ad) (j : Nat) (t : Tx) (k : Nat) (e : Ending) (w' : World) : Prop :=
  ∃ (ca : Nat → Nat → Nat) (P' : Nat → Prop), e = .returned (.pointer ((s.take j t k).1.map fun _ => ⟨ca j k, 0, none⟩)) ∧ MIn B w' P' m (s.setTx j (some (s.take j t k).2)) { A with ca := ca } ∧ Only P w w' ∧ Grew w.heap.size P P'
theorem setTx_self {s : St} {j : Nat} {t : Tx} (ht : s.tx j = some t) : s.setTx j (some t) = s := by
  unfold St.setTx
  have : upd s.tx j (some t) = s.tx := by funext i; by_cases e : i = j <;> simp [upd, e, ht]
  rw [this]
theorem TakeRes.no {B m : Nat} {w : World} {P : Nat → Prop} {s : St} {A : Ad} (h : MIn B w P m s A) {j k : Nat} {t : Tx} (ht : s.tx j = some t) (hk : s.take j t k = (none, t)) {w' : World} (hw : Only0 w w') : TakeRes B m w P s A j t k (.returned (.pointer none)) w' :=
  ⟨A.ca, P, by rw [hk]; rfl, by rw [hk]; simp only [setTx_self ht]; exact h.only0 hw, hw.any _, Grew.refl _ _⟩
theorem TakeRes.old {B m : Nat} {w : World} {P : Nat → Prop} {s : St} {A : Ad} (h : MIn B w P m s A) {j k : Nat} {t : Tx} {c : Cel} (ht : s.tx j = some t) (hk : t.cells k = some c) : TakeRes B m w P s A j t k (.returned (.pointer (some ⟨A.ca j k, 0, none⟩))) w := by
  have e : s.take j t k = (some c, t) := by simp [St.take, hk]
  exact ⟨A.ca, P, by rw [e]; rfl, by rw [e]; simp only [setTx_self ht]; exact h, Only.refl _ _, Grew.refl _ _⟩
theorem others_yes {s : St} {j k i : Nat} (hi : i < 8) (h : holderB s j k i = true) : s.others j k = true := List.any_eq_true.2 ⟨i, List.mem_range.2 hi, h⟩
theorem others_no {s : St} {j k : Nat} (h : ∀ i, i < 8 → holderB s j k i = false) : s.others j k = false := List.any_eq_false.2 (fun i hi => by simpa using h i (List.mem_range.1 hi))
theorem any_take_false {α : Type} {p : α → Bool} {l : List α} {k : Nat} (h : (l.take k).any p = false) (hk : k < l.length) (hp : p l[k] = false) : (l.take (k + 1)).any p = false := by
  rw [List.take_succ_eq_append_getElem hk, List.any_append, h]; simp [hp]
theorem any_at {α : Type} {p : α → Bool} {l : List α} {k : Nat} (hk : k < l.length) (hp : p l[k] = true) : l.any p = true := List.any_eq_true.2 ⟨_, List.getElem_mem hk, hp⟩

set_option maxRecDepth 100000 in
set_option maxHeartbeats 8000000 in
theorem md_take {B m : Nat} {w : World} {P : Nat → Prop} {s : St} {A : Ad} (h : MIn B w P m s A) {j : Nat} {t : Tx} (ht : s.tx j = some t) (k : Nat) (hk : k < 64) :
    Calls Try.prog 85 #[.pointer (some ⟨m, 0, none⟩), .pointer (some ⟨A.tb j, 0, none⟩), .int .i64 k] w (TakeRes B m w P s A j t k) := by
  have X := (h.txs.one j t ht).2
  obtain ⟨c2, c4, _, _⟩ := X.cells
  have hrun := X.cm.look k hk
  cases hc : t.cells k with
  | some c =>
    rw [show celPtr A j t k = .pointer (some ⟨A.ca j k, 0, none⟩) by simp [celPtr, hc]] at hrun
    have HR := Lib.hid (TakeRes.old h ht hc)
    clear h X ht hc
    go_enter Try.func85, Try.ntmps85
    go_wp2_with fail
    go_ret
    exact HR.out
  | none =>
    rw [show celPtr A j t k = .pointer none by simp [celPtr, hc]] at hrun
    obtain ⟨p0, p1, p2, p3, p4, p5, p6, p7⟩ := h.txCell
    have m4 : w.cell? ⟨m, 4, none⟩ = some (.slice A.la s.l.length A.lc) := h.mod.cell 4
    obtain ⟨la, hla⟩ : ∃ la, la = A.la := ⟨_, rfl⟩
    rw [← hla] at m4
    have hL : 0 < s.l.length → ∃ g, la = some ⟨g, 0, none⟩ ∧ ∀ k, (hk : k < s.l.length) → w.cell? ⟨g, k, none⟩ = some (.pointer (some ⟨A.va s.l[k], 0, none⟩)) := fun h0 => by
      rcases h.rowAt with ⟨_, e2, _⟩ | ⟨g, hg, hrow⟩
      · omega
      · exact ⟨g, hla.trans hg, hrow⟩
    have HL := Lib.hid hL
    have HH := Lib.hid h
    have HT := Lib.hid ht
    have HC := Lib.hid hc
    have hlen : s.l.length ≤ 256 := by have := h.ok.few; have := h.ok.slots; omega
    clear h X ht hc hla hL
    go_enter Try.func85, Try.ntmps85
    go_wp2_with fail
    go_loop [26] (fun i => ∃ q : Nat, q ≤ 8 ∧ i = .int .i64 q ∧ Hid (∀ i, i < q → holderB s j k i = false)) (fun i => 8 - (intOf i).toNat)
    case atStart => exact ⟨0, by omega, rfl, Lib.hid (fun i hi => by omega)⟩
    case round =>
      obtain ⟨q, hq, rfl, HN⟩ := hrel
      by_cases hlt : q < 8
      · have hix := tx_index A s.tx w q hlt
        have HS := Lib.hid (fun hp : holderB s j k q = false => fun i (hi : i < q + 1) => if e : i = q then e ▸ hp else HN.out i (by omega))
        cases hu : s.tx q with
        | none =>
          have R := Lib.hid (HS.out (by simp [holderB, hu]))
          rw [show txPtr A s.tx q = .pointer none by simp [txPtr, hu]] at hix
          clear hu HS
          go_wp2_with fail
          go_round
          case rel => exact ⟨q + 1, by omega, by go_num, R⟩
          case measure => simp [intOf]; omega
        | some u =>
          rw [show txPtr A s.tx q = .pointer (some ⟨A.tb q, 0, none⟩) by simp [txPtr, hu]] at hix
          by_cases hqj : q = j
          · have R := Lib.hid (HS.out (by simp only [holderB, hu]; simp [hqj]))
            subst hqj
            have hcmp := txn_neq (HH.out.txs.one q t HT.out).2.blk (HH.out.txs.one q t HT.out).2.blk
            rw [decide_eq_true rfl] at hcmp
            clear hu HS
            go_wp2_with fail
            go_round
            case rel => exact ⟨q + 1, by omega, by go_num, R⟩
            case measure => simp [intOf]; omega
          · have Y := (HH.out.txs.one q u hu).2
            have hne : A.tb q ≠ A.tb j := fun e => hqj (HH.out.txs.tinj q j u t hu HT.out e)
            have hcmp := txn_neq Y.blk (HH.out.txs.one j t HT.out).2.blk
            rw [decide_eq_false hne] at hcmp
            have d4 := Y.cells.2.1
            have hr2 := Y.cm.look k hk
            cases huc : u.cells k with
            | none =>
              have R := Lib.hid (HS.out (by simp [holderB, hu, huc]))
              rw [show celPtr A q u k = .pointer none by simp [celPtr, huc]] at hr2
              clear hu huc HS Y hne
              go_wp2_with fail
              go_round
              case rel => exact ⟨q + 1, by omega, by go_num, R⟩
              case measure => simp [intOf]; omega
            | some d =>
              have R := Lib.hid (TakeRes.no HH.out HT.out (k := k) (w' := w) (by simp [St.take, HC.out, others_yes (s := s) (j := j) (k := k) hlt (by simp [holderB, hu, huc, hqj])]) (Only0.refl _))
              rw [show celPtr A q u k = .pointer (some ⟨A.ca q k, 0, none⟩) by simp [celPtr, huc]] at hr2
              clear hu huc HS Y hne
              go_wp2_with fail
              go_ret
              exact R.out
      · obtain rfl : q = 8 := by omega
        have HO := Lib.hid (others_no HN.out)
        clear HN p0 p1 p2 p3 p4 p5 p6 p7 hrun
        go_wp2_with fail
        go_loopw [51] (fun i wr => ∃ (q n : Nat), q ≤ s.l.length ∧ i = .int .i64 q ∧ wr = w.drewN n ∧ Hid ((s.l.take q).any (fun i => laterB (s.ver i) k t.beg) = false)) (fun i _ => s.l.length - (intOf i).toNat)
        case atStart => exact ⟨0, 0, by omega, rfl, rfl, Lib.hid (by simp)⟩
        case round =>
          obtain ⟨q, n, hq, rfl, rfl, HN⟩ := hrel
          by_cases hlt : q < s.l.length
          · have hb := HH.out.verAt q hlt
            obtain ⟨g, hg, hrow⟩ := HL.out (by omega)
            subst hg
            have hp := hrow q hlt
            have q0 : w.cell? ⟨A.va s.l[q], 0, none⟩ = some (.int .i64 (s.ver s.l[q]).key) := hb.cell 0
            have q3 : w.cell? ⟨A.va s.l[q], 3, none⟩ = some (.int .u64 (s.ver s.l[q]).beg) := hb.cell 3
            have q4 : w.cell? ⟨A.va s.l[q], 4, none⟩ = some (.int .u64 (s.ver s.l[q]).fin) := hb.cell 4
            have HY := Lib.hid (fun hp : laterB (s.ver s.l[q]) k t.beg = true => (any_at (p := fun i => laterB (s.ver i) k t.beg) hlt hp : s.later k t.beg = true))
            have HZ := Lib.hid (fun hp : laterB (s.ver s.l[q]) k t.beg = false => any_take_false HN.out hlt hp)
            have HR := Lib.hid (fun (n' : Nat) (hp : s.later k t.beg = true) => TakeRes.no HH.out HT.out (k := k) (w' := (w.drewN n).drewN n') (by simp [St.take, HC.out, hp]) (((Only0.refl _).drewN n).drewN n'))
            clear hb HN hrow
            generalize A.va s.l[q] = a at *
            generalize s.ver s.l[q] = v at *
            obtain ⟨kk, vv, by_, bg, fn, dd⟩ := v
            dsimp only at q0 q3 q4
            generalize t.beg = tb at *
            by_cases h1 : kk = (k : Int)
            · subst h1
              by_cases h2 : tb < bg
              · have R := Lib.hid (HY.out (by simp [laterB, h2]))
                clear HY HZ
                go_wp2_with fail
                go_quiet (fail)
                go_wp2_with fail
                go_ret
                exact HR.out _ R.out
              · have h2b : decide (tb < bg) = false := by simpa using h2
                by_cases h3 : tb < fn
                · have R := Lib.hid (HY.out (by simp [laterB, h3]))
                  clear HY HZ
                  go_wp2_with fail
                  go_quiet (fail)
                  go_wp2_with fail
                  go_ret
                  exact HR.out _ R.out
                · have R := Lib.hid (HZ.out (by simp [laterB]; omega))
                  clear HY HZ
                  go_wp2_with fail
                  go_quiet (fail)
                  go_wp2_with fail
                  go_roundw
                  case rel => exact ⟨q + 1, _, by omega, by go_num, rfl, R⟩
                  case measure => simp [intOf]; omega
            · have h1b : (kk == (k : Int)) = false := by simpa using h1
              have R := Lib.hid (HZ.out (by simp [laterB, h1]))
              clear HY HZ h1
              go_wp2_with fail
              go_quiet (fail)
              go_wp2_with fail
              go_roundw
              case rel => exact ⟨q + 1, _, by omega, by go_num, rfl, R⟩
              case measure => simp [intOf]; omega
          · obtain rfl : q = s.l.length := by omega
            have HLN := Lib.hid (show s.later k t.beg = false by have := HN.out; rwa [List.take_length] at this)
            obtain ⟨w5, hw5⟩ : ∃ w5, w5 = w.drewN n := ⟨_, rfl⟩
            have M : MIn B w5 P m s A := by rw [hw5]; exact HH.out.drewN n
            have o5 : Only0 w w5 := by rw [hw5]; exact (Only0.refl w).drewN n
            rw [← hw5]
            clear hw5 c2 c4 m4
            have C := md_at M k t.beg
            have hres : s.at k t.beg = none ∨ ∃ i, s.at k t.beg = some i ∧ i < s.vs.length := by
              cases hs : s.at k t.beg with
              | none => exact .inl rfl
              | some i => exact .inr ⟨i, rfl, HH.out.ok.lin i (List.mem_of_find?_eq_some hs)⟩
            have HRES := Lib.hid hres
            have HM := Lib.hid M
            obtain ⟨nc, hnc⟩ : ∃ nc : Cel, nc = s.newCel t k := ⟨_, rfl⟩
            have htk : s.take j t k = (some nc, t.put k nc) := by simp only [St.take, HC.out, HO.out, HLN.out, hnc]; rfl
            have X := (M.txs.one j t HT.out).2
            obtain ⟨c2, c4, _, _⟩ := X.cells
            have FIN : ∀ (old : Option Addr) (W w' : World), W = w5.alloc (.cells #[.pointer none, .pointer old, .bool (s.at k t.beg).isSome] 133) → .pointer old = ptrOf A.va (s.at k t.beg) → CMap w' (A.mb j 0) (upd (A.ca j) k w5.heap.size) (upd t.cells k (some nc)) → Only (fun c => c = A.mb j 0) W w' →
                TakeRes B m w P s A j t k (.returned (.pointer (some ⟨w5.heap.size, 0, none⟩))) w' := by
              intro old W w' hW hold hm ho
              have oW : Only0 w5 W := by rw [hW]; exact (Only0.refl w5).alloc _
              have hb : Blk W w5.heap.size 133 (celCells A.va nc) := by
                rw [hW, hnc]; unfold celCells St.newCel
                rw [← hold]
                exact Blk.new w5 _ _
              have hne : w5.heap.size ≠ A.mb j 0 := by have := X.cm.lt; omega
              have O := (oW.any (fun c => c = A.mb j 0)).trans ho
              have hsz := o5.size
              refine ⟨upd A.ca j (upd (A.ca j) k w5.heap.size), fun b => P b ∨ b = w5.heap.size, by rw [htk]; simp [upd_same], ?_, (o5.any P).trans (O.toward (fun b hb => by subst hb; exact X.pm 0 (by omega))), fun b hb => ?_⟩
              · rw [htk]
                refine M.newCel HT.out hk HC.out nc (Nat.le_refl _) ?_ O (ho.blk hb hne) hm ?_
                · have h1 := ho.size
                  have h2 : W.heap.size = w5.heap.size + 1 := by rw [hW]; simp
                  omega
                · rw [hnc]
                  refine ⟨fun i hi => by simp [St.newCel] at hi, fun i hi => ?_⟩
                  exact M.ok.lin i (List.mem_of_find?_eq_some hi)
              · rcases hb with hb | hb
                · exact .inl hb
                · exact .inr (by omega)
            have HFIN := Lib.hid FIN
            have HX := Lib.hid X
            have O5 := Lib.hid o5
            clear HN M hres HL FIN X htk hnc o5
            rcases HRES.out with h0 | ⟨i, h1, h2⟩
            · rw [h0] at C HFIN
              rw [show ptrOf A.va none = .pointer none from rfl] at C
              obtain ⟨W, hW⟩ : ∃ W, W = w5.alloc (.cells #[.pointer none, .pointer none, .bool false] 133) := ⟨_, rfl⟩
              have oW : Only0 w5 W := by rw [hW]; exact (Only0.refl w5).alloc _
              obtain ⟨w', hst, hb, ho⟩ := CMap.store (HX.out.cm.only (S := fun _ => False) oW (fun h => h)) k hk w5.heap.size nc
              have c4W : W.cell? ⟨A.tb j, 4, none⟩ = some (.map (some (A.mb j 0))) := (oW.blk HX.out.blk (fun h => h)).cell 4
              have R := Lib.hid (HFIN.out none W w' (by rw [hW]; rfl) rfl hb ho)
              rw [hW] at hst c4W
              clear h0 hb ho oW HX hW
              go_wp2_with fail
              refine C.mono ?_
              rintro e w1 ⟨rfl, rfl⟩
              go_wp2_with fail
              go_ret
              exact R.out
            · rw [h1] at C HFIN
              rw [show ptrOf A.va (some i) = .pointer (some ⟨A.va i, 0, none⟩) from rfl] at C
              obtain ⟨W, hW⟩ : ∃ W, W = w5.alloc (.cells #[.pointer none, .pointer (some ⟨A.va i, 0, none⟩), .bool true] 133) := ⟨_, rfl⟩
              have oW : Only0 w5 W := by rw [hW]; exact (Only0.refl w5).alloc _
              obtain ⟨w', hst, hb, ho⟩ := CMap.store (HX.out.cm.only (S := fun _ => False) oW (fun h => h)) k hk w5.heap.size nc
              have c4W : W.cell? ⟨A.tb j, 4, none⟩ = some (.map (some (A.mb j 0))) := (oW.blk HX.out.blk (fun h => h)).cell 4
              have R := Lib.hid (HFIN.out (some ⟨A.va i, 0, none⟩) W w' (by rw [hW]; rfl) rfl hb ho)
              rw [hW] at hst c4W
              clear h1 h2 hb ho oW HX hW
              go_wp2_with fail
              refine C.mono ?_
              rintro e w1 ⟨rfl, rfl⟩
              go_wp2_with fail
              go_ret
              exact R.out
end Go.Proofs.Ytcbhafddehipdaa

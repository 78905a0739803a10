/-
  TopOne:what its proof rests on,part 2.
-/
import Derived.Deep.DeepCutAuto
import Derived.Laws.EntriesVeiled
import Derived.Test.YtoakelhnhkilcaaGreatProg
import Derived.Defers
import Derived.RegionTactic
import Derived.RegionCalls
import Derived.Test.YtoakelhnhkilcaaGreatZTopOne1
set_option linter.unusedVariables false
set_option linter.unusedSimpArgs false
set_option maxRecDepth 100000
set_option maxHeartbeats 64000000
namespace Go.Proofs.YtoakelhnhkilcaaGreat
open Go.RowKit
section
attribute [local go_sem ↓] Go.wp_at_zero Go.wp_at_succ
section
variable {w w':World} {P Q R P' Q':Nat→Prop} {S:SA}
theorem Ug{P:Prop}(h:P:=by
 go_enter Tryz.func105,Tryz.ntmps105
 go_upto_region 2 with(fail)
 rw[←hW,←HBf.out,←HBk.out,←HBc.out,←HBt.out,←HBe.out,←hV]
 clear hW hV
 refine wp_region_held_drew (S:=(fun w'=>Ab w' bt 0 (bp S.t)∧Ab w' S.t 7 (.map (some S.m))∧Ab w' bk 0 (.int .i64 key))) (by kernel_rfl) ?_ (fun hHeld=>?_)
 ·exact⟨ct1,tm,ck1⟩
 refine Af 0 (h:=Af 1 (h:=Af 2 (h:=Af 3 (h:=Af 4 (h:=Ar (i:=5) (h:=fun K hK=>?_))))))
 go_simp
 skip
 try go_wp2_with fail
 refine AK hK (by exact⟨ct1,tm,ck1⟩) (h:=fun hHeld=>?_);clear hK K
 refine Af 6 (h:=?_)
 refine wpAnyH_done (by kernel_rfl) ?_ _
 have cc2:=Ae V.drew.drew bc 0 (bp S.c) GC.out.c0
 have ck2:=Ae V.drew.drew bk 0 (.int .i64 key) GK.out.c0
 have co2:=HCV.out.drew.drew.co
 clear ct1 tm ck1 LK hHeld
 go_upto_region 3 with(fail)
 refine wp_region_held_drew (S:=(fun w'=>Ab w' bk 0 (.int .i64 key)∧Ab w' bc 0 (bp S.c)∧Ab w' S.c 2 (.int .i64 X.c.op.hi))) (by kernel_rfl) ?_ (fun hHeld=>?_)
 ·exact⟨ck2,cc2,co2⟩
 refine Af 0 (h:=Af 1 (h:=Af 2 (h:=Af 3 (h:=Af 4 (h:=Af 5 (h:=Af 6 (h:=?_)))))))
 refine wpAnyH_done (by kernel_rfl) ?_ _
 have oz:=(Ac.refl V).drew.drew.drew
 have HZ:=Aa (HCV.out.only0 oz)
 have MZ:=MV.trans (Ag.only0 P Q oz)
 have ce3:=Ae V.drew.drew.drew be 0 (bp A.e) GE.out.c0
 have cc3:=Ae V.drew.drew.drew bc 0 (bp S.c) GC.out.c0
 obtain⟨r5,r6,r7,r8,r9⟩:=HZ.out.cr
 have CE:=Hz HZ.out X.c.r S.qa S.qc (.inr ⟨rfl,rfl,rfl⟩)
 unfold I0 at CE
 go_wp2_with fail
 go_upto_region 4 with(fail)
 refine wp_region_held_drew (S:=(fun w'=>Ab w' be 0 (bp A.e)∧Ab w' bc 0 (bp S.c)∧Ab w' S.c 5 (.int .i64 X.c.r.e)∧Ab w' S.c 6 (.int .i64 X.c.r.value)∧Ab w' S.c 7 (.slice S.qa X.c.r.pairs.length S.qc)∧Ab w' S.c 8 (.int .i64 X.c.r.over)∧Ab w' S.c 9 (.int .i64 X.c.r.reason))) (by kernel_rfl) ?_ (fun hHeld=>?_)
 ·exact⟨ce3,cc3,r5,r6,r7,r8,r9⟩
 refine Af 0 (h:=Af 1 (h:=Af 2 (h:=Af 3 (h:=Af 4 (h:=Af 5 (h:=Ar (i:=6) (h:=fun K hK=>?_)))))))
 go_simp
 (refine CE.mono ?_;rintro e9 w9 ⟨q9,o9⟩;obtain⟨v9,rfl⟩:=q9.ret;have HS:=Aa (q9.comp MZ (At.refl A S));have ce3:=Ai o9 ce3;have cc3:=Ai o9 cc3;have r5:=Ai o9 r5;have r6:=Ai o9 r6;have r7:=Ai o9 r7;have r8:=Ai o9 r8;have r9:=Ai o9 r9;clear q9 o9)
 try go_wp2_with fail
 refine AK hK (by exact⟨ce3,cc3,r5,r6,r7,r8,r9⟩) (h:=fun hHeld=>?_);clear hK K
 refine Af 7 (h:=?_)
 refine wpAnyH_done (by kernel_rfl) ?_ _
 go_wp2_with fail
 go_ret
 rw[HR.out]
 exact HS.out):P:=h
theorem TY{P:Prop}(h:P:=by
 go_enter Tryz.func162,Tryz.ntmps162
 go_upto_region 1 with(fail)
 rw[←hW,←H0.out]
 clear hW
 refine wp_region_held_drew (S:=(fun w'=>Ab w' n0 0 (.int .i64 k)∧Ab w' n0 2 (.bool g)∧Ab w' S.t 7 (.map (some S.m))∧Ab w' S.t 1 (.int .i64 lv))) (by kernel_rfl) ?_ (fun hHeld=>?_)
 ·exact⟨b0,b2,t7,t1⟩
 refine Af 0 (h:=Af 1 (h:=Af 2 (h:=Af 3 (h:=Af 4 (h:=Af 5 (h:=Ar (i:=6) (h:=fun K hK=>?_)))))))
 go_simp
 skip
 try go_wp2_with fail
 refine AK hK (by exact⟨b0,b2,t7,t1⟩) (h:=fun hHeld=>?_);clear hK K
 refine Af 7 (h:=Af 8 (h:=?_))
 first|refine Aj 9 (h:=?_)|refine Af 9 (h:=?_)
 first|refine Aj 10 (h:=?_)|refine Af 10 (h:=?_)
 first|refine Aj 11 (h:=?_)|refine Af 11 (h:=?_)
 first|refine Aj 12 (h:=?_)|refine Af 12 (h:=?_)
 first|refine Aj 13 (h:=?_)|refine Af 13 (h:=?_)
 first|refine Aj 14 (h:=?_)|refine Af 14 (h:=?_)
 first|refine Aj 15 (h:=?_)|refine Af 15 (h:=?_)
 first|refine Aj 16 (h:=?_)|refine Af 16 (h:=?_)
 first|refine Aj 17 (h:=?_)|refine Af 17 (h:=?_)
 first|refine Aj 18 (h:=?_)|refine Af 18 (h:=?_)
 first|refine Aj 19 (h:=?_)|refine Af 19 (h:=?_)
 first|refine Aj 20 (h:=?_)|refine Af 20 (h:=?_)
 first|refine Aj 21 (h:=?_)|refine Af 21 (h:=?_)
 first|refine Aj 22 (h:=?_)|refine Af 22 (h:=?_)
 first|refine Aj 23 (h:=?_)|refine Af 23 (h:=?_)
 first|refine Aj 24 (h:=?_)|refine Af 24 (h:=?_)
 refine Af 25 (h:=Af 26 (h:=?_))
 refine wpAnyH_done (by kernel_rfl) ?_ _
 go_wp2_with fail
 go_ret
 rw[HN.out]
 exact⟨BL (by simp_all),HO.out⟩):P:=h
theorem S3{P:Prop}(h:P:=by
 rw[K9.out.t,K9.out.c]at CE
 go_wp2_with fail
 refine CE.mono ?_
 rintro e8 w8 r8
 obtain⟨v8,rfl⟩:=r8.ret
 have HS:=Aa (r8.comp M9 K9.out)
 clear r8 CE
 go_wp2_with fail
 go_ret
 rw[HR.out]
 exact HS.out):P:=h
theorem UK{P:Prop}(h:P:=by
 try go_wp2_with fail
 refine AK hK (by exact⟨ce,cc,cA,cK⟩) (h:=fun hHeld=>?_);clear hK K
 refine wpAnyH_done (by kernel_rfl) ?_ _
 go_wp2_with fail
 go_meet
 case rel=>exact⟨_,rfl,Aa ⟨HC.out,M,fb⟩⟩):P:=h
theorem TA{P:Prop}(h:P:=by
 refine Af 0 (h:=Af 1 (h:=Af 2 (h:=Af 3 (h:=Af 4 (h:=Af 5 (h:=Ar (i:=6) (h:=fun K hK=>?_)))))))
 go_simp
 skip
 try go_wp2_with fail
 refine AK hK (by exact⟨b0,b2,t7,t1⟩) (h:=fun hHeld=>?_);clear hK K
 refine Af 7 (h:=Af 8 (h:=?_))
 first|refine Aj 9 (h:=?_)|refine Af 9 (h:=?_)
 first|refine Aj 10 (h:=?_)|refine Af 10 (h:=?_)
 first|refine Aj 11 (h:=?_)|refine Af 11 (h:=?_)
 first|refine Aj 12 (h:=?_)|refine Af 12 (h:=?_)
 first|refine Aj 13 (h:=?_)|refine Af 13 (h:=?_)
 first|refine Aj 14 (h:=?_)|refine Af 14 (h:=?_)
 first|refine Aj 15 (h:=?_)|refine Af 15 (h:=?_)
 first|refine Aj 16 (h:=?_)|refine Af 16 (h:=?_)
 first|refine Aj 17 (h:=?_)|refine Af 17 (h:=?_)
 first|refine Aj 18 (h:=?_)|refine Af 18 (h:=?_)
 first|refine Aj 19 (h:=?_)|refine Af 19 (h:=?_)
 first|refine Aj 20 (h:=?_)|refine Af 20 (h:=?_)
 first|refine Aj 21 (h:=?_)|refine Af 21 (h:=?_)
 first|refine Aj 22 (h:=?_)|refine Af 22 (h:=?_)
 first|refine Aj 23 (h:=?_)|refine Af 23 (h:=?_)
 first|refine Aj 24 (h:=?_)|refine Af 24 (h:=?_)
 refine Af 25 (h:=Af 26 (h:=?_))
 refine wpAnyH_done (by kernel_rfl) ?_ _
 go_wp2_with fail
 go_ret
 rw[HN.out]
 exact⟨BL (by simp_all),HO.out⟩):P:=h
theorem UJ{P:Prop}(h:P:=by
 rintro b (e|e|e)
 ·rw[e];exact h.sh.pp.1
 ·rw[e];exact h.sh.pp.2
 ·exact h.sh.pf b e):P:=h
theorem Ux{P:Prop}(h:P:=by
 refine wpAnyH_done (by kernel_rfl) ?_ _
 go_wp2_with fail
 go_ret
 rw[HR.out]
 exact HS.out):P:=h
theorem UP{P:Prop}(h:P:=by
 rintro b (hb|hb)
 ·exact Nat.lt_of_lt_of_le (h.uP b hb) m.o.size
 ·exact(hrl b hb).2):P:=h
theorem Tm{P:Prop}(h:P:=by
 rw[List.getD_eq_getElem?_getD,List.getElem?_eq_getElem hi];exact List.getElem_mem _):P:=h
theorem RW{P:Prop}(h:P:=by
 rintro b (hb|hb)
 ·exact .inl hb
 ·rcases q.grew b hb with e|e
  ·exact .inl (h.sh.pf b e)
  ·exact .inr e):P:=h
theorem Uy{P:Prop}(h:P:=by
 show 0≤((p.slots.set _ _).getD j (0,false)).1∧_
 rw[e];exact h.tags j):P:=h
theorem Sj{P:Prop}(h:P:=by
 first|exact⟨ck,ct,tr,d0,d1,d2⟩|exact⟨ck1,ct1,tr1,d01,d11,d21⟩):P:=h
theorem Ud{P:Prop}(h:P:=by
 clear r9 CE
 go_wp2_with fail
 go_ret
 rw[HR.out]
 exact HS.out):P:=h
theorem bX.mv{b:Nat}{k:Option Nat}(h:bX w P Q R S b k)(m:Ag w w' P Q P' Q'):bX w' P' Q' R S b k:=An.move h m
theorem bH.mv{b:Nat}{x:Bool}{hd:Int}(h:bH w P Q R b x hd)(m:Ag w w' P Q P' Q'):bH w' P' Q' R b x hd:=by
 rcases h with⟨h1,h2⟩|⟨h1,g,h2,h3⟩
 ·exact .inl ⟨h1,h2.move m⟩
 ·exact .inr ⟨h1,g,h2.move m,h3.mv m⟩
end
theorem CX.ti{B:Nat}{w:World}{P Q R:Nat→Prop}{A:EA}{Ke:EK}{S:SA}{nx:Value}{X:Cx}(h:CX B w P Q R A Ke S nx X):w.cell? ⟨S.t,0,none⟩=some (.int .i64 X.t.id):=h.tx.blk.cell 0
theorem CX.ck{B:Nat}{w:World}{P Q R:Nat→Prop}{A:EA}{Ke:EK}{S:SA}{nx:Value}{X:Cx}(h:CX B w P Q R A Ke S nx X):w.cell? ⟨S.c,1,none⟩=some (.int .i64 X.c.op.key):=h.cl.blk.cell 1
theorem PH{B N:Nat}{w:World}{P Q R:Nat→Prop}{A:EA}{Ke:EK}{S:SA}{nx:Value}{X:Cx}(h:CX B w P Q R A Ke S nx X)(hN:Ax N X)(x:Bool)(l hd:Int)(hl:AM X.sh.slots l){e a t y c f:Nat}(he:An w P Q R e 39 #[bp A.e])(ha:An w P Q R a 31 #[.int .u64 (l)])(ht:An w P Q R t 96 #[bp S.t])(hc:An w P Q R c 101 #[bp S.c])(hy:bX w P Q R S y (if x then some X.key else none))(hf:bH w P Q R f x hd):
 Calls Tryz.prog 191 #[bp e,bp a,bp t,bp y,bp c,bp f] w (Ak B w P Q R A Ke S nx (Ay X (.slot1 x l hd)).1 (Ay X (.slot1 x l hd)).2):=by
 have HC0:=Aa h
 have HN:=Aa hN
 have l0:=hl.1
 have i1:=hN.tx.id1
 have i2:=hN.tx.id2
 obtain⟨X1,hX1⟩:=Aq (X.setA (X.sh.a.store (Al l 0) (BA X.t.id)))
 have HR:Hid (Ay X (.slot1 x l hd)=(X1,some (.slot2 x l hd))∧X1.key=X.key):=Aa ⟨by simp only[Ay,hX1],by rw[←hX1];rfl⟩
 clear h hN hl
 go_enter Tryz.func191,Tryz.ntmps191
 go_upto_region 1 with(fail)
 have HC:=Aa HC0.out.drew
 have M:=Ag.only0 P Q ((Ac.refl w).drew)
 have fe:=he.move M
 have fa:=ha.move M
 have ft:=ht.move M
 have fc:=hc.move M
 have ce:=fe.c0
 have ca:=fa.c0
 have ct:=ft.c0
 have cc:=fc.c0
 have cA:=HC.out.ca
 have cN:=HC.out.cn
 have cI:=HC.out.ti
 refine wp_region_held_drew (S:=(fun w'=>Ab w' e 0 (bp A.e)∧Ab w' a 0 (.int .u64 (l))∧Ab w' t 0 (bp S.t)∧Ab w' A.e 2 (bp A.a))) (by kernel_rfl) ?_ (fun hHeld=>?_)
 ·exact⟨ce,ca,ct,cA⟩
 refine Af 0 (h:=Af 1 (h:=Af 2 (h:=Af 3 (h:=Af 4 (h:=Af 6 (h:=Ar (i:=5) (h:=fun K hK=>?_)))))))
 go_simp
 (refine(Bb l 0 _ l0 (by omega) (by omega)).mono ?_;rintro e1 w1 ⟨rfl,rfl⟩)
 try go_wp2_with fail
 refine AK hK (by exact⟨ce,ca,ct,cA⟩) (h:=fun hHeld=>?_);clear hK K
 refine Ar (i:=7) (h:=fun K hK=>?_)
 try simp only[List.getElem_toArray,List.getElem_cons_zero,List.getElem_cons_succ]
 go_simp
 (refine(GY S.t X.t.id _ cI i1 (by omega)).mono ?_;rintro e1 w1 ⟨rfl,rfl⟩)
 try go_wp2_with fail
 refine AK hK (by exact⟨ce,ca,ct,cA⟩) (h:=fun hHeld=>?_);clear hK K
 refine Ar (i:=8) (h:=fun K hK=>?_)
 try simp only[List.getElem_toArray,List.getElem_cons_zero,List.getElem_cons_succ]
 go_simp
 (refine(CY HC.out _ _).mono ?_;rw[hX1];rintro e1 w1 ⟨rfl,h1,m1⟩;have HC:=Aa h1;have M:=M.trans m1;clear h1;have fe:=he.move M;have fa:=ha.move M;have ft:=ht.move M;have fc:=hc.move M;have ce:=fe.c0;have ca:=fa.c0;have ct:=ft.c0;have cc:=fc.c0;have cA:=HC.out.ca;have cN:=HC.out.cn;skip)
 try go_wp2_with fail
 refine AK hK (by exact⟨ce,ca,ct,cA⟩) (h:=fun hHeld=>?_);clear hK K
 refine wpAnyH_done (by kernel_rfl) ?_ _
 go_wp2_with fail
 go_ret
 rw[HR.out.1]
 exact⟨P,Q,A,S,_,rfl,HC.out,⟨e,a,y,t,c,f,rfl,fe,fa,by rw[HR.out.2];exact hy.mv M,ft,fc,hf.mv M⟩,M,At.refl A S⟩
theorem NN{B N:Nat}{w:World}{P Q R:Nat→Prop}{A:EA}{Ke:EK}{S:SA}{nx:Value}{X:Cx}(h:CX B w P Q R A Ke S nx X)(hN:Ax N X)(x:Bool)(l hd:Int)(hl:AM X.sh.slots l){e a y t c f:Nat}(he:An w P Q R e 39 #[bp A.e])(ha:An w P Q R a 31 #[.int .u64 (l)])(ht:An w P Q R t 96 #[bp S.t])(hc:An w P Q R c 101 #[bp S.c])(hy:bX w P Q R S y (if x then some X.key else none))(hf:bH w P Q R f x hd):
 Calls Tryz.prog 192 #[bp e,bp a,bp y,bp t,bp c,bp f] w (Ak B w P Q R A Ke S nx (Ay X (.slot2 x l hd)).1 (Ay X (.slot2 x l hd)).2):=by
 have HC0:=Aa h
 have HN:=Aa hN
 have l0:=hl.1
 obtain⟨X1,hX1⟩:=Aq (X.setA (X.sh.a.store (Al l 1) Bj))
 have HR:Hid (Ay X (.slot2 x l hd)=(X1,some (if x then .over1 l else .push1 l hd))∧X1.key=X.key):=Aa ⟨by simp only[Ay,hX1],by rw[←hX1];rfl⟩
 have HF:=Aa hf
 clear h hN hl hf
 cases x with
 |true=>
  have hy2:An w P Q R y 248 #[.pointer (some (DP (S.x X.key)))]:=hy
  have HH:Hid (An w P Q R f 291 #[.slice none 0 0]):=Aa (by rcases HF.out with⟨_,h⟩|⟨h,_⟩;exact h;cases h)
  clear HF hy
  go_enter Tryz.func192,Tryz.ntmps192
  go_upto_region 1 with(fail)
  have HC:=Aa HC0.out.drew
  have M:=Ag.only0 P Q ((Ac.refl w).drew)
  have fe:=he.move M
  have fa:=ha.move M
  have ft:=ht.move M
  have fc:=hc.move M
  have ce:=fe.c0
  have ca:=fa.c0
  have ct:=ft.c0
  have cc:=fc.c0
  have cA:=HC.out.ca
  have cN:=HC.out.cn
  have fy:=hy2.move M
  have cy:=fy.c0
  refine wp_region_held_drew (S:=(fun w'=>Ab w' e 0 (bp A.e)∧Ab w' a 0 (.int .u64 (l))∧Ab w' A.e 2 (bp A.a))) (by kernel_rfl) ?_ (fun hHeld=>?_)
  ·exact⟨ce,ca,cA⟩
  refine Af 0 (h:=Af 1 (h:=Af 2 (h:=Af 3 (h:=Af 4 (h:=Ar (i:=5) (h:=fun K hK=>?_))))))
  go_simp
  (refine(Bb l 1 _ l0 (by omega) (by omega)).mono ?_;rintro e1 w1 ⟨rfl,rfl⟩)
  try go_wp2_with fail
  refine AK hK (by exact⟨ce,ca,cA⟩) (h:=fun hHeld=>?_);clear hK K
  refine Ar (i:=6) (h:=fun K hK=>?_)
  try simp only[List.getElem_toArray,List.getElem_cons_zero,List.getElem_cons_succ]
  go_simp
  (refine(Dw _).mono ?_;rintro e1 w1 ⟨rfl,rfl⟩)
  try go_wp2_with fail
  refine AK hK (by exact⟨ce,ca,cA⟩) (h:=fun hHeld=>?_);clear hK K
  refine Ar (i:=7) (h:=fun K hK=>?_)
  try simp only[List.getElem_toArray,List.getElem_cons_zero,List.getElem_cons_succ]
  go_simp
  (refine(CY HC.out _ _).mono ?_;rw[hX1];rintro e1 w1 ⟨rfl,h1,m1⟩;have HC:=Aa h1;have M:=M.trans m1;clear h1;have fe:=he.move M;have fa:=ha.move M;have ft:=ht.move M;have fc:=hc.move M;have ce:=fe.c0;have ca:=fa.c0;have ct:=ft.c0;have cc:=fc.c0;have cA:=HC.out.ca;have cN:=HC.out.cn;have fy:=hy2.move M;have cy:=fy.c0;skip)
  try go_wp2_with fail
  refine AK hK (by exact⟨ce,ca,cA⟩) (h:=fun hHeld=>?_);clear hK K
  refine wpAnyH_done (by kernel_rfl) ?_ _
  skip
  have CO:=LO HC.out l
  rw[HR.out.2]at CO
  go_wp2_with fail
  refine(CO).mono ?_
  rintro e9 w9 r9
  obtain⟨v9,rfl⟩:=r9.ret
  have HS:=Aa (r9.comp M (At.refl A S))
  clear r9
  go_wp2_with fail
  go_ret
  rw[HR.out.1]
  exact HS.out
 |false=>
  have hy2:An w P Q R y 248 #[.pointer none]:=hy
  obtain⟨gg,hf2,hg2⟩:∃g,An w P Q R f 291 #[.slice (some (DP g)) 1 1]∧bU w P Q R g hd:=by rcases HF.out with⟨h,_⟩|⟨_,h⟩;cases h;exact h
  clear HF hy
  go_enter Tryz.func192,Tryz.ntmps192
  go_upto_region 1 with(fail)
  have HC:=Aa HC0.out.drew
  have M:=Ag.only0 P Q ((Ac.refl w).drew)
  have fe:=he.move M
  have fa:=ha.move M
  have ft:=ht.move M
  have fc:=hc.move M
  have ce:=fe.c0
  have ca:=fa.c0
  have ct:=ft.c0
  have cc:=fc.c0
  have cA:=HC.out.ca
  have cN:=HC.out.cn
  have fy:=hy2.move M
  have cy:=fy.c0
  have ff:=hf2.move M
  have cf:=ff.c0
  have fg:=An.move hg2 M
  have cg:=fg.c0
  refine wp_region_held_drew (S:=(fun w'=>Ab w' e 0 (bp A.e)∧Ab w' a 0 (.int .u64 (l))∧Ab w' A.e 2 (bp A.a))) (by kernel_rfl) ?_ (fun hHeld=>?_)
  ·exact⟨ce,ca,cA⟩
  refine Af 0 (h:=Af 1 (h:=Af 2 (h:=Af 3 (h:=Af 4 (h:=Ar (i:=5) (h:=fun K hK=>?_))))))
  go_simp
  (refine(Bb l 1 _ l0 (by omega) (by omega)).mono ?_;rintro e1 w1 ⟨rfl,rfl⟩)
  try go_wp2_with fail
  refine AK hK (by exact⟨ce,ca,cA⟩) (h:=fun hHeld=>?_);clear hK K
  refine Ar (i:=6) (h:=fun K hK=>?_)
  try simp only[List.getElem_toArray,List.getElem_cons_zero,List.getElem_cons_succ]
  go_simp
  (refine(Dw _).mono ?_;rintro e1 w1 ⟨rfl,rfl⟩)
  try go_wp2_with fail
  refine AK hK (by exact⟨ce,ca,cA⟩) (h:=fun hHeld=>?_);clear hK K
  refine Ar (i:=7) (h:=fun K hK=>?_)
  try simp only[List.getElem_toArray,List.getElem_cons_zero,List.getElem_cons_succ]
  go_simp
  (refine(CY HC.out _ _).mono ?_;rw[hX1];rintro e1 w1 ⟨rfl,h1,m1⟩;have HC:=Aa h1;have M:=M.trans m1;clear h1;have fe:=he.move M;have fa:=ha.move M;have ft:=ht.move M;have fc:=hc.move M;have ce:=fe.c0;have ca:=fa.c0;have ct:=ft.c0;have cc:=fc.c0;have cA:=HC.out.ca;have cN:=HC.out.cn;have fy:=hy2.move M;have cy:=fy.c0;have ff:=hf2.move M;have cf:=ff.c0;have fg:=An.move hg2 M;have cg:=fg.c0;skip)
  try go_wp2_with fail
  refine AK hK (by exact⟨ce,ca,cA⟩) (h:=fun hHeld=>?_);clear hK K
  refine wpAnyH_done (by kernel_rfl) ?_ _
  skip
  go_wp2_with fail
  have m9:=(Ag.only0 P Q ((Ac.refl (w1)).drew))
  have M:=M.trans m9
  have HC:=Aa (HC.out.drew)
  have fe:=he.move M
  have fa:=ha.move M
  have ft:=ht.move M
  have fc:=hc.move M
  have ce:=fe.c0
  have ca:=fa.c0
  have ct:=ft.c0
  have cc:=fc.c0
  have cA:=HC.out.ca
  have cN:=HC.out.cn
  have fy:=hy2.move M
  have cy:=fy.c0
  have ff:=hf2.move M
  have cf:=ff.c0
  have fg:=An.move hg2 M
  have cg:=fg.c0
  clear m9
  refine wp_region_held_drew (S:=(fun w'=>Ab w' e 0 (bp A.e)∧Ab w' a 0 (.int .u64 (l))∧Ab w' t 0 (bp S.t)∧Ab w' c 0 (bp S.c)∧Ab w' f 0 (.slice (some (DP gg)) 1 1)∧Ab w' gg 0 (.int .u64 hd))) (by kernel_rfl) ?_ (fun hHeld=>?_)
  ·exact⟨ce,ca,ct,cc,cf,cg⟩
  refine Af 0 (h:=Af 1 (h:=Af 2 (h:=Af 3 (h:=Af 4 (h:=Af 5 (h:=Af 6 (h:=Ar (i:=7) (h:=fun K hK=>?_))))))))
  go_simp
  (refine(Qu HC.out l hd).mono ?_;rintro e9 w9 r9;have HS9:=Aa (r9.comp M (At.refl A S));obtain⟨P9,Q9,A9,S9,v9,rfl,h9,n9,m9,k9⟩:=r9;have ce:=(fe.move m9).c0;have ca:=(fa.move m9).c0;have ct:=(ft.move m9).c0;have cc:=(fc.move m9).c0;have cf:=Ae w9 f 0 (.slice (some (DP gg)) 1 1) ((ff.move m9).c0);have cg:=Ae w9 gg 0 (.int .u64 hd) ((fg.move m9).c0);have HS:=HS9;clear h9 n9 m9 k9 HS9)
  try go_wp2_with fail
  refine AK hK (by exact⟨ce,ca,ct,cc,cf,cg⟩) (h:=fun hHeld=>?_);clear hK K
  refine Af 8 (h:=?_)
  refine wpAnyH_done (by kernel_rfl) ?_ _
  go_wp2_with fail
  go_ret
  rw[HR.out.1]
  exact HS.out
theorem OK{B N:Nat}{w:World}{P Q R:Nat→Prop}{A:EA}{Ke:EK}{S:SA}{nx:Value}{X:Cx}(h:CX B w P Q R A Ke S nx X)(hN:Ax N X)(l hd:Int)(hl:AM X.sh.slots l){e a b c t:Nat}(he:An w P Q R e 39 #[bp A.e])(ha:An w P Q R a 31 #[.int .u64 (l)])(hb:An w P Q R b 31 #[.int .u64 (hd)])(hc:An w P Q R c 101 #[bp S.c])(ht:An w P Q R t 96 #[bp S.t]):
 Calls Tryz.prog 220 #[bp e,bp a,bp b,bp c,bp t] w (Ak B w P Q R A Ke S nx (Ay X (.push1 l hd)).1 (Ay X (.push1 l hd)).2):=by
 have HC0:=Aa h
 have HN:=Aa hN
 have l0:=hl.1
 obtain⟨X1,hX1⟩:=Aq (X.setA (X.sh.a.store (Al l 2) hd))
 have HR:Hid (Ay X (.push1 l hd)=(X1,some (.push2 l hd))):=Aa (by simp only[Ay,hX1])
 clear h hN hl
 go_enter Tryz.func220,Tryz.ntmps220
 go_upto_region 1 with(fail)
 have HC:=Aa HC0.out.drew
 have M:=Ag.only0 P Q ((Ac.refl w).drew)
 have fe:=he.move M
 have fa:=ha.move M
 have fb:=hb.move M
 have fc:=hc.move M
 have ft:=ht.move M
 have ce:=fe.c0
 have ca:=fa.c0
 have cb:=fb.c0
 have cc:=fc.c0
 have ct:=ft.c0
 have cA:=HC.out.ca
 have cN:=HC.out.cn
 refine wp_region_held_drew (S:=(fun w'=>Ab w' e 0 (bp A.e)∧Ab w' a 0 (.int .u64 (l))∧Ab w' b 0 (.int .u64 (hd))∧Ab w' A.e 2 (bp A.a))) (by kernel_rfl) ?_ (fun hHeld=>?_)
 ·exact⟨ce,ca,cb,cA⟩
 refine Af 0 (h:=Af 1 (h:=Af 2 (h:=Af 3 (h:=Af 4 (h:=Af 6 (h:=Ar (i:=5) (h:=fun K hK=>?_)))))))
 go_simp
 (refine(Bb l 2 _ l0 (by omega) (by omega)).mono ?_;rintro e1 w1 ⟨rfl,rfl⟩)
 try go_wp2_with fail
 refine AK hK (by exact⟨ce,ca,cb,cA⟩) (h:=fun hHeld=>?_);clear hK K
 refine Ar (i:=7) (h:=fun K hK=>?_)
 try simp only[List.getElem_toArray,List.getElem_cons_zero,List.getElem_cons_succ]
 go_simp
 (refine(CY HC.out _ _).mono ?_;rw[hX1];rintro e1 w1 ⟨rfl,h1,m1⟩;have HC:=Aa h1;have M:=M.trans m1;clear h1;have fe:=he.move M;have fa:=ha.move M;have fb:=hb.move M;have fc:=hc.move M;have ft:=ht.move M;have ce:=fe.c0;have ca:=fa.c0;have cb:=fb.c0;have cc:=fc.c0;have ct:=ft.c0;have cA:=HC.out.ca;have cN:=HC.out.cn;skip)
 try go_wp2_with fail
 refine AK hK (by exact⟨ce,ca,cb,cA⟩) (h:=fun hHeld=>?_);clear hK K
 refine wpAnyH_done (by kernel_rfl) ?_ _
 go_wp2_with fail
 go_ret
 rw[HR.out]
 exact⟨P,Q,A,S,_,rfl,HC.out,⟨e,c,b,a,t,rfl,fe,fc,fb,fa,ft⟩,M,At.refl A S⟩
theorem N3{B N:Nat}{w:World}{P Q R:Nat→Prop}{A:EA}{Ke:EK}{S:SA}{nx:Value}{X:Cx}(h:CX B w P Q R A Ke S nx X)(hN:Ax N X)(l hd:Int)(hl:AM X.sh.slots l){e a b c t x:Nat}(he:An w P Q R e 39 #[bp A.e])(ha:An w P Q R a 31 #[.int .u64 (l)])(hb:An w P Q R b 31 #[.int .u64 (hd)])(hc:An w P Q R c 101 #[bp S.c])(ht:An w P Q R t 96 #[bp S.t])(hx:bX w P Q R S x (some X.key)):
 Calls Tryz.prog 223 #[bp e,bp a,bp b,bp c,bp t,bp x] w (Ak B w P Q R A Ke S nx (Ay X (.over2 l hd)).1 (Ay X (.over2 l hd)).2):=by
 have HC0:=Aa h
 have HN:=Aa hN
 have l0:=hl.1
 obtain⟨X1,hX1⟩:=Aq (X.setA (X.sh.a.store (Al l 2) hd))
 have HR:Hid (Ay X (.over2 l hd)=(X1,some (.over3 l hd))∧X1.key=X.key):=Aa ⟨by simp only[Ay,hX1],by rw[←hX1];rfl⟩
 clear h hN hl
 go_enter Tryz.func223,Tryz.ntmps223
 go_upto_region 1 with(fail)
 have HC:=Aa HC0.out.drew
 have M:=Ag.only0 P Q ((Ac.refl w).drew)
 have fe:=he.move M
 have fa:=ha.move M
 have fb:=hb.move M
 have fc:=hc.move M
 have ft:=ht.move M
 have ce:=fe.c0
 have ca:=fa.c0
 have cb:=fb.c0
 have cc:=fc.c0
 have ct:=ft.c0
 have cA:=HC.out.ca
 have cN:=HC.out.cn
 refine wp_region_held_drew (S:=(fun w'=>Ab w' e 0 (bp A.e)∧Ab w' a 0 (.int .u64 (l))∧Ab w' b 0 (.int .u64 (hd))∧Ab w' A.e 2 (bp A.a))) (by kernel_rfl) ?_ (fun hHeld=>?_)
 ·exact⟨ce,ca,cb,cA⟩
 refine Af 0 (h:=Af 1 (h:=Af 2 (h:=Af 3 (h:=Af 4 (h:=Af 6 (h:=Ar (i:=5) (h:=fun K hK=>?_)))))))
 go_simp
 (refine(Bb l 2 _ l0 (by omega) (by omega)).mono ?_;rintro e1 w1 ⟨rfl,rfl⟩)
 try go_wp2_with fail
 refine AK hK (by exact⟨ce,ca,cb,cA⟩) (h:=fun hHeld=>?_);clear hK K
 refine Ar (i:=7) (h:=fun K hK=>?_)
 try simp only[List.getElem_toArray,List.getElem_cons_zero,List.getElem_cons_succ]
 go_simp
 (refine(CY HC.out _ _).mono ?_;rw[hX1];rintro e1 w1 ⟨rfl,h1,m1⟩;have HC:=Aa h1;have M:=M.trans m1;clear h1;have fe:=he.move M;have fa:=ha.move M;have fb:=hb.move M;have fc:=hc.move M;have ft:=ht.move M;have ce:=fe.c0;have ca:=fa.c0;have cb:=fb.c0;have cc:=fc.c0;have ct:=ft.c0;have cA:=HC.out.ca;have cN:=HC.out.cn;skip)
 try go_wp2_with fail
 refine AK hK (by exact⟨ce,ca,cb,cA⟩) (h:=fun hHeld=>?_);clear hK K
 refine wpAnyH_done (by kernel_rfl) ?_ _
 go_wp2_with fail
 go_ret
 rw[HR.out.1]
 exact⟨P,Q,A,S,_,rfl,HC.out,⟨e,c,b,a,t,x,rfl,fe,fc,fb,fa,ft,by rw[HR.out.2];exact hx.mv M⟩,M,At.refl A S⟩
theorem OT{B N:Nat}{w:World}{P Q R:Nat→Prop}{A:EA}{Ke:EK}{S:SA}{nx:Value}{X:Cx}(h:CX B w P Q R A Ke S nx X)(hN:Ax N X)(l:Int){e c a t x:Nat}(he:An w P Q R e 39 #[bp A.e])(hc:An w P Q R c 101 #[bp S.c])(ha:An w P Q R a 31 #[.int .u64 (l)])(ht:An w P Q R t 96 #[bp S.t])(hx:bX w P Q R S x (some X.key)):
 Calls Tryz.prog 222 #[bp e,bp c,bp a,bp t,bp x] w (Ak B w P Q R A Ke S nx (Ay X (.over1 l)).1 (Ay X (.over1 l)).2):=by
 have HC0:=Aa h
 have HN:=Aa hN
 have k1:=hN.cl.key.1
 have k2:=hN.cl.key.2
 obtain⟨y,hy⟩:=Aq (X.sh.a.load (9+X.c.op.key))
 obtain⟨y0,y1⟩:0≤y∧y<18446744073709551616:=by rw[←hy];exact AG hN.sh.word _
 obtain⟨X1,hX1⟩:=Aq (X.setA (X.sh.a.tick (9+X.c.op.key)))
 have HR:Hid (Ay X (.over1 l)=(X1,some (.over2 l y))∧X1.key=X.key):=Aa ⟨by simp only[Ay,hX1,hy],by rw[←hX1];rfl⟩
 have ew:IntKind.i64.wrap (9+X.c.op.key)=9+X.c.op.key:=by rw[IntKind.wrap_i64];omega
 clear h hN
 go_enter Tryz.func222,Tryz.ntmps222
 go_upto_region 1 with(fail)
 go_cut [6] (fun s6 wx=>∃b,s6=bp b∧Hid (CX B wx P Q R A Ke S nx X1∧Ag w wx P Q P Q∧An wx P Q R b 31 #[.int .u64 y]))
 case first=>
  have HC:=Aa HC0.out.drew
  have M:=Ag.only0 P Q ((Ac.refl w).drew)
  have fe:=he.move M
  have fc:=hc.move M
  have fa:=ha.move M
  have ft:=ht.move M
  have ce:=fe.c0
  have cc:=fc.c0
  have ca:=fa.c0
  have ct:=ft.c0
  have cA:=HC.out.ca
  have cN:=HC.out.cn
  have cK:=HC.out.ck
  refine wp_region_held_drew (S:=(fun w'=>Ab w' e 0 (bp A.e)∧Ab w' c 0 (bp S.c)∧Ab w' A.e 2 (bp A.a)∧Ab w' S.c 1 (.int .i64 X.c.op.key))) (by kernel_rfl) ?_ (fun hHeld=>?_)
  ·exact⟨ce,cc,cA,cK⟩
  refine Af 0 (h:=Af 1 (h:=Af 2 (h:=Af 3 (h:=Af 4 (h:=Af 5 (h:=Af 6 (h:=Af 7 (h:=Af 8 (h:=Af 9 (h:=?_))))))))))
  refine wpAnyH_ready (rs:=[10,11]) (by kernel_rfl) (by simp) ?_
  refine AllReadyH.cons rfl (fun K hK=>?_) (AllReadyH.cons rfl (fun K hK=>?_) (AllReadyH.nil))
  ·try simp only[List.getElem_toArray,List.getElem_cons_zero,List.getElem_cons_succ]
   go_simp
   (refine(Bw HC.out _).mono ?_;rw[hy,hX1];rintro e1 w1 ⟨rfl,h1,m1⟩;have HC:=Aa h1;have M:=M.trans m1;clear h1;have fe:=he.move M;have fc:=hc.move M;have fa:=ha.move M;have ft:=ht.move M;have ce:=fe.c0;have cc:=fc.c0;have ca:=fa.c0;have ct:=ft.c0;have cA:=HC.out.ca;have cN:=HC.out.cn;first|have cK:=(show _=some (Value.int .i64 X.c.op.key) from HC.out.ck)|have cK:=(show _=some (Value.int .i64 X.c.op.key) from hX1▸HC.out.ck);try(have fb:=fb.move m1;have zfb:=fb.zf;first|have cfb:=fb.c0|(have cfb:=fb.d0;have dfb:=fb.d1)))
   try go_wp2_with fail
   refine AK hK (by exact⟨ce,cc,cA,cK⟩) (h:=fun hHeld=>?_);clear hK K
   refine Ar (i:=11) (h:=fun K hK=>?_)
   try simp only[List.getElem_toArray,List.getElem_cons_zero,List.getElem_cons_succ]
   go_simp
   (have HCp:=HC;have Mp:=M;(first|have fb:=An.new' HC.out w.heap.size rfl 31 #[.int .u64 0]|have fb:=An.new' HC.out _ rfl 31 #[.int .u64 0]);have M:=M.trans (Ag.only0 P Q ((Ac.refl _).alloc (.cells #[.int .u64 0] 31)));have HC:=Aa (HC.out.alloc (.cells #[.int .u64 0] 31));have fe:=he.move M;have fc:=hc.move M;have fa:=ha.move M;have ft:=ht.move M;have ce:=fe.c0;have cc:=fc.c0;have ca:=fa.c0;have ct:=ft.c0;have cA:=HC.out.ca;have cN:=HC.out.cn;first|have cK:=(show _=some (Value.int .i64 X.c.op.key) from HC.out.ck)|have cK:=(show _=some (Value.int .i64 X.c.op.key) from hX1▸HC.out.ck))
   try go_wp2_with fail
   refine AK hK (by exact⟨ce,cc,cA,cK⟩) (h:=fun hHeld=>?_);clear hK K
   refine Ar (i:=12) (h:=fun K hK=>?_)
   try simp only[List.getElem_toArray,List.getElem_cons_zero,List.getElem_cons_succ]
   go_simp
   (have fb:=An.new' HCp.out _ rfl 31 #[.int .u64 y];have M:=Mp.trans (Ag.only0 P Q ((Ac.refl _).alloc (.cells #[.int .u64 y] 31)));have HC:=Aa (HCp.out.alloc (.cells #[.int .u64 y] 31));have fe:=he.move M;have fc:=hc.move M;have fa:=ha.move M;have ft:=ht.move M;have ce:=fe.c0;have cc:=fc.c0;have ca:=fa.c0;have ct:=ft.c0;have cA:=HC.out.ca;have cN:=HC.out.cn;first|have cK:=(show _=some (Value.int .i64 X.c.op.key) from HC.out.ck)|have cK:=(show _=some (Value.int .i64 X.c.op.key) from hX1▸HC.out.ck))
   exact UK
  ·try simp only[List.getElem_toArray,List.getElem_cons_zero,List.getElem_cons_succ]
   go_simp
   (have HCp:=HC;have Mp:=M;(first|have fb:=An.new' HC.out w.heap.size rfl 31 #[.int .u64 0]|have fb:=An.new' HC.out _ rfl 31 #[.int .u64 0]);have M:=M.trans (Ag.only0 P Q ((Ac.refl _).alloc (.cells #[.int .u64 0] 31)));have HC:=Aa (HC.out.alloc (.cells #[.int .u64 0] 31));have fe:=he.move M;have fc:=hc.move M;have fa:=ha.move M;have ft:=ht.move M;have ce:=fe.c0;have cc:=fc.c0;have ca:=fa.c0;have ct:=ft.c0;have cA:=HC.out.ca;have cN:=HC.out.cn;first|have cK:=(show _=some (Value.int .i64 X.c.op.key) from HC.out.ck)|have cK:=(show _=some (Value.int .i64 X.c.op.key) from hX1▸HC.out.ck))
   try go_wp2_with fail
   refine AK hK (by exact⟨ce,cc,cA,cK⟩) (h:=fun hHeld=>?_);clear hK K
   refine Ar (i:=10) (h:=fun K hK=>?_)
   try simp only[List.getElem_toArray,List.getElem_cons_zero,List.getElem_cons_succ]
   go_simp
   (refine(Bw HC.out _).mono ?_;rw[hy,hX1];rintro e1 w1 ⟨rfl,h1,m1⟩;have HC:=Aa h1;have M:=M.trans m1;clear h1;have fe:=he.move M;have fc:=hc.move M;have fa:=ha.move M;have ft:=ht.move M;have ce:=fe.c0;have cc:=fc.c0;have ca:=fa.c0;have ct:=ft.c0;have cA:=HC.out.ca;have cN:=HC.out.cn;first|have cK:=(show _=some (Value.int .i64 X.c.op.key) from HC.out.ck)|have cK:=(show _=some (Value.int .i64 X.c.op.key) from hX1▸HC.out.ck);try(have fb:=fb.move m1;have zfb:=fb.zf;first|have cfb:=fb.c0|(have cfb:=fb.d0;have dfb:=fb.d1)))
   try go_wp2_with fail
   refine AK hK (by exact⟨ce,cc,cA,cK⟩) (h:=fun hHeld=>?_);clear hK K
   refine Ar (i:=12) (h:=fun K hK=>?_)
   try simp only[List.getElem_toArray,List.getElem_cons_zero,List.getElem_cons_succ]
   go_simp
   (have HC:=Aa (HC.out.setNew fb (by decide) 0 (.int .u64 y));have M:=M.setNew (b:=w.heap.size) (Nat.le_refl _) 0 (.int .u64 y);have fb:=fb.setOwn 0 (.int .u64 y);have fb:An _ P Q R _ 31 #[.int .u64 y]:=fb;have fe:=he.move M;have fc:=hc.move M;have fa:=ha.move M;have ft:=ht.move M;have ce:=fe.c0;have cc:=fc.c0;have ca:=fa.c0;have ct:=ft.c0;have cA:=HC.out.ca;have cN:=HC.out.cn;first|have cK:=(show _=some (Value.int .i64 X.c.op.key) from HC.out.ck)|have cK:=(show _=some (Value.int .i64 X.c.op.key) from hX1▸HC.out.ck))
   exact UK
 case rest=>
  obtain⟨b,rfl,H⟩:=hcut
  obtain⟨HC,M,fb⟩:=H.out
  have HC:=Aa HC
  have fe:=he.move M
  have fc:=hc.move M
  have fa:=ha.move M
  have ft:=ht.move M
  have ce:=fe.c0
  have cc:=fc.c0
  have ca:=fa.c0
  have ct:=ft.c0
  have cA:=HC.out.ca
  have cN:=HC.out.cn
  clear H
  go_wp2_with fail
  go_ret
  rw[HR.out.1]
  exact⟨P,Q,A,S,_,rfl,HC.out,⟨e,a,b,c,t,x,rfl,fe,fa,fb,fc,ft,by rw[HR.out.2];exact hx.mv M⟩,M,At.refl A S⟩
end
section
attribute [local go_sem ↓] Go.wp_at_zero Go.wp_at_succ
theorem IO(w:World):(zeroValue 248).run Tryz.prog w= .ok (.pointer none) w:=by kernel_rfl
def H_(S:SA)(cells:Nat→Option Dh)(k:Nat):Value:= .pointer ((cells k).map fun _=>DP (S.x k))
theorem Ia.look{w:World}{b:Nat}{S:SA}{cells:Nat→Option Dh}(h:Ia w b S.x cells)(hc:∀k x,cells k=some x→k<64)(k:Nat)(hk:k≤64):(Instr.lookup 108 (.map (some b)) (.int .i64 k) false).run Tryz.prog w= .ok (H_ S cells k) w:=by
 obtain⟨D,h⟩:=h
 by_cases h64:k<64
 ·obtain⟨v,ps,h1,h2⟩:=h.look (T:=108) JA Tryz.underlying3 Tryz.underlying108 (IO w) (zd:= .nil) (zp:=[]) rfl k h64
  rw[h1]
  have:v=H_ S cells k:=by
   unfold ID at h2
   unfold H_
   cases hx:cells k with
   |none=>
    rw[hx]at h2
    rcases Fu h2 with⟨e,_⟩|⟨b,_,e⟩
    ·exact e
    ·cases e
   |some c=>
    rw[hx]at h2
    rcases Fu h2 with⟨_,e⟩|⟨b,e,e2⟩
    ·cases e
    ·have e2':(Lit.int .i64 (S.x k:Int))= .int .i64 b:=by simpa using e2
     injection e2' with _ e3
     rw[e]
     have:S.x k=b:=by omega
     rw[this];rfl
  rw[this]
 ·have hn:cells k=none:=by
   cases hx:cells k with
   |none=>rfl
   |some x=>exact absurd (hc k x hx) h64
  have hh:Maps.has D (Ee k)=false:=by
   cases hq:Maps.has D (Ee k)with
   |false=>rfl
   |true=>
    obtain⟨j,hj,e⟩:=h.keys _ hq
    have:=JG e
    omega
  have hw:(Lit.int .i64 (k:Int)).wf=true:=WalkArith.wf_i64 (by omega)
  obtain⟨v,ps,h1,h2⟩:=h.own.lookup JA Tryz.underlying108 (IO w) (zd:= .nil) (zp:=[]) rfl (Maps.keyOf_int_mk Tryz.underlying3 hw)
  rw[h1]
  have h3:D8 v=some (.nil,ps):=by
   rw[h2]
   have:=Maps.atKey_of_not_has hh (.nil:MD)
   unfold Ee at this
   rw[this]
  unfold H_
  rw[hn]
  rcases Fu h3 with⟨e,_⟩|⟨b,_,e⟩
  ·rw[e];rfl
  ·cases e
theorem CX.lk{B:Nat}{w:World}{P Q R:Nat→Prop}{A:EA}{Ke:EK}{S:SA}{nx:Value}{X:Cx}(h:CX B w P Q R A Ke S nx X)(k:Nat)(hk:k≤64):(Instr.lookup 108 (.map (some S.m)) (.int .i64 k) false).run Tryz.prog w= .ok (H_ S X.t.cells k) w:=
 h.tx.map.look (fun k x hx=>(h.tx.cel k x hx).1) k hk
theorem CX.tm{B:Nat}{w:World}{P Q R:Nat→Prop}{A:EA}{Ke:EK}{S:SA}{nx:Value}{X:Cx}(h:CX B w P Q R A Ke S nx X):w.cell? ⟨S.t,7,none⟩=some (.map (some S.m)):=h.tx.blk.cell 7
end
section
attribute [local go_sem ↓] Go.wp_at_zero Go.wp_at_succ
theorem RM{B N:Nat}{w:World}{P Q R:Nat→Prop}{A:EA}{Ke:EK}{S:SA}{nx:Value}{X:Cx}(h:CX B w P Q R A Ke S nx X)(hN:Ax N X)(hB9:N≤100000000)(key:Nat)(hk9:key<64)(at_ l:Int)(hl:AM X.sh.slots l){t k e c:Nat}(ht:An w P Q R t 96 #[bp S.t])(hk:An w P Q R k 3 #[.int .i64 ((key:Int))])(he:An w P Q R e 39 #[bp A.e])(hc:An w P Q R c 101 #[bp S.c]):
 Calls Tryz.prog 130 #[.int .u64 l,bp t,bp k,bp e,bp c] w (Ak B w P Q R A Ke S nx (Ca X ⟨key,at_,.get⟩ l).1 (some (Ca X ⟨key,at_,.get⟩ l).2)):=by
 have HC0:=Aa h
 have HN:=Aa hN
 have ct:=ht.c0
 have ck:=hk.c0
 have ce:=he.c0
 have cc:=hc.c0
 have hrl:=hN.tx.rlen
 by_cases h0:l=0
 ·skip
  subst h0
  have CR:=FX h (by omega) key 0 false
  have HR:Hid (Ca X ⟨key,at_,.get⟩ 0=(X.read key 0 false,.ends (.err 11))):=Aa (by simp[Ca])
  clear h hN hl
  go_enter Tryz.func130,Tryz.ntmps130
  go_wp2_with fail
  with_reducible refine CR.mono ?_
  rintro e1 w1 ⟨rfl,Q1,S1,h1,m1,k1,x1,q1,c1⟩
  have HC:=Aa h1
  have M:=m1
  have HK:=Aa k1
  have ft:=ht.move M
  have ct:=ft.c0
  have fk:=hk.move M
  have ck:=fk.c0
  have fe:=he.move M
  have ce:=fe.c0
  have fc:=hc.move M
  have cc:=fc.c0
  clear h1 m1 CR
  have CE:=Cg HC.out 11 0 0 0
  rw[HK.out.c]at CE
  go_wp2_with fail
  with_reducible refine CE.mono ?_
  rintro e9 w9 r9
  obtain⟨v9,rfl⟩:=r9.ret
  have HS:=Aa (r9.comp M HK.out)
  exact Ud
 ·skip
  have CR:=FX h (by omega) key l true
  have b0:(l==0)=false:=by simpa using h0
  have b1:(l != 0)=true:=by simpa using h0
  have HR:Hid (Ca X ⟨key,at_,.get⟩ l=(X.read key l true,.ends ⟨0,(X.val l).2,[],0,0⟩)):=Aa (by simp[Ca,h0])
  have HF:Hid (Ax (N+1) (X.read key l true)):=Aa (hN.read hk9 l true)
  have HL:=Aa hl
  clear h hN hl
  go_enter Tryz.func130,Tryz.ntmps130
  go_wp2_with fail
  with_reducible refine CR.mono ?_
  rintro e1 w1 ⟨rfl,Q1,S1,h1,m1,k1,x1,q1,c1⟩
  have HC:=Aa h1
  have M:=m1
  have HK:=Aa k1
  have ft:=ht.move M
  have ct:=ft.c0
  have fk:=hk.move M
  have ck:=fk.c0
  have fe:=he.move M
  have ce:=fe.c0
  have fc:=hc.move M
  have cc:=fc.c0
  clear h1 m1 CR
  obtain⟨i1,i2⟩:=HF.out.ix HL.out h0
  have v1:=(HC.out.drew).val1 i1
  obtain⟨y,hy⟩:=Aq ((X.val l).2)
  have hy2:((X.read key l true).sh.vals.getD (A5 l).toNat (0,0)).2=y:=hy
  rw[hy2]at v1
  rw[hy]at HR
  have D1:=Fz HC.out.drew HF.out l HL.out h0
  have VV:Hid (∀(wz:World) (Pz Qz:Nat→Prop) (Az:EA) (Sz:SA),CX B wz Pz Qz R Az Ke Sz nx (X.read key l true)→Az.v=A.v→wz.cell? ⟨A.v,(A5 l).toNat*2+1,none⟩=some (.int .i64 y)):=Aa (fun wz Pz Qz Az Sz hz ez=>by have q:=hz.val1 i1;rw[hy2,ez]at q;exact q)
  clear hy hy2 i2
  generalize(A5 l).toNat=iv at *
  have CE:=Cg HC.out.drew 0 y 0 0
  rw[HK.out.c]at CE
  go_wp2_with fail
  refine wp_region_held_drew (S:=(fun w'=>Ab w' e 0 (bp A.e)∧Ab w' c 0 (bp S.c)∧Ab w' A.v (iv*2+1) (.int .i64 y))) (by kernel_rfl) ?_ (fun hHeld=>?_)
  ·exact⟨ce,cc,v1⟩
  refine Af 0 (h:=Af 1 (h:=Af 2 (h:=Af 3 (h:=Ar (i:=4) (h:=fun K hK=>?_)))))
  go_simp
  ((with_reducible refine D1.mono ?_);rintro e1 w2 ⟨rfl,rfl⟩)
  try go_wp2_with fail
  refine AK hK (by exact⟨ce,cc,v1⟩) (h:=fun hHeld=>?_);clear hK K
  refine Af 5 (h:=Af 6 (h:=Af 7 (h:=Af 8 (h:=Ar (i:=9) (h:=fun K hK=>?_)))))
  go_simp
  ((with_reducible refine CE.mono ?_);rintro e9 w9 r9;have HS:=Aa (r9.comp (M.trans (Ag.only0 P Q1 ((Ac.refl _).drew))) HK.out);obtain⟨P9,Q9,A9,S9,v9,rfl,h9,n9,m9,k9⟩:=r9;have ce:=(fe.move ((Ag.only0 P Q1 ((Ac.refl w1).drew)).trans m9)).c0;have cc:=(fc.move ((Ag.only0 P Q1 ((Ac.refl w1).drew)).trans m9)).c0;have v1:=Ae w9 A.v (iv*2+1) (.int .i64 y) (VV.out w9 _ _ _ _ h9 (k9.v.trans HK.out.v));clear h9 n9 m9 k9)
  try go_wp2_with fail
  refine AK hK (by exact⟨ce,cc,v1⟩) (h:=fun hHeld=>?_);clear hK K
  refine Af 10 (h:=?_)
  exact Ux
theorem Mh{B N:Nat}{w:World}{P Q R:Nat→Prop}{A:EA}{Ke:EK}{S:SA}{nx:Value}{X:Cx}(h:CX B w P Q R A Ke S nx X)(hN:Ax N X)(hB9:N≤100000000)(key:Nat)(hk9:key<64)(at_ l:Int){c t k e:Nat}(hc:An w P Q R c 101 #[bp S.c])(ht:An w P Q R t 96 #[bp S.t])(hk:An w P Q R k 3 #[.int .i64 ((key:Int))])(he:An w P Q R e 39 #[bp A.e]):
 Calls Tryz.prog 145 #[.int .u64 l,bp c,bp t,bp k,bp e] w (Ak B w P Q R A Ke S nx (Ca X ⟨key,at_,.change⟩ l).1 (some (Ca X ⟨key,at_,.change⟩ l).2)):=by
 have HC0:=Aa h
 have HN:=Aa hN
 have cc:=hc.c0
 have ct:=ht.c0
 have ck:=hk.c0
 have ce:=he.c0
 have hrl:=hN.tx.rlen
 have cK:=Ae w S.c 0 (.int .i64 X.c.op.kind) (h.cl.blk.cell 0)
 have HKD:Hid (Ca X ⟨key,at_,.change⟩ l=(if l≠0∧X.c.op.kind=2 then(X.read key l false,.ends (.err 12))else if l=0∧X.c.op.kind≠2 then(X.read key l false,.ends (.err 11))else if l=0 then(X,.fresh 0)else(X,.own l))):=Aa rfl
 generalize X.c.op.kind=kd at *
 by_cases h0:l=0
 ·by_cases h2:kd=2
  ·skip
   subst h0
   subst h2
   have CE:=Kj h 0
   clear h hN
   go_enter Tryz.func145,Tryz.ntmps145
   go_wp2_with fail
   with_reducible refine CE.mono ?_
   rintro e9 w9 r9
   obtain⟨v9,rfl⟩:=r9.ret
   have HS:=Aa r9
   clear r9 CE
   go_wp2_with fail
   go_ret
   rw[HKD.out]
   simp only[ne_eq,not_true_eq_false,false_and,if_false,true_and,if_true]
   exact HS.out
  ·skip
   subst h0
   have k0:(kd==2)=false:=by simpa using h2
   have k1_:(kd != 2)=true:=by simpa using h2
   have CR:=FX h (by omega) key 0 false
   clear h hN
   go_enter Tryz.func145,Tryz.ntmps145
   go_wp2_with fail
   with_reducible refine CR.mono ?_
   rintro e1 w1 ⟨rfl,Q1,S1,h1,m1,k1,x1,q1,c1⟩
   have HC:=Aa h1
   have M:=m1
   have HK:=Aa k1
   have fc:=hc.move M
   have cc:=fc.c0
   have ft:=ht.move M
   have ct:=ft.c0
   have fk:=hk.move M
   have ck:=fk.c0
   have fe:=he.move M
   have ce:=fe.c0
   clear h1 m1 CR
   have CE:=Cg HC.out 11 0 0 0
   rw[HK.out.c]at CE
   go_wp2_with fail
   with_reducible refine CE.mono ?_
   rintro e9 w9 r9
   obtain⟨v9,rfl⟩:=r9.ret
   have HS:=Aa (r9.comp M HK.out)
   clear r9 CE
   go_wp2_with fail
   go_ret
   rw[HKD.out]
   simp only[ne_eq,not_true_eq_false,false_and,if_false,true_and,h2,not_false_eq_true,and_true,if_true]
   exact HS.out
 ·by_cases h2:kd=2
  ·skip
   have b0:(l==0)=false:=by simpa using h0
   have b1:(l != 0)=true:=by simpa using h0
   subst h2
   have CR:=FX h (by omega) key l false
   clear h hN
   go_enter Tryz.func145,Tryz.ntmps145
   go_wp2_with fail
   with_reducible refine CR.mono ?_
   rintro e1 w1 ⟨rfl,Q1,S1,h1,m1,k1,x1,q1,c1⟩
   have HC:=Aa h1
   have M:=m1
   have HK:=Aa k1
   have fc:=hc.move M
   have cc:=fc.c0
   have ft:=ht.move M
   have ct:=ft.c0
   have fk:=hk.move M
   have ck:=fk.c0
   have fe:=he.move M
   have ce:=fe.c0
   clear h1 m1 CR
   have CE:=Cg HC.out 12 0 0 0
   rw[HK.out.c]at CE
   go_wp2_with fail
   with_reducible refine CE.mono ?_
   rintro e9 w9 r9
   obtain⟨v9,rfl⟩:=r9.ret
   have HS:=Aa (r9.comp M HK.out)
   clear r9 CE
   go_wp2_with fail
   go_ret
   rw[HKD.out]
   simp only[ne_eq,h0,not_false_eq_true,and_true,if_true,true_and]
   exact HS.out
  ·skip
   have b0:(l==0)=false:=by simpa using h0
   have b1:(l != 0)=true:=by simpa using h0
   have k0:(kd==2)=false:=by simpa using h2
   have k1_:(kd != 2)=true:=by simpa using h2
   have CE:=Pn h l
   clear h hN
   go_enter Tryz.func145,Tryz.ntmps145
   go_wp2_with fail
   with_reducible refine CE.mono ?_
   rintro e9 w9 r9
   obtain⟨v9,rfl⟩:=r9.ret
   have HS:=Aa r9
   clear r9 CE
   go_wp2_with fail
   go_ret
   rw[HKD.out]
   simp only[ne_eq,h0,not_false_eq_true,h2,and_false,false_and,if_false]
   exact HS.out
end
section
attribute [local go_sem ↓] Go.wp_at_zero Go.wp_at_succ
theorem CX.tb{B:Nat}{w:World}{P Q R:Nat→Prop}{A:EA}{Ke:EK}{S:SA}{nx:Value}{X:Cx}(h:CX B w P Q R A Ke S nx X):w.cell? ⟨S.t,9,none⟩=some (.slice S.ba X.t.bonds.length S.bc):=h.tx.blk.cell 9
theorem LG{B N:Nat}{w:World}{P Q R:Nat→Prop}{A:EA}{Ke:EK}{S:SA}{nx:Value}{X:Cx}(h:CX B w P Q R A Ke S nx X)(hN:Ax N X)(hB9:N≤100000000)(i:Nat)(hi:i≤X.t.bonds.length):
 Calls Tryz.prog 163 #[bp A.e,bp S.t,bp S.c,i] w (Ak B w P Q R A Ke S nx X (some (Ga X.t i))):=by
 have hbl:=hN.tx.blen
 have HR:=Aa (show Ga X.t i=(if i=X.t.bonds.length then .commit else .wait i) from rfl)
 have ge:=An.new' (h) (w.heap.size) (by simp) 39 #[bp A.e]
 have C0:=(h).alloc (.cells #[bp A.e] 39)
 have gt:=An.new' (C0) (w.heap.size+1) (by simp) 96 #[bp S.t]
 have C1:=(C0).alloc (.cells #[bp S.t] 96)
 have gc:=An.new' (C1) (w.heap.size+1+1) (by simp) 101 #[bp S.c]
 have C2:=(C1).alloc (.cells #[bp S.c] 101)
 have gk:=An.new' (C2) (w.heap.size+1+1+1) (by simp) 3 #[.int .i64 ((i:Int))]
 have C3:=(C2).alloc (.cells #[.int .i64 ((i:Int))] 3)
 have ge:=ge.alloc (.cells #[bp S.t] 96)
 have ge:=ge.alloc (.cells #[bp S.c] 101)
 have ge:=ge.alloc (.cells #[.int .i64 ((i:Int))] 3)
 have gt:=gt.alloc (.cells #[bp S.c] 101)
 have gt:=gt.alloc (.cells #[.int .i64 ((i:Int))] 3)
 have gc:=gc.alloc (.cells #[.int .i64 ((i:Int))] 3)
 have MW:Ag w ((((w.alloc (.cells #[bp A.e] 39)).alloc (.cells #[bp S.t] 96)).alloc (.cells #[bp S.c] 101)).alloc (.cells #[.int .i64 ((i:Int))] 3)) P Q P Q:=Ag.only0 P Q (((((Ac.refl w).alloc _).alloc _).alloc _).alloc _)
 obtain⟨W,hW⟩:=Ad ((((w.alloc (.cells #[bp A.e] 39)).alloc (.cells #[bp S.t] 96)).alloc (.cells #[bp S.c] 101)).alloc (.cells #[.int .i64 ((i:Int))] 3))
 rw[←hW]at MW C3 ge gt gc gk
 have HCW:=Aa C3
 clear C0 C1 C2 C3
 obtain⟨be,hbe⟩:=Ad w.heap.size
 obtain⟨bt,hbt⟩:=Ad (w.heap.size+1)
 obtain⟨bc,hbc⟩:=Ad (w.heap.size+1+1)
 obtain⟨bk,hbk⟩:=Ad (w.heap.size+1+1+1)
 rw[←hbe]at ge
 rw[←hbt]at gt
 rw[←hbc]at gc
 rw[←hbk]at gk
 have HBe:=Aa hbe
 have HBt:=Aa hbt
 have HBc:=Aa hbc
 have HBk:=Aa hbk
 clear hbe hbt hbc hbk
 have tb:=HCW.out.drew.tb
 have ce:=Ae W.drew be 0 (bp A.e) ge.c0
 have ce_:=Ae W be 0 (bp A.e) ge.c0
 have ct:=Ae W.drew bt 0 (bp S.t) gt.c0
 have ct_:=Ae W bt 0 (bp S.t) gt.c0
 have cc:=Ae W.drew bc 0 (bp S.c) gc.c0
 have cc_:=Ae W bc 0 (bp S.c) gc.c0
 have ck:=Ae W.drew bk 0 (.int .i64 ((i:Int))) gk.c0
 have ck_:=Ae W bk 0 (.int .i64 ((i:Int))) gk.c0
 clear h hN
 by_cases hx:i=X.t.bonds.length
 ·skip
  have hd:((i:Int)==(X.t.bonds.length:Int))=true:=by simp;omega
  have HX:=Aa hx
  clear hx
  go_enter Tryz.func163,Tryz.ntmps163
  go_upto_region 1 with(fail)
  rw[←hW,←HBk.out,←HBc.out,←HBt.out,←HBe.out]
  clear hW
  refine wp_region_held_drew (S:=(fun w'=>Ab w' bt 0 (bp S.t)∧Ab w' bk 0 (.int .i64 (i:Int))∧Ab w' S.t 9 (.slice S.ba X.t.bonds.length S.bc))) (by kernel_rfl) ?_ (fun hHeld=>?_)
  ·exact⟨ct,ck,tb⟩
  refine Af 0 (h:=Af 1 (h:=Af 2 (h:=Af 3 (h:=Af 4 (h:=Af 5 (h:=Af 6 (h:=?_)))))))
  refine wpAnyH_done (by kernel_rfl) ?_ _
  have CE:=Me HCW.out.drew
  go_wp2_with fail
  with_reducible refine CE.mono ?_
  rintro e9 w9 r9
  obtain⟨v9,rfl⟩:=r9.ret
  have HS:=Aa (r9.comp (MW.trans (Ag.only0 P Q ((Ac.refl W).drew))) (At.refl A S))
  clear r9 CE
  go_wp2_with fail
  go_ret
  rw[HR.out,if_pos HX.out]
  exact HS.out
 ·skip
  have hd:((i:Int)==(X.t.bonds.length:Int))=false:=by simp;omega
  have HX:=Aa hx
  clear hx
  go_enter Tryz.func163,Tryz.ntmps163
  go_upto_region 1 with(fail)
  rw[←hW,←HBk.out,←HBc.out,←HBt.out,←HBe.out]
  clear hW
  refine wp_region_held_drew (S:=(fun w'=>Ab w' bt 0 (bp S.t)∧Ab w' bk 0 (.int .i64 (i:Int))∧Ab w' S.t 9 (.slice S.ba X.t.bonds.length S.bc))) (by kernel_rfl) ?_ (fun hHeld=>?_)
  ·exact⟨ct,ck,tb⟩
  refine Af 0 (h:=Af 1 (h:=Af 2 (h:=Af 3 (h:=Af 4 (h:=Af 5 (h:=Af 6 (h:=?_)))))))
  refine wpAnyH_done (by kernel_rfl) ?_ _
  have gF:=An.new' HCW.out W.heap.size rfl 125 #[.func (.func 187) #[] #[bp be,bp bt,bp bk,bp bc,bp W.heap.size]]
  have o9:Ac W ((W.alloc (.cells #[.func (.func 187) #[] #[bp be,bp bt,bp bk,bp bc,bp W.heap.size]] 125)).drew):=((Ac.refl W).alloc _).drew
  have m9:=Ag.only0 P Q o9
  have HS:Hid (Ak B w P Q R A Ke S nx X (some (.wait i)) (.returned (.func (.func 187) #[] #[bp be,bp bt,bp bk,bp bc,bp W.heap.size])) ((W.alloc (.cells #[.func (.func 187) #[] #[bp be,bp bt,bp bk,bp bc,bp W.heap.size]] 125)).drew)):=Aa ⟨P,Q,A,S,_,rfl,HCW.out.only0 o9,⟨be,bt,bk,bc,W.heap.size,rfl,ge.move m9,gt.move m9,gk.move m9,gc.move m9,gF⟩,MW.trans m9,At.refl A S⟩
  clear gF o9 m9
  go_wp2_with fail
  go_ret
  rw[HR.out,if_neg HX.out]
  exact HS.out
section
variable {B:Nat} {w:World} {P Q R:Nat→Prop} {A:EA} {Ke:EK} {S:SA} {nx:Value} {X:Cx}
theorem CX.cfield(h:CX B w P Q R A Ke S nx X){c':Cw}{i:Nat}{u:Value}(hc:(BW S X.c nx).setIfInBounds i u=BW S c' nx)(e1:c'.r.pairs=X.c.r.pairs):
 CX B (w.setCell ⟨S.c,i,none⟩ u) P Q R A Ke S nx (X.setC c')∧Ag w (w.setCell ⟨S.c,i,none⟩ u) P Q P Q:=by
 have o:Ah (fun b=>b=S.c) w (w.setCell ⟨S.c,i,none⟩ u):=Ah.setCell (S:=fun b=>b=S.c) (Ah.refl _ w) (fun _=>rfl) _
 have ot:Aw [127] w _:=Aw.of o h.cl.blk
 have B2:=h.cl.blk.set i u
 generalize w.setCell ⟨S.c,i,none⟩ u=w2 at *
 have m:Ag w w2 P Q P Q:=h.small o (fun b hb=> .inr (by rw[hb];exact h.cl.qc))
 refine⟨h.call (qa:=S.qa) (qc:=S.qc) m ot (fun t ht=>by simp at ht;exact .inl ht) (by rw[←hc];exact B2) (by rw[e1];exact AO h.cl.prs ot (by decide)) (by rw[e1];exact h.cl.qp) (fun _ h=>h) h.ap (h.uQ.mono o.size) h.aQ,m⟩
theorem CX.bond0(h:CX B w P Q R A Ke S nx X){i:Nat}(hi:i<X.t.bonds.length):∃g,S.ba=some ⟨g,0,none⟩:=by
 rcases h.tx.bonds.2 with⟨e,h0⟩|⟨g,cap,cur,hv,_⟩
 ·omega
 ·injection hv with e1 e2 e3;exact⟨g,e1⟩
theorem CX.bondc(h:CX B w P Q R A Ke S nx X){g i:Nat}(hg:S.ba=some ⟨g,0,none⟩)(hi:i<X.t.bonds.length):w.cell? ⟨g,i,none⟩=some (.int .i64 (X.t.bonds.getD i 0)):=by
 have hb:=h.tx.bonds
 rw[hg]at hb
 rw[hb.cellAt i (by omega)]
 simp[GM,hi]
theorem PI{l:List Int}{i:Nat}(hi:i<l.length):l.getD i 0∈l:=by
 exact Tm
end
theorem QM{B N:Nat}{w:World}{P Q R:Nat→Prop}{A:EA}{Ke:EK}{S:SA}{nx:Value}{X:Cx}(h:CX B w P Q R A Ke S nx X)(hN:Ax N X)(hB9:N≤100000000)(i:Nat)(hi:i<X.t.bonds.length){e t k c g:Nat}(he:An w P Q R e 39 #[bp A.e])(ht:An w P Q R t 96 #[bp S.t])(hk:An w P Q R k 3 #[.int .i64 ((i:Int))])(hc:An w P Q R c 101 #[bp S.c])(hg:An w P Q R g 125 #[.func (.func 187) #[] #[bp e,bp t,bp k,bp c,bp g]]):
 Calls Tryz.prog 187 #[bp e,bp t,bp k,bp c,bp g] w (Ak B w P Q R A Ke S nx (Ay X (.wait i)).1 (Ay X (.wait i)).2):=by
 have HC0:=Aa h
 have HN:=Aa hN
 obtain⟨rg,hrg⟩:=h.bond0 hi
 obtain⟨id,hid⟩:=Aq (X.t.bonds.getD i 0)
 have hbd:=hN.tx.bond _ (PI hi)
 rw[hid]at hbd
 obtain⟨i0,i1⟩:=hbd
 have hbl:=hN.tx.blen
 obtain⟨y,hy⟩:=Aq (X.sh.a.load (X.place id))
 obtain⟨y0,y1⟩:0≤y∧y<18446744073709551616:=by rw[←hy];exact AG hN.sh.word _
 obtain⟨X1,hX1⟩:=Aq (X.setA (X.sh.a.tick (X.place id)))
 have s1:0≤X.sh.slots:=by have:=hN.sh.n1;omega
 have s2:=hN.sh.n2
 have hpl:∀id:Int,73+X.sh.slots*3+id=X.place id:=fun _=>rfl
 have HF:=Aa (hN.tick (X.place id))
 have HR:Hid (Ay X (.wait i)=(if y%8=3 then(X1,some (Ga X.t (i+1)))else if y%8=4 then(X1,some (.abort 14 4))else(X1.setC {X.c with waits:=true},some (.wait i)))):=Aa (by simp only[Ay,hid,hy,hX1])
 have hci:=hid
 have HX1t:Hid (X1.t=X.t∧X1.c=X.c):=Aa (by rw[←hX1];exact⟨rfl,rfl⟩)
 rw[hX1]at HF
 have hib:(i:Int)<(X.t.bonds.length:Int):=by omega
 have HI:=Aa hi
 have HRG:=Aa hrg
 have ht9:∀(wz:World) (Xz:Cx),CX B wz P Q R A Ke S nx Xz→Xz.t=X.t→Ab wz S.t 9 (.slice (some ⟨rg,0,none⟩) X.t.bonds.length S.bc)∧Ab wz rg i (.int .i64 id):=fun wz Xz hz ez=>⟨by have q:=hz.tb;rw[ez,hrg]at q;exact q,by have q:=hz.bondc hrg (by rw[ez];exact hi);rw[ez,hid]at q;exact q⟩
 have HT9:=Aa ht9
 clear h hN hi hrg ht9 hid hci
 go_enter Tryz.func187,Tryz.ntmps187
 go_upto_region 1 with(fail)
 have HC:=Aa HC0.out.drew
 have M:=Ag.only0 P Q ((Ac.refl w).drew)
 have fe:=he.move M
 have ft:=ht.move M
 have fk:=hk.move M
 have fc:=hc.move M
 have fg:=hg.move M
 have ce:=fe.c0
 have ct:=ft.c0
 have ck:=fk.c0
 have cc:=fc.c0
 have cg:=fg.c0
 have cA:=HC.out.ca
 have cN:=HC.out.cn
 have q9:=HT9.out _ _ HC.out (by first|rfl|exact HX1t.out.1)
 have q91:=q9.1
 have q92:=q9.2
 clear q9
 refine wp_region_held_drew (S:=(fun w'=>Ab w' e 0 (bp A.e)∧Ab w' t 0 (bp S.t)∧Ab w' k 0 (.int .i64 ((i:Int)))∧Ab w' A.e 2 (bp A.a)∧Ab w' S.t 9 (.slice (some ⟨rg,0,none⟩) X.t.bonds.length S.bc)∧Ab w' rg i (.int .i64 id))) (by kernel_rfl) ?_ (fun hHeld=>?_)
 ·exact⟨ce,ct,ck,cA,q91,q92⟩
 refine Af 0 (h:=Af 1 (h:=Af 2 (h:=Af 3 (h:=Af 4 (h:=Af 5 (h:=Af 6 (h:=Af 7 (h:=Af 8 (h:=Af 9 (h:=Af 10 (h:=Af 11 (h:=Ar (i:=12) (h:=fun K hK=>?_)))))))))))))
 go_simp
 (refine(BS A.e X.sh.slots id _ cN s1 s2 i0 i1).mono ?_;rintro e1 w1 ⟨rfl,rfl⟩)
 try go_wp2_with fail
 refine AK hK (by exact⟨ce,ct,ck,cA,q91,q92⟩) (h:=fun hHeld=>?_);clear hK K
 refine Ar (i:=13) (h:=fun K hK=>?_)
 try simp only[List.getElem_toArray,List.getElem_cons_zero,List.getElem_cons_succ]
 go_simp
 (refine(Bw HC.out _).mono ?_;rw[hy,hX1];rintro e1 w1 ⟨rfl,h1,m1⟩;have HC:=Aa h1;have M:=M.trans m1;clear h1;have fe:=he.move M;have ft:=ht.move M;have fk:=hk.move M;have fc:=hc.move M;have fg:=hg.move M;have ce:=fe.c0;have ct:=ft.c0;have ck:=fk.c0;have cc:=fc.c0;have cg:=fg.c0;have cA:=HC.out.ca;have cN:=HC.out.cn;have q9:=HT9.out _ _ HC.out (by first|rfl|exact HX1t.out.1);have q91:=q9.1;have q92:=q9.2;clear q9;skip)
 try go_wp2_with fail
 refine AK hK (by exact⟨ce,ct,ck,cA,q91,q92⟩) (h:=fun hHeld=>?_);clear hK K
 refine Ar (i:=14) (h:=fun K hK=>?_)
 try simp only[List.getElem_toArray,List.getElem_cons_zero,List.getElem_cons_succ]
 go_simp
 (refine(Dn y _ y0 y1).mono ?_;rintro e1 w1 ⟨rfl,rfl⟩)
 try go_wp2_with fail
 refine AK hK (by exact⟨ce,ct,ck,cA,q91,q92⟩) (h:=fun hHeld=>?_);clear hK K
 refine Af 15 (h:=Af 16 (h:=Af 17 (h:=Af 18 (h:=Af 19 (h:=?_)))))
 refine wpAnyH_done (by kernel_rfl) ?_ _
 skip
 by_cases hz:y%8=3
 ·have CE:=LG HC.out HF.out hB9 (i+1) (by rw[HX1t.out.1];have:=HI.out;omega)
  rw[HX1t.out.1]at CE
  have ei:IntKind.i64.wrap ((i:Int)+1)=((i+1:Nat):Int):=by rw[IntKind.wrap_i64];omega
  go_wp2_with fail
  refine(CE).mono ?_
  rintro e9 w9 r9
  obtain⟨v9,rfl⟩:=r9.ret
  have HS:=Aa (r9.comp M (At.refl A S))
  clear r9
  go_wp2_with fail
  go_ret
  rw[HR.out,if_pos hz]
  exact HS.out
 ·have b3:(y%8==3)=false:=by simpa using hz
  by_cases hz4:y%8=4
  ·skip
   go_wp2_with fail
   refine(Dr HC.out 14 4).mono ?_
   rintro e9 w9 r9
   obtain⟨v9,rfl⟩:=r9.ret
   have HS:=Aa (r9.comp M (At.refl A S))
   clear r9
   go_wp2_with fail
   go_ret
   rw[HR.out,if_neg hz,if_pos hz4]
   exact HS.out
  ·have b4:(y%8==4)=false:=by simpa using hz4
   have cw:_=some (Value.bool X.c.waits):=(show _=some (Value.bool X1.c.waits) from HC.out.cl.blk.cell 10).trans (by rw[HX1t.out.2])
   have zw:=HC.out.cl.blk.free 10
   have hcf:=HC.out.cfield (c':={X.c with waits:=true}) (i:=10) (u:= .bool true) (by rw[HX1t.out.2];rfl) (by rw[HX1t.out.2])
   have HC2:=Aa hcf.1
   have M2:=M.trans hcf.2
   have Fe:=he.move M2
   have Ft:=ht.move M2
   have Fk:=hk.move M2
   have Fc:=hc.move M2
   have Fg:=hg.move M2
   have cG:=Fg.c0
   have HS:Hid (Ak B w P Q R A Ke S nx (X1.setC {X.c with waits:=true}) (some (.wait i)) (.returned (.func (.func 187) #[] #[bp e,bp t,bp k,bp c,bp g])) _):=Aa ⟨P,Q,A,S,_,rfl,HC2.out,⟨e,t,k,c,g,rfl,Fe,Ft,Fk,Fc,Fg⟩,M2,At.refl A S⟩
   clear hcf HC2 M2 Fe Ft Fk Fc Fg
   go_wp2_with fail
   go_ret
   rw[HR.out,if_neg hz,if_neg hz4]
   exact HS.out
end
section
attribute [local go_sem ↓] Go.wp_at_zero Go.wp_at_succ
theorem NH{B:Nat}{w:World}{P Q R:Nat→Prop}{A:EA}{Ke:EK}{S:SA}{nx:Value}{X:Cx}(h:CX B w P Q R A Ke S nx X)(k:Nat)(hk:k<64)(l:Int)(g:Bool):
 Calls Tryz.prog 162 #[bp S.t,.agg #[k,.int .u64 l,.bool g]] w fun e w'=>e= .returned (.bool (FQ.needs ⟨k,l,g⟩ X.t))∧Ac w w':=by
 obtain⟨W,hW⟩:=Ad (w.alloc (.cells #[k,.int .u64 l,.bool g] 273))
 obtain⟨n0,hn0⟩:=Ad w.heap.size
 have oW:Ac w W:=by rw[hW];exact(Ac.refl w).alloc _
 have hC:=h.only0 oW
 have BX:Am W n0 273 #[k,.int .u64 l,.bool g]:=by rw[hW,hn0];exact Am.new _ _ _
 have b0:=Ae W.drew n0 0 (.int .i64 k) (BX.cell 0)
 have b2:=Ae W.drew n0 2 (.bool g) (BX.cell 2)
 have t7:=hC.drew.tm
 have t1:=Ae W.drew S.t 1 (.int .i64 X.t.level) (hC.tx.blk.cell 1)
 have LK:=hC.drew.lk k (by omega)
 have HN:=Aa (show FQ.needs ⟨k,l,g⟩ X.t=((X.t.cells k).isNone&&(decide (X.t.level=3)||(decide (X.t.level=2)&&g))) from rfl)
 have HO:=Aa oW.drew
 have H0:=Aa hn0
 unfold H_ at LK
 generalize X.t.level=lv at *
 generalize X.t.cells k=ck at *
 clear h hC BX oW hn0
 cases ck with
 |some x=>
  simp only[Option.map_some]at LK
  exact TY
 |none=>
  simp only[Option.map_none]at LK
  by_cases h3:lv=3
  ·subst h3
   go_enter Tryz.func162,Tryz.ntmps162
   go_upto_region 1 with(fail)
   rw[←hW,←H0.out]
   clear hW
   refine wp_region_held_drew (S:=(fun w'=>Ab w' n0 0 (.int .i64 k)∧Ab w' n0 2 (.bool g)∧Ab w' S.t 7 (.map (some S.m))∧Ab w' S.t 1 (.int .i64 3))) (by kernel_rfl) ?_ (fun hHeld=>?_)
   ·exact⟨b0,b2,t7,t1⟩
   exact TA
  ·have n3:(lv==3)=false:=by simpa using h3
   by_cases h2:lv=2
   ·subst h2
    go_enter Tryz.func162,Tryz.ntmps162
    go_upto_region 1 with(fail)
    rw[←hW,←H0.out]
    clear hW
    refine wp_region_held_drew (S:=(fun w'=>Ab w' n0 0 (.int .i64 k)∧Ab w' n0 2 (.bool g)∧Ab w' S.t 7 (.map (some S.m))∧Ab w' S.t 1 (.int .i64 2))) (by kernel_rfl) ?_ (fun hHeld=>?_)
    ·exact⟨b0,b2,t7,t1⟩
    exact TA
   ·have n2:(lv==2)=false:=by simpa using h2
    exact TY
theorem K_(t:Dq):Cc t t.reads.length=Ga t 0:=by unfold Cc;rw[Nat.sub_self];rfl
theorem KE{t:Dq}{i:Nat}(hi:i<t.reads.length)(h:(t.reads.getD i default).needs t=true):Cc t i= .start ⟨(t.reads.getD i default).key,t.fin,.judge i (t.reads.getD i default).link⟩:=by
 unfold Cc
 rw[show t.reads.length-i=(t.reads.length-(i+1))+1 by omega]
 unfold F7
 rw[if_pos h]
theorem JL{t:Dq}{i:Nat}(hi:i<t.reads.length)(h:(t.reads.getD i default).needs t=false):Cc t i=Cc t (i+1):=by
 unfold Cc
 rw[show t.reads.length-i=(t.reads.length-(i+1))+1 by omega]
 show(if _ then _ else _)=_
 rw[if_neg (by rw[h];decide)]
section
variable {B:Nat} {w:World} {P Q R:Nat→Prop} {A:EA} {Ke:EK} {S:SA} {nx:Value} {X:Cx}
theorem CX.tr(h:CX B w P Q R A Ke S nx X):w.cell? ⟨S.t,8,none⟩=some (.slice S.ra X.t.reads.length S.rc):=h.tx.blk.cell 8
theorem CX.tf(h:CX B w P Q R A Ke S nx X):w.cell? ⟨S.t,4,none⟩=some (.int .u64 X.t.fin):=h.tx.blk.cell 4
theorem CX.read0(h:CX B w P Q R A Ke S nx X){i:Nat}(hi:i<X.t.reads.length):∃g,S.ra=some ⟨g,0,none⟩:=by
 rcases h.tx.reads.2 with⟨e,h0⟩|⟨g,cap,cur,hv,_⟩
 ·omega
 ·injection hv with e1 e2 e3;exact⟨g,e1⟩
theorem CX.readc(h:CX B w P Q R A Ke S nx X){g i:Nat}(hg:S.ra=some ⟨g,0,none⟩)(hi:i<X.t.reads.length):
 Ab w g (i*3) (.int .i64 (X.t.reads.getD i default).key)∧Ab w g (i*3+1) (.int .u64 (X.t.reads.getD i default).link)∧Ab w g (i*3+2) (.bool (X.t.reads.getD i default).got):=by
 have hb:=h.tx.reads
 rw[hg]at hb
 have hl:∀i:Nat,([Value.int .i64 (X.t.reads.getD i default).key,.int .u64 (X.t.reads.getD i default).link,.bool (X.t.reads.getD i default).got]).length=3:=fun i=>rfl
 refine⟨?_,?_,?_⟩
 ·rw[hb.cellAt (i*3) (by omega)];exact Bu hl _ i 0 hi (by decide)
 ·rw[hb.cellAt (i*3+1) (by omega)];exact Bu hl _ i 1 hi (by decide)
 ·rw[hb.cellAt (i*3+2) (by omega)];exact Bu hl _ i 2 hi (by decide)
theorem Dc.far{w':World}{T:Nat→Prop}{t:Dq}(h:Dc B w Q S t)(o:Ah T w w')(ap:AR Q T):Dc B w' Q S t:=
 ⟨o.blk h.blk (ap _ h.qt),h.map.only o (ap _ h.qm),fun k x hk=>⟨(h.cel k x hk).1,o.blk (h.cel k x hk).2.1 (ap _ (h.cel k x hk).2.2),(h.cel k x hk).2.2⟩,h.xinj,AD h.keys o (fun b hb=>ap b (h.qk b hb)),AD h.reads o (fun b hb=>ap b (h.qr b hb)),AD h.bonds o (fun b hb=>ap b (h.qb b hb)),h.kb,h.qt,h.qm,h.qk,h.qr,h.qb⟩
theorem Gm.far{w':World}{T:Nat→Prop}{c:Cw}(h:Gm B w Q S c nx)(o:Ah T w w')(ap:AR Q T):Gm B w' Q S c nx:=
 ⟨o.blk h.blk (ap _ h.qc),AD h.prs o (fun b hb=>ap b (h.qp b hb)),h.qc,h.qp⟩
theorem CX.setFix(h:CX B w P Q R A Ke S nx X){b:Nat}{t:TypeId}{cs:Array Value}(hf:An w P Q R b t cs)(ht:t≠77)(o:Nat)(v:Value):CX B (w.setCell ⟨b,o,none⟩ v) P Q R A Ke S nx X:=by
 have oo:Ah (fun c=>c=b) w (w.setCell ⟨b,o,none⟩ v):=Ah.setCell (S:=fun c=>c=b) (Ah.refl _ w) (fun _=>rfl) v
 have ot:=Aw.of oo hf.1
 generalize w.setCell ⟨b,o,none⟩ v=w2 at *
 exact⟨h.sh.far oo (fun c hc e=>hf.2.1 (e▸hc)),h.tx.far oo (fun c hc e=>hf.2.2.1 (e▸hc)),h.cl.far oo (fun c hc e=>hf.2.2.1 (e▸hc)),h.ap,h.uP.mono oo.size,h.uQ.mono oo.size,h.aP,h.aQ,h.uR.mono oo.size,fun i hi=>(h.prs i hi).ty ot (by simp;exact fun e=>ht e.symm)⟩
theorem An.other{b b':Nat}{t t':TypeId}{cs cs':Array Value}(h:An w P Q R b t cs)(h':An w P Q R b' t' cs')(hne:t≠t')(o:Nat)(v:Value):An (w.setCell ⟨b',o,none⟩ v) P Q R b t cs:=
 ⟨h.1.other ⟨b',o,none⟩ v (h.1.ne h'.1 hne),h.2⟩
theorem L_{l:List FQ}{i:Nat}(hi:i<l.length):l.getD i default∈l:=by
 exact Tm
end
theorem Ai{w w':World}(o:Ac w w'){p:Addr}{v:Value}(h:w.cell? p=some v):w'.cell? p=some v:=
 (World.cell?_of_block (o.block _ (block_lt_of_cell h) (fun hf=>hf))).trans h
theorem J6{B N:Nat}{w:World}{P Q R:Nat→Prop}{A:EA}{Ke:EK}{S:SA}{nx:Value}{X:Cx}(h:CX B w P Q R A Ke S nx X)(hN:Ax N X)(hB9:N≤100000000)(i:Nat)(hi:i≤X.t.reads.length):
 Calls Tryz.prog 137 #[bp A.e,bp S.t,bp S.c,i] w (Ak B w P Q R A Ke S nx X (some (Cc X.t i))):=by
 have hrl:=hN.tx.rlen
 have HN:=Aa hN
 have ge:=An.new' (h) (w.heap.size) (by simp) 39 #[bp A.e]
 have C0:=(h).alloc (.cells #[bp A.e] 39)
 have gt:=An.new' (C0) (w.heap.size+1) (by simp) 96 #[bp S.t]
 have C1:=(C0).alloc (.cells #[bp S.t] 96)
 have gc:=An.new' (C1) (w.heap.size+1+1) (by simp) 101 #[bp S.c]
 have C2:=(C1).alloc (.cells #[bp S.c] 101)
 have gk:=An.new' (C2) (w.heap.size+1+1+1) (by simp) 3 #[.int .i64 ((i:Int))]
 have C3:=(C2).alloc (.cells #[.int .i64 ((i:Int))] 3)
 have ge:=ge.alloc (.cells #[bp S.t] 96)
 have ge:=ge.alloc (.cells #[bp S.c] 101)
 have ge:=ge.alloc (.cells #[.int .i64 ((i:Int))] 3)
 have gt:=gt.alloc (.cells #[bp S.c] 101)
 have gt:=gt.alloc (.cells #[.int .i64 ((i:Int))] 3)
 have gc:=gc.alloc (.cells #[.int .i64 ((i:Int))] 3)
 have MW:Ag w ((((w.alloc (.cells #[bp A.e] 39)).alloc (.cells #[bp S.t] 96)).alloc (.cells #[bp S.c] 101)).alloc (.cells #[.int .i64 ((i:Int))] 3)) P Q P Q:=Ag.only0 P Q (((((Ac.refl w).alloc _).alloc _).alloc _).alloc _)
 obtain⟨W,hW⟩:=Ad ((((w.alloc (.cells #[bp A.e] 39)).alloc (.cells #[bp S.t] 96)).alloc (.cells #[bp S.c] 101)).alloc (.cells #[.int .i64 ((i:Int))] 3))
 rw[←hW]at MW C3 ge gt gc gk
 have HCW:=Aa C3
 clear C0 C1 C2 C3
 obtain⟨be,hbe⟩:=Ad w.heap.size
 obtain⟨bt,hbt⟩:=Ad (w.heap.size+1)
 obtain⟨bc,hbc⟩:=Ad (w.heap.size+1+1)
 obtain⟨bk,hbk⟩:=Ad (w.heap.size+1+1+1)
 rw[←hbe]at ge
 rw[←hbt]at gt
 rw[←hbc]at gc
 rw[←hbk]at gk
 have HBe:=Aa hbe
 have HBt:=Aa hbt
 have HBc:=Aa hbc
 have HBk:=Aa hbk
 clear hbe hbt hbc hbk
 have HL0:Hid (CX B W P Q R A Ke S nx X∧Ag w W P Q P Q∧(An W P Q R be 39 #[bp A.e]∧An W P Q R bt 96 #[bp S.t]∧An W P Q R bc 101 #[bp S.c])∧An W P Q R bk 3 #[.int .i64 (i:Nat)]∧Cc X.t (i)=Cc X.t i):=Aa ⟨HCW.out,MW,⟨ge,gt,gc⟩,gk,rfl⟩
 have hwk:Hid (w.heap.size≤bk):=Aa (by rw[HBk.out];omega)
 clear h hN ge gt gc gk
 go_enter Tryz.func137,Tryz.ntmps137
 go_wp2_with fail
 rw[←hW,←HBk.out,←HBc.out,←HBt.out,←HBe.out]
 clear hW
 go_loopw [] (fun wr=>∃q:Nat,q≤X.t.reads.length∧Hid (CX B wr P Q R A Ke S nx X∧Ag w wr P Q P Q∧(An wr P Q R be 39 #[bp A.e]∧An wr P Q R bt 96 #[bp S.t]∧An wr P Q R bc 101 #[bp S.c])∧An wr P Q R bk 3 #[.int .i64 (q:Nat)]∧Cc X.t (q)=Cc X.t i)) (fun wr=>X.t.reads.length-(intOf ((wr.cell? ⟨bk,0,none⟩).getD undef)).toNat)
 case atStart=>exact⟨i,hi,Aa ⟨HL0.out.1,HL0.out.2.1,HL0.out.2.2.1,HL0.out.2.2.2.1,rfl⟩⟩
 case round=>
  obtain⟨q,hq,HL⟩:=hrel
  clear HL0
  have HD:=Aa HL.out.1.drew
  have ce:=Ae wr.drew be 0 (bp A.e) HL.out.2.2.1.1.c0
  have ct:=Ae wr.drew bt 0 (bp S.t) HL.out.2.2.1.2.1.c0
  have cc:=Ae wr.drew bc 0 (bp S.c) HL.out.2.2.1.2.2.c0
  have ck:=Ae wr.drew bk 0 (.int .i64 q) HL.out.2.2.2.1.c0
  have zk:wr.drew.frozen? ⟨bk,0,none⟩=false:=HL.out.2.2.2.1.zf 0
  have tr:=HD.out.tr
  by_cases hlt:q<X.t.reads.length
  ·skip
   obtain⟨rg,hrg⟩:=HD.out.read0 hlt
   obtain⟨d0,d1,d2⟩:=HD.out.readc hrg hlt
   rw[hrg]at tr
   have hky:=HN.out.tx.read _ (L_ hlt)
   have CNd:=NH HD.out _ hky (X.t.reads.getD q default).link (X.t.reads.getD q default).got
   have HJ:=Aa (KE hlt)
   have HJ2:=Aa (JL hlt)
   have HRD:Hid (∀wz,CX B wz P Q R A Ke S nx X→Ab wz rg (q*3) (.int .i64 (X.t.reads.getD q default).key)∧Ab wz rg (q*3+1) (.int .u64 (X.t.reads.getD q default).link)∧Ab wz rg (q*3+2) (.bool (X.t.reads.getD q default).got)):=Aa (fun wz hz=>hz.readc hrg hlt)
   generalize(X.t.reads.getD q default)=sd at *
   cases hnd:sd.needs X.t with
   |false=>
    have hnd2:FQ.needs ⟨sd.key,sd.link,sd.got⟩ X.t=false:=hnd
    rw[hnd2]at CNd
    clear hnd2
    go_upto_region 1 with(fail)
    refine wp_region_held_drew (S:=(fun w'=>Ab w' bk 0 (.int .i64 q)∧Ab w' bt 0 (bp S.t)∧Ab w' S.t 8 (.slice (some ⟨rg,0,none⟩) X.t.reads.length S.rc)∧Ab w' rg (q*3) (.int .i64 sd.key)∧Ab w' rg (q*3+1) (.int .u64 sd.link)∧Ab w' rg (q*3+2) (.bool sd.got))) (by kernel_rfl) ?_ (fun hHeld=>?_)
    ·exact Sj
    refine Af 0 (h:=Af 1 (h:=Af 2 (h:=Af 3 (h:=Af 4 (h:=Af 5 (h:=Af 6 (h:=Af 7 (h:=?_))))))))
    first|refine Aj 8 (h:=?_)|refine Af 8 (h:=?_)
    first|refine Aj 9 (h:=?_)|refine Af 9 (h:=?_)
    first|refine Aj 10 (h:=?_)|refine Af 10 (h:=?_)
    first|refine Aj 11 (h:=?_)|refine Af 11 (h:=?_)
    first|refine Aj 12 (h:=?_)|refine Af 12 (h:=?_)
    first|refine Aj 13 (h:=?_)|refine Af 13 (h:=?_)
    first|refine Aj 14 (h:=?_)|refine Af 14 (h:=?_)
    first|refine Aj 15 (h:=?_)|refine Af 15 (h:=?_)
    refine Ar (i:=16) (h:=fun K hK=>?_)
    try simp only[List.getElem_toArray,List.getElem_cons_zero,List.getElem_cons_succ]
    go_simp
    ((with_reducible refine CNd.mono ?_);rintro e1 w1 ⟨rfl,o1⟩;have ck1:=Ai o1 ck;have ct1:=Ai o1 ct;have tr1:=Ai o1 tr;have d01:=Ai o1 d0;have d11:=Ai o1 d1;have d21:=Ai o1 d2)
    try go_wp2_with fail
    refine AK hK (by first|exact⟨ck,ct,tr,d0,d1,d2⟩|exact⟨ck1,ct1,tr1,d01,d11,d21⟩) (h:=fun hHeld=>?_);clear hK K
    first|refine Aj 17 (h:=?_)|refine Af 17 (h:=?_)
    refine Af 18 (h:=?_)
    refine wpAnyH_done (by kernel_rfl) ?_ _
    have o01:=((Ac.refl wr).drew).trans o1
    have M1:=HL.out.2.1.trans (Ag.only0 P Q o01)
    have HX1:=Aa (HL.out.1.only0 o01)
    have mm:=Ag.only0 P Q o01
    have Fe:=HL.out.2.2.1.1.move mm
    have Ft:=HL.out.2.2.1.2.1.move mm
    have Fc:=HL.out.2.2.1.2.2.move mm
    have Fk:=HL.out.2.2.2.1.move mm
    have zk1:=Fk.zf
    have HNX:Hid (CX B (w1.setCell ⟨bk,0,none⟩ (.int .i64 (q+1:Nat))) P Q R A Ke S nx X∧Ag w (w1.setCell ⟨bk,0,none⟩ (.int .i64 (q+1:Nat))) P Q P Q∧(An (w1.setCell ⟨bk,0,none⟩ (.int .i64 (q+1:Nat))) P Q R be 39 #[bp A.e]∧An (w1.setCell ⟨bk,0,none⟩ (.int .i64 (q+1:Nat))) P Q R bt 96 #[bp S.t]∧An (w1.setCell ⟨bk,0,none⟩ (.int .i64 (q+1:Nat))) P Q R bc 101 #[bp S.c])∧An (w1.setCell ⟨bk,0,none⟩ (.int .i64 (q+1:Nat))) P Q R bk 3 #[.int .i64 (q+1:Nat)]∧Cc X.t (q+1)=Cc X.t i):=Aa ⟨HX1.out.setFix Fk (by decide) 0 _,M1.setNew hwk.out 0 _,⟨Fe.other Fk (by decide) 0 _,Ft.other Fk (by decide) 0 _,Fc.other Fk (by decide) 0 _⟩,Fk.setOwn 0 (.int .i64 (q+1:Nat)),by rw[←HL.out.2.2.2.2,HJ2.out hnd]⟩
    have ei:IntKind.i64.wrap ((q:Int)+1)=((q+1:Nat):Int):=by rw[IntKind.wrap_i64];omega
    have cn:(w1.setCell ⟨bk,0,none⟩ (.int .i64 ((q:Int)+1))).cell? ⟨bk,0,none⟩=some (.int .i64 ((q:Int)+1)):=HNX.out.2.2.2.1.c0
    have ck0:=Ae wr bk 0 (.int .i64 q) HL.out.2.2.2.1.c0
    clear M1 HX1 mm Fe Ft Fc Fk o01 o1 hHeld HL
    go_wp2_with fail
    go_roundw
    case rel=>exact⟨q+1,by omega,HNX⟩
    case measure=>rw[cn,ck0];simp[intOf];omega
   |true=>
    have hnd2:FQ.needs ⟨sd.key,sd.link,sd.got⟩ X.t=true:=hnd
    rw[hnd2]at CNd
    clear hnd2
    go_upto_region 1 with(fail)
    refine wp_region_held_drew (S:=(fun w'=>Ab w' bk 0 (.int .i64 q)∧Ab w' bt 0 (bp S.t)∧Ab w' S.t 8 (.slice (some ⟨rg,0,none⟩) X.t.reads.length S.rc)∧Ab w' rg (q*3) (.int .i64 sd.key)∧Ab w' rg (q*3+1) (.int .u64 sd.link)∧Ab w' rg (q*3+2) (.bool sd.got))) (by kernel_rfl) ?_ (fun hHeld=>?_)
    ·exact Sj
    refine Af 0 (h:=Af 1 (h:=Af 2 (h:=Af 3 (h:=Af 4 (h:=Af 5 (h:=Af 6 (h:=Af 7 (h:=?_))))))))
    first|refine Aj 8 (h:=?_)|refine Af 8 (h:=?_)
    first|refine Aj 9 (h:=?_)|refine Af 9 (h:=?_)
    first|refine Aj 10 (h:=?_)|refine Af 10 (h:=?_)
    first|refine Aj 11 (h:=?_)|refine Af 11 (h:=?_)
    first|refine Aj 12 (h:=?_)|refine Af 12 (h:=?_)
    first|refine Aj 13 (h:=?_)|refine Af 13 (h:=?_)
    first|refine Aj 14 (h:=?_)|refine Af 14 (h:=?_)
    first|refine Aj 15 (h:=?_)|refine Af 15 (h:=?_)
    refine Ar (i:=16) (h:=fun K hK=>?_)
    try simp only[List.getElem_toArray,List.getElem_cons_zero,List.getElem_cons_succ]
    go_simp
    ((with_reducible refine CNd.mono ?_);rintro e1 w1 ⟨rfl,o1⟩;have ck1:=Ai o1 ck;have ct1:=Ai o1 ct;have tr1:=Ai o1 tr;have d01:=Ai o1 d0;have d11:=Ai o1 d1;have d21:=Ai o1 d2)
    try go_wp2_with fail
    refine AK hK (by first|exact⟨ck,ct,tr,d0,d1,d2⟩|exact⟨ck1,ct1,tr1,d01,d11,d21⟩) (h:=fun hHeld=>?_);clear hK K
    first|refine Aj 17 (h:=?_)|refine Af 17 (h:=?_)
    refine Af 18 (h:=?_)
    refine wpAnyH_done (by kernel_rfl) ?_ _
    have o01:=((Ac.refl wr).drew).trans o1
    have M1:=HL.out.2.1.trans (Ag.only0 P Q o01)
    have HX1:=Aa (HL.out.1.only0 o01)
    have mm:=Ag.only0 P Q o01
    have Fe:=HL.out.2.2.1.1.move mm
    have Ft:=HL.out.2.2.1.2.1.move mm
    have Fc:=HL.out.2.2.1.2.2.move mm
    have Fk:=HL.out.2.2.2.1.move mm
    have zk1:=Fk.zf
    have HXR:Hid (∀wz,CX B wz P Q R A Ke S nx X→Ab wz rg (q*3) (.int .i64 sd.key)∧Ab wz rg (q*3+1) (.int .u64 sd.link)∧Ab wz rg (q*3+2) (.bool sd.got)):=HRD
    have hsx:=HL.out.2.2.2.2
    rw[HJ.out hnd]at hsx
    have HSX:=Aa hsx
    clear hsx
    clear hHeld HL mm o1 o01 ck1 ct1 tr1 d01 d11 d21 ce ct cc ck tr d0 d1 d2 zk zk1
    have oz:=(Ac.refl (w1)).drew
    have mz:=Ag.only0 P Q oz
    have M1:=M1.trans mz
    have HX1:=Aa (HX1.out.only0 oz)
    have Fe:=Fe.move mz
    have Ft:=Ft.move mz
    have Fc:=Fc.move mz
    have Fk:=Fk.move mz
    have ce:=Fe.c0
    have ct:=Ft.c0
    have cc:=Fc.c0
    have ck:=Fk.c0
    have tr:=HX1.out.tr
    have tf:=HX1.out.tf
    rw[hrg]at tr
    obtain⟨d0,d1,d2⟩:=HXR.out _ HX1.out
    clear oz mz
    have hqd:((q:Int)==(X.t.reads.length:Int))=false:=by simp;omega
    go_upto_region 3 with(fail)
    refine wp_region_held_drew (S:=(fun w'=>Ab w' bk 0 (.int .i64 q)∧Ab w' bt 0 (bp S.t)∧Ab w' S.t 8 (.slice (some ⟨rg,0,none⟩) X.t.reads.length S.rc))) (by kernel_rfl) ?_ (fun hHeld=>?_)
    ·exact⟨ck,ct,tr⟩
    refine Af 0 (h:=Af 1 (h:=Af 2 (h:=Af 3 (h:=Af 4 (h:=Af 5 (h:=Af 6 (h:=?_)))))))
    refine wpAnyH_done (by kernel_rfl) ?_ _
    generalize w1.drew=w3 at *
    have oz:=(Ac.refl (w3)).drew
    have mz:=Ag.only0 P Q oz
    have M1:=M1.trans mz
    have HX1:=Aa (HX1.out.only0 oz)
    have Fe:=Fe.move mz
    have Ft:=Ft.move mz
    have Fc:=Fc.move mz
    have Fk:=Fk.move mz
    have ce:=Fe.c0
    have ct:=Ft.c0
    have cc:=Fc.c0
    have ck:=Fk.c0
    have tr:=HX1.out.tr
    have tf:=HX1.out.tf
    rw[hrg]at tr
    obtain⟨d0,d1,d2⟩:=HXR.out _ HX1.out
    clear oz mz
    go_upto_region 5 with(fail)
    have HXp:=HX1
    have M1p:=M1
    have Fep:=Fe
    have Ftp:=Ft
    have Fcp:=Fc
    have Fkp:=Fk
    refine wp_region_held_drew (S:=(fun w'=>Ab w' bk 0 (.int .i64 q)∧Ab w' bt 0 (bp S.t)∧Ab w' S.t 8 (.slice (some ⟨rg,0,none⟩) X.t.reads.length S.rc)∧Ab w' rg (q*3) (.int .i64 sd.key)∧Ab w' rg (q*3+1) (.int .u64 sd.link)∧Ab w' rg (q*3+2) (.bool sd.got))) (by kernel_rfl) ?_ (fun hHeld=>?_)
    ·exact⟨ck,ct,tr,d0,d1,d2⟩
    refine Af 0 (h:=Af 1 (h:=Af 2 (h:=Af 3 (h:=Af 4 (h:=Af 5 (h:=Af 6 (h:=Ar (i:=7) (h:=fun K hK=>?_))))))))
    go_simp
    (have oz:=(Ac.refl w3.drew).alloc (.cells #[.int .i64 0,.int .u64 0,.bool false] 273);have mz:=Ag.only0 P Q oz;have M1:=M1p.trans mz;have HX1:=Aa (HXp.out.only0 oz);have Fe:=Fep.move mz;have Ft:=Ftp.move mz;have Fc:=Fcp.move mz;have Fk:=Fkp.move mz;have ck:=Fk.c0;have ct:=Ft.c0;have tr:=HX1.out.tr;rw[hrg]at tr;obtain⟨d0,d1,d2⟩:=HXR.out _ HX1.out)
    try go_wp2_with fail
    refine AK hK (by exact⟨ck,ct,tr,d0,d1,d2⟩) (h:=fun hHeld=>?_);clear hK K
    refine Ar (i:=8) (h:=fun K hK=>?_)
    try simp only[List.getElem_toArray,List.getElem_cons_zero,List.getElem_cons_succ]
    go_simp
    (have oz:=(Ac.refl w3.drew).alloc (.cells #[sd.key,.int .u64 sd.link,.bool sd.got] 273);have mz:=Ag.only0 P Q oz;have Fs:=An.new' HXp.out w3.heap.size rfl 273 #[sd.key,.int .u64 sd.link,.bool sd.got];have M1:=M1p.trans mz;have HX1:=Aa (HXp.out.only0 oz);have Fe:=Fep.move mz;have Ft:=Ftp.move mz;have Fc:=Fcp.move mz;have Fk:=Fkp.move mz;have ck:=Fk.c0;have ct:=Ft.c0;have tr:=HX1.out.tr;rw[hrg]at tr;obtain⟨d0,d1,d2⟩:=HXR.out _ HX1.out)
    try go_wp2_with fail
    refine AK hK (by exact⟨ck,ct,tr,d0,d1,d2⟩) (h:=fun hHeld=>?_);clear hK K
    refine wpAnyH_done (by kernel_rfl) ?_ _
    skip
    obtain⟨sb,hsb⟩:=Ad w3.heap.size
    obtain⟨w5,hw5⟩:=Ad (w3.drew.alloc (.cells #[sd.key,.int .u64 sd.link,.bool sd.got] 273))
    clear hHeld HXp M1p Fep Ftp Fcp Fkp
    have oz:=(Ac.refl (w3.drew.alloc (.cells #[sd.key,.int .u64 sd.link,.bool sd.got] 273))).drew
    have mz:=Ag.only0 P Q oz
    have Fs:=Fs.move mz
    have M1:=M1.trans mz
    have HX1:=Aa (HX1.out.only0 oz)
    have Fe:=Fe.move mz
    have Ft:=Ft.move mz
    have Fc:=Fc.move mz
    have Fk:=Fk.move mz
    have ce:=Fe.c0
    have ct:=Ft.c0
    have cc:=Fc.c0
    have ck:=Fk.c0
    have tr:=HX1.out.tr
    have tf:=HX1.out.tf
    rw[hrg]at tr
    obtain⟨d0,d1,d2⟩:=HXR.out _ HX1.out
    clear oz mz
    have cs:_=some (Value.int .i64 sd.key):=Fs.1.cell 0
    have CE:=GU HX1.out sd.key X.t.fin (.judge q sd.link) (.func (.func 164) #[] #[bp w3.heap.size,bp be,bp bt,bp bc,bp bk]) ⟨w3.heap.size,be,bt,bc,bk,_,_,rfl,Fs,Fe,Ft,Fc,Fk⟩
    have HSY:=HSX
    go_upto_region 6 with(fail)
    refine wp_region_held_drew (S:=(fun w'=>Ab w' be 0 (bp A.e)∧Ab w' bt 0 (bp S.t)∧Ab w' S.t 4 (.int .u64 X.t.fin)∧Ab w' w3.heap.size 0 (.int .i64 sd.key))) (by kernel_rfl) ?_ (fun hHeld=>?_)
    ·exact⟨ce,ct,tf,cs⟩
    refine Af 0 (h:=Af 1 (h:=Af 2 (h:=Af 3 (h:=Af 4 (h:=Af 5 (h:=Af 6 (h:=Af 7 (h:=Af 8 (h:=Ar (i:=9) (h:=fun K hK=>?_))))))))))
    go_simp
    (refine CE.mono ?_;rintro e9 w9 r9;have HS:=Aa (r9.comp M1 (At.refl A S));obtain⟨P9,Q9,A9,S9,v9,rfl,h9,n9,m9,k9⟩:=r9;have ce:=(Fe.move m9).c0;have ct:=(Ft.move m9).c0;have tf:=Ae w9 S.t 4 (.int .u64 X.t.fin) ((by have qq:=h9.tf;rw[k9.t]at qq;exact qq));have cs:=Ae w9 w3.heap.size 0 (.int .i64 sd.key) ((Fs.move m9).1.cell 0);clear h9 n9 m9 k9)
    try go_wp2_with fail
    refine AK hK (by exact⟨ce,ct,tf,cs⟩) (h:=fun hHeld=>?_);clear hK K
    refine Af 10 (h:=?_)
    refine wpAnyH_done (by kernel_rfl) ?_ _
    go_wp2_with fail
    go_ret
    rw[←HSX.out]
    exact HS.out
  ·obtain rfl:q=X.t.reads.length:=by omega
   go_upto_region 1 with(fail)
   refine wp_region_held_drew (S:=(fun w'=>Ab w' bk 0 (.int .i64 (X.t.reads.length:Nat))∧Ab w' bt 0 (bp S.t)∧Ab w' S.t 8 (.slice S.ra X.t.reads.length S.rc))) (by kernel_rfl) ?_ (fun hHeld=>?_)
   ·exact⟨ck,ct,tr⟩
   refine Af 0 (h:=Af 1 (h:=Af 2 (h:=Af 3 (h:=Af 4 (h:=Af 5 (h:=Af 6 (h:=Af 7 (h:=?_))))))))
   first|refine Aj 8 (h:=?_)|refine Af 8 (h:=?_)
   first|refine Aj 9 (h:=?_)|refine Af 9 (h:=?_)
   first|refine Aj 10 (h:=?_)|refine Af 10 (h:=?_)
   first|refine Aj 11 (h:=?_)|refine Af 11 (h:=?_)
   first|refine Aj 12 (h:=?_)|refine Af 12 (h:=?_)
   first|refine Aj 13 (h:=?_)|refine Af 13 (h:=?_)
   first|refine Aj 14 (h:=?_)|refine Af 14 (h:=?_)
   first|refine Aj 15 (h:=?_)|refine Af 15 (h:=?_)
   refine Ar (i:=16) (h:=fun K hK=>?_)
   try simp only[List.getElem_toArray,List.getElem_cons_zero,List.getElem_cons_succ]
   rw[if_neg (by simp[Region.wanted,yielded])]
   refine AK hK (by exact⟨ck,ct,tr⟩) (h:=fun hHeld=>?_);clear hK K
   first|refine Aj 17 (h:=?_)|refine Af 17 (h:=?_)
   refine Af 18 (h:=?_)
   refine wpAnyH_done (by kernel_rfl) ?_ _
   go_upto_region 3 with(fail)
   refine wp_region_held_drew (S:=(fun w'=>Ab w' bk 0 (.int .i64 (X.t.reads.length:Nat))∧Ab w' bt 0 (bp S.t)∧Ab w' S.t 8 (.slice S.ra X.t.reads.length S.rc))) (by kernel_rfl) ?_ (fun hHeld=>?_)
   ·exact⟨ck,ct,tr⟩
   refine Af 0 (h:=Af 1 (h:=Af 2 (h:=Af 3 (h:=Af 4 (h:=Af 5 (h:=Af 6 (h:=?_)))))))
   refine wpAnyH_done (by kernel_rfl) ?_ _
   have HSX:=HL.out.2.2.2.2
   rw[K_]at HSX
   have CE:=LG (HL.out.1.only0 ((Ac.refl wr).drew.drew)) HN.out hB9 0 (Nat.zero_le _)
   rw[show((0:Nat):Int)=0 from rfl,HSX]at CE
   have M1:=HL.out.2.1.trans (Ag.only0 P Q ((Ac.refl wr).drew.drew))
   go_wp2_with fail
   with_reducible refine CE.mono ?_
   rintro e9 w9 r9
   obtain⟨v9,rfl⟩:=r9.ret
   have HS:=Aa (r9.comp M1 (At.refl A S))
   clear r9 CE
   go_wp2_with fail
   go_ret
   exact HS.out
end
section
theorem F_(w:World):(callFunc 257 #[]).run Tryz.prog w= .ok (.value (.tuple #[])) w:=run_call_mark0 Tryz.func257 (by kernel_rfl) (by kernel_rfl) (by kernel_rfl) .disable (by kernel_rfl) w
theorem GA(w:World):(callFunc 259 #[]).run Tryz.prog w= .ok (.value (.tuple #[])) w:=run_call_mark0 Tryz.func259 (by kernel_rfl) (by kernel_rfl) (by kernel_rfl) .enable (by kernel_rfl) w
theorem Jd(a:Addr)(w:World):(callFunc 260 #[.pointer (some a)]).run Tryz.prog w= .ok (.value (.tuple #[])) w:=run_call_marked Tryz.func260 (by kernel_rfl) (by kernel_rfl) (by kernel_rfl) .acquire (by kernel_rfl) a w
theorem Ge(a:Addr)(w:World):(callFunc 262 #[.pointer (some a)]).run Tryz.prog w= .ok (.value (.tuple #[])) w:=run_call_marked Tryz.func262 (by kernel_rfl) (by kernel_rfl) (by kernel_rfl) .releaseMerge (by kernel_rfl) a w
theorem KR(a:Addr)(x:Value)(u:FrameMode)(w:World)(hc:w.cell? a=some x)(hz:w.frozen? a=false):
 CallsD Tryz.prog 218 #[.pointer (some a),.bool true] u w fun e u' w'=>u'=u∧(e= .returned (.tuple #[])∧w'=w.drew.setCell a (.int .u32 1)):=by
 have hc':w.drew.cell? a=some x:=by go_simp
 have hz':w.drew.frozen? a=false:=by go_simp
 have hst:=run_call_store (P:=Tryz.prog) Tryz.func237 (by kernel_rfl) (by kernel_rfl) (by kernel_rfl) (by kernel_rfl) (k:= .u32) (y:=1) hc' hz'
 go_enter_d Tryz.func218,Tryz.ntmps218
 go_wp2
 go_region_calls
 all_goals(go_end0;exact⟨rfl,rfl⟩)
theorem JM(a:Addr)(u:FrameMode)(w:World)(hc:w.cell? a=some (.int .i32 1))(hz:w.frozen? a=false):
 CallsD Tryz.prog 217 #[.pointer (some a)] u w fun e u' w'=>u'=u∧(e= .returned (.tuple #[])∧w'=w.setCell a (.int .i32 0)):=by
 have hd:=F_
 have he:=GA
 have hr:=Ge
 have hadd:=run_call_add (P:=Tryz.prog) Tryz.func263 (by kernel_rfl) (by kernel_rfl) (by kernel_rfl) .i32 (by kernel_rfl) (y:= -1) (s:=0) hc hz (by simp[go_sem];rfl)
 have hcv:=run_convert_to_unsafe (P:=Tryz.prog) (src:=324) (dst:=328) Tryz.underlying324 Tryz.underlying328 (by kernel_rfl) hc
 go_enter_d Tryz.func217,Tryz.ntmps217
 go_wp2
 go_end0
 go_wp2
 go_end0
 exact⟨rfl,rfl⟩
theorem M4(a:Addr)(w:World)(hc:w.cell? a=some (.int .i32 0))(hz:w.frozen? a=false):
 Calls Tryz.prog 216 #[.pointer (some a)] w fun e w'=>e= .returned (.tuple #[])∧w'=w.setCell a (.int .i32 1):=by
 have hd:=F_
 have he:=GA
 have ha:=Jd
 have hcas:=run_call_cas_hit (P:=Tryz.prog) Tryz.func258 (by kernel_rfl) (by kernel_rfl) (by kernel_rfl) .i32 (by kernel_rfl) (y:=1) hc hz
 have hc':(w.setCell a (.int .i32 1)).cell? a=some (.int .i32 1):=World.cell?_setCell_same w a _ hc
 have hcv:=run_convert_to_unsafe (P:=Tryz.prog) (src:=324) (dst:=328) Tryz.underlying324 Tryz.underlying328 (by kernel_rfl) hc'
 go_enter Tryz.func216,Tryz.ntmps216
 go_wp2
 first|go_end0|(simp only[Exit.inBlock,Exit.then];refine bodyPost_ret (results_none rfl _ _ _) rfl ?_)|refine bodyPost_ret (results_none rfl _ _ _) rfl ?_
 go_wp2
 go_end0
 exact⟨rfl,rfl⟩
theorem Ma(b off:Nat)(F:FuncId)(cap:Array Value)(R:World→Prop)(w:World)(hcf:∀w:World,(callFunc F cap).run Tryz.prog w= .ok (.enter F cap) w)
 (h0:w.cell? ⟨b,off,none⟩=some (.int .u32 0)) (h1:w.cell? ⟨b,off+1,none⟩=some (.int .i32 0)) (f0:w.frozen? ⟨b,off,none⟩=false) (f1:w.frozen? ⟨b,off+1,none⟩=false)
 (hF:Calls Tryz.prog F cap (w.setCell ⟨b,off+1,none⟩ (.int .i32 1)) fun e w1=>e= .returned (.tuple #[])∧R w1∧Ab w1 b off (.int .u32 0)∧Ab w1 b (off+1) (.int .i32 1)∧w1.frozen? ⟨b,off,none⟩=false∧w1.frozen? ⟨b,off+1,none⟩=false):
 Calls Tryz.prog 189 #[.pointer (some ⟨b,off,none⟩),.func (.func F) #[] cap] w fun e w'=>e= .returned (.tuple #[])∧∃w1,R w1∧w'=(w1.drew.setCell ⟨b,off,none⟩ (.int .u32 1)).setCell ⟨b,off+1,none⟩ (.int .i32 0):=by
 have hl:=run_call_load (P:=Tryz.prog) Tryz.func215 (by kernel_rfl) (by kernel_rfl) (by kernel_rfl) .u32 (by kernel_rfl) (w:=w.setCell ⟨b,off+1,none⟩ (.int .i32 1)) (a:=⟨b,off,none⟩) (x:=0) ((World.cell?_setCell_other _ ⟨b,off+1,none⟩ ⟨b,off,none⟩ _ (by simp)).trans h0)
 have hnot:∀(x:Bool) (w:World),(Op.unary .not (.bool x)).run Tryz.prog w= .ok (.bool (!x)) w:=fun _ _=>rfl
 go_enter_defers Tryz.func189,Tryz.ntmps189
 go_wp2_with (go_at_call 216;refine(M4 ⟨b,off+1,none⟩ _ (by go_simp) (by go_simp)).mono ?_;rintro e w' ⟨rfl,rfl⟩)
 go_wp2_with (go_at_call 188;go_in)
 refine hF.mono ?_
 rintro e w1 ⟨rfl,hR,c0,c1,g0,g1⟩
 clear hl hF h0 h1 f0 f1
 go_wp2_with fail
 refine leaves_cons (f:=218) (args:=#[.pointer (some ⟨b,off,none⟩),.bool true]) (by simp) (by simp[go_sem]) ?_
 refine(KR ⟨b,off,none⟩ (.int .u32 0) .returning _ c0 g0).mono ?_
 rintro e u' w'' ⟨rfl,rfl,rfl⟩
 refine leaves_cons (f:=217) (args:=#[.pointer (some ⟨b,off+1,none⟩)]) (by simp[settle]) (by simp[go_sem]) ?_
 refine(JM ⟨b,off+1,none⟩ _ _ ?_ (by simp[g1])).mono ?_
 ·refine(World.cell?_setCell_other _ ⟨b,off,none⟩ ⟨b,off+1,none⟩ _ (by simp)).trans ?_
  rw[World.cell?_drew]
  exact c1
 rintro e u' w'' ⟨rfl,rfl,rfl⟩
 simp[Leaves,settle,results,Tryz.results189]
 exact⟨w1,hR,rfl⟩
theorem FG(b off:Nat)(F:FuncId)(cap:Array Value)(R:World→Prop)(w:World)(hcf:∀w:World,(callFunc F cap).run Tryz.prog w= .ok (.enter F cap) w)
 (h0:w.cell? ⟨b,off,none⟩=some (.int .u32 0)) (h1:w.cell? ⟨b,off+1,none⟩=some (.int .i32 0)) (f0:w.frozen? ⟨b,off,none⟩=false) (f1:w.frozen? ⟨b,off+1,none⟩=false)
 (hF:Calls Tryz.prog F cap (w.setCell ⟨b,off+1,none⟩ (.int .i32 1)) fun e w1=>e= .returned (.tuple #[])∧R w1∧Ab w1 b off (.int .u32 0)∧Ab w1 b (off+1) (.int .i32 1)∧w1.frozen? ⟨b,off,none⟩=false∧w1.frozen? ⟨b,off+1,none⟩=false):
 Calls Tryz.prog 165 #[.pointer (some ⟨b,off,none⟩),.func (.func F) #[] cap] w fun e w'=>e= .returned (.tuple #[])∧∃w1,R w1∧(w1.drew.setCell ⟨b,off,none⟩ (.int .u32 1)).setCell ⟨b,off+1,none⟩ (.int .i32 0)=w':=by
 have hl:=run_call_load (P:=Tryz.prog) Tryz.func215 (by kernel_rfl) (by kernel_rfl) (by kernel_rfl) .u32 (by kernel_rfl) h0
 have hnot:∀(x:Bool) (w:World),(Op.unary .not (.bool x)).run Tryz.prog w= .ok (.bool (!x)) w:=fun _ _=>rfl
 have hs:=Ma b off F cap R w hcf h0 h1 f0 f1 hF
 clear hF hcf
 go_enter Tryz.func165,Tryz.ntmps165
 go_wp2_with (go_at_call 188;go_in)
 refine hs.mono ?_
 rintro e w' ⟨rfl,w1,hR,rfl⟩
 go_wp2_with fail
 go_end0
 exact⟨rfl,w1,hR,rfl⟩
theorem Gd(a:Addr)(d:Int)(hd:¬d=0)(fv:Value)(w:World)(h0:w.cell? a=some (.int .u32 d)):
 Calls Tryz.prog 165 #[.pointer (some a),fv] w fun e w'=>e= .returned (.tuple #[])∧w=w':=by
 have hl:=run_call_load (P:=Tryz.prog) Tryz.func215 (by kernel_rfl) (by kernel_rfl) (by kernel_rfl) .u32 (by kernel_rfl) h0
 have hnot:∀(x:Bool) (w:World),(Op.unary .not (.bool x)).run Tryz.prog w= .ok (.bool (!x)) w:=fun _ _=>rfl
 have hd':(d != 0)=true:=by simp[hd]
 go_enter Tryz.func165,Tryz.ntmps165
 go_wp2
 go_end0
 exact⟨rfl,rfl⟩
end
section
attribute [local go_sem ↓] Go.wp_at_zero Go.wp_at_succ
theorem OD{B N:Nat}{w:World}{P Q R:Nat→Prop}{A:EA}{Ke:EK}{S:SA}{nx:Value}{X:Cx}(h:CX B w P Q R A Ke S nx X)(hN:Ax N X)(hB9:N≤100000000)(key:Nat)(at_ l lk:Int)(i:Nat)(hi:i<X.t.reads.length){r e t c k:Nat}{y:Int}{gt:Bool}(hr:An w P Q R r 273 #[y,.int .u64 lk,.bool gt])(he:An w P Q R e 39 #[bp A.e])(ht:An w P Q R t 96 #[bp S.t])(hc:An w P Q R c 101 #[bp S.c])(hk:An w P Q R k 3 #[.int .i64 (i:Int)]):
 Calls Tryz.prog 164 #[.int .u64 l,bp r,bp e,bp t,bp c,bp k] w (Ak B w P Q R A Ke S nx (Ca X ⟨key,at_,.judge i lk⟩ l).1 (some (Ca X ⟨key,at_,.judge i lk⟩ l).2)):=by
 have hrl:=hN.tx.rlen
 have HR:=Aa (show Ca X ⟨key,at_,.judge i lk⟩ l=(X,if l≠lk then .abort 14 3 else Cc X.t (i+1)) from rfl)
 have cr:=Ae w r 1 (.int .u64 lk) (hr.1.cell 1)
 have ce:=he.c0
 have ct:=ht.c0
 have cc:=hc.c0
 have ck:=hk.c0
 by_cases h0:l=lk
 ·subst h0
  have CE:=J6 h hN hB9 (i+1) (by omega)
  have ei:IntKind.i64.wrap ((i:Int)+1)=((i+1:Nat):Int):=by rw[IntKind.wrap_i64];omega
  clear h hN
  go_enter Tryz.func164,Tryz.ntmps164
  go_wp2_with fail
  refine CE.mono ?_
  rintro e9 w9 r9
  obtain⟨v9,rfl⟩:=r9.ret
  have HS:=Aa r9
  clear r9 CE
  go_wp2_with fail
  go_ret
  rw[HR.out,if_neg (fun x=>x rfl)]
  exact HS.out
 ·have b0:(l==lk)=false:=by simpa using h0
  have b1:(l != lk)=true:=by simpa using h0
  have CE:=Dr h 14 3
  clear h hN
  go_enter Tryz.func164,Tryz.ntmps164
  go_wp2_with fail
  refine CE.mono ?_
  rintro e9 w9 r9
  obtain⟨v9,rfl⟩:=r9.ret
  have HS:=Aa r9
  clear r9 CE
  go_wp2_with fail
  go_ret
  rw[HR.out,if_pos h0]
  exact HS.out
theorem CX.co{B:Nat}{w:World}{P Q R:Nat→Prop}{A:EA}{Ke:EK}{S:SA}{nx:Value}{X:Cx}(h:CX B w P Q R A Ke S nx X):w.cell? ⟨S.c,2,none⟩=some (.int .i64 X.c.op.hi):=h.cl.blk.cell 2
theorem CX.cr{B:Nat}{w:World}{P Q R:Nat→Prop}{A:EA}{Ke:EK}{S:SA}{nx:Value}{X:Cx}(h:CX B w P Q R A Ke S nx X):w.cell? ⟨S.c,5,none⟩=some (.int .i64 X.c.r.e)∧w.cell? ⟨S.c,6,none⟩=some (.int .i64 X.c.r.value)∧w.cell? ⟨S.c,7,none⟩=some (.slice S.qa X.c.r.pairs.length S.qc)∧w.cell? ⟨S.c,8,none⟩=some (.int .i64 X.c.r.over)∧w.cell? ⟨S.c,9,none⟩=some (.int .i64 X.c.r.reason):=⟨h.cl.blk.cell 5,h.cl.blk.cell 6,h.cl.blk.cell 7,h.cl.blk.cell 8,h.cl.blk.cell 9⟩
theorem CX.celc{B:Nat}{w:World}{P Q R:Nat→Prop}{A:EA}{Ke:EK}{S:SA}{nx:Value}{X:Cx}(h:CX B w P Q R A Ke S nx X){k:Nat}{x:Dh}(hx:X.t.cells k=some x):w.cell? ⟨S.x k,0,none⟩=some (.int .u64 x.own)∧w.cell? ⟨S.x k,1,none⟩=some (.int .u64 x.old)∧w.cell? ⟨S.x k,2,none⟩=some (.bool x.there):=⟨(h.tx.cel k x hx).2.1.cell 0,(h.tx.cel k x hx).2.1.cell 1,(h.tx.cel k x hx).2.1.cell 2⟩
theorem CX.tg{B:Nat}{w:World}{P Q R:Nat→Prop}{A:EA}{Ke:EK}{S:SA}{nx:Value}{X:Cx}(h:CX B w P Q R A Ke S nx X):w.cell? ⟨S.t,3,none⟩=some (.int .u64 X.t.beg):=h.tx.blk.cell 3
theorem La(n:Nat):∀{B N:Nat} {w:World} {P Q R:Nat→Prop} {A:EA} {Ke:EK} {S:SA} {nx:Value} {X:Cx} (h:CX B w P Q R A Ke S nx X) (hN:Ax N X) (hB9:N+n≤100000000) (key:Nat) (hkn:key+n=65) (hn1:1≤n),
 Calls Tryz.prog 105 #[bp A.e,bp S.t,bp S.c,key] w (Ak B w P Q R A Ke S nx (De X n key).1 (some (De X n key).2)):=by
 induction n with
 |zero=>intros;omega
 |succ n ih=>
  intro B N w P Q R A Ke S nx X h hN hB9 key hkn hn1
  have hk64:key≤64:=by omega
  have HN:=Aa hN
  have hhi:=hN.cl.hi
  have ge:=An.new' (h) (w.heap.size) (by simp) 39 #[bp A.e]
  have C0:=(h).alloc (.cells #[bp A.e] 39)
  have gt:=An.new' (C0) (w.heap.size+1) (by simp) 96 #[bp S.t]
  have C1:=(C0).alloc (.cells #[bp S.t] 96)
  have gc:=An.new' (C1) (w.heap.size+1+1) (by simp) 101 #[bp S.c]
  have C2:=(C1).alloc (.cells #[bp S.c] 101)
  have gk:=An.new' (C2) (w.heap.size+1+1+1) (by simp) 3 #[.int .i64 ((key:Int))]
  have C3:=(C2).alloc (.cells #[.int .i64 ((key:Int))] 3)
  have ge:=ge.alloc (.cells #[bp S.t] 96)
  have ge:=ge.alloc (.cells #[bp S.c] 101)
  have ge:=ge.alloc (.cells #[.int .i64 ((key:Int))] 3)
  have gt:=gt.alloc (.cells #[bp S.c] 101)
  have gt:=gt.alloc (.cells #[.int .i64 ((key:Int))] 3)
  have gc:=gc.alloc (.cells #[.int .i64 ((key:Int))] 3)
  have MW:Ag w ((((w.alloc (.cells #[bp A.e] 39)).alloc (.cells #[bp S.t] 96)).alloc (.cells #[bp S.c] 101)).alloc (.cells #[.int .i64 ((key:Int))] 3)) P Q P Q:=Ag.only0 P Q (((((Ac.refl w).alloc _).alloc _).alloc _).alloc _)
  obtain⟨W,hW⟩:=Ad ((((w.alloc (.cells #[bp A.e] 39)).alloc (.cells #[bp S.t] 96)).alloc (.cells #[bp S.c] 101)).alloc (.cells #[.int .i64 ((key:Int))] 3))
  rw[←hW]at MW C3 ge gt gc gk
  have HCW:=Aa C3
  clear C0 C1 C2 C3
  obtain⟨be,hbe⟩:=Ad w.heap.size
  obtain⟨bt,hbt⟩:=Ad (w.heap.size+1)
  obtain⟨bc,hbc⟩:=Ad (w.heap.size+1+1)
  obtain⟨bk,hbk⟩:=Ad (w.heap.size+1+1+1)
  rw[←hbe]at ge
  rw[←hbt]at gt
  rw[←hbc]at gc
  rw[←hbk]at gk
  have HBe:=Aa hbe
  have HBt:=Aa hbt
  have HBc:=Aa hbc
  have HBk:=Aa hbk
  clear hbe hbt hbc hbk
  have hWs:W.heap.size=w.heap.size+1+1+1+1:=by rw[hW];simp
  obtain⟨bf,hbf⟩:=Ad (w.heap.size+1+1+1+1)
  have gf:=An.new' HCW.out bf (by rw[hbf,hWs]) 255 #[.func (.func 132) #[] #[bp bc,bp bk]]
  have of:=(Ac.refl W).alloc (.cells #[.func (.func 132) #[] #[bp bc,bp bk]] 255)
  have HCV:=Aa (HCW.out.only0 of)
  have MV:=MW.trans (Ag.only0 P Q of)
  have mf:=Ag.only0 P Q of
  have ge:=ge.move mf
  have gt:=gt.move mf
  have gc:=gc.move mf
  have gk:=gk.move mf
  obtain⟨V,hV⟩:=Ad (W.alloc (.cells #[.func (.func 132) #[] #[bp bc,bp bk]] 255))
  rw[←hV]at HCV MV ge gt gc gk gf
  have HBf:=Aa hbf
  clear of mf hbf hWs
  have GE:=Aa ge
  have GT:=Aa gt
  have GC:=Aa gc
  have GK:=Aa gk
  have GF:=Aa gf
  have ct1:=Ae V.drew bt 0 (bp S.t) gt.c0
  have ck1:=Ae V.drew bk 0 (.int .i64 key) gk.c0
  have tm:=HCV.out.drew.tm
  have LK:=HCV.out.drew.lk key hk64
  unfold H_ at LK
  clear h hN ge gt gc gk gf
  by_cases hgt:X.c.op.hi<key
  ·have HR:Hid (De X (n+1) key=(X,.ends X.c.r)):=Aa (by unfold De;rw[if_pos hgt])
   have hgt2:(key:Int)>X.c.op.hi:=hgt
   cases hcx:X.t.cells key with
   |none=>
    rw[hcx]at LK
    simp only[Option.map_none]at LK
    exact Ug
   |some x=>
    rw[hcx]at LK
    simp only[Option.map_some]at LK
    exact Ug
  ·have hn2:1≤n:=by have:=hhi.2;omega
   have hgt2:¬(key:Int)>X.c.op.hi:=hgt
   have hk:key<64:=by have:=hhi.2;omega
   cases hcx:X.t.cells key with
   |none=>
    have HR:Hid (De X (n+1) key=(X,.start ⟨key,X.t.beg,.scan key⟩)):=Aa (by show(if _ then _ else _)=_;rw[if_neg hgt,hcx])
    rw[hcx]at LK
    simp only[Option.map_none]at LK
    go_enter Tryz.func105,Tryz.ntmps105
    go_upto_region 2 with(fail)
    rw[←hW,←HBf.out,←HBk.out,←HBc.out,←HBt.out,←HBe.out,←hV]
    clear hW hV
    refine wp_region_held_drew (S:=(fun w'=>Ab w' bt 0 (bp S.t)∧Ab w' S.t 7 (.map (some S.m))∧Ab w' bk 0 (.int .i64 key))) (by kernel_rfl) ?_ (fun hHeld=>?_)
    ·exact⟨ct1,tm,ck1⟩
    refine Af 0 (h:=Af 1 (h:=Af 2 (h:=Af 3 (h:=Af 4 (h:=Ar (i:=5) (h:=fun K hK=>?_))))))
    go_simp
    skip
    try go_wp2_with fail
    refine AK hK (by exact⟨ct1,tm,ck1⟩) (h:=fun hHeld=>?_);clear hK K
    refine Af 6 (h:=?_)
    refine wpAnyH_done (by kernel_rfl) ?_ _
    have cc2:=Ae V.drew.drew bc 0 (bp S.c) GC.out.c0
    have ck2:=Ae V.drew.drew bk 0 (.int .i64 key) GK.out.c0
    have co2:=HCV.out.drew.drew.co
    clear ct1 tm ck1 LK hHeld
    go_upto_region 3 with(fail)
    refine wp_region_held_drew (S:=(fun w'=>Ab w' bk 0 (.int .i64 key)∧Ab w' bc 0 (bp S.c)∧Ab w' S.c 2 (.int .i64 X.c.op.hi))) (by kernel_rfl) ?_ (fun hHeld=>?_)
    ·exact⟨ck2,cc2,co2⟩
    refine Af 0 (h:=Af 1 (h:=Af 2 (h:=Af 3 (h:=Af 4 (h:=Af 5 (h:=Af 6 (h:=?_)))))))
    refine wpAnyH_done (by kernel_rfl) ?_ _
    have oz:=(Ac.refl V).drew.drew.drew
    have HZ:=Aa (HCV.out.only0 oz)
    have MZ:=MV.trans (Ag.only0 P Q oz)
    have mz:=Ag.only0 P Q oz
    have Fe:=GE.out.move mz
    have ce3:=Fe.c0
    have Ft:=GT.out.move mz
    have ct3:=Ft.c0
    have Fc:=GC.out.move mz
    have cc3:=Fc.c0
    have Fk:=GK.out.move mz
    have ck3:=Fk.c0
    have Ff:=GF.out.move mz
    have cf3:=Ff.c0
    have tg:=HZ.out.tg
    have CE:=GU HZ.out key X.t.beg (.scan key) (.func (.func 133) #[] #[bp bt,bp bk,bp bf,bp be,bp bc]) ⟨bt,bk,bf,be,bc,bc,bk,rfl,Ft,Fk,Ff,Fc,Fk,Fe,Fc⟩
    go_wp2_with fail
    go_upto_region 9 with(fail)
    refine wp_region_held_drew (S:=(fun w'=>Ab w' be 0 (bp A.e)∧Ab w' bt 0 (bp S.t)∧Ab w' bk 0 (.int .i64 key)∧Ab w' S.t 3 (.int .u64 X.t.beg))) (by kernel_rfl) ?_ (fun hHeld=>?_)
    ·exact⟨ce3,ct3,ck3,tg⟩
    refine Af 0 (h:=Af 1 (h:=Af 2 (h:=Af 3 (h:=Af 4 (h:=Af 5 (h:=Af 6 (h:=Af 7 (h:=Ar (i:=8) (h:=fun K hK=>?_)))))))))
    go_simp
    (refine CE.mono ?_;rintro e9 w9 r9;have HS:=Aa (r9.comp MZ (At.refl A S));obtain⟨P9,Q9,A9,S9,v9,rfl,h9,n9,m9,k9⟩:=r9;have ce3:=(Fe.move m9).c0;have ct3:=(Ft.move m9).c0;have ck3:=(Fk.move m9).c0;have tg:=Ae w9 S.t 3 (.int .u64 X.t.beg) ((by have qq:=h9.tg;rw[k9.t]at qq;exact qq));clear h9 n9 m9 k9)
    try go_wp2_with fail
    refine AK hK (by exact⟨ce3,ct3,ck3,tg⟩) (h:=fun hHeld=>?_);clear hK K
    refine Af 9 (h:=?_)
    exact Ux
   |some x=>
    rw[hcx]at LK
    simp only[Option.map_some]at LK
    have hcl:=HN.out.tx.cell key x hcx
    go_enter Tryz.func105,Tryz.ntmps105
    go_upto_region 2 with(fail)
    rw[←hW,←HBf.out,←HBk.out,←HBc.out,←HBt.out,←HBe.out,←hV]
    clear hW hV
    refine wp_region_held_drew (S:=(fun w'=>Ab w' bt 0 (bp S.t)∧Ab w' S.t 7 (.map (some S.m))∧Ab w' bk 0 (.int .i64 key))) (by kernel_rfl) ?_ (fun hHeld=>?_)
    ·exact⟨ct1,tm,ck1⟩
    refine Af 0 (h:=Af 1 (h:=Af 2 (h:=Af 3 (h:=Af 4 (h:=Ar (i:=5) (h:=fun K hK=>?_))))))
    go_simp
    skip
    try go_wp2_with fail
    refine AK hK (by exact⟨ct1,tm,ck1⟩) (h:=fun hHeld=>?_);clear hK K
    refine Af 6 (h:=?_)
    refine wpAnyH_done (by kernel_rfl) ?_ _
    have cc2:=Ae V.drew.drew bc 0 (bp S.c) GC.out.c0
    have ck2:=Ae V.drew.drew bk 0 (.int .i64 key) GK.out.c0
    have co2:=HCV.out.drew.drew.co
    clear ct1 tm ck1 LK hHeld
    go_upto_region 3 with(fail)
    refine wp_region_held_drew (S:=(fun w'=>Ab w' bk 0 (.int .i64 key)∧Ab w' bc 0 (bp S.c)∧Ab w' S.c 2 (.int .i64 X.c.op.hi))) (by kernel_rfl) ?_ (fun hHeld=>?_)
    ·exact⟨ck2,cc2,co2⟩
    refine Af 0 (h:=Af 1 (h:=Af 2 (h:=Af 3 (h:=Af 4 (h:=Af 5 (h:=Af 6 (h:=?_)))))))
    refine wpAnyH_done (by kernel_rfl) ?_ _
    have oz:=(Ac.refl V).drew.drew
    have HZ:=Aa (HCV.out.only0 oz)
    have MZ:=MV.trans (Ag.only0 P Q oz)
    have mz:=Ag.only0 P Q oz
    have Fe:=GE.out.move mz
    have ce3:=Fe.c0
    have Ft:=GT.out.move mz
    have ct3:=Ft.c0
    have Fc:=GC.out.move mz
    have cc3:=Fc.c0
    have Fk:=GK.out.move mz
    have ck3:=Fk.c0
    have Ff:=GF.out.move mz
    have cf3:=Ff.c0
    obtain⟨x0,x1,x2⟩:=HZ.out.celc hcx
    have ei:IntKind.i64.wrap ((key:Int)+1)=((key+1:Nat):Int):=by rw[IntKind.wrap_i64];omega
    cases hth:x.there with
    |false=>
     have HR:Hid (De X (n+1) key=De X n (key+1)):=Aa (by show(if _ then _ else _)=_;rw[if_neg (by omega),hcx];simp[hth])
     rw[hth]at x2
     have CE:=ih HZ.out HN.out (by omega) (key+1) (by omega) hn2
     clear hgt hcx hth
     go_wp2_with fail
     refine CE.mono ?_
     rintro e9 w9 r9
     obtain⟨v9,rfl⟩:=r9.ret
     have HS:=Aa (r9.comp MZ (At.refl A S))
     exact Ud
    |true=>
     have HR:Hid (De X (n+1) key=De (X.tell (X.val x.own).2 key) n (key+1)):=Aa (by show(if _ then _ else _)=_;rw[if_neg (by omega),hcx];simp[hth])
     rw[hth]at x2
     have hown:=hcl.2.2.2 hth
     have hlk:=hcl.2.1
     obtain⟨i1,i2⟩:=HN.out.ix hlk hown
     have oy:=(Ac.refl V).drew.drew.drew
     have HY:=Aa (HCV.out.only0 oy)
     have MY:=MV.trans (Ag.only0 P Q oy)
     have my:=Ag.only0 P Q oy
     have Ye:=GE.out.move my
     have ce4:=Ye.c0
     have Yt:=GT.out.move my
     have ct4:=Yt.c0
     have Yc:=GC.out.move my
     have cc4:=Yc.c0
     have Yk:=GK.out.move my
     have ck4:=Yk.c0
     have Yf:=GF.out.move my
     have cf4:=Yf.c0
     obtain⟨y0,y1,y2⟩:=HY.out.celc hcx
     have v1:=HY.out.val1 i1
     have D1:=Fz HY.out HN.out x.own hlk hown
     obtain⟨vv,hvv⟩:=Aq ((X.val x.own).2)
     rw[show(X.sh.vals.getD (A5 x.own).toNat (0,0)).2=vv from hvv]at v1
     rw[hvv]at HR
     have HVV:Hid (∀(wz:World) (Pz Qz:Nat→Prop) (Sz:SA),CX B wz Pz Qz R A Ke Sz nx (X.tell vv key)→Ab wz A.v ((A5 x.own).toNat*2+1) (.int .i64 vv)∧(Sz.x=S.x→wz.cell? ⟨S.x key,0,none⟩=some (.int .u64 x.own))):=Aa (fun wz Pz Qz Sz hz=>⟨by have q:=hz.val1 (show(A5 x.own).toNat<(X.tell vv key).sh.vals.length from i1);rw[show((X.tell vv key).sh.vals.getD (A5 x.own).toNat (0,0)).2=vv from hvv]at q;exact q,fun ex=>by have q:=(hz.celc (x:=x) (k:=key) hcx).1;rw[ex]at q;exact q⟩)
     have hpl:=HN.out.cl.plen
     have CT:=JU HY.out (by omega) vv key Yc Yk
     have HNT:=Aa (HN.out.tell vv key)
     generalize(A5 x.own).toNat=iv at *
     clear i1 i2 hvv hcl hlk hgt hcx hth
     go_wp2_with fail
     go_upto_region 7 with(fail)
     refine wp_region_held_drew (S:=(fun w'=>Ab w' bf 0 (.func (.func 132) #[] #[bp bc,bp bk])∧Ab w' be 0 (bp A.e)∧Ab w' (S.x key) 0 (.int .u64 x.own)∧Ab w' A.v (iv*2+1) (.int .i64 vv))) (by kernel_rfl) ?_ (fun hHeld=>?_)
     ·exact⟨cf4,ce4,y0,v1⟩
     refine Af 0 (h:=Af 1 (h:=Af 2 (h:=Af 3 (h:=Af 4 (h:=Af 5 (h:=Ar (i:=6) (h:=fun K hK=>?_)))))))
     go_simp
     (refine D1.mono ?_;rintro e1 w1 ⟨rfl,rfl⟩)
     try go_wp2_with fail
     refine AK hK (by exact⟨cf4,ce4,y0,v1⟩) (h:=fun hHeld=>?_);clear hK K
     refine Af 7 (h:=Af 8 (h:=Af 9 (h:=Ar (i:=10) (h:=fun K hK=>?_))))
     go_simp
     (refine CT.mono ?_;rintro e9 w9 ⟨rfl,Q9,S9,h9,m9,k9,x9⟩;have H9:=Aa h9;have M9:=MY.trans m9;have K9:=Aa k9;have Ze:=Ye.move m9;have Zt:=Yt.move m9;have Zc:=Yc.move m9;have Zk:=Yk.move m9;have Zf:=Yf.move m9;have ce4:=Ze.c0;have cf4:=Zf.c0;have ct5:=Zt.c0;have cc5:=Zc.c0;have ck5:=Zk.c0;obtain⟨v1,y0⟩:=HVV.out _ _ _ _ h9;have y0:=y0 x9;clear h9 m9 k9 x9)
     try go_wp2_with fail
     refine AK hK (by exact⟨cf4,ce4,y0,v1⟩) (h:=fun hHeld=>?_);clear hK K
     refine wpAnyH_done (by kernel_rfl) ?_ _
     skip
     have CE:=ih H9.out HNT.out (by omega) (key+1) (by omega) hn2
     exact S3
end
section
attribute [local go_sem ↓] Go.wp_at_zero Go.wp_at_succ
theorem I6{B N:Nat}{w:World}{P Q R:Nat→Prop}{A:EA}{Ke:EK}{S:SA}{nx:Value}{X:Cx}(h:CX B w P Q R A Ke S nx X)(hN:Ax N X)(hB9:N+65≤100000000)(key:Nat)(hk:key≤64):
 Calls Tryz.prog 105 #[bp A.e,bp S.t,bp S.c,key] w (Ak B w P Q R A Ke S nx (E8 X key).1 (some (E8 X key).2)):=
 La (65-key) h hN (by omega) key (by omega) (by omega)
theorem QI{B N:Nat}{w:World}{P Q R:Nat→Prop}{A:EA}{Ke:EK}{S:SA}{nx:Value}{X:Cx}(h:CX B w P Q R A Ke S nx X)(hN:Ax N X)(hB9:N+70≤100000000)(key:Nat)(hk9:key<64)(hkey:Nat)(at_ l:Int)(hl:AM X.sh.slots l){t k f e c tc tk:Nat}(ht:An w P Q R t 96 #[bp S.t])(hk:An w P Q R k 3 #[.int .i64 (key:Int)])(hf:An w P Q R f 255 #[.func (.func 132) #[] #[bp tc,bp tk]])(htc:bC w P Q R S tc)(htk:bI w P Q R tk key)(he:An w P Q R e 39 #[bp A.e])(hc:An w P Q R c 101 #[bp S.c]):
 Calls Tryz.prog 133 #[.int .u64 l,bp t,bp k,bp f,bp e,bp c] w (Ak B w P Q R A Ke S nx (Ca X ⟨hkey,at_,.scan key⟩ l).1 (some (Ca X ⟨hkey,at_,.scan key⟩ l).2)):=by
 have hrl:=hN.tx.rlen
 have HF:=Aa (hN.read hk9 l false)
 have CR:=FX h (by omega) key l false
 have HR0:=Aa (show Ca X ⟨hkey,at_,.scan key⟩ l=E8 (if l≠0 then(X.read key l false).tell (X.val l).2 key else X.read key l false) (key+1) from rfl)
 have ct:=ht.c0
 have ck:=hk.c0
 have cf:=hf.c0
 have ce:=he.c0
 have cc:=hc.c0
 have HL:=Aa hl
 have hpl:=hN.cl.plen
 have ei:IntKind.i64.wrap ((key:Int)+1)=((key+1:Nat):Int):=by rw[IntKind.wrap_i64];omega
 clear h hN hl
 by_cases h0:l=0
 ·skip
  have HR:Hid (Ca X ⟨hkey,at_,.scan key⟩ l=E8 (X.read key l false) (key+1)):=Aa (by rw[HR0.out,if_neg (fun x=>x h0)])
  subst h0
  clear HR0
  go_enter Tryz.func133,Tryz.ntmps133
  go_wp2_with fail
  refine CR.mono ?_
  rintro e1 w1 ⟨rfl,Q1,S1,h1,m1,k1,x1,q1,c1⟩
  have HC:=Aa h1
  have M:=m1
  have HK:=Aa k1
  have ft:=ht.move m1
  have ct:=ft.c0
  have fk:=hk.move m1
  have ck:=fk.c0
  have ff:=hf.move m1
  have cf:=ff.c0
  have fe:=he.move m1
  have ce:=fe.c0
  have fc:=hc.move m1
  have cc:=fc.c0
  have ftc:=htc.mv m1 k1
  have ftk:=htk.mv m1
  clear h1 m1 CR
  have CE:=I6 HC.out HF.out (by omega) (key+1) (by omega)
  rw[HK.out.t,HK.out.c]at CE
  go_wp2_with fail
  refine CE.mono ?_
  rintro e8 w8 r8
  obtain⟨v8,rfl⟩:=r8.ret
  have HS:=Aa (r8.comp M HK.out)
  clear r8 CE
  go_wp2_with fail
  go_ret
  rw[HR.out]
  exact HS.out
 ·skip
  have HR:Hid (Ca X ⟨hkey,at_,.scan key⟩ l=E8 ((X.read key l false).tell (X.val l).2 key) (key+1)):=Aa (by rw[HR0.out,if_pos h0])
  have b0:(l==0)=false:=by simpa using h0
  have b1:(l != 0)=true:=by simpa using h0
  clear HR0
  go_enter Tryz.func133,Tryz.ntmps133
  go_wp2_with fail
  refine CR.mono ?_
  rintro e1 w1 ⟨rfl,Q1,S1,h1,m1,k1,x1,q1,c1⟩
  have HC:=Aa h1
  have M:=m1
  have HK:=Aa k1
  have ft:=ht.move m1
  have ct:=ft.c0
  have fk:=hk.move m1
  have ck:=fk.c0
  have ff:=hf.move m1
  have cf:=ff.c0
  have fe:=he.move m1
  have ce:=fe.c0
  have fc:=hc.move m1
  have cc:=fc.c0
  have ftc:=htc.mv m1 k1
  have ftk:=htk.mv m1
  clear h1 m1 CR
  obtain⟨i1,i2⟩:=HF.out.ix HL.out h0
  have v1:=HC.out.drew.val1 i1
  have D1:=Fz HC.out.drew HF.out l HL.out h0
  obtain⟨vv,hvv⟩:=Aq ((X.val l).2)
  have hv2:((X.read key l false).sh.vals.getD (A5 l).toNat (0,0)).2=vv:=hvv
  rw[hv2]at v1
  rw[hvv]at HR
  have HVV:Hid (∀(wz:World) (Pz Qz:Nat→Prop) (Sz:SA),CX B wz Pz Qz R A Ke Sz nx ((X.read key l false).tell vv key)→wz.cell? ⟨A.v,(A5 l).toNat*2+1,none⟩=some (.int .i64 vv)):=Aa (fun wz Pz Qz Sz hz=>by have q:=hz.val1 (show(A5 l).toNat<((X.read key l false).tell vv key).sh.vals.length from i1);rw[show(((X.read key l false).tell vv key).sh.vals.getD (A5 l).toNat (0,0)).2=vv from hvv]at q;exact q)
  have od:=(Ac.refl w1).drew
  have md:=Ag.only0 P Q1 od
  have MD:=M.trans md
  have yt:=ft.move md
  have ct4:=yt.c0
  have yk:=fk.move md
  have ck4:=yk.c0
  have yf:=ff.move md
  have cf4:=yf.c0
  have ye:=fe.move md
  have ce4:=ye.c0
  have yc:=fc.move md
  have cc4:=yc.c0
  have ytc:=ftc.mv md (At.refl A S1)
  have ytk:=ftk.mv md
  have CT:=JU HC.out.drew (by show X.c.r.pairs.length≤_;omega) vv key ytc ytk
  have HNT:=Aa (HF.out.tell vv key)
  generalize(A5 l).toNat=iv at *
  clear i1 i2 hvv hv2
  go_wp2_with fail
  go_upto_region 3 with(fail)
  refine wp_region_held_drew (S:=(fun w'=>Ab w' f 0 (.func (.func 132) #[] #[bp tc,bp tk])∧Ab w' e 0 (bp A.e)∧Ab w' A.v (iv*2+1) (.int .i64 vv))) (by kernel_rfl) ?_ (fun hHeld=>?_)
  ·exact⟨cf4,ce4,v1⟩
  refine Af 0 (h:=Af 1 (h:=Af 2 (h:=Ar (i:=3) (h:=fun K hK=>?_))))
  go_simp
  (refine D1.mono ?_;rintro e1 w2 ⟨rfl,rfl⟩)
  try go_wp2_with fail
  refine AK hK (by exact⟨cf4,ce4,v1⟩) (h:=fun hHeld=>?_);clear hK K
  refine Af 4 (h:=Af 5 (h:=Af 6 (h:=Ar (i:=7) (h:=fun K hK=>?_))))
  go_simp
  (refine CT.mono ?_;rintro e9 w9 ⟨rfl,Q9,S9,h9,m9,k9,x9⟩;have H9:=Aa h9;have M9:=MD.trans m9;have K9:=Aa (HK.out.trans k9);have Ze:=ye.move m9;have Zt:=yt.move m9;have Zc:=yc.move m9;have Zk:=yk.move m9;have Zf:=yf.move m9;have ce4:=Ze.c0;have cf4:=Zf.c0;have ct5:=Zt.c0;have cc5:=Zc.c0;have ck5:=Zk.c0;have v1:=HVV.out _ _ _ _ h9;clear h9 m9 k9 x9)
  try go_wp2_with fail
  refine AK hK (by exact⟨cf4,ce4,v1⟩) (h:=fun hHeld=>?_);clear hK K
  refine wpAnyH_done (by kernel_rfl) ?_ _
  skip
  have CE:=I6 H9.out HNT.out (by omega) (key+1) (by omega)
  exact S3
def BG(X:Cx)(key:Nat):Rz→Prop
 | .get=>key<64
 | .scan ky=>ky<64
 | .change=>key<64
 | .judge i _=>i<X.t.reads.length
theorem GZ{B N:Nat}{w:World}{P Q R:Nat→Prop}{A:EA}{Ke:EK}{S:SA}{nx:Value}{X:Cx}(h:CX B w P Q R A Ke S nx X)(hN:Ax N X)(hB9:N+70≤100000000)(u:Cd)(hu:BG X u.key u.thn){tv:Value}(hT:FY w P Q R A S u.key u.thn tv)(l:Int)(hl:AM X.sh.slots l):
 ∃F cap,tv= .func (.func F) #[] cap∧(∀(l:Int) (wz:World),(callFunc F (#[.int .u64 l]++cap)).run Tryz.prog wz= .ok (.enter F (#[.int .u64 l]++cap)) wz)∧Calls Tryz.prog F (#[.int .u64 l]++cap) w (Ak B w P Q R A Ke S nx (Ca X u l).1 (some (Ca X u l).2)):=by
 obtain⟨key,at_,thn⟩:=u
 cases thn with
 |get=>
  obtain⟨t,k,e,c,h1,h2,h3,h4,h5⟩:=hT
  exact⟨_,_,h1,fun l wz=>by kernel_rfl,RM h hN (by omega) key hu at_ l hl h2 h3 h4 h5⟩
 |scan ky=>
  obtain⟨t,k,f,e,c,tc,tk,h1,h2,h3,h4,h5,h6,h7,h8⟩:=hT
  exact⟨_,_,h1,fun l wz=>by kernel_rfl,QI h hN hB9 ky hu key at_ l hl h2 h3 h4 h5 h6 h7 h8⟩
 |change=>
  obtain⟨c,t,k,e,h1,h2,h3,h4,h5⟩:=hT
  exact⟨_,_,h1,fun l wz=>by kernel_rfl,Mh h hN (by omega) key hu at_ l h2 h3 h4 h5⟩
 |judge i lk=>
  obtain⟨r,e,t,c,k,y,g,h1,h2,h3,h4,h5,h6⟩:=hT
  exact⟨_,_,h1,fun l wz=>by kernel_rfl,OD h hN (by omega) key at_ l lk i hu h2 h3 h4 h5 h6⟩
end
section
def DR(v:Int):Prop:=0≤v∧v<18446744073709551616
def Ef(v:Int):Prop:=0≤v∧v≤65535
def BN(n l:Int):Prop:=AM n l∧l≠0
def Hq(n:Int)(x:Cs):Prop:=(∃i:Nat,(i:Int)<n∧(x.at_=73+i*3∨x.at_=73+i*3+1))∧DR x.old∧DR x.new
def BE(X:Cx)(u:Cd):Prop:=BG X u.key u.thn∧u.key<64
def Gp(t:Int):Prop:=0≤t∧t<1099511627776
def Bt(X:Cx):Da→Prop
 | .draw=>True
 | .turn w now=>DR w∧Gp now
 | .helped=>True
 | .help w now=>DR w∧Gp now
 | .start u=>BE X u
 | .visit u l=>BE X u∧BN X.sh.slots l
 | .older u l=>BE X u∧BN X.sh.slots l
 | .maker u l id=>BE X u∧BN X.sh.slots l∧Ef id
 | .ended u l m=>BE X u∧BN X.sh.slots l∧Ef m
 | .ender u l m id=>BE X u∧BN X.sh.slots l∧Ef m∧Ef id
 | .seen u l m=>BE X u∧BN X.sh.slots l∧Ef m
 | .wait i=>i<X.t.bonds.length
 | .commit=>True
 | .abort _ _=>True
 | .turns l r=>(∀x,x∈l→Hq X.sh.slots x)∧l.length≤100000000∧(r.over=3∨r.over=4)∧r.pairs=[]
 | .ends r=>r.over=0∧(r.pairs=[]∨r.pairs=X.c.r.pairs)
 | .again fin=>DR fin∧∃x,X.t.cells X.key=some x∧x.own≠0
 | .own l=>BN X.sh.slots l
 | .own2 l w id=>BN X.sh.slots l∧DR w∧Ef id
 | .claim l w=>BN X.sh.slots l∧DR w
 | .fresh l=>AM X.sh.slots l
 | .free1 l hd at_=>AM X.sh.slots l∧AM X.sh.slots hd∧BN X.sh.slots at_
 | .free2 l hd at_ id=>AM X.sh.slots l∧AM X.sh.slots hd∧BN X.sh.slots at_∧Ef id
 | .freeN l hd at_=>AM X.sh.slots l∧AM X.sh.slots hd∧BN X.sh.slots at_
 | .slot1 x l hd=>BN X.sh.slots l∧AM X.sh.slots hd∧(x=true→(X.t.cells X.key).isSome)
 | .slot2 x l hd=>BN X.sh.slots l∧AM X.sh.slots hd∧(x=true→(X.t.cells X.key).isSome)
 | .push1 l hd=>BN X.sh.slots l∧AM X.sh.slots hd
 | .push2 l hd=>BN X.sh.slots l∧AM X.sh.slots hd
 | .over1 l=>BN X.sh.slots l∧(X.t.cells X.key).isSome
 | .over2 l hd=>BN X.sh.slots l∧AM X.sh.slots hd∧(X.t.cells X.key).isSome
 | .over3 l hd=>BN X.sh.slots l∧AM X.sh.slots hd∧(X.t.cells X.key).isSome
theorem AS.store_len(s:AS)(i v:Int):(s.store i v).ws.length=s.ws.length:=by unfold AS.store;split<;>simp
theorem AS.cas_len(s:AS)(i o v:Int):(s.cas i o v).ws.length=s.ws.length:=by
 unfold AS.cas AS.tick;split
 ·exact AS.store_len _ _ _
 ·split<;>rfl
theorem AS.tick_ws(s:AS)(i:Int):(s.tick i).ws=s.ws:=by unfold AS.tick;split<;>rfl
theorem AS.store_get(s:AS)(i v:Int)(j:Nat):(s.store i v).ws.getD j 0=s.ws.getD j 0∨(i=j∧(s.store i v).ws.getD j 0=v):=by
 unfold AS.store
 split
 ·next h=>
  unfold AS.on at h
  simp only[Bool.and_eq_true,decide_eq_true_eq]at h
  show(s.ws.set i.toNat v).getD j 0=_∨_
  rw[List.getD_eq_getElem?_getD,List.getElem?_set]
  by_cases e:i.toNat=j
  ·right
   refine⟨by omega,?_⟩
   rw[if_pos e,if_pos (by omega)];rfl
  ·left
   rw[if_neg e,←List.getD_eq_getElem?_getD]
 ·exact .inl rfl
theorem AS.cas_get(s:AS)(i o v:Int)(j:Nat):(s.cas i o v).ws.getD j 0=s.ws.getD j 0∨(i=j∧(s.cas i o v).ws.getD j 0=v):=by
 unfold AS.cas
 split
 ·exact AS.store_get s i v j
 ·rw[AS.tick_ws];exact .inl rfl
def AZ(s s':AS):Prop:=s'.cnt=s.cnt∨s'.cnt=RowKit.wrap64 (s.cnt+1)
theorem AZ.tick(s:AS)(i:Int):AZ s (s.tick i):=by unfold AZ AS.tick;split<;>simp
theorem AZ.store(s:AS)(i v:Int):AZ s (s.store i v):=by unfold AZ AS.store;split<;>simp
theorem AZ.cas(s:AS)(i o v:Int):AZ s (s.cas i o v):=by
 unfold AS.cas;split
 ·exact AZ.store _ _ _
 ·exact AZ.tick _ _
structure Bv(n:Int)(i v:Int):Prop where
 r:DR v
 head:∀k:Nat,k<64→i=9+k→AM n v
 next:∀j:Nat,(j:Int)<n→i=73+j*3+2→AM n v
theorem AW.ws{N:Nat}{s:Sh}(h:AW N s){a:AS}(hl:a.ws.length=s.a.ws.length){i v:Int}(hv:Bv s.slots i v)(hg:∀j:Nat,a.ws.getD j 0=s.a.ws.getD j 0∨(i=j∧a.ws.getD j 0=v)):AW N {s with a:=a}:=by
 refine⟨h.n1,h.n2,h.l1,h.l2,?_,fun j=>?_,h.vlen,h.plen,h.tags,h.free,h.flen,h.worn,h.tlen,fun k hk=>?_,fun j hj=>?_⟩
 ·rw[show({s with a:=a}:Sh).a.ws.length=s.a.ws.length from hl];exact h.alen
 ·rcases hg j with e|⟨_,e⟩
  ·rw[e];exact h.word j
  ·rw[e];exact hv.r
 ·rcases hg (9+k)with e|⟨e1,e⟩
  ·rw[e];exact h.head k hk
  ·rw[e];exact hv.head k hk (by omega)
 ·rcases hg (73+j*3+2)with e|⟨e1,e⟩
  ·rw[e];exact h.next j hj
  ·rw[e];exact hv.next j (by rw[←h.vlen];exact Int.ofNat_lt.2 hj) (by omega)
theorem Ax.store{N:Nat}{X:Cx}(h:Ax N X){i v:Int}(hv:Bv X.sh.slots i v):Ax N (X.setA (X.sh.a.store i v)):=⟨h.sh.ws (AS.store_len _ _ _) hv (AS.store_get _ _ _),h.tx,h.cl⟩
theorem Ax.cas{N:Nat}{X:Cx}(h:Ax N X){i o v:Int}(hv:Bv X.sh.slots i v):Ax N (X.setA (X.sh.a.cas i o v)):=⟨h.sh.ws (AS.cas_len _ _ _ _) hv (AS.cas_get _ _ _ _),h.tx,h.cl⟩
theorem BN.ix{n l:Int}(h:BN n l):0≤A5 l∧A5 l<n:=by
 rcases h.1.2.2 with e|e
 ·exact absurd e h.2
 ·exact e
theorem Bv.slot{n l f v:Int}(h:BN n l)(hf:f=0∨f=1)(hv:DR v):Bv n (Al l f) v:=by
 have h1:=h.ix
 refine⟨hv,fun k hk e=>?_,fun j hj e=>?_⟩<;>unfold Al at e<;>omega
theorem Bv.slot2{n l v:Int}(h:BN n l)(hv:AM n v):Bv n (Al l 2) v:=⟨⟨hv.1,hv.2.1⟩,fun _ _ _=>hv,fun _ _ _=>hv⟩
theorem Bv.hd9{n k v:Int}(hv:AM n v):Bv n (9+k) v:=⟨⟨hv.1,hv.2.1⟩,fun _ _ _=>hv,fun _ _ _=>hv⟩
theorem Bv.low{n i v:Int}(h:i≤8)(hv:DR v):Bv n i v:=⟨hv,fun k hk e=>by omega,fun j hj e=>by omega⟩
theorem Bv.place{X:Cx}{id v:Int}(h0:0≤X.sh.slots)(h:0≤id)(hv:DR v):Bv X.sh.slots (X.place id) v:=by
 refine⟨hv,fun k hk e=>?_,fun j hj e=>?_⟩<;>unfold Cx.place at e<;>omega
theorem DR.pack{s f:Int}(s0:0≤s)(s1:s≤7)(f0:0≤f)(f1:f<2305843009213693952):DR (Bc s f):=by unfold Bc DR;omega
theorem DR.mine{id:Int}(h:id≤65535):DR (BA id):=by unfold BA DR;split<;>omega
theorem DR.ever:DR Bj:=by unfold Bj DR;omega
theorem DR.time{t:Int}(h:0≤t):DR (Es t):=by unfold Es DR;split<;>omega
theorem Ax.load{N:Nat}{X:Cx}(h:Ax N X)(i:Int):DR (X.sh.a.load i):=AG h.sh.word i
theorem Ax.ev{N:Nat}{X:Cx}(h:Ax N X)(e:Ev):Ax (N+1) (X.ev e):=by
 have H:=h.sh.mono (M:=N+1) (by omega)
 refine⟨⟨H.n1,H.n2,H.l1,H.l2,H.alen,H.word,H.vlen,H.plen,H.tags,H.free,H.flen,H.worn,?_,H.head,H.next⟩,h.tx.mono (by omega),h.cl.mono (by omega)⟩
 exact SD
theorem Ax.setVal{N:Nat}{X:Cx}(h:Ax N X)(l:Int)(v:Nat×Int):Ax N (X.setVal l v):=by
 have H:=h.sh
 have e:(X.sh.vals.set (A5 l).toNat v).length=X.sh.vals.length:=by simp
 exact⟨⟨H.n1,H.n2,H.l1,H.l2,H.alen,H.word,by show(((X.sh.vals.set _ v).length:Nat):Int)=_;rw[e];exact H.vlen,by show _=(X.sh.vals.set _ v).length;rw[e];exact H.plen,H.tags,by show ∀i,_→i<(X.sh.vals.set _ v).length;rw[e];exact H.free,H.flen,H.worn,H.tlen,H.head,by show ∀i,i<(X.sh.vals.set _ v).length→_;rw[e];exact H.next⟩,h.tx,h.cl⟩
theorem Ax.over{N:Nat}{X:Cx}(h:Ax N X)(e:Ev):Ax (N+1) (X.over e):=by
 unfold Cx.over
 split
 ·exact h.mono (by omega)
 ·have T:=h.tx
  exact Ax.ev (X:=X.setT {X.t with over:=true}) ⟨h.sh,⟨T.id1,T.id2,T.lv,T.s1,T.beg,T.fin,T.klen,T.rlen,T.blen,T.keys,T.cell,T.read,T.bond⟩,h.cl⟩ e
theorem Ax.finish{N:Nat}{X:Cx}(h:Ax N X)(r:Dt)(hr:r.pairs=[]∨r.pairs=X.c.r.pairs):Ax N (X.finish r):=by
 refine⟨h.sh,h.tx,⟨h.cl.key,h.cl.hi,h.cl.val,?_⟩⟩
 show r.pairs.length≤N
 rcases hr with e|e
 ·rw[e];simp
 ·rw[e];exact h.cl.plen
theorem Ax.setCell{N:Nat}{X:Cx}(h:Ax N X){x:Dh}(h1:AM X.sh.slots x.own)(h2:AM X.sh.slots x.old)(h3:x.there=true→x.own≠0)(k:Nat)(hk:k<64):Ax N (X.setCell k x):=by
 have T:=h.tx
 refine⟨h.sh,⟨T.id1,T.id2,T.lv,T.s1,T.beg,T.fin,T.klen,T.rlen,T.blen,fun j hj=>?_,fun j y hj=>?_,T.read,T.bond⟩,h.cl⟩
 ·show(AT X.t.cells k (some x) j).isSome
  by_cases e:j=k
  ·subst e;rw[Au];rfl
  ·rw[Ap _ _ _ e];exact T.keys j hj
 ·have hj':AT X.t.cells k (some x) j=some y:=hj
  by_cases e:j=k
  ·subst e;rw[Au]at hj';cases hj';exact⟨hk,h1,h2,h3⟩
  ·rw[Ap _ _ _ e]at hj';exact T.cell j y hj'
theorem Ax.take{N:Nat}{X:Cx}(h:Ax N X){x:Dh}(h1:AM X.sh.slots x.own)(h2:AM X.sh.slots x.old)(h3:x.there=true→x.own≠0)(k:Nat)(hk:k<64):Ax (N+1) (X.take k x):=by
 have T:=(h.setCell h1 h2 h3 k hk).tx
 have T2:=T.mono (M:=N+1) (by omega)
 refine⟨h.sh.mono (by omega),⟨T2.id1,T2.id2,T2.lv,T2.s1,T2.beg,T2.fin,?_,T2.rlen,T2.blen,fun j hj=>?_,T2.cell,T2.read,T2.bond⟩,h.cl.mono (by omega)⟩
 ·show(X.t.keys++[k]).length≤N+1
  have:=h.tx.klen
  rw[List.length_append,List.length_singleton];omega
 ·have hj':j∈X.t.keys++[k]:=hj
  rcases List.mem_append.1 hj' with e|e
  ·exact T.keys j e
  ·simp at e;subst e
   show(AT X.t.cells j (some x) j).isSome
   rw[Au];rfl
theorem Ax.key{N:Nat}{X:Cx}(h:Ax N X):X.key<64:=by
 have:=h.cl.key;unfold Cx.key;omega
theorem Ax.helpW{N:Nat}{X:Cx}(h:Ax N X){w:Int}(hw:DR w):Ax N (X.helpW w):=by
 unfold DR at hw
 unfold Cx.helpW
 refine h.cas (Bv.place (by have:=h.sh.n1;omega) (by omega) (DR.pack (by omega) (by omega) (by omega) (by omega)))
structure Dx(N:Nat)(n:Nat)(p:AP):Prop where
 plen:p.slots.length=n
 tags:∀i,0≤(p.slots.getD i (0,false)).1∧(p.slots.getD i (0,false)).1≤65535
 free:∀i,i∈p.free→i<n
 flen:p.free.length≤N
 worn:0≤p.worn∧p.worn≤N
theorem AW.pl{N:Nat}{s:Sh}(h:AW N s):Dx N s.vals.length s.p:=⟨h.plen,h.tags,h.free,h.flen,h.worn⟩
theorem Dx.mono{N M n:Nat}{p:AP}(h:Dx N n p)(hm:N≤M):Dx M n p:=⟨h.plen,h.tags,h.free,Nat.le_trans h.flen hm,h.worn.1,by have:=h.worn.2;omega⟩
theorem Ax.setP{N:Nat}{X:Cx}(h:Ax N X){p:AP}(hp:Dx N X.sh.vals.length p):Ax N (X.setP p):=by
 have H:=h.sh
 exact⟨⟨H.n1,H.n2,H.l1,H.l2,H.alen,H.word,H.vlen,hp.plen,hp.tags,hp.free,hp.flen,hp.worn,H.tlen,H.head,H.next⟩,h.tx,h.cl⟩
theorem Hv:∀(n i:Nat),i∈Cn n→i<n
 |0,i,h=>by cases h
 |n+1,i,h=>by
  rcases List.mem_cons.1 h with e|e
  ·omega
  ·have:=Hv n i e;omega
theorem ET:∀n:Nat,(Cn n).length=n
 |0=>rfl
 |n+1=>by show(Cn n).length+1=_;rw[ET n]
theorem Dx.ready{N n:Nat}{p:AP}(h:Dx N n p)(hn:n≤N):Dx N n p.ready:=by
 unfold AP.ready
 split
 ·exact h
 ·exact⟨h.plen,h.tags,fun i hi=>by rw[←h.plen];exact Hv _ _ hi,by show(Cn _).length≤N;rw[ET,h.plen];exact hn,h.worn⟩
theorem ED{l:List (Int×Bool)}{i:Nat}{v:Int×Bool}(j:Nat):(l.set i v).getD j (0,false)=l.getD j (0,false)∨(l.set i v).getD j (0,false)=v:=by
 rw[List.getD_eq_getElem?_getD,List.getElem?_set]
 by_cases e:i=j
 ·rw[if_pos e]
  split
  ·exact .inr rfl
  ·left;rw[List.getD_eq_getElem?_getD,List.getElem?_eq_none (by omega)]
 ·rw[if_neg e,←List.getD_eq_getElem?_getD];exact .inl rfl
theorem Ku(p:AP):p.ready.slots=p.slots:=by unfold AP.ready;split<;>rfl
theorem Nu{n:Nat}{i:Nat}{tag:Int}(hi:i<n)(hn:n≤256)(h0:0≤tag)(h1:tag≤65535):BN n (Gf i tag):=by
 have e:Gf i tag=tag*131072+(i+1):=by unfold Gf;rw[if_neg (by omega)]
 rw[e]
 refine⟨⟨by omega,by omega,.inr ?_⟩,by omega⟩
 unfold A5
 omega
theorem Dx.take{N n:Nat}{p:AP}(h:Dx N n p)(hn:n≤N)(hn2:n≤256):Dx N n p.take.2.2∧(p.take.2.1=0→BN n p.take.1)∧(p.take.2.1≠0→p.take.1=0∧p.take.2.1=15):=by
 have hr:=h.ready hn
 unfold AP.take
 cases hl:p.ready.free.getLast? with
 |none=>exact⟨hr,fun e=>by simp at e,fun _=>⟨rfl,rfl⟩⟩
 |some i=>
  have hi:i<n:=hr.free i (List.mem_of_getLast? hl)
  refine⟨⟨?_,fun j=>?_,fun j hj=>hr.free j (List.dropLast_subset _ hj),?_,hr.worn⟩,fun _=>Nu hi hn2 (h.tags i).1 (h.tags i).2,fun e=>absurd rfl e⟩
  ·show(p.slots.set i _).length=n
   rw[List.length_set];exact h.plen
  ·show 0≤((p.slots.set i _).getD j (0,false)).1∧_
   rcases ED (l:=p.slots) (i:=i) (v:=((p.slots.getD i (0,false)).1,true)) j with e|e
   ·rw[e];exact h.tags j
   ·rw[e];exact h.tags i
  ·show p.ready.free.dropLast.length≤N
   have:=hr.flen
   rw[List.length_dropLast];omega
theorem Dx.give{N n:Nat}{p:AP}(h:Dx N n p)(l:Int):Dx (N+1) n (p.give l):=by
 unfold AP.give
 split
 ·next hl=>
  unfold AP.live at hl
  simp only[Bool.and_eq_true,decide_eq_true_eq]at hl
  have hi:(A5 l).toNat<n:=by rw[←h.plen];omega
  have hm:=h.mono (M:=N+1) (by omega)
  split
  ·refine⟨by show(p.slots.set _ _).length=n;rw[List.length_set];exact h.plen,fun j=>?_,hm.free,hm.flen,?_⟩
   ·rcases ED (l:=p.slots) (i:=(A5 l).toNat) (v:=(65535,false)) j with e|e
    ·exact Uy
    ·show 0≤((p.slots.set _ _).getD j (0,false)).1∧_
     rw[e];exact⟨by simp,by simp⟩
   ·show 0≤p.worn+1∧p.worn+1≤((N+1:Nat):Int)
    have:=h.worn;omega
  ·next ht=>
   have htag:=h.tags (A5 l).toNat
   refine⟨by show(p.slots.set _ _).length=n;rw[List.length_set];exact h.plen,fun j=>?_,fun j hj=>?_,?_,hm.worn⟩
   ·rcases ED (l:=p.slots) (i:=(A5 l).toNat) (v:=((p.slots.getD (A5 l).toNat (0,false)).1+1,false)) j with e|e
    ·exact Uy
    ·show 0≤((p.slots.set _ _).getD j (0,false)).1∧_
     rw[e]
     show 0≤(p.slots.getD (A5 l).toNat (0,false)).1+1∧(p.slots.getD (A5 l).toNat (0,false)).1+1≤65535
     omega
   ·have hj':j∈p.free++[(A5 l).toNat]:=hj
    rcases List.mem_append.1 hj' with e|e
    ·exact h.free j e
    ·simp at e;rw[e];exact hi
   ·show(p.free++[_]).length≤N+1
    have:=h.flen
    rw[List.length_append,List.length_singleton];omega
 ·exact h.mono (by omega)
end
section
attribute [local go_sem ↓] Go.wp_at_zero Go.wp_at_succ
def SI(A:EA)(p:AP):Nat→Prop:=fun b=>b=A.p∨b=A.ps∨AA (.slice A.fa p.free.length A.fc) b
structure Bq(B:Nat)(w:World)(A:EA)(p p':AP)(w':World)(fa:Option Addr)(fc:Nat):Prop where
 at_:A_ B w' {A with fa:=fa,fc:=fc} p'
 o:Ah (SI A p) w w'
 t:Aw [186,228,3] w w'
 grew:∀b,AA (.slice fa p'.free.length fc) b→AA (.slice A.fa p.free.length A.fc) b∨w.heap.size≤b
theorem QY{a:Option Addr}{n m c d:Nat}{b:Nat}(h:AA (.slice a n c) b):AA (.slice a m d) b:=by
 unfold AA Value.ownBlock at *
 cases a<;>exact h
section
variable {B:Nat} {w w':World} {P Q R:Nat→Prop} {A:EA} {K:EK} {S:SA} {nx:Value} {X:Cx}
theorem CX.pool(h:CX B w P Q R A K S nx X){p':AP}{fa:Option Addr}{fc:Nat}(q:Bq B w A X.sh.p p' w' fa fc):
 ∃P' A',CX B w' P' Q R A' K S nx (X.setP p')∧Ag w w' P Q P' Q∧At A A' S S:=by
 have hPB:∀b,SI A X.sh.p b→P b:=by
  exact UJ
 have hrl:=fun b hb=>(q.at_.free).lt b hb
 have gp:AC w.heap.size P (fun b=>P b∨AA (.slice fa p'.free.length fc) b):=by
  exact RW
 have m:Ag w w' P Q (fun b=>P b∨AA (.slice fa p'.free.length fc) b) Q:=⟨q.o.mono (fun b _ hb=> .inl (hPB b hb)),gp,AC.refl _ _⟩
 have oP:Ah P w w':=q.o.mono (fun b _ hb=>hPB b hb)
 refine⟨_,{A with fa:=fa,fc:=fc},⟨⟨?_,?_,?_,?_,?_,.inl h.sh.pe,⟨.inl h.sh.pa.1,.inl h.sh.pa.2⟩,⟨.inl h.sh.pp.1,.inl h.sh.pp.2⟩,fun b hb=> .inr hb,.inl h.sh.pv,fun b hb=> .inl (h.sh.pt b hb)⟩,?_,?_,?_,?_,h.uQ.mono m.o.size,?_,h.aQ,h.uR.mono m.o.size,fun i hi=>(h.prs i hi).move m⟩,m,⟨rfl,rfl,rfl,rfl,rfl⟩⟩
 ·exact h.sh.eng.ty q.t (by decide)
 ·exact h.sh.ar.ty q.t (by decide) (by decide)
 ·exact q.at_
 ·exact h.sh.vals.ty q.t (by decide)
 ·exact AO h.sh.tale q.t (by decide)
 ·exact h.tx.far oP (fun b hq hp=>h.ap b hp hq)
 ·exact h.cl.far oP (fun b hq hp=>h.ap b hp hq)
 ·rintro b (hb|hb) hq
  ·exact h.ap b hb hq
  ·rcases q.grew b hb with e|e
   ·exact h.ap b (h.sh.pf b e) hq
   ·have:=h.uQ b hq;omega
 ·exact UP
 ·rintro b (hb|hb)
  ·exact h.aP b hb
  ·exact(hrl b hb).1
end
theorem Gu(l:List (Int×Bool)){i:Nat}(hi:i<l.length):(CU l)[i*2]? =some (.int .i64 (l.getD i (0,false)).1)∧(CU l)[i*2+1]? =some (.bool (l.getD i (0,false)).2):=
 ⟨Bu (w:=2) (fun i=>rfl) _ i 0 hi (by decide),Bu (w:=2) (fun i=>rfl) _ i 1 hi (by decide)⟩
theorem Bm{α:Type}(l:List α)(i:Nat)(v d:α)(hi:i<l.length):(l.set i v).getD i d=v:=by
 rw[List.getD_eq_getElem?_getD,List.getElem?_set,if_pos rfl,if_pos hi];rfl
theorem B_{α:Type}(l:List α)(i j:Nat)(v d:α)(h:j≠i):(l.set i v).getD j d=l.getD j d:=by
 rw[List.getD_eq_getElem?_getD,List.getElem?_set,if_neg (fun e=>h e.symm),←List.getD_eq_getElem?_getD]
theorem Lb(l:List (Int×Bool)){i:Nat}(hi:i<l.length)(t:Int):(CU l).set (i*2) (.int .i64 t)=CU (l.set i (t,(l.getD i (0,false)).2)):=by
 unfold CU
 rw[List.length_set]
 have:=Eh (w:=2) (c:=fun i=>[Value.int .i64 (l.getD i (0,false)).1,.bool (l.getD i (0,false)).2]) (c':=fun k=>[Value.int .i64 ((l.set i (t,(l.getD i (0,false)).2)).getD k (0,false)).1,.bool ((l.set i (t,(l.getD i (0,false)).2)).getD k (0,false)).2]) (n:=l.length) (i:=i) (f:=0) (v:= .int .i64 t) (fun i=>rfl) hi (by decide) (fun k hk e=>by simp only[B_ l i k _ _ e]) (by simp only[Bm l i _ _ hi];rfl) (fun i=>rfl)
 exact this
theorem Ii(l:List (Int×Bool)){i:Nat}(hi:i<l.length)(t:Bool):(CU l).set (i*2+1) (.bool t)=CU (l.set i ((l.getD i (0,false)).1,t)):=by
 unfold CU
 rw[List.length_set]
 have:=Eh (w:=2) (c:=fun i=>[Value.int .i64 (l.getD i (0,false)).1,.bool (l.getD i (0,false)).2]) (c':=fun k=>[Value.int .i64 ((l.set i ((l.getD i (0,false)).1,t)).getD k (0,false)).1,.bool ((l.set i ((l.getD i (0,false)).1,t)).getD k (0,false)).2]) (n:=l.length) (i:=i) (f:=1) (v:= .bool t) (fun i=>rfl) hi (by decide) (fun k hk e=>by simp only[B_ l i k _ _ e]) (by simp only[Bm l i _ _ hi];rfl) (fun i=>rfl)
 exact this
section
variable {B:Nat} {w w':World} {A:EA} {p:AP}
theorem A_.s0(h:A_ B w A p):w.cell? ⟨A.p,0,none⟩=some (.slice (some (DP A.ps)) p.slots.length p.slots.length):=h.blk.cell 0
theorem A_.tag(h:A_ B w A p){i:Nat}(hi:i<p.slots.length):w.cell? ⟨A.ps,i*2,none⟩=some (.int .i64 (p.slots.getD i (0,false)).1):=by
 rw[h.slots.cell];simpa using(Gu p.slots hi).1
theorem A_.tkn(h:A_ B w A p){i:Nat}(hi:i<p.slots.length):w.cell? ⟨A.ps,i*2+1,none⟩=some (.bool (p.slots.getD i (0,false)).2):=by
 rw[h.slots.cell];simpa using(Gu p.slots hi).2
theorem A_.ne(h:A_ B w A p):A.p≠A.ps:=h.blk.ne h.slots (by decide)
theorem A_.only0(h:A_ B w A p)(o:Ac w w'):A_ B w' A p:=h.ty (Aw.zero o []) (by simp) (by simp) (by simp)
end
theorem Ll{B:Nat}{w:World}{A:EA}{p:AP}(h:A_ B w A p)(i:Nat)(hi:i<p.slots.length)(hn:p.slots.length≤256)(ht:0≤(p.slots.getD i (0,false)).1∧(p.slots.getD i (0,false)).1≤65535):
 Calls Tryz.prog 148 #[bp A.p,i] w fun e w'=>e= .returned (.int .u64 (p.link i))∧w=w':=by
 have c0:=h.s0
 have c1:=h.tag hi
 have HL:Hid (p.link i=Gf i (p.slots.getD i (0,false)).1):=Aa rfl
 generalize(p.slots.getD i (0,false)).1=tg at *
 obtain⟨t0,t1⟩:=ht
 have C:=ML i tg w (by omega) (by omega) t0 t1
 generalize p.slots.length=n at *
 clear h
 go_enter Tryz.func148,Tryz.ntmps148
 go_wp2_with fail
 refine C.mono ?_
 rintro e w1 ⟨rfl,rfl⟩
 clear C
 go_wp2_with fail
 go_ret
 rw[HL.out]
 exact⟨rfl,rfl⟩
theorem Qb{p:AP}{l:Int}{i:Nat}(hi:(i:Int)=A5 l)(hn:i<p.slots.length):p.live l=((p.slots.getD i (0,false)).2&&decide (p.link i=l)):=by
 unfold AP.live
 rw[←hi]
 simp only[Int.toNat_natCast]
 rw[show decide ((0:Int)≤(i:Int))=true by simp,show decide ((i:Int)<(p.slots.length:Int))=true by simpa using hn]
 simp
theorem QB{B:Nat}{w:World}{A:EA}{p:AP}(h:A_ B w A p){l:Int}(l0:0≤l){i:Nat}(hi:(i:Int)=A5 l)(hin:i<p.slots.length)(hn:p.slots.length≤256)(ht:0≤(p.slots.getD i (0,false)).1∧(p.slots.getD i (0,false)).1≤65535):
 Calls Tryz.prog 111 #[bp A.p,.int .u64 l] w fun e w'=>e= .returned (.bool (p.live l))∧w=w':=by
 have c0:=h.s0
 have c1:=h.tkn hin
 have C:=DL l w l0
 have D:=Ll h i hin hn ht
 rw[←hi]at C
 have HL:=Aa (Qb hi hin)
 generalize p.link i=lk at *
 generalize(p.slots.getD i (0,false)).2=tk at *
 generalize p.slots.length=n at *
 clear h hi ht
 cases tk with
 |false=>
  go_enter Tryz.func111,Tryz.ntmps111
  go_wp2_with fail
  refine C.mono ?_
  rintro e w1 ⟨⟨t,m,rfl⟩,rfl⟩
  clear C D
  go_wp2_with fail
  go_ret
  rw[HL.out]
  exact⟨rfl,rfl⟩
 |true=>
  go_enter Tryz.func111,Tryz.ntmps111
  go_wp2_with fail
  refine C.mono ?_
  rintro e w1 ⟨⟨t,m,rfl⟩,rfl⟩
  clear C
  go_wp2_with fail
  refine D.mono ?_
  rintro e w1 ⟨rfl,rfl⟩
  clear D
  go_wp2_with fail
  go_ret
  rw[HL.out]
  refine⟨?_,rfl⟩
  simp[BEq.beq]
end
section
attribute [local go_sem ↓] Go.wp_at_zero Go.wp_at_succ
def C8(n j:Nat):List Nat:=(Cn n).take (n-j)
theorem Hp:∀(n i:Nat),i<n→(Cn n)[i]? =some (n-1-i)
 |0,i,h=>by omega
 |n+1,0,_=>by show some n=_;simp
 |n+1,i+1,h=>by
  show(Cn n)[i]? =_
  rw[Hp n i (by omega)]
  congr 1
  omega
theorem JS(n:Nat):C8 n n=[]:=by unfold C8;simp
theorem Jp(n:Nat):C8 n 0=Cn n:=by unfold C8;rw[Nat.sub_zero,List.take_of_length_le (by rw[ET];exact Nat.le_refl _)]
theorem Ja{n j:Nat}(h:j<n):C8 n j=C8 n (j+1)++[j]:=by
 unfold C8
 rw[show n-j=(n-(j+1))+1 by omega,List.take_add_one,Hp n _ (by omega),show n-1-(n-(j+1))=j by omega]
 rfl
theorem Kn{n j:Nat}(h:j≤n):(C8 n j).length=n-j:=by unfold C8;rw[List.length_take,ET];omega
structure FH(B:Nat)(w0 w:World)(A:EA)(n:Nat)(worn:Int)(r0:Nat→Prop)(seg:List Nat)(fa:Option Addr)(fc:Nat):Prop where
 blk:Am w A.p 186 #[.slice (some (DP A.ps)) n n,.int .i64 65535,.slice fa seg.length fc,.int .i64 worn,.int .u32 0,.int .i32 1,.int .u32 0]
 row:w.ownsRow B 3 1 (.slice fa seg.length fc) seg.length (Dz seg)
 o:Ah (fun b=>b=A.p∨r0 b) w0 w
 t:Aw [186,3] w0 w
 gr:∀b,AA (.slice fa seg.length fc) b→r0 b∨w0.heap.size≤b
 hB:B≤w.heap.size
theorem Fx(l:List Nat)(k:Nat):Dz (l++[k])=Dz l++[.int .i64 (k:Int)]:=by unfold Dz;simp
theorem FH.app{B:Nat}{w0 w w6 w1:World}{A:EA}{n:Nat}{worn:Int}{r0:Nat→Prop}{seg:List Nat}{fa:Option Addr}{fc:Nat}(h:FH B w0 w A n worn r0 seg fa fc)(o6:Ac w w6)(k:Nat){gg cap:Nat}
 (hown:w1.ownsRow B 3 1 (.slice (some ⟨gg,0,none⟩) (seg.length+1) cap) (seg.length+1) (Dz seg++[.int .i64 (k:Int)])) (hg:w6.grownBy w1 (Value.slice fa seg.length fc).ownBlock)
 (hat:(Value.slice fa seg.length fc).ownBlock=some gg∨w6.heap.size≤gg) (hlt:gg<w1.heap.size):
 FH B w0 (w1.setCell ⟨A.p,2,none⟩ (.slice (some ⟨gg,0,none⟩) (seg.length+1) cap)) A n worn r0 (seg++[k]) (some ⟨gg,0,none⟩) cap:=by
 have b6:=o6.blk h.blk (fun hf=>hf)
 have r6:=AO h.row (Aw.zero o6 []) (by simp)
 have o1:=Ah.grownRow hg
 have t1:Aw [3] w6 w1:=Aw.row r6 o1
 have b1:=b6.ty t1 (by decide)
 have o2:Ah (fun b=>b=A.p) w1 (w1.setCell ⟨A.p,2,none⟩ (.slice (some ⟨gg,0,none⟩) (seg.length+1) cap)):=Ah.setCell (S:=fun b=>b=A.p) (Ah.refl _ w1) (fun _=>rfl) _
 have t2:Aw [186] w1 _:=Aw.of o2 b1
 have B2:=b1.set 2 (.slice (some ⟨gg,0,none⟩) (seg.length+1) cap)
 have row2:=AO hown t2 (by decide)
 generalize w1.setCell ⟨A.p,2,none⟩ (.slice (some ⟨gg,0,none⟩) (seg.length+1) cap)=w2 at *
 have hn:(seg++[k]).length=seg.length+1:=by simp
 have hs0:=h.o.size
 have hs1:=o6.size
 have hs2:=o1.size
 have hs3:=o2.size
 have e6:∀b,b<w.heap.size→w6.heap[b]? =w.heap[b]? :=fun b hb=>o6.block b hb (fun hf=>hf)
 have hrow:∀b,AA (Value.slice fa seg.length fc) b→b<w0.heap.size→r0 b:=fun b hb hl=>by
  rcases h.gr b hb with e|e
  ·exact e
  ·omega
 refine⟨?_,?_,?_,?_,?_,by have:=h.hB;omega⟩
 ·rw[hn];exact B2
 ·rw[hn,Fx];exact row2
 ·refine⟨o2.os.trans (o1.os.trans (o6.os.trans h.o.os)),o2.tape.trans (o1.tape.trans (o6.tape.trans h.o.tape)),o2.output.trans (o1.output.trans (o6.output.trans h.o.output)),by omega,fun b hb hn=>?_⟩
  rw[o2.block b (by omega) (fun e=>hn (.inl e)),o1.block b (by omega) (fun e=>hn (.inr (hrow b e hb))),e6 b (by omega)]
  exact h.o.block b hb hn
 ·refine⟨o2.os.trans (o1.os.trans (o6.os.trans h.o.os)),o2.tape.trans (o1.tape.trans (o6.tape.trans h.o.tape)),o2.output.trans (o1.output.trans (o6.output.trans h.o.output)),by omega,fun b hb hn=>?_⟩
  have en:=h.t.block b hb hn
  have nt:∀(t:TypeId) (cs:Array Value),t∈[186,3]→¬Am w b t cs:=fun t cs ht hbk=>hn ⟨t,cs,ht,by unfold Am at *;rw[←en];exact hbk⟩
  have nA:b≠A.p:=fun e=>nt 186 _ (by simp) (by rw[e];exact h.blk)
  have nR:¬AA (Value.slice fa seg.length fc) b:=fun hr=>by
   obtain⟨cur,hc⟩:=Er h.row hr
   exact nt 3 _ (by simp) hc
  rw[o2.block b (by omega) nA,o1.block b (by omega) nR,e6 b (by omega)]
  exact en
 ·intro b hb
  have hb':=AE.1 hb
  rw[hb']
  rcases hat with e|e
  ·exact h.gr gg e
  ·right;omega
theorem Qe{B:Nat}{w:World}{A:EA}{n:Nat}{worn:Int}{fa:Option Addr}{fc:Nat}{b0:Nat}(hn:n≤256)(h0:FH B w w A n worn (AA (.slice fa 0 fc)) [] fa fc)(hb:Am w b0 98 #[bp A.p]):
 Calls Tryz.prog 239 #[bp b0] w fun e w'=>e= .returned (.tuple #[])∧∃fa' fc',FH B w w' A n worn (AA (.slice fa 0 fc)) (Cn n) fa' fc':=by
 have c0:=Ae w b0 0 (bp A.p) (hb.cell 0)
 have p0:=Ae w A.p 0 (.slice (some (DP A.ps)) n n) (h0.blk.cell 0)
 have ew:IntKind.i64.wrap ((n:Int)-1)=(n:Int)-1:=by rw[IntKind.wrap_i64];omega
 have H0:=Aa h0
 have HB:=Aa hb
 clear h0 hb
 go_enter Tryz.func239,Tryz.ntmps239
 go_wp2_with fail
 go_loopw [1] (fun i wr=>∃(k:Int) (fa':Option Addr) (fc':Nat),-1≤k∧k<n∧i= .int .i64 k∧Hid (FH B w wr A n worn (AA (.slice fa 0 fc)) (C8 n (k+1).toNat) fa' fc')) (fun i _=>(intOf i+1).toNat)
 case atStart=>exact⟨(n:Int)-1,fa,fc,by omega,by omega,rfl,Aa (by rw[show((n:Int)-1+1).toNat=n by omega,JS];exact H0.out)⟩
 case round=>
  obtain⟨k,fa',fc',k0,k1,rfl,HM⟩:=hrel
  by_cases hk:0≤k
  ·obtain⟨j,rfl⟩:=Int.eq_ofNat_of_zero_le hk
   have hj:j<n:=by omega
   rw[show((j:Int)+1).toNat=j+1 by omega]at HM
   have hsl:(C8 n (j+1)).length≤256:=by rw[Kn (show j+1≤n from hj)];omega
   have HD:=Aa (Ja hj)
   have nb:¬(b0=A.p∨AA (.slice fa 0 fc) b0):=by
    rintro(e|e)
    ·exact(HB.out.ne H0.out.blk (by decide)) e
    ·obtain⟨cur,hc⟩:=Er H0.out.row e
     exact absurd (HB.out.inj hc).2 (by decide)
   have hbr:Am wr b0 98 #[bp A.p]:=HM.out.o.blk HB.out nb
   obtain⟨seg,hseg⟩:=Aq (C8 n (j+1))
   rw[hseg]at HM hsl HD
   clear hseg
   have hM:=HM.out
   obtain⟨W6,hW6⟩:=Ad (wr.drew.alloc (.cells #[.int .i64 (j:Int)] 3))
   have oW6:Ac wr W6:=by rw[hW6];exact((Ac.refl wr).drew).alloc _
   have B6:=oW6.blk hM.blk (fun hf=>hf)
   have R6:=AO hM.row (Aw.zero oW6 []) (by simp)
   have hb6:=oW6.blk hbr (fun hf=>hf)
   have a7:=Ae wr.drew b0 0 (bp A.p) (hbr.cell 0)
   have e7:=Ae wr.drew A.p 2 (.slice fa' seg.length fc') (hM.blk.cell 2)
   have a76:=Ae W6 b0 0 (bp A.p) (hb6.cell 0)
   have e76:=Ae W6 A.p 2 (.slice fa' seg.length fc') (B6.cell 2)
   have f76:W6.frozen? ⟨A.p,2,none⟩=false:=B6.free 2
   have lt6:A.p<W6.heap.size:=B6.lt
   have lb6:b0<W6.heap.size:=hb6.lt
   have ne6:¬AA (.slice fa' seg.length fc') A.p:=Bn R6 B6 (by decide)
   have nb6:¬AA (.slice fa' seg.length fc') b0:=Bn R6 hb6 (by decide)
   have hB6:B≤W6.heap.size:=Nat.le_trans hM.hB oW6.size
   have HE:=Aa (fun(gg cap:Nat) (w1:World) (h1:w1.ownsRow B 3 1 (.slice (some ⟨gg,0,none⟩) (seg.length+1) cap) (seg.length+1) (Dz seg++[.int .i64 (j:Int)])) (h2:W6.grownBy w1 (Value.slice fa' seg.length fc').ownBlock) (h3:(Value.slice fa' seg.length fc').ownBlock=some gg∨gg=wr.heap.size+1) (h4:gg<w1.heap.size)=>
    hM.app oW6 j h1 h2 (h3.imp (fun x=>x) (fun e=>by rw[e,hW6];simp)) h4)
   obtain⟨i0,hi0,hz0,hz1,hz2⟩:=info_parts EP
   rw[hW6]at a76 e76 f76 lt6 lb6 R6 hB6 HE
   clear hM B6 hb6 oW6 hW6 hbr nb
   have ek:IntKind.i64.wrap ((j:Int)-1)=(j:Int)-1:=by rw[IntKind.wrap_i64];omega
   go_upto_region 3 with(fail)
   refine Ao (S:=(fun w'=>Ab w' b0 0 (bp A.p)∧Ab w' A.p 2 (.slice fa' seg.length fc'))) 10 (by kernel_rfl) ?_ (fun hHeld=>?_)
   ·first|exact⟨a7,e7⟩|exact⟨a76,e76⟩|exact⟨a7z,e7z⟩
   refine Av 0 [10] (h:=Av 1 [10] (h:=Av 2 [10] (h:=Av 3 [10] (h:=Av 4 [10] (h:=Av 5 [10] (h:=Bx (i:=6) (h:=fun K hK=>?_)))))))
   go_simp
   skip
   try go_wp2_with fail
   refine D_ hK (by first|exact⟨a7,e7⟩|exact⟨a76,e76⟩|exact⟨a7z,e7z⟩) (h:=fun hHeld=>?_);clear hK K
   refine Bx (i:=7) (h:=fun K hK=>?_)
   try simp only[List.getElem_toArray,List.getElem_cons_zero,List.getElem_cons_succ]
   (rw[if_pos (by simp[Region.wanted])];refine wp_append_lies _ _ _ _ (by rfl) B 3 i0 _ 1 8 Tryz.underlying22 hi0 hz0 hz1 hz2 rfl (by omega) (.slice fa' seg.length fc') seg.length (Dz seg) (by rfl) R6 ⟨wr.heap.size,0,none⟩ 1 1 [.int .i64 (j:Int)] (by rfl) (by rfl) (World.news_of_block (cs:=#[.int .i64 (j:Int)]) (t:=3) (fr:=(0,0)) (heap_alloc_new wr.drew _)) (by simp[Value.oneCell']) (by omega) (by unfold maxLen;omega) (by omega) hB6 (wr.heap.size+1) (by simp) ?_;intro gg cap w1 hown2 hgrow hat hlt2;have e7z:=Ae w1 A.p 2 (.slice fa' seg.length fc') ((hgrow.cell_far ⟨A.p,2,none⟩ lt6 (fun e=>ne6 e.symm)).trans e76);have f7z:w1.frozen? ⟨A.p,2,none⟩=false:=(hgrow.frozen_far ⟨A.p,2,none⟩ lt6 (fun e=>ne6 e.symm)).trans f76;have a7z:=Ae w1 b0 0 (bp A.p) ((hgrow.cell_far ⟨b0,0,none⟩ lb6 (fun e=>nb6 e.symm)).trans a76))
   refine D_ hK (by first|exact⟨a7,e7⟩|exact⟨a76,e76⟩|exact⟨a7z,e7z⟩) (h:=fun hHeld=>?_);clear hK K
   refine Av 8 [9,10] (h:=Av 9 [10] (h:=?_))
   refine AI (by kernel_rfl) rfl (by kernel_rfl) (fun K hK=>?_)
   try simp only[List.getElem_toArray,List.getElem_cons_zero,List.getElem_cons_succ]
   go_simp
   skip
   try go_wp2_with fail
   refine hK.out _ _ ?_
   clear hK K
   try simp only[Act.put,List.getElem_toArray,List.getElem_cons_zero,List.getElem_cons_succ,List.setIfInBounds_toArray,List.set_cons_zero,List.set_cons_succ]
   have h7:=HE.out gg cap w1 hown2 hgrow hat hlt2
   rw[←HD.out]at h7
   have HX:=Aa h7
   clear h7
   go_wp2_with fail
   go_round
   case rel=>exact⟨(j:Int)-1,_,_,by omega,by omega,by go_num,Aa (by rw[show((j:Int)-1+1).toNat=j by omega];exact HX.out)⟩
   case measure=>simp[intOf]
  ·have hk1:k= -1:=by omega
   subst hk1
   have HX:=Aa (show FH B w wr A n worn (AA (.slice fa 0 fc)) (Cn n) fa' fc' from by rw[←Jp];exact HM.out)
   clear HM
   go_wp2_with fail
   go_end0
   exact⟨rfl,fa',fc',HX.out⟩
end
section
attribute [local go_sem ↓] Go.wp_at_zero Go.wp_at_succ
theorem Bq.of0{B:Nat}{w w':World}{A:EA}{p:AP}(h:A_ B w A p)(o:Ac w w'):Bq B w A p p w' A.fa A.fc:=
 ⟨h.only0 o,o.any _,Aw.zero o _,fun b hb=> .inl hb⟩
theorem Bq.trans{B:Nat}{w w1 w2:World}{A:EA}{p p1 p2:AP}{fa fa2:Option Addr}{fc fc2:Nat}(h:Bq B w A p p1 w1 fa fc)(k:Bq B w1 {A with fa:=fa,fc:=fc} p1 p2 w2 fa2 fc2):Bq B w A p p2 w2 fa2 fc2:=by
 refine⟨k.at_,⟨k.o.os.trans h.o.os,k.o.tape.trans h.o.tape,k.o.output.trans h.o.output,Nat.le_trans h.o.size k.o.size,fun b hb hn=>?_⟩,⟨k.o.os.trans h.o.os,k.o.tape.trans h.o.tape,k.o.output.trans h.o.output,Nat.le_trans h.o.size k.o.size,fun b hb hn=>?_⟩,fun b hb=>?_⟩
 ·rw[k.o.block b (Nat.lt_of_lt_of_le hb h.o.size) (fun e=>?_),h.o.block b hb hn]
  rcases e with e|e|e
  ·exact hn (.inl e)
  ·exact hn (.inr (.inl e))
  ·rcases h.grew b e with q|q
   ·exact hn (.inr (.inr q))
   ·omega
 ·have e:=h.t.block b hb hn
  rw[k.t.block b (Nat.lt_of_lt_of_le hb h.t.size) (fun⟨t,cs,ht,hbk⟩=>hn ⟨t,cs,ht,by unfold Am at *;rw[←e];exact hbk⟩),e]
 ·rcases k.grew b hb with e|e
  ·exact h.grew b e
  ·exact .inr (Nat.le_trans h.o.size e)
theorem QF{B:Nat}{w:World}{A:EA}{p:AP}(h:A_ B w A p)(hn:p.slots.length≤256)(hB:B≤w.heap.size)(hm:p.made=false→p.free=[]):
 Calls Tryz.prog 219 #[bp A.p] w fun e w'=>e= .returned (.tuple #[])∧∃fa fc,Bq B w A p p.ready w' fa fc:=by
 obtain⟨W,hW⟩:=Ad (w.alloc (.cells #[bp A.p] 98))
 obtain⟨b0,hb0⟩:=Ad w.heap.size
 have oW:Ac w W:=by rw[hW];exact(Ac.refl w).alloc _
 have hW0:=h.only0 oW
 have bb:Am W b0 98 #[bp A.p]:=by rw[hW,hb0];exact Am.new _ _ _
 have c0:=Ae W b0 0 (bp A.p) (bb.cell 0)
 have HBB:=Aa hb0
 cases hmd:p.made with
 |true=>
  have HX:=Aa (show Bq B w A p p.ready W A.fa A.fc from by unfold AP.ready;rw[if_pos hmd];exact Bq.of0 h oW)
  have c4:=Ae W A.p 4 (.int .u32 1) (by have:=hW0.blk.cell 4;rw[this];simp[D2,hmd])
  have CO:=fun fv=>Gd ⟨A.p,4,none⟩ 1 (by decide) fv W c4
  clear h hW0 oW hb0 bb
  go_enter Tryz.func219,Tryz.ntmps219
  go_upto_region 1 with(fail)
  rw[←hW,←HBB.out]
  clear hW
  go_wp2_with fail
  refine(CO _).mono ?_
  rintro e w1 ⟨rfl,rfl⟩
  clear CO
  go_wp2_with fail
  go_end0
  exact⟨rfl,A.fa,A.fc,HX.out⟩
 |false=>
  have hf:=hm hmd
  have e4:(D2 A p)=#[.slice (some (DP A.ps)) p.slots.length p.slots.length,.int .i64 65535,.slice A.fa 0 A.fc,.int .i64 p.worn,.int .u32 0,.int .i32 0,.int .u32 0]:=by simp[D2,hmd,hf]
  have pb:=hW0.blk
  rw[e4]at pb
  have c4:=Ae W A.p 4 (.int .u32 0) (pb.cell 4)
  have c5:=Ae W A.p (4+1) (.int .i32 0) (pb.cell 5)
  have f4:W.frozen? ⟨A.p,4,none⟩=false:=pb.free 4
  have f5:W.frozen? ⟨A.p,4+1,none⟩=false:=pb.free 5
  obtain⟨W5,hW5⟩:=Ad (W.setCell ⟨A.p,4+1,none⟩ (.int .i32 1))
  have o5:Ah (fun b=>b=A.p) W W5:=by rw[hW5];exact Ah.set1 W A.p 5 _
  have pb5:Am W5 A.p 186 #[.slice (some (DP A.ps)) p.slots.length p.slots.length,.int .i64 65535,.slice A.fa 0 A.fc,p.worn,.int .u32 0,.int .i32 1,.int .u32 0]:=by rw[hW5];exact pb.set 5 _
  have t5:Aw [186] W W5:=Aw.of o5 pb
  have r5:W5.ownsRow B 3 1 (.slice A.fa 0 A.fc) 0 (Dz []):=by
   have:=AO hW0.free t5 (by decide)
   rw[hf]at this
   exact this
  have bb5:Am W5 b0 98 #[bp A.p]:=bb.ty t5 (by decide)
  have hB5:B≤W5.heap.size:=Nat.le_trans hB (Nat.le_trans oW.size o5.size)
  have M0:FH B W5 W5 A p.slots.length p.worn (AA (.slice A.fa 0 A.fc)) [] A.fa A.fc:=⟨pb5,r5,Ah.refl _ _,(Ah.refl _ W5),fun b hb=> .inl hb,hB5⟩
  have sl5:Am W5 A.ps 228 (CU p.slots).toArray:=hW0.slots.ty t5 (by decide)
  have CF:=Qe hn M0 bb5
  have CO:=FG A.p 4 239 #[bp b0] (fun w1=>∃fa' fc',FH B W5 w1 A p.slots.length p.worn (AA (.slice A.fa 0 A.fc)) (Cn p.slots.length) fa' fc') W (fun wz=>rfl) c4 c5 f4 f5 (by
   rw[←hW5]
   refine CF.mono ?_
   rintro e w1 ⟨h1,fa',fc',hM⟩
   exact⟨h1,⟨fa',fc',hM⟩,hM.blk.cell 4,hM.blk.cell 5,hM.blk.free 4,hM.blk.free 5⟩)
  have HX:Hid (∀(w1:World) (fa':Option Addr) (fc':Nat),FH B W5 w1 A p.slots.length p.worn (AA (.slice A.fa 0 A.fc)) (Cn p.slots.length) fa' fc'→Bq B w A p p.ready ((w1.drew.setCell ⟨A.p,4,none⟩ (.int .u32 1)).setCell ⟨A.p,4+1,none⟩ (.int .i32 0)) fa' fc'):=Aa (fun w1 fa' fc' hM=>by
   have er:p.ready={p with free:=Cn p.slots.length,made:=true}:=by unfold AP.ready;simp[hmd]
   have oD:Ac w1 w1.drew:=(Ac.refl w1).drew
   have bD:Am w1.drew A.p _ _:=hM.blk
   have B8:=(bD.set 4 (.int .u32 1)).set (4+1) (.int .i32 0)
   have o8:Ah (fun b=>b=A.p) w1.drew ((w1.drew.setCell ⟨A.p,4,none⟩ (.int .u32 1)).setCell ⟨A.p,4+1,none⟩ (.int .i32 0)):=(Ah.set1 w1.drew A.p 4 _).trans (Ah.set1 _ A.p 5 _)
   generalize(w1.drew.setCell ⟨A.p,4,none⟩ (.int .u32 1)).setCell ⟨A.p,4+1,none⟩ (.int .i32 0)=w8 at *
   have t8:Aw [186] w1.drew w8:=Aw.of o8 bD
   have sD1:Am w1 A.ps 228 (CU p.slots).toArray:=sl5.ty hM.t (by decide)
   have sD:Am w1.drew A.ps 228 (CU p.slots).toArray:=sD1
   have rD:w1.drew.ownsRow B 3 1 (.slice fa' (Cn p.slots.length).length fc') (Cn p.slots.length).length (Dz (Cn p.slots.length)):=AO hM.row (Aw.zero oD []) (by simp)
   have z1:=oW.size;have z2:=o5.size;have z3:=hM.o.size;have z4:=o8.size;have z5:w1.drew.heap.size=w1.heap.size:=rfl
   have hd:∀b:Nat,w1.drew.heap[b]? =w1.heap[b]? :=fun b=>rfl
   have hrow:∀b,AA (Value.slice A.fa 0 A.fc) b→AA (.slice A.fa p.free.length A.fc) b:=fun b hb=>QY hb
   rw[er]
   refine⟨⟨B8,sD.ty t8 (by decide),AO rD t8 (by decide)⟩,⟨o8.os.trans (oD.os.trans (hM.o.os.trans (o5.os.trans oW.os))),o8.tape.trans (oD.tape.trans (hM.o.tape.trans (o5.tape.trans oW.tape))),o8.output.trans (oD.output.trans (hM.o.output.trans (o5.output.trans oW.output))),by omega,fun b hb hn=>?_⟩,⟨o8.os.trans (oD.os.trans (hM.o.os.trans (o5.os.trans oW.os))),o8.tape.trans (oD.tape.trans (hM.o.tape.trans (o5.tape.trans oW.tape))),o8.output.trans (oD.output.trans (hM.o.output.trans (o5.output.trans oW.output))),by omega,fun b hb hn=>?_⟩,fun b hb=>?_⟩
   ·rw[o8.block b (by omega) (fun e=>hn (.inl e)),hd,hM.o.block b (by omega) (fun e=>e.elim (fun e=>hn (.inl e)) (fun e=>hn (.inr (.inr (hrow b e))))),o5.block b (by omega) (fun e=>hn (.inl e))]
    exact oW.block b hb (fun hf=>hf)
   ·have nt:∀(t:TypeId) (cs:Array Value),t∈[186,228,3]→¬Am W b t cs:=fun t cs ht hbk=>hn ⟨t,cs,ht,by unfold Am at *;rw[←oW.block b hb (fun hf=>hf)];exact hbk⟩
    have nA:b≠A.p:=fun e=>nt 186 _ (by simp) (by rw[e];exact pb)
    have e5:W5.heap[b]? =W.heap[b]? :=o5.block b (by omega) nA
    rw[o8.block b (by omega) nA,hd,hM.t.block b (by omega) (fun⟨t,cs,ht,hbk⟩=>nt t cs (by simp at ht;rcases ht with ht|ht<;>simp[ht]) (by unfold Am at *;rw[←e5];exact hbk)),e5]
    exact oW.block b hb (fun hf=>hf)
   ·rcases hM.gr b hb with e|e
    ·exact .inl (hrow b e)
    ·right;omega)
  clear h hW0 oW hb0 bb pb pb5 o5 t5 r5 bb5 hB5 M0 sl5 CF hW5 e4 hf c4 c5 f4 f5
  go_enter Tryz.func219,Tryz.ntmps219
  go_upto_region 1 with(fail)
  rw[←hW,←HBB.out]
  clear hW
  go_wp2_with fail
  refine CO.mono ?_
  rintro e w2 ⟨rfl,w1,⟨fa',fc',hM⟩,rfl⟩
  have HY:=Aa (HX.out w1 fa' fc' hM)
  clear CO hM
  go_wp2_with fail
  go_end0
  exact⟨rfl,fa',fc',HY.out⟩
theorem Bq.step{B:Nat}{w w':World}{A:EA}{p p':AP}{fa:Option Addr}{fc:Nat}(h:A_ B w A p)(a:A_ B w' {A with fa:=fa,fc:=fc} p')(o:Ah (fun b=>b=A.p∨b=A.ps) w w')(g:∀b,AA (.slice fa p'.free.length fc) b→AA (.slice A.fa p.free.length A.fc) b):Bq B w A p p' w' fa fc:=
 ⟨a,o.mono (fun b _ hb=>hb.elim .inl (fun e=> .inr (.inl e))),o.mono (fun b _ hb=>by
  rcases hb with e|e
  ·exact⟨186,_,by simp,by rw[e];exact h.blk⟩
  ·exact⟨228,_,by simp,by rw[e];exact h.slots⟩),fun b hb=> .inl (g b hb)⟩
theorem Pw{l:List Nat}{i:Nat}(hi:i<l.length):(Dz l)[i]? =some (.int .i64 ((l.getD i 0:Nat):Int)):=by
 unfold Dz
 rw[List.getElem?_map,List.getD_eq_getElem?_getD,List.getElem?_eq_getElem hi];rfl
theorem Qq{B:Nat}{w:World}{A:EA}{p:AP}(h:A_ B w A p)(hp:∀i,i∈p.ready.free→i<p.slots.length)(ht:∀i,0≤(p.slots.getD i (0,false)).1∧(p.slots.getD i (0,false)).1≤65535)(hn:p.slots.length≤256)(hl:p.ready.free.length≤1000000000)(hB:B≤w.heap.size)(hm:p.made=false→p.free=[]):
 Calls Tryz.prog 190 #[bp A.p] w fun e w'=>e= .returned (.tuple #[.int .u64 p.take.1,.int .i64 p.take.2.1])∧∃fa fc,Bq B w A p p.take.2.2 w' fa fc:=by
 have CL:=QF h hn hB hm
 have HSL:=Aa (Ku p)
 have HTK:Hid (p.take=match p.ready.free.getLast? with
  |none=>(0,15,p.ready)
  |some i=>(p.link i,0,{p.ready with free:=p.ready.free.dropLast,slots:=p.slots.set i ((p.slots.getD i (0,false)).1,true)})):=Aa rfl
 have HP:=Aa hp
 have HT:=Aa ht
 clear h hp ht hm
 go_enter Tryz.func190,Tryz.ntmps190
 go_wp2_with fail
 refine CL.mono ?_
 rintro e w1 ⟨rfl,fa,fc,q⟩
 clear CL
 have c2:=Ae w1 A.p 2 (.slice fa p.ready.free.length fc) (q.at_.blk.cell 2)
 by_cases h0:p.ready.free.length=0
 ·have e0:p.ready.free.getLast? =none:=by rw[List.length_eq_zero_iff.1 h0];rfl
  have HR:=Aa HTK.out
  rw[e0]at HR
  have HQ:=Aa q
  have b0:((p.ready.free.length:Int)==0)=true:=by rw[h0];rfl
  clear q
  go_wp2_with fail
  go_ret2
  rw[HR.out]
  exact⟨rfl,fa,fc,HQ.out⟩
 ·obtain⟨l,i,hli⟩:∃l i,p.ready.free=l++[i]:=⟨p.ready.free.dropLast,p.ready.free.getLast (by intro e;rw[e]at h0;exact h0 rfl),(List.dropLast_concat_getLast _).symm⟩
  have hi:i<p.slots.length:=HP.out i (by rw[hli];simp)
  have e0:p.ready.free.getLast? =some i:=by rw[hli];simp
  have hdl:p.ready.free.dropLast=l:=by rw[hli];simp
  have HR:=Aa HTK.out
  rw[e0]at HR
  simp only[hdl]at HR
  have hlen:p.ready.free.length=l.length+1:=by rw[hli];simp
  rw[hlen]at c2 hl
  have hrow:=q.at_.free
  rw[show({A with fa:=fa,fc:=fc}:EA).fa=fa from rfl,show({A with fa:=fa,fc:=fc}:EA).fc=fc from rfl,hlen,hli,Fx]at hrow
  obtain⟨g,cap,hg⟩:∃g cap,Value.slice fa (l.length+1) fc= .slice (some ⟨g,0,none⟩) (l.length+1) cap∧l.length+1≤cap∧cap≤maxLen:=by
   rcases hrow.2 with⟨h0,_⟩|⟨g,cap,cur,hv,_,_,h1,h2,_⟩
   ·cases h0
   ·exact⟨g,cap,hv,h1,h2⟩
  obtain⟨hg,hcap,hcm⟩:=hg
  injection hg with g1 g2 g3
  subst g1 g3
  have cl:w1.cell? ⟨g,l.length,none⟩=some (.int .i64 (i:Int)):=by
   have:=hrow.cellAt l.length (by simp[Dz])
   rw[this]
   simp[Dz]
  have s0:=Ae w1 A.p 0 (.slice (some (DP A.ps)) p.slots.length p.slots.length) (by have:=q.at_.s0;rw[HSL.out]at this;exact this)
  have hsl:Am w1 A.ps 228 (CU p.slots).toArray:=by have:=q.at_.slots;rw[HSL.out]at this;exact this
  obtain⟨W2,hW2⟩:=Ad ((w1.setCell ⟨A.p,2,none⟩ (.slice (some ⟨g,0,none⟩) l.length fc)).setCell ⟨A.ps,i*2+1,none⟩ (.bool true))
  have pn:=q.at_.ne
  have P2:A_ B W2 {A with fa:=some ⟨g,0,none⟩,fc:=fc} {p.ready with free:=l,slots:=p.slots.set i ((p.slots.getD i (0,false)).1,true)}:=by
   have B1:=q.at_.blk.set 2 (.slice (some ⟨g,0,none⟩) l.length fc)
   have o1:Ah (fun b=>b=A.p) w1 (w1.setCell ⟨A.p,2,none⟩ (.slice (some ⟨g,0,none⟩) l.length fc)):=Ah.set1 w1 A.p 2 _
   have t1:Aw [186] w1 _:=Aw.of o1 q.at_.blk
   have S1:=hsl.ty t1 (by decide)
   have R1:=AO hrow t1 (by decide)
   have S2:=S1.set (i*2+1) (.bool true)
   have o2:Ah (fun b=>b=A.ps) (w1.setCell ⟨A.p,2,none⟩ (.slice (some ⟨g,0,none⟩) l.length fc)) W2:=by rw[hW2];exact Ah.set1 _ A.ps (i*2+1) _
   rw[←hW2]at S2
   have t2:Aw [228] _ W2:=Aw.of o2 S1
   have B2:=Am.ty (show Am _ A.p 186 _ from B1) t2 (by decide)
   have R2:=AO R1 t2 (by decide)
   refine⟨?_,?_,ownsRow_pop (by simp[Dz]) R2⟩
   ·show Am W2 A.p _ (D2 _ _)
    have:(D2 {A with fa:=some ⟨g,0,none⟩,fc:=fc} {p.ready with free:=l,slots:=p.slots.set i ((p.slots.getD i (0,false)).1,true)})=(D2 {A with fa:=some ⟨g,0,none⟩,fc:=fc} p.ready).setIfInBounds 2 (.slice (some ⟨g,0,none⟩) l.length fc):=by
     simp[D2,HSL.out]
    rw[this]
    exact B2
   ·show Am W2 A.ps _ (CU (p.slots.set i _)).toArray
    have e:=Ii p.slots hi true
    rw[←e]
    simpa using S2
  have o2:Ah (fun b=>b=A.p∨b=A.ps) w1 W2:=by
   rw[hW2]
   exact((Ah.set1 w1 A.p 2 _).mono (fun b _ hb=> .inl hb)).trans ((Ah.set1 _ A.ps (i*2+1) _).mono (fun b _ hb=> .inr hb))
  have HX:=Aa (q.trans (Bq.step q.at_ P2 o2 (fun b hb=>QY hb)))
  have CK:=Ll P2 i (by show i<(p.slots.set i _).length;rw[List.length_set];exact hi) (by show(p.slots.set i _).length≤256;rw[List.length_set];exact hn) (by
   show 0≤((p.slots.set i _).getD i (0,false)).1∧_
   rw[Bm p.slots i _ _ hi]
   exact HT.out i)
  have ek:({p.ready with free:=l,slots:=p.slots.set i ((p.slots.getD i (0,false)).1,true)}:AP).link i=p.link i:=by
   unfold AP.link
   show Gf i ((p.slots.set i _).getD i (0,false)).1=_
   rw[Bm p.slots i _ _ hi]
  rw[ek]at CK
  have z2:w1.frozen? ⟨A.p,2,none⟩=false:=q.at_.blk.free 2
  have cx:(w1.setCell ⟨A.p,2,none⟩ (.slice (some ⟨g,0,none⟩) l.length fc)).cell? ⟨A.p,0,none⟩=some (.slice (some (DP A.ps)) p.slots.length p.slots.length):=by
   have:=(q.at_.blk.set 2 (.slice (some ⟨g,0,none⟩) l.length fc)).cell 0
   rw[this,←HSL.out]
   rfl
  have S9:Am (w1.setCell ⟨A.p,2,none⟩ (.slice (some ⟨g,0,none⟩) l.length fc)) A.ps 228 (CU p.slots).toArray:=hsl.ty (Aw.of (Ah.set1 w1 A.p 2 _) q.at_.blk) (by decide)
  have cy:(w1.setCell ⟨A.p,2,none⟩ (.slice (some ⟨g,0,none⟩) l.length fc)).cell? ⟨A.ps,i*2+1,none⟩=some (.bool (p.slots.getD i (0,false)).2):=by
   rw[S9.cell];simpa using(Gu p.slots hi).2
  have zy:(w1.setCell ⟨A.p,2,none⟩ (.slice (some ⟨g,0,none⟩) l.length fc)).frozen? ⟨A.ps,i*2+1,none⟩=false:=S9.free _
  have ew:IntKind.i64.wrap ((l.length:Int)+1-1)=(l.length:Int):=by rw[IntKind.wrap_i64];omega
  have b0:(((l.length:Int)+1)==0)=false:=by simp;omega
  have hcap':(l.length:Int)≤fc:=by omega
  have HW2:=Aa hW2
  generalize p.slots.length=n at *
  generalize(p.slots.getD i (0,false)).2=old at *
  have HI:=Aa hli
  clear q P2 o2 hrow hsl S9 hli e0 hdl hlen ek HTK hW2 pn
  rw[HW2.out]at CK
  go_wp2_with fail
  refine CK.mono ?_
  rintro e w2 ⟨rfl,rfl⟩
  clear CK
  go_wp2_with fail
  go_ret2
  rw[HR.out]
  exact⟨rfl,_,_,HW2.out▸HX.out⟩
end
section
attribute [local go_sem ↓] Go.wp_at_zero Go.wp_at_succ
theorem A_.slot1{B:Nat}{w:World}{A:EA}{p:AP}(h:A_ B w A p){i:Nat}(hi:i<p.slots.length)(t:Bool):
 A_ B (w.setCell ⟨A.ps,i*2+1,none⟩ (.bool t)) A {p with slots:=p.slots.set i ((p.slots.getD i (0,false)).1,t)}:=by
 have o:Ah (fun b=>b=A.ps) w (w.setCell ⟨A.ps,i*2+1,none⟩ (.bool t)):=Ah.set1 _ A.ps (i*2+1) _
 have tt:Aw [228] w _:=Aw.of o h.slots
 refine⟨?_,?_,AO h.free tt (by decide)⟩
 ·have:=h.blk.ty tt (by decide)
  simpa[D2]using this
 ·have S2:=h.slots.set (i*2+1) (.bool t)
  rw[←Ii p.slots hi t]
  simpa using S2
theorem A_.slot0{B:Nat}{w:World}{A:EA}{p:AP}(h:A_ B w A p){i:Nat}(hi:i<p.slots.length)(t:Int):
 A_ B (w.setCell ⟨A.ps,i*2,none⟩ (.int .i64 t)) A {p with slots:=p.slots.set i (t,(p.slots.getD i (0,false)).2)}:=by
 have o:Ah (fun b=>b=A.ps) w (w.setCell ⟨A.ps,i*2,none⟩ (.int .i64 t)):=Ah.set1 _ A.ps (i*2) _
 have tt:Aw [228] w _:=Aw.of o h.slots
 refine⟨?_,?_,AO h.free tt (by decide)⟩
 ·have:=h.blk.ty tt (by decide)
  simpa[D2]using this
 ·have S2:=h.slots.set (i*2) (.int .i64 t)
  rw[←Lb p.slots hi t]
  simpa using S2
theorem A_.worn1{B:Nat}{w:World}{A:EA}{p:AP}(h:A_ B w A p)(t:Int):A_ B (w.setCell ⟨A.p,3,none⟩ (.int .i64 t)) A {p with worn:=t}:=by
 have o:Ah (fun b=>b=A.p) w (w.setCell ⟨A.p,3,none⟩ (.int .i64 t)):=Ah.set1 _ A.p 3 _
 have tt:Aw [186] w _:=Aw.of o h.blk
 refine⟨?_,h.slots.ty tt (by decide),AO h.free tt (by decide)⟩
 have:=h.blk.set 3 (.int .i64 t)
 simpa[D2]using this
theorem A_.more{B:Nat}{w w1:World}{A:EA}{p:AP}(h:A_ B w A p)(k:Nat){gg cap:Nat}
 (hown:w1.ownsRow B 3 1 (.slice (some ⟨gg,0,none⟩) (p.free.length+1) cap) (p.free.length+1) (Dz p.free++[.int .i64 (k:Int)])) (hg:w.grownBy w1 (Value.slice A.fa p.free.length A.fc).ownBlock)
 (hat:(Value.slice A.fa p.free.length A.fc).ownBlock=some gg∨w.heap.size≤gg):
 Bq B w A p {p with free:=p.free++[k]} (w1.setCell ⟨A.p,2,none⟩ (.slice (some ⟨gg,0,none⟩) (p.free.length+1) cap)) (some ⟨gg,0,none⟩) cap:=by
 have o1:=Ah.grownRow hg
 have t1:Aw [3] w w1:=Aw.row h.free o1
 have b1:=h.blk.ty t1 (by decide)
 have s1:=h.slots.ty t1 (by decide)
 have o2:Ah (fun b=>b=A.p) w1 (w1.setCell ⟨A.p,2,none⟩ (.slice (some ⟨gg,0,none⟩) (p.free.length+1) cap)):=Ah.setCell (S:=fun b=>b=A.p) (Ah.refl _ w1) (fun _=>rfl) _
 have t2:Aw [186] w1 _:=Aw.of o2 b1
 have B2:=b1.set 2 (.slice (some ⟨gg,0,none⟩) (p.free.length+1) cap)
 have row2:=AO hown t2 (by decide)
 have s2:=s1.ty t2 (by decide)
 generalize w1.setCell ⟨A.p,2,none⟩ (.slice (some ⟨gg,0,none⟩) (p.free.length+1) cap)=w2 at *
 have hn:(p.free++[k]).length=p.free.length+1:=by simp
 have hs2:=o1.size
 have hs3:=o2.size
 refine⟨⟨?_,s2,?_⟩,⟨o2.os.trans o1.os,o2.tape.trans o1.tape,o2.output.trans o1.output,by omega,fun b hb hn=>?_⟩,⟨o2.os.trans o1.os,o2.tape.trans o1.tape,o2.output.trans o1.output,by omega,fun b hb hn=>?_⟩,fun b hb=>?_⟩
 ·show Am w2 A.p _ (D2 _ _)
  have:(D2 {A with fa:=some ⟨gg,0,none⟩,fc:=cap} {p with free:=p.free++[k]})=(D2 A p).setIfInBounds 2 (.slice (some ⟨gg,0,none⟩) (p.free.length+1) cap):=by simp[D2]
  rw[this];exact B2
 ·show w2.ownsRow B _ 1 (.slice (some ⟨gg,0,none⟩) (p.free++[k]).length cap) (p.free++[k]).length (Dz (p.free++[k]))
  rw[hn,Fx];exact row2
 ·rw[o2.block b (by omega) (fun e=>hn (.inl e)),o1.block b hb (fun e=>hn (.inr (.inr e)))]
 ·have nt:∀(t:TypeId) (cs:Array Value),t∈[186,228,3]→¬Am w b t cs:=fun t cs ht hbk=>hn ⟨t,cs,ht,hbk⟩
  rw[o2.block b (by omega) (fun e=>nt 186 _ (by simp) (by rw[e];exact h.blk)),o1.block b hb (fun hr=>by
   obtain⟨cur,hc⟩:=Er h.free hr
   exact nt 3 _ (by simp) hc)]
 ·have hb':=AE.1 hb
  rw[hb']
  rcases hat with e|e
  ·exact .inl e
  ·exact .inr e
theorem Lk{B:Nat}{w:World}{A:EA}{p:AP}(h:A_ B w A p){l:Int}(l0:0≤l){i:Nat}(hi:(i:Int)=A5 l)(hin:i<p.slots.length)(hn:p.slots.length≤256)(ht:0≤(p.slots.getD i (0,false)).1∧(p.slots.getD i (0,false)).1≤65535)(hw:0≤p.worn∧p.worn≤1000000000)(hfl:p.free.length≤1000000000)(hB:B≤w.heap.size):
 Calls Tryz.prog 88 #[bp A.p,.int .u64 l] w fun e w'=>(∃x,e= .returned (.int .i64 x))∧∃fa fc,Bq B w A p (p.give l) w' fa fc:=by
 have CL:=QB h l0 hi hin hn ht
 have C:=DL l w l0
 rw[←hi]at C
 have c0:=h.s0
 have c1:=Ae w A.p 1 (.int .i64 65535) (h.blk.cell 1)
 have HG:Hid (p.live l=true→p.give l=(if(p.slots.getD i (0,false)).1=65535 then{p with slots:=p.slots.set i (65535,false),worn:=p.worn+1}else{p with slots:=p.slots.set i ((p.slots.getD i (0,false)).1+1,false),free:=p.free++[i]})):=Aa (fun hl=>by
  unfold AP.give
  rw[if_pos hl,←hi]
  simp only[Int.toNat_natCast])
 have HG2:Hid (p.live l=false→p.give l=p):=Aa (fun hl=>by unfold AP.give;rw[if_neg (by simp[hl])])
 cases hlv:p.live l with
 |false=>
  rw[hlv]at CL
  have HX:=Aa (HG2.out hlv)
  have HY:=Aa (Bq.of0 h (Ac.refl w))
  clear h hi C HG HG2 ht hw
  go_enter Tryz.func88,Tryz.ntmps88
  go_wp2_with fail
  refine CL.mono ?_
  rintro e w1 ⟨rfl,rfl⟩
  clear CL
  go_wp2_with fail
  go_ret
  rw[HX.out]
  exact⟨⟨_,rfl⟩,A.fa,A.fc,HY.out⟩
 |true=>
  rw[hlv]at CL
  have HX:=Aa (HG.out hlv)
  clear HG HG2 hlv
  have h1:=h.slot1 hin false
  have y1:=Ae w A.ps (i*2+1) (.bool (p.slots.getD i (0,false)).2) (h.tkn hin)
  have z1:w.frozen? ⟨A.ps,i*2+1,none⟩=false:=h.slots.free _
  have O1:Ah (fun b=>b=A.p∨b=A.ps) w (w.setCell ⟨A.ps,i*2+1,none⟩ (.bool false)):=(Ah.set1 _ A.ps (i*2+1) _).mono (fun b _ hb=> .inr hb)
  have Q1:=Bq.step (fa:=A.fa) (fc:=A.fc) h h1 O1 (fun b hb=>hb)
  have hl1:(p.slots.set i ((p.slots.getD i (0,false)).1,false)).length=p.slots.length:=List.length_set ..
  have hg1:(p.slots.set i ((p.slots.getD i (0,false)).1,false)).getD i (0,false)=((p.slots.getD i (0,false)).1,false):=Bm p.slots i _ _ hin
  have d0:=h1.only0 ((Ac.refl _).drew)
  obtain⟨tg,htg⟩:=Aq ((p.slots.getD i (0,false)).1)
  have u0:(w.setCell ⟨A.ps,i*2+1,none⟩ (.bool false)).drew.cell? ⟨A.ps,i*2,none⟩=some (.int .i64 tg):=by
   have:=d0.tag (i:=i) (by rw[hl1];exact hin)
   rw[hg1,htg]at this
   exact this
  have u1:=Ae (w.setCell ⟨A.ps,i*2+1,none⟩ (.bool false)).drew A.p 1 (.int .i64 65535) (d0.blk.cell 1)
  have HH:=Aa h
  have HQ1:=Aa Q1
  have HD0:=Aa d0
  rw[htg]at HX ht
  clear h h1 O1 Q1 d0 hi
  go_enter Tryz.func88,Tryz.ntmps88
  go_wp2_with fail
  refine CL.mono ?_
  rintro e w1 ⟨rfl,rfl⟩
  clear CL
  go_wp2_with fail
  refine C.mono ?_
  rintro e w1 ⟨⟨t,m,rfl⟩,rfl⟩
  clear C
  go_upto_region 6 with(fail)
  obtain⟨V,hV⟩:=Ad ((w.setCell ⟨A.ps,i*2+1,none⟩ (.bool false)).drew)
  have HV:=Aa hV
  refine wp_region_held_drew (S:=(fun w'=>Ab w' A.ps (i*2) (.int .i64 tg)∧Ab w' A.p 1 (.int .i64 65535))) (by kernel_rfl) ?_ (fun hHeld=>?_)
  ·exact⟨u0,u1⟩
  refine Af 0 (h:=Af 1 (h:=Af 2 (h:=Af 3 (h:=Af 4 (h:=Af 5 (h:=Af 6 (h:=Af 7 (h:=Af 8 (h:=?_)))))))))
  refine wpAnyH_done (by kernel_rfl) ?_ _
  rw[htg]at HD0 HQ1
  rw[←hV]at HD0 u0 u1
  rw[←hV]
  have HQ:Hid (Bq B w A p {p with slots:=p.slots.set i (tg,false)} V A.fa A.fc):=Aa (HQ1.out.trans (by rw[hV];exact Bq.of0 HQ1.out.at_ ((Ac.refl _).drew)))
  clear hV HQ1 hg1 y1 z1 c1 c0
  have hD:=HD0.out
  have v0:=Ae V A.p 0 (.slice (some (DP A.ps)) p.slots.length p.slots.length) (by have:=hD.s0;rw[show(p.slots.set i (tg,false)).length=p.slots.length from List.length_set ..]at this;exact this)
  have v3:=Ae V A.p 3 (.int .i64 p.worn) (hD.blk.cell 3)
  have z3:V.frozen? ⟨A.p,3,none⟩=false:=hD.blk.free 3
  have z0:V.frozen? ⟨A.ps,i*2,none⟩=false:=hD.slots.free _
  by_cases hq:tg=65535
  ·have bq:(tg==65535)=true:=by simpa using hq
   have ew:IntKind.i64.wrap (p.worn+1)=p.worn+1:=by rw[IntKind.wrap_i64];omega
   have P3:=hD.worn1 (p.worn+1)
   have Q3:=HQ.out.trans (Bq.step (fa:=A.fa) (fc:=A.fc) HQ.out.at_ P3 ((Ah.set1 _ A.p 3 _).mono (fun b _ hb=> .inl hb)) (fun b hb=>hb))
   have HZ:Hid (∃fa fc,Bq B w A p (p.give l) (V.setCell ⟨A.p,3,none⟩ (.int .i64 (p.worn+1))) fa fc):=Aa ⟨A.fa,A.fc,by rw[HX.out,if_pos hq];rw[hq]at Q3;exact Q3⟩
   clear P3 Q3 hD
   subst hq
   go_wp2_with fail
   go_ret
   exact⟨⟨_,rfl⟩,HZ.out⟩
  ·have bq:(tg==65535)=false:=by simpa using hq
   have ew:IntKind.i64.wrap (tg+1)=tg+1:=by rw[IntKind.wrap_i64];omega
   have P2:=hD.slot0 (i:=i) (by show i<(p.slots.set i (tg,false)).length;rw[List.length_set];exact hin) (tg+1)
   have es:((p.slots.set i (tg,false)).set i (tg+1,((p.slots.set i (tg,false)).getD i (0,false)).2))=p.slots.set i (tg+1,false):=by rw[Bm p.slots i _ _ hin,List.set_set]
   have P2':A_ B (V.setCell ⟨A.ps,i*2,none⟩ (.int .i64 (tg+1))) A {p with slots:=p.slots.set i (tg+1,false)}:=by rw[←es];exact P2
   have Q2:=HQ.out.trans (Bq.step (fa:=A.fa) (fc:=A.fc) HQ.out.at_ P2' ((Ah.set1 _ A.ps (i*2) _).mono (fun b _ hb=> .inr hb)) (fun b hb=>hb))
   obtain⟨W2,hW2⟩:=Ad (V.setCell ⟨A.ps,i*2,none⟩ (.int .i64 (tg+1)))
   rw[←hW2]at P2' Q2
   obtain⟨W6,hW6⟩:=Ad (W2.alloc (.cells #[.int .i64 (i:Int)] 3))
   have o6:Ac W2 W6:=by rw[hW6];exact(Ac.refl W2).alloc _
   have P6:=P2'.only0 o6
   have Q6:=Q2.trans (Bq.of0 Q2.at_ o6)
   have e7:=Ae W2 A.p 2 (.slice A.fa p.free.length A.fc) (P2'.blk.cell 2)
   have e76:=Ae W6 A.p 2 (.slice A.fa p.free.length A.fc) (P6.blk.cell 2)
   have f76:W6.frozen? ⟨A.p,2,none⟩=false:=P6.blk.free 2
   have lt6:A.p<W6.heap.size:=P6.blk.lt
   have R6:=P6.free
   have ne6:¬AA (.slice A.fa p.free.length A.fc) A.p:=Bn R6 P6.blk (by decide)
   have hB6:B≤W6.heap.size:=Nat.le_trans hB Q6.o.size
   have HE:=Aa (fun(gg cap:Nat) (w1:World) (h1:w1.ownsRow B 3 1 (.slice (some ⟨gg,0,none⟩) (p.free.length+1) cap) (p.free.length+1) (Dz p.free++[.int .i64 (i:Int)])) (h2:W6.grownBy w1 (Value.slice A.fa p.free.length A.fc).ownBlock) (h3:(Value.slice A.fa p.free.length A.fc).ownBlock=some gg∨gg=W2.heap.size+1)=>
    Q6.trans (P6.more i h1 h2 (h3.imp (fun x=>x) (fun e=>by rw[e,hW6];simp))))
   obtain⟨i0,hi0,hz0,hz1,hz2⟩:=info_parts EP
   have R6':W6.ownsRow B 3 1 (.slice A.fa p.free.length A.fc) p.free.length (Dz p.free):=R6
   rw[hW6]at e76 f76 lt6 R6' hB6 HE
   clear P6 Q6 o6 R6 P2 P2' Q2 hD hW6
   go_upto_region 10 with(fail)
   rw[←hW2]
   clear hW2
   go_wp2_with (at_builtin;refine wpList_append_lies _ rfl _ _ 22 rfl B 3 i0 _ 1 8 Tryz.underlying22 hi0 hz0 hz1 hz2 rfl (by omega) (.slice A.fa p.free.length A.fc) p.free.length (Dz p.free) rfl R6' ⟨W2.heap.size,0,none⟩ 1 1 [.int .i64 (i:Int)] rfl rfl (World.news_of_block (cs:=#[.int .i64 (i:Int)]) (t:=3) (fr:=(0,0)) (heap_alloc_new W2 _)) (by simp[Value.oneCell']) (by omega) (by unfold maxLen;omega) (by omega) hB6 (W2.heap.size+1) (by simp) ?_)
   intro gg cap w1 hown hgrow hat hlt
   have e9:=Ae w1 A.p 2 (.slice A.fa p.free.length A.fc) ((hgrow.cell_far ⟨A.p,2,none⟩ lt6 (fun e=>ne6 e.symm)).trans e76)
   have f9:w1.frozen? ⟨A.p,2,none⟩=false:=(hgrow.frozen_far ⟨A.p,2,none⟩ lt6 (fun e=>ne6 e.symm)).trans f76
   have HZ:Hid (∃fa fc,Bq B w A p (p.give l) (w1.setCell ⟨A.p,2,none⟩ (.slice (some ⟨gg,0,none⟩) (p.free.length+1) cap)) fa fc):=Aa ⟨_,_,by rw[HX.out,if_neg hq];exact HE.out gg cap w1 hown hgrow hat⟩
   clear hown hgrow hat hlt e76 f76 R6'
   go_wp2_with fail
   go_ret
   exact⟨⟨_,rfl⟩,HZ.out⟩
end
section
attribute [local go_sem ↓] Go.wp_at_zero Go.wp_at_succ
theorem JP{B N:Nat}{w:World}{P Q R:Nat→Prop}{A:EA}{Ke:EK}{S:SA}{nx:Value}{X:Cx}(h:CX B w P Q R A Ke S nx X)(hN:Ax N X)(hB9:N+70≤100000000){hu:Nat}{u:Cd}(hT:BG X u.key u.thn)(H:CH w P Q R A S hu u)(l:Int)(hl:AM X.sh.slots l):
 Calls Tryz.prog 185 #[bp hu,.int .u64 l] w (Ak B w P Q R A Ke S nx (CJ X u l).1 (some (CJ X u l).2)):=by
 have f0:=An.new' h w.heap.size rfl 269 #[bp hu]
 have C0:=h.alloc (.cells #[bp hu] 269)
 have f1:=An.new' C0 (w.heap.size+1) (by simp) 31 #[.int .u64 l]
 have HC:=Aa (C0.alloc (.cells #[.int .u64 l] 31))
 have f0:=f0.alloc (.cells #[.int .u64 l] 31)
 have M:Ag w ((w.alloc (.cells #[bp hu] 269)).alloc (.cells #[.int .u64 l] 31)) P Q P Q:=Ag.only0 P Q (((Ac.refl w).alloc _).alloc _)
 have H1:=H.mv M (At.refl A S)
 have HN:=Aa hN
 by_cases h0:l=0
 ·subst h0
  have HR:=Aa (show CJ X u 0=Ca X u 0 by unfold CJ;rw[if_pos rfl])
  obtain⟨tv,hf,hth⟩:=H1
  obtain⟨F,cap,rfl,hcf,CT⟩:=GZ HC.out hN hB9 u hT hth 0 hl
  have hcf:=hcf 0
  have c0:=f0.c0
  have c1:=f1.c0
  have c4:_=some (Value.func (.func F) #[] cap):=hf.1.cell 4
  clear h hN H C0 f0 f1 hf hth hl
  go_enter Tryz.func185,Tryz.ntmps185
  go_wp2_with fail
  refine(CT).mono ?_
  rintro e9 w9 r9
  obtain⟨v9,rfl⟩:=r9.ret
  have HS:=Aa (r9.comp M (At.refl A S))
  clear r9
  go_wp2_with fail
  go_ret
  rw[HR.out]
  exact HS.out
 ·have b0:(l==0)=false:=by simpa using h0
  have HR:=Aa (show CJ X u l=(X,.visit u l) by unfold CJ;rw[if_neg h0])
  have HS:Hid (Ak B w P Q R A Ke S nx X (some (.visit u l)) (.returned (.func (.func 211) #[] #[bp w.heap.size,bp (w.heap.size+1)])) ((w.alloc (.cells #[bp hu] 269)).alloc (.cells #[.int .u64 l] 31))):=Aa ⟨P,Q,A,S,_,rfl,HC.out,⟨w.heap.size,w.heap.size+1,rfl,⟨hu,f0,H1⟩,f1⟩,M,At.refl A S⟩
  have c1:=f1.c0
  clear h hN H C0 f0 f1 H1 hl
  go_enter Tryz.func185,Tryz.ntmps185
  go_wp2_with fail
  go_ret
  rw[HR.out]
  exact HS.out
theorem GX{B N:Nat}{w:World}{P Q R:Nat→Prop}{A:EA}{Ke:EK}{S:SA}{nx:Value}{X:Cx}(h:CX B w P Q R A Ke S nx X)(hN:Ax N X)(hB9:N+70≤100000000){hu:Nat}{u:Cd}(hT:BG X u.key u.thn)(H:CH w P Q R A S hu u)(l m:Int)(hl:AM X.sh.slots l):
 Calls Tryz.prog 254 #[bp hu,.int .u64 l,m] w (Ak B w P Q R A Ke S nx (Cy X u l m).1 (some (Cy X u l m).2)):=by
 have f0:=An.new' h w.heap.size rfl 269 #[bp hu]
 have C0:=h.alloc (.cells #[bp hu] 269)
 have f1:=An.new' C0 (w.heap.size+1) (by simp) 31 #[.int .u64 l]
 have C1:=C0.alloc (.cells #[.int .u64 l] 31)
 have f2:=An.new' C1 (w.heap.size+1+1) (by simp) 3 #[m]
 have HC0:=Aa (C1.alloc (.cells #[m] 3))
 have f0:=(f0.alloc (.cells #[.int .u64 l] 31)).alloc (.cells #[m] 3)
 have f1:=f1.alloc (.cells #[m] 3)
 have M:Ag w (((w.alloc (.cells #[bp hu] 269)).alloc (.cells #[.int .u64 l] 31)).alloc (.cells #[m] 3)) P Q P Q:=Ag.only0 P Q ((((Ac.refl w).alloc _).alloc _).alloc _)
 have H1:=H.mv M (At.refl A S)
 have HN:=Aa hN
 obtain⟨W,hW⟩:=Ad (((w.alloc (.cells #[bp hu] 269)).alloc (.cells #[.int .u64 l] 31)).alloc (.cells #[m] 3))
 rw[←hW]at f0 f1 f2 HC0 M H1
 obtain⟨n0,hn0⟩:=Ad w.heap.size
 have HN0:=Aa hn0
 rw[←hn0]at f0 f1 f2
 clear hn0
 have c0_:=f0.c0
 have c1_:=f1.c0
 have c2_:=f2.c0
 by_cases h0:m=0
 ·subst h0
  have HR:=Aa (show Cy X u l 0=Ca X u l by unfold Cy;rw[if_pos rfl])
  have mz:=Ag.only0 P Q ((Ac.refl W).drew)
  have H2:=H1.mv mz (At.refl A S)
  obtain⟨tv,hf,hth⟩:=H2
  obtain⟨F,cap,rfl,hcf,CT⟩:=GZ HC0.out.drew hN hB9 u hT hth l hl
  have hcf:=hcf l
  have f0:=f0.move mz
  have f1:=f1.move mz
  have c0:=f0.c0
  have c1:=f1.c0
  have c4:=Ae W.drew hu 4 (Value.func (.func F) #[] cap) (hf.1.cell 4)
  clear h hN H H1 C0 C1 hth hl
  go_enter Tryz.func254,Tryz.ntmps254
  go_upto_region 1 with(fail)
  rw[←hW,←HN0.out]
  clear hW
  go_upto_region 2 with(fail)
  refine wp_region_held_drew (S:=(fun w'=>Ab w' n0 0 (bp hu)∧Ab w' (n0+1) 0 (.int .u64 l)∧Ab w' hu 4 (.func (.func F) #[] cap))) (by kernel_rfl) ?_ (fun hHeld=>?_)
  ·exact⟨c0,c1,c4⟩
  refine Af 0 (h:=Af 1 (h:=Af 2 (h:=Af 3 (h:=Af 4 (h:=Ar (i:=5) (h:=fun K hK=>?_))))))
  go_simp
  (refine CT.mono ?_;rintro e9 w9 r9;have HS:=Aa (r9.comp (M.trans mz) (At.refl A S));obtain⟨P9,Q9,A9,S9,v9,rfl,h9,n9,m9,k9⟩:=r9;have c0:=(f0.move m9).c0;have c1:=(f1.move m9).c0;have c4:=Ae w9 hu 4 (Value.func (.func F) #[] cap) ((hf.move m9).1.cell 4);clear h9 n9 m9 k9)
  try go_wp2_with fail
  refine AK hK (by exact⟨c0,c1,c4⟩) (h:=fun hHeld=>?_);clear hK K
  refine Af 6 (h:=?_)
  exact Ux
 ·have b0:(m==0)=false:=by simpa using h0
  have HR:=Aa (show Cy X u l m=(X,.seen u l m) by unfold Cy;rw[if_neg h0])
  have HS:Hid (Ak B w P Q R A Ke S nx X (some (.seen u l m)) (.returned (.func (.func 271) #[] #[bp n0,bp (n0+1+1),bp (n0+1)])) W):=Aa ⟨P,Q,A,S,_,rfl,HC0.out,⟨n0,n0+1+1,n0+1,rfl,⟨hu,f0,H1⟩,f2,f1⟩,M,At.refl A S⟩
  clear h hN H C0 C1 f0 f1 f2 H1 hl
  go_enter Tryz.func254,Tryz.ntmps254
  go_upto_region 1 with(fail)
  rw[←hW,←HN0.out]
  clear hW
  go_wp2_with fail
  go_ret
  rw[HR.out]
  exact HS.out
end
end Go.Proofs.YtoakelhnhkilcaaGreat

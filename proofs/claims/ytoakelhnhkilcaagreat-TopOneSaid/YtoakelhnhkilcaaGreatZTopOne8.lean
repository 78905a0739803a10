/-
  TopOne:what its proof rests on,part 8.
-/
import Derived.Laws.EntriesVeiled
import Derived.Test.YtoakelhnhkilcaaGreatZTopOne1
import Derived.Test.YtoakelhnhkilcaaGreatZTopOne7
set_option linter.unusedVariables false
set_option linter.unusedSimpArgs false
set_option maxRecDepth 100000
set_option maxHeartbeats 64000000
namespace Go.Proofs.YtoakelhnhkilcaaGreat
open Go.RowKit
section
attribute [local go_sem ↓] Go.wp_at_zero Go.wp_at_succ
theorem TX{P:Prop}(h:P:=by
 try go_wp2_with fail
 refine D_ hK (by exact⟨ce,cq,cj,cd⟩) (h:=fun hHeld=>?_);clear hK K
 refine Av 6 [7,8,9] (h:=Av 7 [8,9] (h:=Av 8 [9] (h:=?_)))
 refine AI (by kernel_rfl) rfl (by kernel_rfl) (fun K hK=>?_)
 try simp only[List.getElem_toArray,List.getElem_cons_zero,List.getElem_cons_succ]
 go_simp
 skip
 try go_wp2_with fail
 refine hK.out _ _ ?_
 clear hK K
 try simp only[Act.put,List.getElem_toArray,List.getElem_cons_zero,List.getElem_cons_succ,List.setIfInBounds_toArray,List.set_cons_zero,List.set_cons_succ]
 clear hHeld
 have HZ:=HC.out.setK 25 .nilFunc (K':={K with nx:= .nilFunc,cs:= .slice la2 (len+1) lc2}) rfl
 have HF:Hid (Gx B w P Q R A K la s1 (.idle) (L++[(l,sq)]) (.returned (.bool true)) (w3.setCell ⟨A.e,25,none⟩ .nilFunc)):=Aa (by
  refine⟨_,Q9,la2,lc2,rfl,?_,HS.out.onlyP HZ.2,HL9.out.far HZ.2 (fun b hb hp=>?_),HO9.out.trans (HZ.2.mono (fun b _ hb=> .inl hb)),fun b hb=>by rw[HQ9.out.1];exact .inl hb,fun b hb=>?_,fun b hb=>(HB2.out b hb).1.imp (fun z=>z) (fun z=>Nat.le_trans HQ9.out.2 z)⟩
  ·exact Ua
  ·exact Sx
  ·rw[HQ9.out.1]at hb
   rcases hb with y|y
   ·exact .inl y
   ·rcases(HB2.out b y).1 with z|z
    ·exact .inl (HL.out.q z)
    ·exact .inr ⟨y,Nat.le_trans HQ9.out.2 z⟩)
 clear HZ
 go_wp2_with fail
 go_ret
 rw[HR.out]
 rw[←HLN.out.2]
 obtain⟨v9,Q8,la8,lc8,e8,r8⟩:=HF.out
 clear HF
 exact⟨v9,Q8,la8,lc8,rfl,r8⟩):P:=h
theorem TM{P:Prop}(h:P:=by
 clear hW
 go_wp2_with fail
 refine CE.mono ?_
 rintro r w2 ⟨v,rfl,h2,o2⟩
 have HF:=Aa (And.intro h2 (HOW.out.trans o2))
 clear CE h2 o2
 go_wp2_with fail
 go_ret
 exact⟨_,rfl,by rw[HR.out];exact HF.out.1,HF.out.2⟩):P:=h
theorem SV{P:Prop}(h:P:=by
 have HF:=Aa (show Dj B w P Q R A K s1 (K.low) (DX (k+1)) false (.returned (.bool false)) _ from⟨(.func F1 b1 c1),rfl,HK.1,HS.out.onlyP HK.2,M.trans HK.2⟩)
 clear HK
 go_wp2_with fail
 go_ret
 exact HF.out):P:=h
theorem Th{P:Prop}(h:P:=by
 go_upto_region 1 with(fail)
 rw[←hW,←HBk.out,←HBe.out]
 clear hW
 go_wp2_with fail
 go_ret
 refine⟨_,rfl,?_,HOW.out⟩
 rw[HR.out]
 exact⟨be,bk,rfl,He.out,by have:=Hk.out;rw[HI.out]at this;exact this⟩):P:=h
theorem Sx{P:Prop}(h:P:=by
 rw[HQ9.out.1]at hb
 rcases hb with y|y
 ·exact HPQ.out b hp y
 ·rcases(HB2.out b y).1 with z|z
  ·exact HPQ.out b hp (HL.out.q z)
  ·have h1:=HUP.out b hp;have h2:=HQ9.out.2;omega):P:=h
theorem UV{P:Prop}(h:P:=by
 try go_wp2_with fail
 refine D_ hK (by exact⟨ce,cq,cj,cx⟩) (h:=fun hHeld=>?_);clear hK K
 refine Av 6 [7,8,9] (h:=Av 7 [8,9] (h:=Av 8 [9] (h:=?_)))
 refine AI (by kernel_rfl) rfl (by kernel_rfl) (fun K hK=>?_)
 try simp only[List.getElem_toArray,List.getElem_cons_zero,List.getElem_cons_succ]
 go_simp
 skip
 try go_wp2_with fail
 refine hK.out _ _ ?_
 clear hK K
 try simp only[Act.put,List.getElem_toArray,List.getElem_cons_zero,List.getElem_cons_succ,List.setIfInBounds_toArray,List.set_cons_zero,List.set_cons_succ]
 clear hHeld
 have HK:=HC.out.setK 25 (.func F1 b1 c1) (K':={K with nx:=(.func F1 b1 c1)}) rfl
 have HF:=Aa (show Dj B w P Q R A K s1 (K.low) (.unlink k a l) false (.returned (.bool false)) _ from⟨(.func F1 b1 c1),rfl,HK.1,HS.out.onlyP HK.2,M.trans HK.2⟩)
 clear HK
 go_wp2_with fail
 go_ret
 exact HF.out):P:=h
theorem TG{P:Prop}(h:P:=by
 try go_wp2_with fail
 refine D_ hK (by exact⟨ce,cq,cx⟩) (h:=fun hHeld=>?_);clear hK K
 refine Av 5 [6,7,8] (h:=Av 6 [7,8] (h:=Av 7 [8] (h:=?_)))
 refine AI (by kernel_rfl) rfl (by kernel_rfl) (fun K hK=>?_)
 try simp only[List.getElem_toArray,List.getElem_cons_zero,List.getElem_cons_succ]
 go_simp
 skip
 try go_wp2_with fail
 refine hK.out _ _ ?_
 clear hK K
 try simp only[Act.put,List.getElem_toArray,List.getElem_cons_zero,List.getElem_cons_succ,List.setIfInBounds_toArray,List.set_cons_zero,List.set_cons_succ]
 clear hHeld
 have HK:=HC.out.setK 25 (.func F1 b1 c1) (K':={K with nx:=(.func F1 b1 c1)}) rfl
 have HF:=Aa (show Dj B w P Q R A K s1 (K.low) (.on k l) false (.returned (.bool false)) _ from⟨(.func F1 b1 c1),rfl,HK.1,HS.out.onlyP HK.2,M.trans HK.2⟩)
 clear HK
 go_wp2_with fail
 go_ret
 exact HF.out):P:=h
theorem Tn{P:Prop}(h:P:=by
 refine AI (by kernel_rfl) rfl (by kernel_rfl) (fun K hK=>?_)
 try simp only[List.getElem_toArray,List.getElem_cons_zero,List.getElem_cons_succ]
 go_simp
 skip
 try go_wp2_with fail
 refine hK.out _ _ ?_
 clear hK K
 try simp only[Act.put,List.getElem_toArray,List.getElem_cons_zero,List.getElem_cons_succ,List.setIfInBounds_toArray,List.set_cons_zero,List.set_cons_succ]
 clear hHeld
 have HK:=HC.out.setK 25 .nilFunc (K':={K with nx:= .nilFunc}) rfl
 have HF:=Aa (show Dj B w P Q R A K s1 (K.low) (.idle) false (.returned (.bool false)) _ from⟨.nilFunc,rfl,HK.1,HS.out.onlyP HK.2,M.trans HK.2⟩)
 clear HK
 go_wp2_with fail
 go_ret
 rw[HR.out]
 exact HF.out):P:=h
theorem UG{P:Prop}(h:P:=by
 clear hrb
 go_enter Tryz.func205,Tryz.ntmps205
 go_wp2_with fail
 refine CR.mono ?_
 rintro e2 w2 ⟨rfl,o2⟩
 clear CR
 obtain⟨V,hV⟩:=Ad (w2.alloc (.cells #[.int .i64 1,.int .u64 nd] 195))
 obtain⟨sb,hsb⟩:=Ad w2.heap.size
 have BV:Am V sb 195 #[.int .i64 1,.int .u64 nd]:=by rw[hV,hsb];exact Am.new _ _ _
 have c0:=Ae V sb 0 (.int .i64 1) (BV.cell 0)
 have c1:=Ae V sb 1 (.int .u64 nd) (BV.cell 1)
 have HO:=Aa (show Ac w V by rw[hV];exact o2.alloc _)
 clear BV o2
 go_upto_region 2 with(fail)
 rw[←hV,←hsb]
 clear hV hsb
 go_wp2_with fail
 go_ret
 exact⟨by rw[HR.out];rfl,HO.out⟩):P:=h
theorem Sq{P:Prop}(h:P:=by
 have c1:=Ae V sb 1 (.int .u64 nd) (BV.cell 1)
 have HO:=Aa (show Ac w V by rw[hV];exact o2.alloc _)
 clear BV o2
 go_upto_region 2 with(fail)
 rw[←hV,←hsb]
 clear hV hsb
 go_wp2_with fail
 go_ret
 exact⟨by rw[HR.out];rfl,HO.out⟩):P:=h
theorem TV{P:Prop}(h:P:=by
 rw[HG.out.1]at q1
 injection q1 with q1
 injection q1 with q1 _ _
 subst q1
 exact⟨q3 kn (by show kn<(X.ds.set kn _).length;rw[List.length_set];exact hkl) 4 _ (by show(By (Ba (X.ds.set kn _) kn) _ _)[4]? =_;rw[Fy hkl,if_pos rfl];rfl),q2⟩):P:=h
theorem Sp{P:Prop}(h:P:=by
 rw[hw6]
 refine⟨AY.only0 ?_ ((Ac.refl _).drew),hS.2.trans (((Ac.refl _).drew).any _)⟩
 have:=hS.1
 simp only[List.set_set]at this
 exact this):P:=h
theorem Ub{P:Prop}(h:P:=by
 clear HZ
 go_wp2_with fail
 go_ret
 rw[←HLN.out.2]
 obtain⟨v9,Q8,la8,lc8,e8,r8⟩:=HF.out
 clear HF
 exact⟨v9,Q8,la8,lc8,rfl,r8⟩):P:=h
theorem Ue{P:Prop}(h:P:=by
 rw[hw5]
 exact⟨hS.1.only0 ((Ac.refl _).drew),hS.2.trans (((Ac.refl _).drew).any _)⟩):P:=h
theorem U0{P:Prop}(h:P:=by
 first|exact⟨se,sx,sc,sv⟩|exact⟨ue,ux,uc,uv⟩|exact⟨ze,zx,zc,zv⟩):P:=h
theorem Ua{P:Prop}(h:P:=by
 rw[List.length_append,List.length_singleton,←HLN.out.1];exact HZ.1):P:=h
theorem LY:(Tryz.prog.info? 3).map (fun i=>(i.zero,i.size,i.bytes))=some (some (.int .i64 0),1,8):=by kernel_rfl
section
variable {B N x e:Nat} {w w':World} {U:Nat→Prop} {M:GR} {X:Bh}
theorem IA(h:AY B w U x e M X)(hf:As N X.E)(hN:256≤N)(hN2:N≤30000000)(s:Int)(hs:0≤s∧s<8)(hb:(X.E.status s).busy=true){E':En}{re rv rn:Int}{rp:List (Int×Int)}(hi:X.E.step s=(⟨3,⟨re,rv,rp,3,rn⟩⟩,0,E'))(hlk:0≤X.E.looks∧X.E.looks≤1000000000∧X.E.looks≤E'.looks∧E'.looks≤X.E.looks+1)(hs2:E'.status s= .zero)(hid:1≤X.id s.toNat∧X.id s.toNat≤X.ds.length)(hdl:X.ds.length≤1000000):
 Calls Tryz.prog 16 #[bp x,s] w fun r w'=>r= .returned (.bool true)∧Bd B w U x e M (X.over E' s.toNat ⟨re,rv,rp,3,rn⟩ (X.E.status s).fin) w':=by
 have CS:=AQ h.en s
 have cE:=h.cE
 have HH:=Aa (And.intro h hf)
 rcases hst:X.E.status s with⟨a1,a2,a3,a4,a5,a6,a7,a8,a9⟩
 rw[hst,show Cv.row ⟨a1,a2,a3,a4,a5,a6,a7,a8,a9⟩=#[.bool a1,.bool a2,.bool a3,.int .i64 a4,.int .i64 a5,.int .i64 a6,.int .u64 a7,.int .u64 a8,.int .i64 a9] from rfl]at CS
 have HST:=Aa hst
 have HI:=Aa hi
 clear h hf hst hi
 obtain⟨s0,s1⟩:=hs
 obtain⟨j,hsj⟩:=Int.eq_ofNat_of_zero_le s0
 subst hsj
 have hj:j<8:=by omega
 have j8:(j:Int)<8:=by omega
 have g1:¬((j:Int)<0):=by omega
 have g2':¬((j:Int)>7):=by omega
 have ha:a2=true:=by rw[show X.E.status (j:Int)=_ from HST.out]at hb;exact hb
 have HA:=Aa ha
 clear hb ha
 have HLK:=Aa hlk
 have HS2:=Aa hs2
 obtain⟨kn,hkn,hklt⟩:∃kn:Nat,X.id j=(kn:Int)+1∧kn<X.ds.length:=⟨(X.id j-1).toNat,by have:=hid.1;simp only[Int.toNat_natCast]at this;omega,by have h1:=hid.1;have h2:=hid.2;simp only[Int.toNat_natCast]at h1 h2;omega⟩
 have hat9:X.at_ j=kn:=by unfold Bh.at_;rw[hkn];omega
 obtain⟨dn,hdn⟩:=Ad X.ds.length
 have hkd:kn<dn:=by rw[hdn];exact hklt
 have hdl9:dn≤1000000:=by rw[hdn];exact hdl
 have HK:=Aa (And.intro hkn (And.intro hat9 hdn))
 clear hlk hs2 hid hkn hat9 hdn hdl hklt
 go_enter Tryz.func16,Tryz.ntmps16
 go_wp2_with fail
 refine CS.mono ?_
 rintro r w1 ⟨rfl,o1⟩
 clear CS
 obtain⟨n1,hn1⟩:=Ad w1.heap.size
 obtain⟨W1,hW1⟩:=Ad (w1.alloc (.cells #[.bool a1,.bool a2,.bool a3,a4,a5,a6,.int .u64 a7,.int .u64 a8,a9] 46))
 have B1:Am W1 n1 46 #[.bool a1,.bool a2,.bool a3,a4,a5,a6,.int .u64 a7,.int .u64 a8,a9]:=by rw[hW1,hn1];exact Am.new _ _ _
 have nn1:w.heap.size≤n1:=by rw[hn1];exact o1.size
 have o01:Ac w W1:=by rw[hW1];exact o1.alloc _
 have hC1:=HH.out.1.only0 o01
 have nT1:¬Bl U x M n1:=fun q=>by
  exact Uu
 have CL:=Bf hC1.en
 obtain⟨L0,hL0⟩:=Ad X.E.looks
 rw[←hL0]at CL
 have HL0:=Aa hL0
 have CI:=Eu hC1.en HH.out.2 hN hN2 (j:Int)
 rw[HI.out]at CI
 replace CI:Calls Tryz.prog 36 #[bp e,.int .i64 (j:Int)] W1 (EY B W1 U (IC x M) e ⟨3,⟨re,rv,rp,3,rn⟩⟩ 0 E'):=CI
 have cE1:=hC1.cE
 have H1:=Aa (And.intro hC1 (And.intro B1 (And.intro nT1 o01)))
 clear hC1 B1 nT1 o01 o1 nn1 cE hL0
 go_upto_region 2 with(fail)
 rw[←hW1,←hn1]
 clear hn1 hW1
 go_wp2_with fail
 refine CL.mono ?_
 rintro r w1b ⟨rfl,rfl⟩
 clear CL
 go_wp2_with fail
 refine CI.mono ?_
 rintro r w2 ⟨pa,pc,U2,rfl,en2,ou2,g2,pi2,pf2⟩
 clear CI
 have h2:AY B w2 U2 x e M {X with E:=E'}:=H1.out.1.eng en2 ou2 g2
 have o2:Ah (Bl U x M) W1 w2:=ou2.mono (fun b _ hb=> .inl hb)
 have k2:AC W1.heap.size (Bl U x M) (Bl U2 x M):=fun b hb=>hb.elim (fun y=>(g2 b y).imp .inl (fun z=>z)) (fun y=> .inl (.inr y))
 have HPI:Hid (AV w2 pa rp∧∀y,pa=some y→W1.heap.size≤y.block∧y.block<w2.heap.size∧¬U2 y.block):=Aa ⟨pi2,pf2⟩
 obtain⟨n2,hn2⟩:=Ad w2.heap.size
 obtain⟨W2,hW2⟩:=Ad (w2.alloc (.cells #[.int .i64 3,re,rv,.slice pa rp.length pc,.int .i64 3,rn] 129))
 have B2:Am W2 n2 129 #[.int .i64 3,re,rv,.slice pa rp.length pc,.int .i64 3,rn]:=by rw[hW2,hn2];exact Am.new _ _ _
 have o2W:Ac w2 W2:=by rw[hW2];exact(Ac.refl w2).alloc _
 have hC2:=h2.only0 o2W
 have oV:=o2.trans (o2W.any (Bl U x M))
 have Y1:=oV.blk H1.out.2.1 H1.out.2.2.1
 obtain⟨d1,d2,d3,d4,d5,d6⟩:=GQ B2
 obtain⟨r1,r2,r3,r4,r5,r6,r7,r8,r9⟩:=Ch Y1
 have cE2:=hC2.cE
 have CL2:=Bf hC2.en
 have H2:=Aa (And.intro hC2 (And.intro oV k2))
 have H2B:=Aa (And.intro B2 (And.intro Y1 (show w.heap.size≤W2.heap.size from Nat.le_trans H1.out.2.2.2.size oV.size)))
 have H2B2:=Aa o2W
 have HNN2:Hid (w.heap.size≤n2):=Aa (by rw[hn2];exact Nat.le_trans H1.out.2.2.2.size o2.size)
 clear hC2 oV Y1 B2 o2W h2 o2 k2 en2 ou2 g2 pi2 pf2
 go_upto_region 4 with(fail)
 rw[←hW2,←hn2]
 clear hW2 hn2
 rw[HA.out]at r2
 obtain⟨L1,hL1⟩:=Ad E'.looks
 rw[show({X with E:=E'}:Bh).E.looks=L1 from hL1.symm]at CL2
 obtain⟨l1,l2,l3⟩:(0≤L0∧L0≤1000000000)∧L0≤L1∧L1≤L0+1:=by rw[hL1,HL0.out];exact⟨⟨HLK.out.1,HLK.out.2.1⟩,HLK.out.2.2.1,HLK.out.2.2.2⟩
 have hw1:IntKind.i64.wrap (L0+1)=L0+1:=by rw[IntKind.wrap_i64];omega
 have c1:¬(L1>L0+1):=by omega
 have c2:¬(L1<L0):=by omega
 have CS2:=AQ H2.out.1.en (j:Int)
 rw[show({X with E:=E'}:Bh).E.status (j:Int)=_ from HS2.out,show Cv.zero.row=#[.bool false,.bool false,.bool false,.int .i64 0,.int .i64 0,.int .i64 0,.int .u64 0,.int .u64 0,.int .i64 0] from rfl]at CS2
 clear hL1
 go_wp2_with fail
 refine CL2.mono ?_
 rintro r w3 ⟨rfl,rfl⟩
 go_wp2_with fail
 refine CL2.mono ?_
 rintro r w3 ⟨rfl,rfl⟩
 clear CL2
 go_wp2_with fail
 refine CS2.mono ?_
 rintro r w3 ⟨rfl,o3⟩
 clear CS2
 obtain⟨n3,hn3⟩:=Ad w3.heap.size
 obtain⟨W3,hW3⟩:=Ad (w3.alloc (.cells #[.bool false,.bool false,.bool false,.int .i64 0,.int .i64 0,.int .i64 0,.int .u64 0,.int .u64 0,.int .i64 0] 46))
 have B3:Am W3 n3 46 #[.bool false,.bool false,.bool false,.int .i64 0,.int .i64 0,.int .i64 0,.int .u64 0,.int .u64 0,.int .i64 0]:=by rw[hW3,hn3];exact Am.new _ _ _
 have o3W:Ac W2 W3:=by rw[hW3];exact o3.alloc _
 have hC3:=H2.out.1.only0 o3W
 have B2:Am W3 n2 129 #[.int .i64 3,re,rv,.slice pa rp.length pc,.int .i64 3,rn]:=o3W.blk H2B.out.1 (fun f=>f)
 have YB:Am W3 n1 46 #[.bool a1,.bool a2,.bool a3,a4,a5,a6,.int .u64 a7,.int .u64 a8,a9]:=o3W.blk H2B.out.2.1 (fun f=>f)
 have n3s:w.heap.size≤n3:=by rw[hn3];exact Nat.le_trans H2B.out.2.2 o3.size
 have HPJ:Hid (AV W3 pa rp∧∀y,pa=some y→W1.heap.size≤y.block∧y.block<W3.heap.size∧¬U2 y.block):=Aa (by
  have o9:=H2B2.out.trans o3W
  exact⟨HPI.out.1.only (S:=fun _=>False) o9 (fun _ _ hf=>hf),fun y hy=>⟨(HPI.out.2 y hy).1,Nat.lt_of_lt_of_le (HPI.out.2 y hy).2.1 o9.size,(HPI.out.2 y hy).2.2⟩⟩)
 obtain⟨d1,d2,d3,d4,d5,d6⟩:=GQ B2
 obtain⟨t1,t2,t3,t4,t5,t6,t7,t8,t9⟩:=Ch B3
 have cI3:=hC3.cI j hj
 rw[show({X with E:=E'}:Bh).id j=(kn:Int)+1 from HK.out.1]at cI3
 have cD3:=hC3.cD
 rw[show({X with E:=E'}:Bh).ds.length=dn from HK.out.2.2.symm]at cD3
 have HM:=hC3.dd.at_ (show 0<({X with E:=E'}:Bh).ds.length by have:=HK.out.2.2;show 0<X.ds.length;omega)
 obtain⟨g,hva,hgR,hglt,hgf,hgc⟩:=HM
 rw[hva]at cD3
 have hw2:IntKind.i64.wrap ((kn:Int)+1-1)=(kn:Int):=by rw[IntKind.wrap_i64];omega
 have c3:¬((kn:Int)<0):=by omega
 have c4:¬((kn:Int)≥(dn:Int)):=by omega
 have c5:¬(dn≤kn):=by omega
 have H3:=Aa (And.intro hC3 (And.intro (H2.out.2.1.trans (o3W.any _)) H2.out.2.2))
 have HG:=Aa (And.intro hva (And.intro hgR (And.intro hglt (And.intro hgf hgc))))
 have HB3:=Aa (And.intro B3 (And.intro B2 (And.intro YB n3s)))
 clear o3 o3W B3 B2 YB H2 H2B H2B2 HPI r1 r2 r3 r4 r5 r6 r7 r8 r9 cE1 cE2 hC3 hva hgR hglt hgf hgc n3s
 go_upto_region 11 with(fail)
 rw[←hW3,←hn3]
 clear hW3 hn3
 have HN3:Hid (¬IC x M n3):=Aa (fun hR=>by have:=HH.out.1.under n3 hR;have:=HB3.out.2.2.2;omega)
 have HN2:Hid (¬IC x M n2):=Aa (fun hR=>by have:=HH.out.1.under n2 hR;have:=HNN2.out;omega)
 have HN1:Hid (¬IC x M n1):=Aa (fun hR=>H1.out.2.2.1 (.inr hR))
 have GW:AC w.heap.size (Bl U x M) (Bl U2 x M):=fun b hb=>(H3.out.2.2 b hb).imp (fun y=>y) (fun y=>Nat.le_trans H1.out.2.2.2.size y)
 have hkl:kn<X.ds.length:=by rw[←HK.out.2.2];exact hkd
 have c2:=Ae W3 g (kn*6+2) (.int .i64 (Ba X.ds kn).state) (HG.out.2.2.2.2 kn hkl 2 _ rfl)
 have gf:=HG.out.2.2.2.1
 go_upto_region 22 with(fail)
 obtain⟨w5,hw5⟩:=Ad ((W3.setCell ⟨g,kn*6+2,none⟩ (.int .i64 3)).drew)
 obtain⟨h5,o5⟩:AY B w5 U2 x e M {X with E:=E',ds:=X.ds.set kn {Ba X.ds kn with state:=3}}∧Ah M.R W3 w5:=by
  have hS:=H3.out.1.turnD (f:=2) (v:= .int .i64 3) hkl HG.out.1 (by decide) (d':={Ba X.ds kn with state:=3}) rfl (fun a c=>rfl)
  exact Ue
 have cD5:=h5.cD
 rw[show({X with E:=E',ds:=X.ds.set kn {Ba X.ds kn with state:=3}}:Bh).ds.length=dn by show(X.ds.set kn _).length=dn;rw[List.length_set];exact HK.out.2.2.symm,HG.out.1]at cD5
 have e5:=Ae w5 n2 4 (.int .i64 3) (AH o5 d5 (fun q=>HN2.out (.inr (.inl q))))
 have e6:=Ae w5 n2 5 (.int .i64 rn) (AH o5 d6 (fun q=>HN2.out (.inr (.inl q))))
 have y8:=Ae w5 n1 7 (.int .u64 a8) (AH o5 (Ch HB3.out.2.2.1).2.2.2.2.2.2.2.1 (fun q=>HN1.out (.inr (.inl q))))
 obtain⟨c45,gf5⟩:Ab w5 g (kn*6+4) (.int .u64 (Ba X.ds kn).fin)∧∀o,w5.frozen? ⟨g,o,none⟩=false:=by
  obtain⟨g',q1,_,_,q2,q3⟩:=h5.dd.at_ (show 0<(X.ds.set kn {Ba X.ds kn with state:=3}).length by rw[List.length_set];omega)
  exact TV
 have H5:=Aa (And.intro h5 o5)
 clear h5 o5
 go_region
 go_upto_region 23 with(fail)
 rw[←hw5]
 clear hw5 c2 gf cD3 d1 d2 d3 d4 d5 d6 t1 t2 t3 t4 t5 t6 t7 t8 t9 cI3
 obtain⟨w6,hw6⟩:=Ad ((w5.setCell ⟨g,kn*6+4,none⟩ (.int .u64 a8)).drew)
 obtain⟨h6,o6⟩:AY B w6 U2 x e M {X with E:=E',ds:=X.ds.set kn ((Ba X.ds kn).ended 3 a8)}∧Ah M.R w5 w6:=by
  have hd1:Ba (X.ds.set kn {Ba X.ds kn with state:=3}) kn={Ba X.ds kn with state:=3}:=by rw[Fy hkl,if_pos rfl]
  have hS:=H5.out.1.turnD (i:=kn) (f:=4) (v:= .int .u64 a8) (by show kn<(X.ds.set kn _).length;rw[List.length_set];exact hkl) HG.out.1 (by decide) (d':=(Ba X.ds kn).ended 3 a8) (by show _=(Ba (X.ds.set kn _) kn).ops;rw[hd1];rfl) (fun a c=>by show _=(By (Ba (X.ds.set kn _) kn) a c).set 4 _;rw[hd1];rfl)
  exact Sp
 have f5:=Ae w6 n2 4 (.int .i64 3) (AH o6 e5 (fun q=>HN2.out (.inr (.inl q))))
 have f6:=Ae w6 n2 5 (.int .i64 rn) (AH o6 e6 (fun q=>HN2.out (.inr (.inl q))))
 have H6:=Aa (And.intro h6 (H5.out.2.trans o6))
 clear h6 o6
 go_region
 go_upto_region 24 with(fail)
 rw[←hw6]
 clear hw6 cD5 e5 e6 y8 c45 gf5
 obtain⟨M',hM'⟩:∃M',M'=M:=⟨_,rfl⟩
 obtain⟨w8,hw8⟩:=Ad w6
 have h8:AY B w8 U2 x e M' {X with E:=E',ds:=X.ds.set kn ((Ba X.ds kn).ended 3 a8)}:=by rw[hw8,hM'];exact H6.out.1
 have o8:Ah (Bl U2 x M) w6 w8:=by rw[hw8];exact Ah.refl _ _
 have g8:AC w6.heap.size (Bl U2 x M) (Bl U2 x M'):=by rw[hM'];exact AC.refl _ _
 have o38:Ah (IC x M) W3 w8:=by rw[hw8];exact H6.out.2.mono (fun b _ hb=> .inr (.inl hb))
 rw[←hw8]at f5 f6 ⊢
 clear hw8 hM'
 have cI8:=h8.cI j hj
 have fI8:=h8.blk.free (2+j)
 obtain⟨w9,hw9⟩:=Ad (w8.setCell ⟨x,2+j,none⟩ (.int .i64 0))
 have h9:AY B w9 U2 x e M' {X with E:=E',ds:=X.ds.set kn ((Ba X.ds kn).ended 3 a8),id:=AT X.id j 0}:=by rw[hw9];exact h8.cell (op2:=X.op) _ _ (KZ e M' _ j hj 0)
 have o9:Ah (fun b=>b=x) w8 w9:=by rw[hw9];exact Ah.setCell (S:=fun b=>b=x) (Ah.refl _ w8) (fun _=>rfl) _
 obtain⟨t1,t2,t3,t4,t5,t6,t7,t8,t9⟩:=Ch ((o38.trans (o9.mono (fun b _ hb=> .inl hb))).blk HB3.out.1 HN3.out)
 have hz:=IT w9
 have HFIN:Hid (Bd B w U x e M (X.over E' (j:Int).toNat ⟨re,rv,rp,3,rn⟩ a8) w9):=Aa (by
  have e9:X.over E' (j:Int).toNat ⟨re,rv,rp,3,rn⟩ a8={X with E:=E',ds:=X.ds.set kn ((Ba X.ds kn).ended 3 a8),id:=AT X.id j 0}:=by
   unfold Bh.over;rw[Int.toNat_natCast,HK.out.2.1];rfl
  rw[e9]
  have h36:Ah (Bl U2 x M) W3 w6:=H6.out.2.mono (fun b _ hb=> .inr (.inr (.inl hb)))
  refine Bd.then ((H1.out.2.2.2.any (Bl U x M)).trans H3.out.2.1) GW ⟨U2,M',h9,(h36.trans o8).trans (o9.mono (fun b _ hb=> .inr (.inl hb))),fun b hb=>(g8 b hb).imp (fun z=>z) (fun z=>Nat.le_trans h36.size z)⟩)
 clear h8 o8 g8 o38 h9 o9 H3 H5 H6
 go_upto_region 27 with(fail)
 rw[←hw9]
 clear hw9 cI8 fI8
 go_wp2_with fail
 go_ret
 exact⟨rfl,HFIN.out⟩
theorem Iu(h:AY B w U x e M X)(hf:As N X.E)(hN:256≤N)(hN2:N≤30000000)(s:Int)(hs:0≤s∧s<8)(hb:(X.E.status s).busy=true){E':En}{re rv rn:Int}{rp:List (Int×Int)}(hi:X.E.step s=(⟨3,⟨re,rv,rp,4,rn⟩⟩,0,E'))(hlk:0≤X.E.looks∧X.E.looks≤1000000000∧X.E.looks≤E'.looks∧E'.looks≤X.E.looks+1)(hs2:E'.status s= .zero)(hid:1≤X.id s.toNat∧X.id s.toNat≤X.ds.length)(hdl:X.ds.length≤1000000)(hgl:X.gone.length≤30000000):
 Calls Tryz.prog 16 #[bp x,s] w fun r w'=>r= .returned (.bool true)∧Bd B w U x e M (X.over E' s.toNat ⟨re,rv,rp,4,rn⟩ (X.E.status s).fin) w':=by
 have CS:=AQ h.en s
 have cE:=h.cE
 have HH:=Aa (And.intro h hf)
 rcases hst:X.E.status s with⟨a1,a2,a3,a4,a5,a6,a7,a8,a9⟩
 rw[hst,show Cv.row ⟨a1,a2,a3,a4,a5,a6,a7,a8,a9⟩=#[.bool a1,.bool a2,.bool a3,.int .i64 a4,.int .i64 a5,.int .i64 a6,.int .u64 a7,.int .u64 a8,.int .i64 a9] from rfl]at CS
 have HST:=Aa hst
 have HI:=Aa hi
 clear h hf hst hi
 obtain⟨s0,s1⟩:=hs
 obtain⟨j,hsj⟩:=Int.eq_ofNat_of_zero_le s0
 subst hsj
 have hj:j<8:=by omega
 have j8:(j:Int)<8:=by omega
 have g1:¬((j:Int)<0):=by omega
 have g2':¬((j:Int)>7):=by omega
 have ha:a2=true:=by rw[show X.E.status (j:Int)=_ from HST.out]at hb;exact hb
 have HA:=Aa ha
 clear hb ha
 have HLK:=Aa hlk
 have HS2:=Aa hs2
 obtain⟨kn,hkn,hklt⟩:∃kn:Nat,X.id j=(kn:Int)+1∧kn<X.ds.length:=⟨(X.id j-1).toNat,by have:=hid.1;simp only[Int.toNat_natCast]at this;omega,by have h1:=hid.1;have h2:=hid.2;simp only[Int.toNat_natCast]at h1 h2;omega⟩
 have hat9:X.at_ j=kn:=by unfold Bh.at_;rw[hkn];omega
 obtain⟨dn,hdn⟩:=Ad X.ds.length
 have hkd:kn<dn:=by rw[hdn];exact hklt
 have hdl9:dn≤1000000:=by rw[hdn];exact hdl
 have HK:=Aa (And.intro hkn (And.intro hat9 hdn))
 clear hlk hs2 hid hkn hat9 hdn hdl hklt
 obtain⟨gl,hgl9⟩:=Ad X.gone.length
 have hgl0:gl≤30000000:=by rw[hgl9];exact hgl
 have HGL:=Aa hgl9
 clear hgl hgl9
 go_enter Tryz.func16,Tryz.ntmps16
 go_wp2_with fail
 refine CS.mono ?_
 rintro r w1 ⟨rfl,o1⟩
 clear CS
 obtain⟨n1,hn1⟩:=Ad w1.heap.size
 obtain⟨W1,hW1⟩:=Ad (w1.alloc (.cells #[.bool a1,.bool a2,.bool a3,a4,a5,a6,.int .u64 a7,.int .u64 a8,a9] 46))
 have B1:Am W1 n1 46 #[.bool a1,.bool a2,.bool a3,a4,a5,a6,.int .u64 a7,.int .u64 a8,a9]:=by rw[hW1,hn1];exact Am.new _ _ _
 have nn1:w.heap.size≤n1:=by rw[hn1];exact o1.size
 have o01:Ac w W1:=by rw[hW1];exact o1.alloc _
 have hC1:=HH.out.1.only0 o01
 have nT1:¬Bl U x M n1:=fun q=>by
  exact Uu
 have CL:=Bf hC1.en
 obtain⟨L0,hL0⟩:=Ad X.E.looks
 rw[←hL0]at CL
 have HL0:=Aa hL0
 have CI:=Eu hC1.en HH.out.2 hN hN2 (j:Int)
 rw[HI.out]at CI
 replace CI:Calls Tryz.prog 36 #[bp e,.int .i64 (j:Int)] W1 (EY B W1 U (IC x M) e ⟨3,⟨re,rv,rp,4,rn⟩⟩ 0 E'):=CI
 have cE1:=hC1.cE
 have H1:=Aa (And.intro hC1 (And.intro B1 (And.intro nT1 o01)))
 clear hC1 B1 nT1 o01 o1 nn1 cE hL0
 go_upto_region 2 with(fail)
 rw[←hW1,←hn1]
 clear hn1 hW1
 go_wp2_with fail
 refine CL.mono ?_
 rintro r w1b ⟨rfl,rfl⟩
 clear CL
 go_wp2_with fail
 refine CI.mono ?_
 rintro r w2 ⟨pa,pc,U2,rfl,en2,ou2,g2,pi2,pf2⟩
 clear CI
 have h2:AY B w2 U2 x e M {X with E:=E'}:=H1.out.1.eng en2 ou2 g2
 have o2:Ah (Bl U x M) W1 w2:=ou2.mono (fun b _ hb=> .inl hb)
 have k2:AC W1.heap.size (Bl U x M) (Bl U2 x M):=fun b hb=>hb.elim (fun y=>(g2 b y).imp .inl (fun z=>z)) (fun y=> .inl (.inr y))
 have HPI:Hid (AV w2 pa rp∧∀y,pa=some y→W1.heap.size≤y.block∧y.block<w2.heap.size∧¬U2 y.block):=Aa ⟨pi2,pf2⟩
 obtain⟨n2,hn2⟩:=Ad w2.heap.size
 obtain⟨W2,hW2⟩:=Ad (w2.alloc (.cells #[.int .i64 3,re,rv,.slice pa rp.length pc,.int .i64 4,rn] 129))
 have B2:Am W2 n2 129 #[.int .i64 3,re,rv,.slice pa rp.length pc,.int .i64 4,rn]:=by rw[hW2,hn2];exact Am.new _ _ _
 have o2W:Ac w2 W2:=by rw[hW2];exact(Ac.refl w2).alloc _
 have hC2:=h2.only0 o2W
 have oV:=o2.trans (o2W.any (Bl U x M))
 have Y1:=oV.blk H1.out.2.1 H1.out.2.2.1
 obtain⟨d1,d2,d3,d4,d5,d6⟩:=GQ B2
 obtain⟨r1,r2,r3,r4,r5,r6,r7,r8,r9⟩:=Ch Y1
 have cE2:=hC2.cE
 have CL2:=Bf hC2.en
 have H2:=Aa (And.intro hC2 (And.intro oV k2))
 have H2B:=Aa (And.intro B2 (And.intro Y1 (show w.heap.size≤W2.heap.size from Nat.le_trans H1.out.2.2.2.size oV.size)))
 have H2B2:=Aa o2W
 have HNN2:Hid (w.heap.size≤n2):=Aa (by rw[hn2];exact Nat.le_trans H1.out.2.2.2.size o2.size)
 clear hC2 oV Y1 B2 o2W h2 o2 k2 en2 ou2 g2 pi2 pf2
 go_upto_region 4 with(fail)
 rw[←hW2,←hn2]
 clear hW2 hn2
 rw[HA.out]at r2
 obtain⟨L1,hL1⟩:=Ad E'.looks
 rw[show({X with E:=E'}:Bh).E.looks=L1 from hL1.symm]at CL2
 obtain⟨l1,l2,l3⟩:(0≤L0∧L0≤1000000000)∧L0≤L1∧L1≤L0+1:=by rw[hL1,HL0.out];exact⟨⟨HLK.out.1,HLK.out.2.1⟩,HLK.out.2.2.1,HLK.out.2.2.2⟩
 have hw1:IntKind.i64.wrap (L0+1)=L0+1:=by rw[IntKind.wrap_i64];omega
 have c1:¬(L1>L0+1):=by omega
 have c2:¬(L1<L0):=by omega
 have CS2:=AQ H2.out.1.en (j:Int)
 rw[show({X with E:=E'}:Bh).E.status (j:Int)=_ from HS2.out,show Cv.zero.row=#[.bool false,.bool false,.bool false,.int .i64 0,.int .i64 0,.int .i64 0,.int .u64 0,.int .u64 0,.int .i64 0] from rfl]at CS2
 clear hL1
 go_wp2_with fail
 refine CL2.mono ?_
 rintro r w3 ⟨rfl,rfl⟩
 go_wp2_with fail
 refine CL2.mono ?_
 rintro r w3 ⟨rfl,rfl⟩
 clear CL2
 go_wp2_with fail
 refine CS2.mono ?_
 rintro r w3 ⟨rfl,o3⟩
 clear CS2
 obtain⟨n3,hn3⟩:=Ad w3.heap.size
 obtain⟨W3,hW3⟩:=Ad (w3.alloc (.cells #[.bool false,.bool false,.bool false,.int .i64 0,.int .i64 0,.int .i64 0,.int .u64 0,.int .u64 0,.int .i64 0] 46))
 have B3:Am W3 n3 46 #[.bool false,.bool false,.bool false,.int .i64 0,.int .i64 0,.int .i64 0,.int .u64 0,.int .u64 0,.int .i64 0]:=by rw[hW3,hn3];exact Am.new _ _ _
 have o3W:Ac W2 W3:=by rw[hW3];exact o3.alloc _
 have hC3:=H2.out.1.only0 o3W
 have B2:Am W3 n2 129 #[.int .i64 3,re,rv,.slice pa rp.length pc,.int .i64 4,rn]:=o3W.blk H2B.out.1 (fun f=>f)
 have YB:Am W3 n1 46 #[.bool a1,.bool a2,.bool a3,a4,a5,a6,.int .u64 a7,.int .u64 a8,a9]:=o3W.blk H2B.out.2.1 (fun f=>f)
 have n3s:w.heap.size≤n3:=by rw[hn3];exact Nat.le_trans H2B.out.2.2 o3.size
 have HPJ:Hid (AV W3 pa rp∧∀y,pa=some y→W1.heap.size≤y.block∧y.block<W3.heap.size∧¬U2 y.block):=Aa (by
  have o9:=H2B2.out.trans o3W
  exact⟨HPI.out.1.only (S:=fun _=>False) o9 (fun _ _ hf=>hf),fun y hy=>⟨(HPI.out.2 y hy).1,Nat.lt_of_lt_of_le (HPI.out.2 y hy).2.1 o9.size,(HPI.out.2 y hy).2.2⟩⟩)
 obtain⟨d1,d2,d3,d4,d5,d6⟩:=GQ B2
 obtain⟨t1,t2,t3,t4,t5,t6,t7,t8,t9⟩:=Ch B3
 have cI3:=hC3.cI j hj
 rw[show({X with E:=E'}:Bh).id j=(kn:Int)+1 from HK.out.1]at cI3
 have cD3:=hC3.cD
 rw[show({X with E:=E'}:Bh).ds.length=dn from HK.out.2.2.symm]at cD3
 have HM:=hC3.dd.at_ (show 0<({X with E:=E'}:Bh).ds.length by have:=HK.out.2.2;show 0<X.ds.length;omega)
 obtain⟨g,hva,hgR,hglt,hgf,hgc⟩:=HM
 rw[hva]at cD3
 have hw2:IntKind.i64.wrap ((kn:Int)+1-1)=(kn:Int):=by rw[IntKind.wrap_i64];omega
 have c3:¬((kn:Int)<0):=by omega
 have c4:¬((kn:Int)≥(dn:Int)):=by omega
 have c5:¬(dn≤kn):=by omega
 have H3:=Aa (And.intro hC3 (And.intro (H2.out.2.1.trans (o3W.any _)) H2.out.2.2))
 have HG:=Aa (And.intro hva (And.intro hgR (And.intro hglt (And.intro hgf hgc))))
 have HB3:=Aa (And.intro B3 (And.intro B2 (And.intro YB n3s)))
 clear o3 o3W B3 B2 YB H2 H2B H2B2 HPI r1 r2 r3 r4 r5 r6 r7 r8 r9 cE1 cE2 hC3 hva hgR hglt hgf hgc n3s
 go_upto_region 11 with(fail)
 rw[←hW3,←hn3]
 clear hW3 hn3
 have HN3:Hid (¬IC x M n3):=Aa (fun hR=>by have:=HH.out.1.under n3 hR;have:=HB3.out.2.2.2;omega)
 have HN2:Hid (¬IC x M n2):=Aa (fun hR=>by have:=HH.out.1.under n2 hR;have:=HNN2.out;omega)
 have HN1:Hid (¬IC x M n1):=Aa (fun hR=>H1.out.2.2.1 (.inr hR))
 have GW:AC w.heap.size (Bl U x M) (Bl U2 x M):=fun b hb=>(H3.out.2.2 b hb).imp (fun y=>y) (fun y=>Nat.le_trans H1.out.2.2.2.size y)
 have hkl:kn<X.ds.length:=by rw[←HK.out.2.2];exact hkd
 have c2:=Ae W3 g (kn*6+2) (.int .i64 (Ba X.ds kn).state) (HG.out.2.2.2.2 kn hkl 2 _ rfl)
 have gf:=HG.out.2.2.2.1
 go_upto_region 22 with(fail)
 obtain⟨w5,hw5⟩:=Ad ((W3.setCell ⟨g,kn*6+2,none⟩ (.int .i64 4)).drew)
 obtain⟨h5,o5⟩:AY B w5 U2 x e M {X with E:=E',ds:=X.ds.set kn {Ba X.ds kn with state:=4}}∧Ah M.R W3 w5:=by
  have hS:=H3.out.1.turnD (f:=2) (v:= .int .i64 4) hkl HG.out.1 (by decide) (d':={Ba X.ds kn with state:=4}) rfl (fun a c=>rfl)
  exact Ue
 have cD5:=h5.cD
 rw[show({X with E:=E',ds:=X.ds.set kn {Ba X.ds kn with state:=4}}:Bh).ds.length=dn by show(X.ds.set kn _).length=dn;rw[List.length_set];exact HK.out.2.2.symm,HG.out.1]at cD5
 have e5:=Ae w5 n2 4 (.int .i64 4) (AH o5 d5 (fun q=>HN2.out (.inr (.inl q))))
 have e6:=Ae w5 n2 5 (.int .i64 rn) (AH o5 d6 (fun q=>HN2.out (.inr (.inl q))))
 have y8:=Ae w5 n1 7 (.int .u64 a8) (AH o5 (Ch HB3.out.2.2.1).2.2.2.2.2.2.2.1 (fun q=>HN1.out (.inr (.inl q))))
 obtain⟨c45,gf5⟩:Ab w5 g (kn*6+4) (.int .u64 (Ba X.ds kn).fin)∧∀o,w5.frozen? ⟨g,o,none⟩=false:=by
  obtain⟨g',q1,_,_,q2,q3⟩:=h5.dd.at_ (show 0<(X.ds.set kn {Ba X.ds kn with state:=4}).length by rw[List.length_set];omega)
  exact TV
 have H5:=Aa (And.intro h5 o5)
 clear h5 o5
 go_region
 go_upto_region 23 with(fail)
 rw[←hw5]
 clear hw5 c2 gf cD3 d1 d2 d3 d4 d5 d6 t1 t2 t3 t4 t5 t6 t7 t8 t9 cI3
 obtain⟨w6,hw6⟩:=Ad ((w5.setCell ⟨g,kn*6+4,none⟩ (.int .u64 a8)).drew)
 obtain⟨h6,o6⟩:AY B w6 U2 x e M {X with E:=E',ds:=X.ds.set kn ((Ba X.ds kn).ended 4 a8)}∧Ah M.R w5 w6:=by
  have hd1:Ba (X.ds.set kn {Ba X.ds kn with state:=4}) kn={Ba X.ds kn with state:=4}:=by rw[Fy hkl,if_pos rfl]
  have hS:=H5.out.1.turnD (i:=kn) (f:=4) (v:= .int .u64 a8) (by show kn<(X.ds.set kn _).length;rw[List.length_set];exact hkl) HG.out.1 (by decide) (d':=(Ba X.ds kn).ended 4 a8) (by show _=(Ba (X.ds.set kn _) kn).ops;rw[hd1];rfl) (fun a c=>by show _=(By (Ba (X.ds.set kn _) kn) a c).set 4 _;rw[hd1];rfl)
  exact Sp
 have f5:=Ae w6 n2 4 (.int .i64 4) (AH o6 e5 (fun q=>HN2.out (.inr (.inl q))))
 have f6:=Ae w6 n2 5 (.int .i64 rn) (AH o6 e6 (fun q=>HN2.out (.inr (.inl q))))
 have H6:=Aa (And.intro h6 (H5.out.2.trans o6))
 clear h6 o6
 go_region
 go_upto_region 24 with(fail)
 rw[←hw6]
 clear hw6 cD5 e5 e6 y8 c45 gf5
 obtain⟨j0,hj0,hy0,hy1,hy2⟩:=info_parts LY
 obtain⟨W7,hW7⟩:=Ad ((w6.alloc (.cells #[rn] 3)).drew)
 have oo7:Ac w6 W7:=by rw[hW7];exact((Ac.refl _).alloc _).drew
 have L7:=H6.out.1.only0 oo7
 have sg:=H6.out.1.cG
 rw[show({X with E:=E',ds:=X.ds.set kn ((Ba X.ds kn).ended 4 a8)}:Bh).gone.length=gl from HGL.out.symm]at sg
 have R7:W7.ownsRow B 3 1 (.slice M.ga gl M.gc) gl (FU X.gone):=by have:=L7.gn;rw[show({X with E:=E',ds:=X.ds.set kn ((Ba X.ds kn).ended 4 a8)}:Bh).gone.length=gl from HGL.out.symm]at this;exact this
 have z7:W7.heap.size=w6.heap.size+1:=by rw[hW7];simp
 have hB7:B≤W7.heap.size:=L7.en.base
 have hx7:x<W7.heap.size:=L7.blk.lt
 have nrx:¬(Value.slice M.ga gl M.gc).ownBlock=some x:=fun q=>L7.xG (FT (n:=gl) (c:=M.gc) q)
 have ug:=Ai oo7 sg
 have uf:=Ai oo7 f6
 have n2g:¬(Value.slice M.ga gl M.gc).ownBlock=some n2:=fun q=>HN2.out (.inr (.inr (FT (n:=gl) (c:=M.gc) q)))
 have hn7:n2<W7.heap.size:=block_lt_of_cell uf
 have fz7:W7.frozen? ⟨x,42,none⟩=false:=L7.blk.free 42
 have APP:Hid (∀(gg cap:Nat) (w1:World),w1.ownsRow B 3 1 (.slice (some ⟨gg,0,none⟩) (gl+1) cap) (gl+1) (FU X.gone++[.int .i64 rn])→W7.grownBy w1 (Value.slice M.ga gl M.gc).ownBlock→((Value.slice M.ga gl M.gc).ownBlock=some gg∨gg=w6.heap.size+1)→gg<w1.heap.size→
  ∃M',AY B (w1.setCell ⟨x,42,none⟩ (.slice (some ⟨gg,0,none⟩) (gl+1) cap)) U2 x e M' {X with E:=E',ds:=X.ds.set kn ((Ba X.ds kn).ended 4 a8),gone:=X.gone++[rn]}∧Ah (Bl U2 x M) w6 (w1.setCell ⟨x,42,none⟩ (.slice (some ⟨gg,0,none⟩) (gl+1) cap))∧AC w6.heap.size (Bl U2 x M) (Bl U2 x M')∧Ah (fun b=>b=x∨gB M b) w6 (w1.setCell ⟨x,42,none⟩ (.slice (some ⟨gg,0,none⟩) (gl+1) cap))):=Aa (by
  intro gg cap w1 h1 h2 h3 h4
  have el:=HGL.out
  subst el
  obtain⟨M',D',O',G',OX⟩:=L7.gone1 (r:=rn) h1 h2 (h3.imp (fun h=>h) (fun h=>by omega)) h4
  exact⟨M',D',(oo7.any _).trans O',fun b hb=>(G' b hb).imp (fun z=>z) (fun z=>Nat.le_trans oo7.size z),(oo7.any _).trans OX⟩)
 rw[hW7]at R7 z7 hB7 hx7 hn7 fz7 APP ug uf
 clear L7 hW7 oo7
 go_upto_region 25 with(fail)
 refine Ao (S:=(fun w'=>Ab w' x 42 (.slice M.ga gl M.gc)∧Ab w' n2 5 (.int .i64 rn))) 12 (by kernel_rfl) ?_ (fun hHeld=>?_)
 ·first|exact⟨sg,f6⟩|exact⟨ug,uf⟩|exact⟨zg,zf⟩
 refine Av 0 [12] (h:=Av 1 [12] (h:=Av 2 [12] (h:=Av 3 [12] (h:=Av 4 [12] (h:=Av 5 [12] (h:=Av 6 [12] (h:=Av 7 [12] (h:=Bx (i:=8) (h:=fun K hK=>?_)))))))))
 go_simp
 skip
 try go_wp2_with fail
 refine D_ hK (by first|exact⟨sg,f6⟩|exact⟨ug,uf⟩|exact⟨zg,zf⟩) (h:=fun hHeld=>?_);clear hK K
 refine Bx (i:=9) (h:=fun K hK=>?_)
 try simp only[List.getElem_toArray,List.getElem_cons_zero,List.getElem_cons_succ]
 (rw[if_pos (by simp[Region.wanted])];refine wp_append_lies _ _ _ _ (by rfl) B 3 j0 _ 1 8 Tryz.underlying22 hj0 hy0 hy1 hy2 rfl (by omega) (.slice M.ga gl M.gc) gl (FU X.gone) (by rfl) R7 ⟨w6.heap.size,0,none⟩ 1 1 [.int .i64 rn] (by rfl) (by rfl) (World.news_of_block (cs:=#[.int .i64 rn]) (t:=3) (fr:=(0,0)) (heap_alloc_new w6 _)) (by simp[Value.oneCell']) (by omega) (by unfold maxLen;omega) (by omega) (by simp;omega) (w6.heap.size+1) (by simp) ?_;intro gg cap w1 hown2 hgrow hat hlt2;have zg:=(hgrow.cell_far ⟨x,42,none⟩ hx7 (fun q=>nrx q.symm)).trans ug;have zf:=(hgrow.cell_far ⟨n2,5,none⟩ hn7 (fun q=>n2g q.symm)).trans uf;have fz1:=(hgrow.frozen_far ⟨x,42,none⟩ hx7 (fun q=>nrx q.symm)).trans fz7)
 refine D_ hK (by first|exact⟨sg,f6⟩|exact⟨ug,uf⟩|exact⟨zg,zf⟩) (h:=fun hHeld=>?_);clear hK K
 refine Av 10 [11,12] (h:=Av 11 [12] (h:=?_))
 refine AI (by kernel_rfl) rfl (by kernel_rfl) (fun K hK=>?_)
 try simp only[List.getElem_toArray,List.getElem_cons_zero,List.getElem_cons_succ]
 go_simp
 skip
 try go_wp2_with fail
 refine hK.out _ _ ?_
 clear hK K
 try simp only[Act.put,List.getElem_toArray,List.getElem_cons_zero,List.getElem_cons_succ,List.setIfInBounds_toArray,List.set_cons_zero,List.set_cons_succ]
 obtain⟨M',h8,o8,g8,ox8⟩:=APP.out gg cap w1 hown2 hgrow hat hlt2
 obtain⟨w8,hw8⟩:=Ad (w1.setCell ⟨x,42,none⟩ (.slice (some ⟨gg,0,none⟩) (gl+1) cap))
 rw[←hw8]at h8 o8 ox8 ⊢
 clear hw8 APP hown2 hgrow hat hlt2 R7 z7 hB7 hx7 hn7 fz7 fz1 nrx n2g sg ug zg uf zf f5 f6
 have o38:Ah (IC x M) W3 w8:=(H6.out.2.mono (fun b _ hb=> .inr (.inl hb))).trans (ox8.mono (fun b _ hb=>hb.elim .inl (fun y=> .inr (.inr y))))
 have cI8:=h8.cI j hj
 have fI8:=h8.blk.free (2+j)
 obtain⟨w9,hw9⟩:=Ad (w8.setCell ⟨x,2+j,none⟩ (.int .i64 0))
 have h9:AY B w9 U2 x e M' {X with E:=E',ds:=X.ds.set kn ((Ba X.ds kn).ended 4 a8),gone:=X.gone++[rn],id:=AT X.id j 0}:=by rw[hw9];exact h8.cell (op2:=X.op) _ _ (KZ e M' _ j hj 0)
 have o9:Ah (fun b=>b=x) w8 w9:=by rw[hw9];exact Ah.setCell (S:=fun b=>b=x) (Ah.refl _ w8) (fun _=>rfl) _
 obtain⟨t1,t2,t3,t4,t5,t6,t7,t8,t9⟩:=Ch ((o38.trans (o9.mono (fun b _ hb=> .inl hb))).blk HB3.out.1 HN3.out)
 have hz:=IT w9
 have HFIN:Hid (Bd B w U x e M (X.over E' (j:Int).toNat ⟨re,rv,rp,4,rn⟩ a8) w9):=Aa (by
  have e9:X.over E' (j:Int).toNat ⟨re,rv,rp,4,rn⟩ a8={X with E:=E',ds:=X.ds.set kn ((Ba X.ds kn).ended 4 a8),gone:=X.gone++[rn],id:=AT X.id j 0}:=by
   unfold Bh.over;rw[Int.toNat_natCast,HK.out.2.1];rfl
  rw[e9]
  have h36:Ah (Bl U2 x M) W3 w6:=H6.out.2.mono (fun b _ hb=> .inr (.inr (.inl hb)))
  refine Bd.then ((H1.out.2.2.2.any (Bl U x M)).trans H3.out.2.1) GW ⟨U2,M',h9,(h36.trans o8).trans (o9.mono (fun b _ hb=> .inr (.inl hb))),fun b hb=>(g8 b hb).imp (fun z=>z) (fun z=>Nat.le_trans h36.size z)⟩)
 clear h8 o8 g8 o38 h9 o9 H3 H5 H6
 go_upto_region 27 with(fail)
 rw[←hw9]
 clear hw9 cI8 fI8
 go_wp2_with fail
 go_ret
 exact⟨rfl,HFIN.out⟩
end
end
section
section
variable {B N x e:Nat} {w w':World} {U:Nat→Prop} {M:GR} {X:Bh}
theorem Ci.dlen(h:Ci N X):X.ds.length≤2000:=by have h1:=h.len;have h2:=h.fine.made;omega
theorem Ol(h:AY B w U x e M X)(hk:Ci N X)(hN2:N+1≤30000000)(s level:Int):
 Calls Tryz.prog 14 #[bp x,s,level] w fun r w'=>r= .returned (.bool true)∧Bd B w U x e M (X.begin s level) w':=by
 have hf':=D7 hk.fine s level
 have hf:=hk.fine.mono (M:=N+1) (by omega)
 have hl:=hk.dlen
 have hlen:=hk.len
 rcases Gv hk.fine s level with⟨⟨er,he,h1⟩,h2,h3,h4⟩|⟨hs,hv,h1,h2,h3,h4,h5,h6,h7⟩
 ·have e1:X.begin s level={X with E:=(X.E.begin s level).2.2}:=by
   unfold Bh.begin
   rw[if_pos (show(X.E.begin s level).2.1≠0 by rw[h1];exact he)]
   rfl
  rw[e1]
  exact L3 h hf hN2 s level h1 he hf' h2
 ·have e1:X.begin s level={X with E:=(X.E.begin s level).2.2,id:=AT X.id s.toNat ((X.ds.length:Int)+1),ds:=X.ds++[⟨(X.ds.length:Int)+1,level,1,X.E.now+1,0,[]⟩]}:=by
   unfold Bh.begin
   rw[if_neg (show ¬(X.E.begin s level).2.1≠0 by rw[h4];simp)]
  rw[e1]
  obtain⟨j,rfl⟩:=Int.eq_ofNat_of_zero_le hs.1
  have hj:j<8:=by omega
  have hid:X.id j=0:=by
   rw[hk.id j hj]
   rw[Int.toNat_natCast]at h1
   rw[h1]
  have hb:X.E.begin (j:Int) level=((X.ds.length:Int)+1,0,(X.E.begin (j:Int) level).2.2):=by rw[hlen];exact h4
  have:=MA h hf hN2 j hj level hb hf' h5 h2 hid (by omega)
  rw[Int.toNat_natCast]
  exact this
theorem JQ(h:AY B w U x e M X)(hk:Ci N X)(hN:256≤N)(hN2:N≤30000000)(s kind key hh value:Int):
 Calls Tryz.prog 17 #[bp x,.int .i64 s,.agg #[kind,key,hh,value]] w fun r w'=>r= .returned (.bool true)∧Bd B w U x e M (X.issue s ⟨kind,key,hh,value⟩) w':=by
 have hf:=hk.fine
 have no:∀er E',er≠0→X.E.issue s ⟨kind,key,hh,value⟩=(er,E')→X.issue s ⟨kind,key,hh,value⟩=X:=fun er E' he hi=>by
  unfold Bh.issue;rw[hi,if_pos he]
 have idne:∀x,0≤s∧s<8→X.E.ses s.toNat=some x→X.id s.toNat≠0:=fun x hs hx=>by
  rw[hk.id _ (by omega),hx]
  have:=hk.idr _ x hx
  show x.t.id≠0
  omega
 rcases Fh hf hN s ⟨kind,key,hh,value⟩with⟨hs,hi⟩|⟨hs,hx,hi⟩|⟨hs,y,hx,⟨ho,hi⟩|⟨ho,hb,hi⟩|⟨ho,hb,hq,hm,hi⟩|⟨ho,hb,hq,E',hi,hf2,hb2,_⟩⟩
 ·rw[no 1 _ (by decide) hi];exact J1 h hf hN hN2 s kind key hh value hs hi
 ·rw[no 9 _ (by decide) hi]
  exact IE h hf hN hN2 s kind key hh value hs (by rw[hk.id _ (by omega),hx]) hi
 ·rw[no 9 _ (by decide) hi];exact I1 h hf hN hN2 s kind key hh value hs (idne y hs hx) ho hi
 ·rw[no 9 _ (by decide) hi];exact Iy h hf hN hN2 s kind key hh value hs (idne y hs hx) ho hb hi
 ·rw[no 65 _ (by decide) hi];exact IB h hf hN hN2 s kind key hh value hs (idne y hs hx) ho hb hq hm hi
 ·have e1:X.issue s ⟨kind,key,hh,value⟩={X with E:=E',op:=AT X.op s.toNat ⟨kind,key,hh,value⟩}:=by
   unfold Bh.issue;rw[hi];rfl
  rw[e1]
  rcases hq with hq|hq
  ·exact I4 h hf hN hN2 s kind key hh value hs (idne y hs hx) ho hb hq hi hb2
  ·exact Jo h hf hN hN2 s kind key hh value hs (idne y hs hx) ho hb hq hi hb2
theorem LB(h:AY B w U x e M X)(hk:Ci N X)(hN:256≤N)(hN2:N≤30000000)(s:Int):
 Calls Tryz.prog 16 #[bp x,s] w fun r w'=>r= .returned (.bool true)∧Bd B w U x e M (X.step s) w':=by
 have hf:=hk.fine
 have hdl:=hk.dlen
 have hgl:=hk.glen
 have hlen:=hk.len
 unfold Bh.step
 rcases Ej hf hN hN2 s with⟨hs,hi⟩|⟨hs,hb,hi⟩|⟨hs,hb,t,c,k,d,E',he,hi,hf2,hlk,hmd,hoth,hd⟩
 ·rw[hi];exact KD h hf hN hN2 s hs hi
 ·rw[hi];exact Jv h hf hN hN2 s hs hb hi
 ·have hss:Be s=true:=by simp[Be];exact hs
  have hid:1≤X.id s.toNat∧X.id s.toNat≤X.ds.length:=by
   rw[hk.id _ (by omega),he,hlen];exact hk.idr _ _ he
  obtain⟨kd,re,rv,rp,ro,rn⟩:=d
  rcases hd with⟨hr,t',c',k',hme,_,hw⟩|⟨hkd,ho,hpl,t',hme,_⟩|⟨hkd,ho,hpl,hme⟩
  ·have hs2:(E'.status s).busy=true:=by rw[DK hss,hme]
   have hs3:(E'.status s).waits=c'.waits:=by unfold En.status;rw[if_pos hss,hme];rfl
   dsimp only at hr
   rw[hr]at hi
   rw[hi]
   rcases hw with⟨h1,h2⟩|⟨h1,h2⟩
   ·dsimp only at h1
    subst h1
    exact Ix h hf hN hN2 s hs hb hi hlk ⟨hs2,by rw[hs3];exact h2⟩
   ·dsimp only at h1
    subst h1
    exact J9 h hf hN hN2 s hs hb hi hlk ⟨hs2,by rw[hs3];exact h2⟩
  ·dsimp only at hkd ho
   subst hkd
   subst ho
   rw[hi]
   have hl2:(E'.status s).live=true:=by unfold En.status;rw[if_pos hss,hme];rfl
   have hb2:(E'.status s).busy=false:=by rw[DK hss,hme]
   exact Jk h hf hN hN2 s hs hb hi hlk ⟨hl2,hb2⟩ hid (by omega) (fun k=>Nat.le_trans (hk.ops k) hN2)
  ·dsimp only at hkd ho
   subst hkd
   have hs2:E'.status s= .zero:=by unfold En.status;rw[if_pos hss,hme]
   rcases ho with rfl|rfl
   ·rw[hi]
    exact IA h hf hN hN2 s hs hb hi hlk hs2 hid (by omega)
   ·rw[hi]
    exact Iu h hf hN hN2 s hs hb hi hlk hs2 hid (by omega) (by omega)
end
end
section
attribute [local go_sem ↓] Go.wp_at_zero Go.wp_at_succ
structure SX(B:Nat)(w:World)(P Q R:Nat→Prop)(A:EA)(K:EK)(s:Sh):Prop where
 ex:EX B w P Q R A K s
 uQ:Bo Q w.heap.size
 uR:Bo R w.heap.size
section
variable {B:Nat} {w w':World} {P Q R:Nat→Prop} {A:EA} {K:EK} {s:Sh}
theorem SX.only0(h:SX B w P Q R A K s)(o:Ac w w'):SX B w' P Q R A K s:=⟨h.ex.only0 o,h.uQ.mono o.size,h.uR.mono o.size⟩
theorem SX.drew(h:SX B w P Q R A K s):SX B w.drew P Q R A K s:=h.only0 ((Ac.refl w).drew)
theorem SX.alloc(h:SX B w P Q R A K s)(o:Obj):SX B (w.alloc o) P Q R A K s:=h.only0 ((Ac.refl w).alloc o)
theorem SX.ca(h:SX B w P Q R A K s):w.cell? ⟨A.e,2,none⟩=some (bp A.a):=h.ex.sh.eng.cell 2
theorem SX.cn(h:SX B w P Q R A K s):w.cell? ⟨A.e,0,none⟩=some (.int .i64 s.slots):=h.ex.sh.eng.cell 0
theorem SX.cq(h:SX B w P Q R A K s):w.cell? ⟨A.e,22,none⟩=some (.int .i64 K.seq):=h.ex.sh.eng.cell 22
theorem SX.cx(h:SX B w P Q R A K s):w.cell? ⟨A.e,25,none⟩=some K.nx:=h.ex.sh.eng.cell 25
theorem SX.cl(h:SX B w P Q R A K s):w.cell? ⟨A.e,26,none⟩=some (.int .u64 K.low):=h.ex.sh.eng.cell 26
theorem SX.cc(h:SX B w P Q R A K s):w.cell? ⟨A.e,27,none⟩=some K.cs:=h.ex.sh.eng.cell 27
theorem SX.zf(h:SX B w P Q R A K s)(o:Nat):w.frozen? ⟨A.e,o,none⟩=false:=h.ex.sh.eng.free o
theorem SX.arena'(h:SX B w P Q R A K s){a:AS}(h1:EX B w' P Q R A K (s.setA a))(o:Ah P w w'):SX B w' P Q R A K (s.setA a):=⟨h1,h.uQ.mono o.size,h.uR.mono o.size⟩
theorem Cf(h:SX B w P Q R A K s)(i:Int):
 Calls Tryz.prog 70 #[bp A.a,i] w fun e w'=>e= .returned (.int .u64 (s.a.load i))∧SX B w' P Q R A K (s.setA (s.a.tick i))∧Ah P w w':=
 (Lx h.ex i).mono (fun e w' hw=>⟨hw.1,h.arena' hw.2.1 hw.2.2.1,hw.2.2.1⟩)
theorem JW(h:SX B w P Q R A K s)(i v:Int):
 Calls Tryz.prog 74 #[bp A.a,i,.int .u64 v] w fun e w'=>e= .returned (.tuple #[])∧SX B w' P Q R A K (s.setA (s.a.store i v))∧Ah P w w':=
 (Ie h.ex i v).mono (fun e w' hw=>⟨hw.1,h.arena' hw.2.1 hw.2.2.1,hw.2.2.1⟩)
theorem KT(h:SX B w P Q R A K s)(i old new:Int):
 Calls Tryz.prog 72 #[bp A.a,i,.int .u64 old,.int .u64 new] w fun e w'=>e= .returned (.bool (s.a.casOk i old))∧SX B w' P Q R A K (s.setA (s.a.cas i old new))∧Ah P w w':=
 (K7 h.ex i old new).mono (fun e w' hw=>⟨hw.1,h.arena' hw.2.1 hw.2.2.1,hw.2.2.1⟩)
theorem SX.setK(h:SX B w P Q R A K s)(o:Nat)(v:Value){K':EK}(hK:Fd A K' s=(Fd A K s).setIfInBounds o v):SX B (w.setCell ⟨A.e,o,none⟩ v) P Q R A K' s∧Ah P w (w.setCell ⟨A.e,o,none⟩ v):=by
 obtain⟨h1,h2,h3⟩:=h.ex.setK o v hK
 exact⟨⟨h1,h.uQ.mono h2.size,h.uR.mono h2.size⟩,h2⟩
theorem An.newS(h:SX B w P Q R A K s)(b:Nat)(hb:b=w.heap.size)(t:TypeId)(cs:Array Value):An (w.alloc (.cells cs t)) P Q R b t cs:=by subst hb;exact An.new h.ex.uP h.uQ h.uR t cs
theorem An.onlyP{b:Nat}{t:TypeId}{cs:Array Value}(f:An w P Q R b t cs)(o:Ah P w w'):An w' P Q R b t cs:=f.move ⟨o.mono (fun _ _ hb=> .inl hb),AC.refl _ _,AC.refl _ _⟩
theorem FL.onlyP{k:Sw}{v:Value}(h:FL w P Q R A k v)(o:Ah P w w'):FL w' P Q R A k v:=h.pass ⟨o.size,fun g hg hp hq hr=>⟨⟨hp,hq,hr⟩,o.block g hg hp⟩⟩ rfl
end
def JB(w:World)(P Q R:Nat→Prop)(A:EA)(k:Sw)(r:Ending)(w':World):Prop:=∃v,r= .returned v∧FL w' P Q R A k v∧Ac w w'
def Dj(B:Nat)(w:World)(P Q R:Nat→Prop)(A:EA)(K:EK)(s':Sh)(low:Int)(k:Sw)(b:Bool)(r:Ending)(w':World):Prop:=
 ∃v,r= .returned (.bool b)∧SX B w' P Q R A {K with nx:=v,low:=low} s'∧FL w' P Q R A k v∧Ah P w w'
theorem Jx(b x low:Int)(x0:0≤x)(w:World):Calls Tryz.prog 205 #[.int .u64 b,.int .u64 x,.int .u64 low] w fun r w'=>r= .returned (.bool (decide (BD x=1∧1≤Br x∧Br x≤low)))∧Ac w w':=by
 have CR:=BI x w
 have hrn:=FC x x0
 generalize BD x=kd at *
 generalize Br x=nd at *
 obtain⟨rb,hrb⟩:=Ad (decide (kd=1∧1≤nd∧nd≤low))
 rw[←hrb]
 clear x0
 by_cases k1:kd=1
 ·subst k1
  by_cases k2:1≤nd
  ·have g2:¬nd<1:=by omega
   by_cases k3:nd≤low
   ·have HR:=Aa (show rb=true by rw[hrb];simp[k2,k3])
    exact UG
   ·have g3:decide (nd≤low)=false:=by simpa using k3
    have HR:=Aa (show rb=false by rw[hrb];simp;omega)
    clear hrb k3
    go_enter Tryz.func205,Tryz.ntmps205
    go_wp2_with fail
    refine CR.mono ?_
    rintro e2 w2 ⟨rfl,o2⟩
    clear CR
    obtain⟨V,hV⟩:=Ad (w2.alloc (.cells #[.int .i64 1,.int .u64 nd] 195))
    obtain⟨sb,hsb⟩:=Ad w2.heap.size
    have BV:Am V sb 195 #[.int .i64 1,.int .u64 nd]:=by rw[hV,hsb];exact Am.new _ _ _
    have c0:=Ae V sb 0 (.int .i64 1) (BV.cell 0)
    exact Sq
  ·have g2:nd<1:=by omega
   have HR:=Aa (show rb=false by rw[hrb];simp;omega)
   exact UG
 ·have b1:(kd==1)=false:=by simpa using k1
  have HR:=Aa (show rb=false by rw[hrb];simp[k1])
  clear hrb
  go_enter Tryz.func205,Tryz.ntmps205
  go_wp2_with fail
  refine CR.mono ?_
  rintro e2 w2 ⟨rfl,o2⟩
  clear CR
  obtain⟨V,hV⟩:=Ad (w2.alloc (.cells #[kd,.int .u64 nd] 195))
  obtain⟨sb,hsb⟩:=Ad w2.heap.size
  have BV:Am V sb 195 #[kd,.int .u64 nd]:=by rw[hV,hsb];exact Am.new _ _ _
  have c0:=Ae V sb 0 (.int .i64 kd) (BV.cell 0)
  exact Sq
theorem I5{B:Nat}{w:World}{P Q R:Nat→Prop}{A:EA}{K:EK}{s:Sh}(h:SX B w P Q R A K s)(k:Nat)(i:Int)(hi:i=k):
 Calls Tryz.prog 112 #[bp A.e,.int .i64 (i)] w (JB w P Q R A (Cq k)):=by
 have ge:=An.newS (h) (w.heap.size) (by simp) 39 #[bp A.e]
 have C0:=(h).alloc (.cells #[bp A.e] 39)
 have gk:=An.newS (C0) (w.heap.size+1) (by simp) 3 #[.int .i64 (i)]
 have C1:=(C0).alloc (.cells #[.int .i64 (i)] 3)
 replace ge:=ge.alloc (.cells #[.int .i64 (i)] 3)
 have OW:Ac w ((w.alloc (.cells #[bp A.e] 39)).alloc (.cells #[.int .i64 (i)] 3)):=((Ac.refl w).alloc _).alloc _
 obtain⟨W,hW⟩:=Ad ((w.alloc (.cells #[bp A.e] 39)).alloc (.cells #[.int .i64 (i)] 3))
 rw[←hW]at OW C1 ge gk
 have HCW:=Aa C1
 clear C0 C1
 obtain⟨be,hbe⟩:=Ad w.heap.size
 obtain⟨bk,hbk⟩:=Ad (w.heap.size+1)
 rw[←hbe]at ge
 rw[←hbk]at gk
 have HBe:=Aa hbe
 have HBk:=Aa hbk
 clear hbe hbk
 have ce:=ge.c0
 have ck:=gk.c0
 have He:=Aa ge
 have Hk:=Aa gk
 have HOW:=Aa OW
 clear OW h ge gk
 by_cases hx:63<k
 ·skip
  have hd:i>63:=by omega
  have HR:=Aa (show Cq k= .idle by unfold Cq;rw[if_pos hx])
  clear hx hi
  go_enter Tryz.func112,Tryz.ntmps112
  go_upto_region 1 with(fail)
  rw[←hW,←HBk.out,←HBe.out]
  clear hW
  go_wp2_with fail
  go_ret
  exact⟨_,rfl,by rw[HR.out];rfl,HOW.out⟩
 ·skip
  have hd:¬i>63:=by omega
  have HR:=Aa (show Cq k= .head k by unfold Cq;rw[if_neg hx])
  have HI:=Aa hi
  clear hx hi
  go_enter Tryz.func112,Tryz.ntmps112
  exact Th
theorem G_{B:Nat}{w:World}{P Q R:Nat→Prop}{A:EA}{K:EK}{s:Sh}(h:SX B w P Q R A K s)(k:Nat)(i:Int)(hi:i=k)(hk:k≤8):
 Calls Tryz.prog 89 #[bp A.e,.int .i64 (i)] w (JB w P Q R A (DX k)):=by
 have ge:=An.newS (h) (w.heap.size) (by simp) 39 #[bp A.e]
 have C0:=(h).alloc (.cells #[bp A.e] 39)
 have gk:=An.newS (C0) (w.heap.size+1) (by simp) 3 #[.int .i64 (i)]
 have C1:=(C0).alloc (.cells #[.int .i64 (i)] 3)
 replace ge:=ge.alloc (.cells #[.int .i64 (i)] 3)
 have OW:Ac w ((w.alloc (.cells #[bp A.e] 39)).alloc (.cells #[.int .i64 (i)] 3)):=((Ac.refl w).alloc _).alloc _
 obtain⟨W,hW⟩:=Ad ((w.alloc (.cells #[bp A.e] 39)).alloc (.cells #[.int .i64 (i)] 3))
 rw[←hW]at OW C1 ge gk
 have HCW:=Aa C1
 clear C0 C1
 obtain⟨be,hbe⟩:=Ad w.heap.size
 obtain⟨bk,hbk⟩:=Ad (w.heap.size+1)
 rw[←hbe]at ge
 rw[←hbk]at gk
 have HBe:=Aa hbe
 have HBk:=Aa hbk
 clear hbe hbk
 have ce:=ge.c0
 have ck:=gk.c0
 have He:=Aa ge
 have Hk:=Aa gk
 have HOW:=Aa OW
 clear OW h ge gk
 by_cases hx:k=8
 ·skip
  obtain rfl:i=8:=by omega
  have HR:=Aa (show DX k=Cq 0 by unfold DX;rw[if_pos hx])
  have CE:=I5 HCW.out 0 0 rfl
  clear hx hi
  go_enter Tryz.func89,Tryz.ntmps89
  go_upto_region 1 with(fail)
  rw[←hW,←HBk.out,←HBe.out]
  exact TM
 ·skip
  have hd:(i==8)=false:=by simp;omega
  have HR:=Aa (show DX k= .live k by unfold DX;rw[if_neg hx])
  have HI:=Aa hi
  clear hx hi
  go_enter Tryz.func89,Tryz.ntmps89
  exact Th
theorem DF{B:Nat}{w:World}{P Q R:Nat→Prop}{A:EA}{K:EK}{s:Sh}(h:SX B w P Q R A K s)(k:Nat)(i:Int)(hi:i=k)(hk:k<64)(a l:Int):
 Calls Tryz.prog 150 #[bp A.e,.int .i64 (i),.int .u64 (a),.int .u64 (l)] w (JB w P Q R A (A4 k a l)):=by
 have ge:=An.newS (h) (w.heap.size) (by simp) 39 #[bp A.e]
 have C0:=(h).alloc (.cells #[bp A.e] 39)
 have gk:=An.newS (C0) (w.heap.size+1) (by simp) 3 #[.int .i64 (i)]
 have C1:=(C0).alloc (.cells #[.int .i64 (i)] 3)
 have gj:=An.newS (C1) (w.heap.size+1+1) (by simp) 31 #[.int .u64 (a)]
 have C2:=(C1).alloc (.cells #[.int .u64 (a)] 31)
 have gx:=An.newS (C2) (w.heap.size+1+1+1) (by simp) 31 #[.int .u64 (l)]
 have C3:=(C2).alloc (.cells #[.int .u64 (l)] 31)
 replace ge:=ge.alloc (.cells #[.int .i64 (i)] 3)
 replace ge:=ge.alloc (.cells #[.int .u64 (a)] 31)
 replace ge:=ge.alloc (.cells #[.int .u64 (l)] 31)
 replace gk:=gk.alloc (.cells #[.int .u64 (a)] 31)
 replace gk:=gk.alloc (.cells #[.int .u64 (l)] 31)
 replace gj:=gj.alloc (.cells #[.int .u64 (l)] 31)
 have OW:Ac w ((((w.alloc (.cells #[bp A.e] 39)).alloc (.cells #[.int .i64 (i)] 3)).alloc (.cells #[.int .u64 (a)] 31)).alloc (.cells #[.int .u64 (l)] 31)):=((((Ac.refl w).alloc _).alloc _).alloc _).alloc _
 obtain⟨W,hW⟩:=Ad ((((w.alloc (.cells #[bp A.e] 39)).alloc (.cells #[.int .i64 (i)] 3)).alloc (.cells #[.int .u64 (a)] 31)).alloc (.cells #[.int .u64 (l)] 31))
 rw[←hW]at OW C3 ge gk gj gx
 have HCW:=Aa C3
 clear C0 C1 C2 C3
 obtain⟨be,hbe⟩:=Ad w.heap.size
 obtain⟨bk,hbk⟩:=Ad (w.heap.size+1)
 obtain⟨bj,hbj⟩:=Ad (w.heap.size+1+1)
 obtain⟨bx,hbx⟩:=Ad (w.heap.size+1+1+1)
 rw[←hbe]at ge
 rw[←hbk]at gk
 rw[←hbj]at gj
 rw[←hbx]at gx
 have HBe:=Aa hbe
 have HBk:=Aa hbk
 have HBj:=Aa hbj
 have HBx:=Aa hbx
 clear hbe hbk hbj hbx
 have ce:=ge.c0
 have ck:=gk.c0
 have cj:=gj.c0
 have cx:=gx.c0
 have He:=Aa ge
 have Hk:=Aa gk
 have Hj:=Aa gj
 have Hx:=Aa gx
 have HOW:=Aa OW
 clear OW h ge gk gj gx
 by_cases hx:l=0
 ·skip
  subst hx
  have HR:=Aa (show A4 k a 0=Cq (k+1) by unfold A4;rw[if_pos rfl])
  have ew:IntKind.i64.wrap (i+1)=i+1:=by rw[IntKind.wrap_i64];omega
  have CE:=I5 HCW.out (k+1) (i+1) (by omega)
  clear hi
  go_enter Tryz.func150,Tryz.ntmps150
  go_upto_region 1 with(fail)
  rw[←hW,←HBx.out,←HBj.out,←HBk.out,←HBe.out]
  exact TM
 ·skip
  have hd:(l==0)=false:=by simpa using hx
  have HR:=Aa (show A4 k a l= .visit k a l by unfold A4;rw[if_neg hx])
  have HI:=Aa hi
  clear hx hi
  go_enter Tryz.func150,Tryz.ntmps150
  go_upto_region 1 with(fail)
  rw[←hW,←HBx.out,←HBj.out,←HBk.out,←HBe.out]
  clear hW
  go_wp2_with fail
  go_ret
  refine⟨_,rfl,?_,HOW.out⟩
  rw[HR.out]
  exact⟨be,bk,bj,bx,rfl,He.out,by have:=Hk.out;rw[HI.out]at this;exact this,Hj.out,Hx.out⟩
theorem Pu{B:Nat}{w:World}{P Q R:Nat→Prop}{A:EA}{K:EK}{s:Sh}(h:SX B w P Q R A K s)(k:Nat)(i:Int)(hi:i=k)(a l id:Int):
 Calls Tryz.prog 179 #[bp A.e,.int .i64 (i),.int .u64 (a),.int .u64 (l),.int .i64 (id)] w (JB w P Q R A (.maker k a l id)):=by
 have ge:=An.newS (h) (w.heap.size) (by simp) 39 #[bp A.e]
 have C0:=(h).alloc (.cells #[bp A.e] 39)
 have gk:=An.newS (C0) (w.heap.size+1) (by simp) 3 #[.int .i64 (i)]
 have C1:=(C0).alloc (.cells #[.int .i64 (i)] 3)
 have gj:=An.newS (C1) (w.heap.size+1+1) (by simp) 31 #[.int .u64 (a)]
 have C2:=(C1).alloc (.cells #[.int .u64 (a)] 31)
 have gx:=An.newS (C2) (w.heap.size+1+1+1) (by simp) 31 #[.int .u64 (l)]
 have C3:=(C2).alloc (.cells #[.int .u64 (l)] 31)
 have gd:=An.newS (C3) (w.heap.size+1+1+1+1) (by simp) 3 #[.int .i64 (id)]
 have C4:=(C3).alloc (.cells #[.int .i64 (id)] 3)
 replace ge:=ge.alloc (.cells #[.int .i64 (i)] 3)
 replace ge:=ge.alloc (.cells #[.int .u64 (a)] 31)
 replace ge:=ge.alloc (.cells #[.int .u64 (l)] 31)
 replace ge:=ge.alloc (.cells #[.int .i64 (id)] 3)
 replace gk:=gk.alloc (.cells #[.int .u64 (a)] 31)
 replace gk:=gk.alloc (.cells #[.int .u64 (l)] 31)
 replace gk:=gk.alloc (.cells #[.int .i64 (id)] 3)
 replace gj:=gj.alloc (.cells #[.int .u64 (l)] 31)
 replace gj:=gj.alloc (.cells #[.int .i64 (id)] 3)
 replace gx:=gx.alloc (.cells #[.int .i64 (id)] 3)
 have OW:Ac w (((((w.alloc (.cells #[bp A.e] 39)).alloc (.cells #[.int .i64 (i)] 3)).alloc (.cells #[.int .u64 (a)] 31)).alloc (.cells #[.int .u64 (l)] 31)).alloc (.cells #[.int .i64 (id)] 3)):=(((((Ac.refl w).alloc _).alloc _).alloc _).alloc _).alloc _
 obtain⟨W,hW⟩:=Ad (((((w.alloc (.cells #[bp A.e] 39)).alloc (.cells #[.int .i64 (i)] 3)).alloc (.cells #[.int .u64 (a)] 31)).alloc (.cells #[.int .u64 (l)] 31)).alloc (.cells #[.int .i64 (id)] 3))
 rw[←hW]at OW C4 ge gk gj gx gd
 have HCW:=Aa C4
 clear C0 C1 C2 C3 C4
 obtain⟨be,hbe⟩:=Ad w.heap.size
 obtain⟨bk,hbk⟩:=Ad (w.heap.size+1)
 obtain⟨bj,hbj⟩:=Ad (w.heap.size+1+1)
 obtain⟨bx,hbx⟩:=Ad (w.heap.size+1+1+1)
 obtain⟨bd,hbd⟩:=Ad (w.heap.size+1+1+1+1)
 rw[←hbe]at ge
 rw[←hbk]at gk
 rw[←hbj]at gj
 rw[←hbx]at gx
 rw[←hbd]at gd
 have HBe:=Aa hbe
 have HBk:=Aa hbk
 have HBj:=Aa hbj
 have HBx:=Aa hbx
 have HBd:=Aa hbd
 clear hbe hbk hbj hbx hbd
 have ce:=ge.c0
 have ck:=gk.c0
 have cj:=gj.c0
 have cx:=gx.c0
 have cd:=gd.c0
 have He:=Aa ge
 have Hk:=Aa gk
 have Hj:=Aa gj
 have Hx:=Aa gx
 have Hd:=Aa gd
 have HOW:=Aa OW
 clear OW h ge gk gj gx gd
 have HI:=Aa hi
 clear hi
 go_enter Tryz.func179,Tryz.ntmps179
 go_upto_region 1 with(fail)
 rw[←hW,←HBd.out,←HBx.out,←HBj.out,←HBk.out,←HBe.out]
 clear hW
 go_wp2_with fail
 go_ret
 exact⟨_,rfl,⟨be,bk,bj,bx,bd,rfl,He.out,by have:=Hk.out;rw[HI.out]at this;exact this,Hj.out,Hx.out,Hd.out⟩,HOW.out⟩
theorem KP{B:Nat}{w:World}{P Q R:Nat→Prop}{A:EA}{K:EK}{s:Sh}(h:SX B w P Q R A K s)(k:Nat)(i:Int)(hi:i=k)(a l b:Int):
 Calls Tryz.prog 180 #[bp A.e,.int .i64 (i),.int .u64 (a),.int .u64 (l),.int .u64 (b)] w (JB w P Q R A (.garbage k a l b)):=by
 have ge:=An.newS (h) (w.heap.size) (by simp) 39 #[bp A.e]
 have C0:=(h).alloc (.cells #[bp A.e] 39)
 have gk:=An.newS (C0) (w.heap.size+1) (by simp) 3 #[.int .i64 (i)]
 have C1:=(C0).alloc (.cells #[.int .i64 (i)] 3)
 have gj:=An.newS (C1) (w.heap.size+1+1) (by simp) 31 #[.int .u64 (a)]
 have C2:=(C1).alloc (.cells #[.int .u64 (a)] 31)
 have gx:=An.newS (C2) (w.heap.size+1+1+1) (by simp) 31 #[.int .u64 (l)]
 have C3:=(C2).alloc (.cells #[.int .u64 (l)] 31)
 have gd:=An.newS (C3) (w.heap.size+1+1+1+1) (by simp) 31 #[.int .u64 (b)]
 have C4:=(C3).alloc (.cells #[.int .u64 (b)] 31)
 replace ge:=ge.alloc (.cells #[.int .i64 (i)] 3)
 replace ge:=ge.alloc (.cells #[.int .u64 (a)] 31)
 replace ge:=ge.alloc (.cells #[.int .u64 (l)] 31)
 replace ge:=ge.alloc (.cells #[.int .u64 (b)] 31)
 replace gk:=gk.alloc (.cells #[.int .u64 (a)] 31)
 replace gk:=gk.alloc (.cells #[.int .u64 (l)] 31)
 replace gk:=gk.alloc (.cells #[.int .u64 (b)] 31)
 replace gj:=gj.alloc (.cells #[.int .u64 (l)] 31)
 replace gj:=gj.alloc (.cells #[.int .u64 (b)] 31)
 replace gx:=gx.alloc (.cells #[.int .u64 (b)] 31)
 have OW:Ac w (((((w.alloc (.cells #[bp A.e] 39)).alloc (.cells #[.int .i64 (i)] 3)).alloc (.cells #[.int .u64 (a)] 31)).alloc (.cells #[.int .u64 (l)] 31)).alloc (.cells #[.int .u64 (b)] 31)):=(((((Ac.refl w).alloc _).alloc _).alloc _).alloc _).alloc _
 obtain⟨W,hW⟩:=Ad (((((w.alloc (.cells #[bp A.e] 39)).alloc (.cells #[.int .i64 (i)] 3)).alloc (.cells #[.int .u64 (a)] 31)).alloc (.cells #[.int .u64 (l)] 31)).alloc (.cells #[.int .u64 (b)] 31))
 rw[←hW]at OW C4 ge gk gj gx gd
 have HCW:=Aa C4
 clear C0 C1 C2 C3 C4
 obtain⟨be,hbe⟩:=Ad w.heap.size
 obtain⟨bk,hbk⟩:=Ad (w.heap.size+1)
 obtain⟨bj,hbj⟩:=Ad (w.heap.size+1+1)
 obtain⟨bx,hbx⟩:=Ad (w.heap.size+1+1+1)
 obtain⟨bd,hbd⟩:=Ad (w.heap.size+1+1+1+1)
 rw[←hbe]at ge
 rw[←hbk]at gk
 rw[←hbj]at gj
 rw[←hbx]at gx
 rw[←hbd]at gd
 have HBe:=Aa hbe
 have HBk:=Aa hbk
 have HBj:=Aa hbj
 have HBx:=Aa hbx
 have HBd:=Aa hbd
 clear hbe hbk hbj hbx hbd
 have ce:=ge.c0
 have ck:=gk.c0
 have cj:=gj.c0
 have cx:=gx.c0
 have cd:=gd.c0
 have He:=Aa ge
 have Hk:=Aa gk
 have Hj:=Aa gj
 have Hx:=Aa gx
 have Hd:=Aa gd
 have HOW:=Aa OW
 clear OW h ge gk gj gx gd
 have HI:=Aa hi
 clear hi
 go_enter Tryz.func180,Tryz.ntmps180
 go_upto_region 1 with(fail)
 rw[←hW,←HBd.out,←HBx.out,←HBj.out,←HBk.out,←HBe.out]
 clear hW
 go_wp2_with fail
 go_ret
 exact⟨_,rfl,⟨be,bk,bj,bx,bd,rfl,He.out,by have:=Hk.out;rw[HI.out]at this;exact this,Hj.out,Hx.out,Hd.out⟩,HOW.out⟩
theorem Q5{B:Nat}{w:World}{P Q R:Nat→Prop}{A:EA}{K:EK}{s:Sh}(h:SX B w P Q R A K s)(k:Nat)(i:Int)(hi:i=k)(l:Int):
 Calls Tryz.prog 203 #[bp A.e,.int .i64 (i),.int .u64 (l)] w (JB w P Q R A (.on k l)):=by
 have ge:=An.newS (h) (w.heap.size) (by simp) 39 #[bp A.e]
 have C0:=(h).alloc (.cells #[bp A.e] 39)
 have gk:=An.newS (C0) (w.heap.size+1) (by simp) 3 #[.int .i64 (i)]
 have C1:=(C0).alloc (.cells #[.int .i64 (i)] 3)
 have gx:=An.newS (C1) (w.heap.size+1+1) (by simp) 31 #[.int .u64 (l)]
 have C2:=(C1).alloc (.cells #[.int .u64 (l)] 31)
 replace ge:=ge.alloc (.cells #[.int .i64 (i)] 3)
 replace ge:=ge.alloc (.cells #[.int .u64 (l)] 31)
 replace gk:=gk.alloc (.cells #[.int .u64 (l)] 31)
 have OW:Ac w (((w.alloc (.cells #[bp A.e] 39)).alloc (.cells #[.int .i64 (i)] 3)).alloc (.cells #[.int .u64 (l)] 31)):=(((Ac.refl w).alloc _).alloc _).alloc _
 obtain⟨W,hW⟩:=Ad (((w.alloc (.cells #[bp A.e] 39)).alloc (.cells #[.int .i64 (i)] 3)).alloc (.cells #[.int .u64 (l)] 31))
 rw[←hW]at OW C2 ge gk gx
 have HCW:=Aa C2
 clear C0 C1 C2
 obtain⟨be,hbe⟩:=Ad w.heap.size
 obtain⟨bk,hbk⟩:=Ad (w.heap.size+1)
 obtain⟨bx,hbx⟩:=Ad (w.heap.size+1+1)
 rw[←hbe]at ge
 rw[←hbk]at gk
 rw[←hbx]at gx
 have HBe:=Aa hbe
 have HBk:=Aa hbk
 have HBx:=Aa hbx
 clear hbe hbk hbx
 have ce:=ge.c0
 have ck:=gk.c0
 have cx:=gx.c0
 have He:=Aa ge
 have Hk:=Aa gk
 have Hx:=Aa gx
 have HOW:=Aa OW
 clear OW h ge gk gx
 have HI:=Aa hi
 clear hi
 go_enter Tryz.func203,Tryz.ntmps203
 go_upto_region 1 with(fail)
 rw[←hW,←HBx.out,←HBk.out,←HBe.out]
 clear hW
 go_wp2_with fail
 go_ret
 exact⟨_,rfl,⟨be,bk,bx,rfl,He.out,by have:=Hk.out;rw[HI.out]at this;exact this,Hx.out⟩,HOW.out⟩
theorem IK{B:Nat}{w:World}{P Q R:Nat→Prop}{A:EA}{K:EK}{s:Sh}(h:SX B w P Q R A K s)(k:Nat)(i:Int)(hi:i=k)(a l:Int):
 Calls Tryz.prog 202 #[bp A.e,.int .i64 (i),.int .u64 (a),.int .u64 (l)] w (JB w P Q R A (.unlink k a l)):=by
 have ge:=An.newS (h) (w.heap.size) (by simp) 39 #[bp A.e]
 have C0:=(h).alloc (.cells #[bp A.e] 39)
 have gk:=An.newS (C0) (w.heap.size+1) (by simp) 3 #[.int .i64 (i)]
 have C1:=(C0).alloc (.cells #[.int .i64 (i)] 3)
 have gj:=An.newS (C1) (w.heap.size+1+1) (by simp) 31 #[.int .u64 (a)]
 have C2:=(C1).alloc (.cells #[.int .u64 (a)] 31)
 have gx:=An.newS (C2) (w.heap.size+1+1+1) (by simp) 31 #[.int .u64 (l)]
 have C3:=(C2).alloc (.cells #[.int .u64 (l)] 31)
 replace ge:=ge.alloc (.cells #[.int .i64 (i)] 3)
 replace ge:=ge.alloc (.cells #[.int .u64 (a)] 31)
 replace ge:=ge.alloc (.cells #[.int .u64 (l)] 31)
 replace gk:=gk.alloc (.cells #[.int .u64 (a)] 31)
 replace gk:=gk.alloc (.cells #[.int .u64 (l)] 31)
 replace gj:=gj.alloc (.cells #[.int .u64 (l)] 31)
 have OW:Ac w ((((w.alloc (.cells #[bp A.e] 39)).alloc (.cells #[.int .i64 (i)] 3)).alloc (.cells #[.int .u64 (a)] 31)).alloc (.cells #[.int .u64 (l)] 31)):=((((Ac.refl w).alloc _).alloc _).alloc _).alloc _
 obtain⟨W,hW⟩:=Ad ((((w.alloc (.cells #[bp A.e] 39)).alloc (.cells #[.int .i64 (i)] 3)).alloc (.cells #[.int .u64 (a)] 31)).alloc (.cells #[.int .u64 (l)] 31))
 rw[←hW]at OW C3 ge gk gj gx
 have HCW:=Aa C3
 clear C0 C1 C2 C3
 obtain⟨be,hbe⟩:=Ad w.heap.size
 obtain⟨bk,hbk⟩:=Ad (w.heap.size+1)
 obtain⟨bj,hbj⟩:=Ad (w.heap.size+1+1)
 obtain⟨bx,hbx⟩:=Ad (w.heap.size+1+1+1)
 rw[←hbe]at ge
 rw[←hbk]at gk
 rw[←hbj]at gj
 rw[←hbx]at gx
 have HBe:=Aa hbe
 have HBk:=Aa hbk
 have HBj:=Aa hbj
 have HBx:=Aa hbx
 clear hbe hbk hbj hbx
 have ce:=ge.c0
 have ck:=gk.c0
 have cj:=gj.c0
 have cx:=gx.c0
 have He:=Aa ge
 have Hk:=Aa gk
 have Hj:=Aa gj
 have Hx:=Aa gx
 have HOW:=Aa OW
 clear OW h ge gk gj gx
 have HI:=Aa hi
 clear hi
 go_enter Tryz.func202,Tryz.ntmps202
 go_upto_region 1 with(fail)
 rw[←hW,←HBx.out,←HBj.out,←HBk.out,←HBe.out]
 clear hW
 go_wp2_with fail
 go_ret
 exact⟨_,rfl,⟨be,bk,bj,bx,rfl,He.out,by have:=Hk.out;rw[HI.out]at this;exact this,Hj.out,Hx.out⟩,HOW.out⟩
theorem RC{B:Nat}{w:World}{P Q R:Nat→Prop}{A:EA}{K:EK}{s:Sh}(h:SX B w P Q R A K s)(k:Nat)(i:Int)(hi:i=k)(a l n:Int):
 Calls Tryz.prog 226 #[bp A.e,.int .i64 (i),.int .u64 (a),.int .u64 (l),.int .u64 (n)] w (JB w P Q R A (.cut k a l n)):=by
 have ge:=An.newS (h) (w.heap.size) (by simp) 39 #[bp A.e]
 have C0:=(h).alloc (.cells #[bp A.e] 39)
 have gk:=An.newS (C0) (w.heap.size+1) (by simp) 3 #[.int .i64 (i)]
 have C1:=(C0).alloc (.cells #[.int .i64 (i)] 3)
 have gj:=An.newS (C1) (w.heap.size+1+1) (by simp) 31 #[.int .u64 (a)]
 have C2:=(C1).alloc (.cells #[.int .u64 (a)] 31)
 have gx:=An.newS (C2) (w.heap.size+1+1+1) (by simp) 31 #[.int .u64 (l)]
 have C3:=(C2).alloc (.cells #[.int .u64 (l)] 31)
 have gd:=An.newS (C3) (w.heap.size+1+1+1+1) (by simp) 31 #[.int .u64 (n)]
 have C4:=(C3).alloc (.cells #[.int .u64 (n)] 31)
 replace ge:=ge.alloc (.cells #[.int .i64 (i)] 3)
 replace ge:=ge.alloc (.cells #[.int .u64 (a)] 31)
 replace ge:=ge.alloc (.cells #[.int .u64 (l)] 31)
 replace ge:=ge.alloc (.cells #[.int .u64 (n)] 31)
 replace gk:=gk.alloc (.cells #[.int .u64 (a)] 31)
 replace gk:=gk.alloc (.cells #[.int .u64 (l)] 31)
 replace gk:=gk.alloc (.cells #[.int .u64 (n)] 31)
 replace gj:=gj.alloc (.cells #[.int .u64 (l)] 31)
 replace gj:=gj.alloc (.cells #[.int .u64 (n)] 31)
 replace gx:=gx.alloc (.cells #[.int .u64 (n)] 31)
 have OW:Ac w (((((w.alloc (.cells #[bp A.e] 39)).alloc (.cells #[.int .i64 (i)] 3)).alloc (.cells #[.int .u64 (a)] 31)).alloc (.cells #[.int .u64 (l)] 31)).alloc (.cells #[.int .u64 (n)] 31)):=(((((Ac.refl w).alloc _).alloc _).alloc _).alloc _).alloc _
 obtain⟨W,hW⟩:=Ad (((((w.alloc (.cells #[bp A.e] 39)).alloc (.cells #[.int .i64 (i)] 3)).alloc (.cells #[.int .u64 (a)] 31)).alloc (.cells #[.int .u64 (l)] 31)).alloc (.cells #[.int .u64 (n)] 31))
 rw[←hW]at OW C4 ge gk gj gx gd
 have HCW:=Aa C4
 clear C0 C1 C2 C3 C4
 obtain⟨be,hbe⟩:=Ad w.heap.size
 obtain⟨bk,hbk⟩:=Ad (w.heap.size+1)
 obtain⟨bj,hbj⟩:=Ad (w.heap.size+1+1)
 obtain⟨bx,hbx⟩:=Ad (w.heap.size+1+1+1)
 obtain⟨bd,hbd⟩:=Ad (w.heap.size+1+1+1+1)
 rw[←hbe]at ge
 rw[←hbk]at gk
 rw[←hbj]at gj
 rw[←hbx]at gx
 rw[←hbd]at gd
 have HBe:=Aa hbe
 have HBk:=Aa hbk
 have HBj:=Aa hbj
 have HBx:=Aa hbx
 have HBd:=Aa hbd
 clear hbe hbk hbj hbx hbd
 have ce:=ge.c0
 have ck:=gk.c0
 have cj:=gj.c0
 have cx:=gx.c0
 have cd:=gd.c0
 have He:=Aa ge
 have Hk:=Aa gk
 have Hj:=Aa gj
 have Hx:=Aa gx
 have Hd:=Aa gd
 have HOW:=Aa OW
 clear OW h ge gk gj gx gd
 have HI:=Aa hi
 clear hi
 go_enter Tryz.func226,Tryz.ntmps226
 go_upto_region 1 with(fail)
 rw[←hW,←HBd.out,←HBx.out,←HBj.out,←HBk.out,←HBe.out]
 clear hW
 go_wp2_with fail
 go_ret
 exact⟨_,rfl,⟨be,bk,bj,bx,bd,rfl,He.out,by have:=Hk.out;rw[HI.out]at this;exact this,Hj.out,Hx.out,Hd.out⟩,HOW.out⟩
end
section
attribute [local go_sem ↓] Go.wp_at_zero Go.wp_at_succ
theorem FL.nil{w:World}{P Q R:Nat→Prop}{A:EA}{v:Value}(h:FL w P Q R A .idle v):v= .nilFunc:=h
theorem FL.func{w:World}{P Q R:Nat→Prop}{A:EA}{k:Sw}{v:Value}(h:FL w P Q R A k v)(hk:k≠ .idle):∃F b c,v= .func F b c:=by
 cases k with
 |idle=>exact absurd rfl hk
 |now=>exact⟨_,_,_,h⟩
 |live s=>obtain⟨_,_,h1,_⟩:=h;exact⟨_,_,_,h1⟩
 |head s=>obtain⟨_,_,h1,_⟩:=h;exact⟨_,_,_,h1⟩
 |visit k a l=>obtain⟨_,_,_,_,h1,_⟩:=h;exact⟨_,_,_,h1⟩
 |maker k a l id=>obtain⟨_,_,_,_,_,h1,_⟩:=h;exact⟨_,_,_,h1⟩
 |garbage k a l b=>obtain⟨_,_,_,_,_,h1,_⟩:=h;exact⟨_,_,_,h1⟩
 |on k l=>obtain⟨_,_,_,h1,_⟩:=h;exact⟨_,_,_,h1⟩
 |unlink k a l=>obtain⟨_,_,_,_,h1,_⟩:=h;exact⟨_,_,_,h1⟩
 |cut k a l n=>obtain⟨_,_,_,_,_,h1,_⟩:=h;exact⟨_,_,_,h1⟩
theorem Hw{k:Nat}(h:k≤63):Cq k≠ .idle:=by unfold Cq;rw[if_neg (by omega)];simp
theorem F6(s:Nat):DX s≠ .idle:=by
 unfold DX
 split
 ·exact Hw (by omega)
 ·simp
theorem FB{k:Nat}{a l:Int}(h:¬(l=0∧k=63))(hk:k<64):A4 k a l≠ .idle:=by
 unfold A4
 split
 ·next e=>exact Hw (by have:¬k=63:=fun q=>h ⟨e,q⟩;omega)
 ·simp
theorem Qp{B N:Nat}{w:World}{P Q R:Nat→Prop}{A:EA}{K:EK}{s:Sh}(h:SX B w P Q R A K s)(hN:AW N s){k:Nat}(hk:k<64){e q:Nat}(he:An w P Q R e 39 #[bp A.e])(hq:An w P Q R q 3 #[.int .i64 ((k:Int))]):
 Calls Tryz.prog 149 #[bp e,bp q] w (Dj B w P Q R A K (s.setA (s.a.tick (9+k))) (K.low) (A4 k 0 (s.a.load (9+k))) false):=by
 obtain⟨y,hy⟩:=Aq (s.a.load (9+(k:Int)))
 obtain⟨y0,y1⟩:0≤y∧y<18446744073709551616:=by rw[←hy];exact AG hN.word _
 obtain⟨s1,hs1⟩:=Aq (s.setA (s.a.tick (9+(k:Int))))
 have hsl:s1.slots=s.slots:=by rw[←hs1];rfl
 rw[hy,hs1]
 have ew:IntKind.i64.wrap (9+(k:Int))=9+(k:Int):=by rw[IntKind.wrap_i64];omega
 have HC:=Aa h.drew
 have M:Ah P w w.drew:=((Ac.refl w).drew).any P
 have fe:=he.onlyP M
 have fq:=hq.onlyP M
 have ce:=fe.c0
 have cq:=fq.c0
 have cA:=HC.out.ca
 have cN:=HC.out.cn
 (try rw[hsl]at cN)
 have cW:=HC.out.cl
 clear h
 by_cases hx:y=0∧k=63
 ·skip
  have HR:=Aa (show A4 k 0 y= .idle by unfold A4 Cq;rw[if_pos hx.1,if_pos (by omega)])
  clear hx
  go_enter Tryz.func149,Tryz.ntmps149
  go_upto_region 1 with(fail)
  refine Ao (S:=(fun w'=>Ab w' e 0 (bp A.e)∧Ab w' q 0 (.int .i64 ((k:Int)))∧Ab w' A.e 2 (bp A.a))) 14 (by kernel_rfl) ?_ (fun hHeld=>?_)
  ·exact⟨ce,cq,cA⟩
  refine Av 0 [14] (h:=Av 1 [14] (h:=Av 2 [14] (h:=Av 3 [14] (h:=Av 4 [14] (h:=Av 5 [14] (h:=Av 6 [14] (h:=Av 7 [14] (h:=Av 8 [14] (h:=Bx (i:=9) (h:=fun K hK=>?_))))))))))
  go_simp
  (refine(Cf HC.out _).mono ?_;rw[hy,hs1];rintro e1 w1 ⟨rfl,h1,m1⟩;have HC:=Aa h1;have M:=M.trans m1;clear h1;have fe:=he.onlyP M;have fq:=hq.onlyP M;have ce:=fe.c0;have cq:=fq.c0;have cA:=HC.out.ca;have cN:=HC.out.cn;(try rw[hsl]at cN);have cW:=HC.out.cl)
  try go_wp2_with fail
  refine D_ hK (by exact⟨ce,cq,cA⟩) (h:=fun hHeld=>?_);clear hK K
  refine Bx (i:=10) (h:=fun K hK=>?_)
  try simp only[List.getElem_toArray,List.getElem_cons_zero,List.getElem_cons_succ]
  go_simp
  (refine(DF HC.out k _ rfl hk 0 y).mono ?_;rintro e1 w1 ⟨v1,rfl,k1,o1⟩;rw[HR.out]at k1;obtain rfl:=k1.nil;have HC:=Aa (HC.out.only0 o1);have M:=M.trans (o1.any P);have HS:=Aa k1;clear k1;have cX:=HC.out.cx;have zX:=HC.out.zf 25;have fe:=he.onlyP M;have fq:=hq.onlyP M;have ce:=fe.c0;have cq:=fq.c0;have cA:=HC.out.ca;have cN:=HC.out.cn;(try rw[hsl]at cN);have cW:=HC.out.cl)
  try go_wp2_with fail
  refine D_ hK (by exact⟨ce,cq,cA⟩) (h:=fun hHeld=>?_);clear hK K
  refine Av 11 [12,13,14] (h:=Av 12 [13,14] (h:=Av 13 [14] (h:=?_)))
  exact Tn
 ·skip
  have HR:=Aa (show A4 k 0 y≠ .idle by exact FB hx hk)
  clear hx
  go_enter Tryz.func149,Tryz.ntmps149
  go_upto_region 1 with(fail)
  refine Ao (S:=(fun w'=>Ab w' e 0 (bp A.e)∧Ab w' q 0 (.int .i64 ((k:Int)))∧Ab w' A.e 2 (bp A.a))) 14 (by kernel_rfl) ?_ (fun hHeld=>?_)
  ·exact⟨ce,cq,cA⟩
  refine Av 0 [14] (h:=Av 1 [14] (h:=Av 2 [14] (h:=Av 3 [14] (h:=Av 4 [14] (h:=Av 5 [14] (h:=Av 6 [14] (h:=Av 7 [14] (h:=Av 8 [14] (h:=Bx (i:=9) (h:=fun K hK=>?_))))))))))
  go_simp
  (refine(Cf HC.out _).mono ?_;rw[hy,hs1];rintro e1 w1 ⟨rfl,h1,m1⟩;have HC:=Aa h1;have M:=M.trans m1;clear h1;have fe:=he.onlyP M;have fq:=hq.onlyP M;have ce:=fe.c0;have cq:=fq.c0;have cA:=HC.out.ca;have cN:=HC.out.cn;(try rw[hsl]at cN);have cW:=HC.out.cl)
  try go_wp2_with fail
  refine D_ hK (by exact⟨ce,cq,cA⟩) (h:=fun hHeld=>?_);clear hK K
  refine Bx (i:=10) (h:=fun K hK=>?_)
  try simp only[List.getElem_toArray,List.getElem_cons_zero,List.getElem_cons_succ]
  go_simp
  (refine(DF HC.out k _ rfl hk 0 y).mono ?_;rintro e1 w1 ⟨v1,rfl,k1,o1⟩;obtain⟨F1,b1,c1,rfl⟩:=k1.func (HR.out);have HC:=Aa (HC.out.only0 o1);have M:=M.trans (o1.any P);have HS:=Aa k1;clear k1;have cX:=HC.out.cx;have zX:=HC.out.zf 25;have fe:=he.onlyP M;have fq:=hq.onlyP M;have ce:=fe.c0;have cq:=fq.c0;have cA:=HC.out.ca;have cN:=HC.out.cn;(try rw[hsl]at cN);have cW:=HC.out.cl)
  try go_wp2_with fail
  refine D_ hK (by exact⟨ce,cq,cA⟩) (h:=fun hHeld=>?_);clear hK K
  refine Av 11 [12,13,14] (h:=Av 12 [13,14] (h:=Av 13 [14] (h:=?_)))
  refine AI (by kernel_rfl) rfl (by kernel_rfl) (fun K hK=>?_)
  try simp only[List.getElem_toArray,List.getElem_cons_zero,List.getElem_cons_succ]
  go_simp
  skip
  try go_wp2_with fail
  refine hK.out _ _ ?_
  clear hK K
  try simp only[Act.put,List.getElem_toArray,List.getElem_cons_zero,List.getElem_cons_succ,List.setIfInBounds_toArray,List.set_cons_zero,List.set_cons_succ]
  clear hHeld
  have HK:=HC.out.setK 25 (.func F1 b1 c1) (K':={K with nx:=(.func F1 b1 c1)}) rfl
  have HF:=Aa (show Dj B w P Q R A K s1 (K.low) (A4 k 0 y) false (.returned (.bool false)) _ from⟨(.func F1 b1 c1),rfl,HK.1,HS.out.onlyP HK.2,M.trans HK.2⟩)
  clear HK
  go_wp2_with fail
  go_ret
  exact HF.out
theorem RT{B N:Nat}{w:World}{P Q R:Nat→Prop}{A:EA}{K:EK}{s:Sh}(h:SX B w P Q R A K s)(hN:AW N s){k:Nat}{l:Int}(hk:k<64)(l0:0≤l){e q x:Nat}(he:An w P Q R e 39 #[bp A.e])(hq:An w P Q R q 3 #[.int .i64 ((k:Int))])(hx:An w P Q R x 31 #[.int .u64 (l)]):
 Calls Tryz.prog 227 #[bp e,bp q,bp x] w (Dj B w P Q R A K (s.setA (s.a.tick (Al l 2))) (K.low) (A4 k l (s.a.load (Al l 2))) false):=by
 obtain⟨y,hy⟩:=Aq (s.a.load (Al l 2))
 obtain⟨y0,y1⟩:0≤y∧y<18446744073709551616:=by rw[←hy];exact AG hN.word _
 obtain⟨s1,hs1⟩:=Aq (s.setA (s.a.tick (Al l 2)))
 have hsl:s1.slots=s.slots:=by rw[←hs1];rfl
 rw[hy,hs1]
 have HC:=Aa h.drew
 have M:Ah P w w.drew:=((Ac.refl w).drew).any P
 have fe:=he.onlyP M
 have fq:=hq.onlyP M
 have fx:=hx.onlyP M
 have ce:=fe.c0
 have cq:=fq.c0
 have cx:=fx.c0
 have cA:=HC.out.ca
 have cN:=HC.out.cn
 (try rw[hsl]at cN)
 have cW:=HC.out.cl
 clear h
 by_cases hx:y=0∧k=63
 ·skip
  have HR:=Aa (show A4 k l y= .idle by unfold A4 Cq;rw[if_pos hx.1,if_pos (by omega)])
  clear hx
  go_enter Tryz.func227,Tryz.ntmps227
  go_upto_region 1 with(fail)
  refine Ao (S:=(fun w'=>Ab w' e 0 (bp A.e)∧Ab w' q 0 (.int .i64 ((k:Int)))∧Ab w' x 0 (.int .u64 (l))∧Ab w' A.e 2 (bp A.a))) 15 (by kernel_rfl) ?_ (fun hHeld=>?_)
  ·exact⟨ce,cq,cx,cA⟩
  refine Av 0 [15] (h:=Av 1 [15] (h:=Av 2 [15] (h:=Av 3 [15] (h:=Av 4 [15] (h:=Av 5 [15] (h:=Av 6 [15] (h:=Av 7 [15] (h:=Av 8 [15] (h:=Bx (i:=9) (h:=fun K hK=>?_))))))))))
  go_simp
  (refine(Bb l 2 _ l0 (by omega) (by omega)).mono ?_;rintro e1 w1 ⟨rfl,rfl⟩)
  try go_wp2_with fail
  refine D_ hK (by exact⟨ce,cq,cx,cA⟩) (h:=fun hHeld=>?_);clear hK K
  refine Bx (i:=10) (h:=fun K hK=>?_)
  try simp only[List.getElem_toArray,List.getElem_cons_zero,List.getElem_cons_succ]
  go_simp
  (refine(Cf HC.out _).mono ?_;rw[hy,hs1];rintro e1 w1 ⟨rfl,h1,m1⟩;have HC:=Aa h1;have M:=M.trans m1;clear h1;have fe:=he.onlyP M;have fq:=hq.onlyP M;have fx:=hx.onlyP M;have ce:=fe.c0;have cq:=fq.c0;have cx:=fx.c0;have cA:=HC.out.ca;have cN:=HC.out.cn;(try rw[hsl]at cN);have cW:=HC.out.cl)
  try go_wp2_with fail
  refine D_ hK (by exact⟨ce,cq,cx,cA⟩) (h:=fun hHeld=>?_);clear hK K
  refine Bx (i:=11) (h:=fun K hK=>?_)
  try simp only[List.getElem_toArray,List.getElem_cons_zero,List.getElem_cons_succ]
  go_simp
  (refine(DF HC.out k _ rfl hk l y).mono ?_;rintro e1 w1 ⟨v1,rfl,k1,o1⟩;rw[HR.out]at k1;obtain rfl:=k1.nil;have HC:=Aa (HC.out.only0 o1);have M:=M.trans (o1.any P);have HS:=Aa k1;clear k1;have cX:=HC.out.cx;have zX:=HC.out.zf 25;have fe:=he.onlyP M;have fq:=hq.onlyP M;have fx:=hx.onlyP M;have ce:=fe.c0;have cq:=fq.c0;have cx:=fx.c0;have cA:=HC.out.ca;have cN:=HC.out.cn;(try rw[hsl]at cN);have cW:=HC.out.cl)
  try go_wp2_with fail
  refine D_ hK (by exact⟨ce,cq,cx,cA⟩) (h:=fun hHeld=>?_);clear hK K
  refine Av 12 [13,14,15] (h:=Av 13 [14,15] (h:=Av 14 [15] (h:=?_)))
  exact Tn
 ·skip
  have HR:=Aa (show A4 k l y≠ .idle by exact FB hx hk)
  clear hx
  go_enter Tryz.func227,Tryz.ntmps227
  go_upto_region 1 with(fail)
  refine Ao (S:=(fun w'=>Ab w' e 0 (bp A.e)∧Ab w' q 0 (.int .i64 ((k:Int)))∧Ab w' x 0 (.int .u64 (l))∧Ab w' A.e 2 (bp A.a))) 15 (by kernel_rfl) ?_ (fun hHeld=>?_)
  ·exact⟨ce,cq,cx,cA⟩
  refine Av 0 [15] (h:=Av 1 [15] (h:=Av 2 [15] (h:=Av 3 [15] (h:=Av 4 [15] (h:=Av 5 [15] (h:=Av 6 [15] (h:=Av 7 [15] (h:=Av 8 [15] (h:=Bx (i:=9) (h:=fun K hK=>?_))))))))))
  go_simp
  (refine(Bb l 2 _ l0 (by omega) (by omega)).mono ?_;rintro e1 w1 ⟨rfl,rfl⟩)
  try go_wp2_with fail
  refine D_ hK (by exact⟨ce,cq,cx,cA⟩) (h:=fun hHeld=>?_);clear hK K
  refine Bx (i:=10) (h:=fun K hK=>?_)
  try simp only[List.getElem_toArray,List.getElem_cons_zero,List.getElem_cons_succ]
  go_simp
  (refine(Cf HC.out _).mono ?_;rw[hy,hs1];rintro e1 w1 ⟨rfl,h1,m1⟩;have HC:=Aa h1;have M:=M.trans m1;clear h1;have fe:=he.onlyP M;have fq:=hq.onlyP M;have fx:=hx.onlyP M;have ce:=fe.c0;have cq:=fq.c0;have cx:=fx.c0;have cA:=HC.out.ca;have cN:=HC.out.cn;(try rw[hsl]at cN);have cW:=HC.out.cl)
  try go_wp2_with fail
  refine D_ hK (by exact⟨ce,cq,cx,cA⟩) (h:=fun hHeld=>?_);clear hK K
  refine Bx (i:=11) (h:=fun K hK=>?_)
  try simp only[List.getElem_toArray,List.getElem_cons_zero,List.getElem_cons_succ]
  go_simp
  (refine(DF HC.out k _ rfl hk l y).mono ?_;rintro e1 w1 ⟨v1,rfl,k1,o1⟩;obtain⟨F1,b1,c1,rfl⟩:=k1.func (HR.out);have HC:=Aa (HC.out.only0 o1);have M:=M.trans (o1.any P);have HS:=Aa k1;clear k1;have cX:=HC.out.cx;have zX:=HC.out.zf 25;have fe:=he.onlyP M;have fq:=hq.onlyP M;have fx:=hx.onlyP M;have ce:=fe.c0;have cq:=fq.c0;have cx:=fx.c0;have cA:=HC.out.ca;have cN:=HC.out.cn;(try rw[hsl]at cN);have cW:=HC.out.cl)
  try go_wp2_with fail
  refine D_ hK (by exact⟨ce,cq,cx,cA⟩) (h:=fun hHeld=>?_);clear hK K
  refine Av 12 [13,14,15] (h:=Av 13 [14,15] (h:=Av 14 [15] (h:=?_)))
  refine AI (by kernel_rfl) rfl (by kernel_rfl) (fun K hK=>?_)
  try simp only[List.getElem_toArray,List.getElem_cons_zero,List.getElem_cons_succ]
  go_simp
  skip
  try go_wp2_with fail
  refine hK.out _ _ ?_
  clear hK K
  try simp only[Act.put,List.getElem_toArray,List.getElem_cons_zero,List.getElem_cons_succ,List.setIfInBounds_toArray,List.set_cons_zero,List.set_cons_succ]
  clear hHeld
  have HK:=HC.out.setK 25 (.func F1 b1 c1) (K':={K with nx:=(.func F1 b1 c1)}) rfl
  have HF:=Aa (show Dj B w P Q R A K s1 (K.low) (A4 k l y) false (.returned (.bool false)) _ from⟨(.func F1 b1 c1),rfl,HK.1,HS.out.onlyP HK.2,M.trans HK.2⟩)
  clear HK
  go_wp2_with fail
  go_ret
  exact HF.out
theorem LV{B N:Nat}{w:World}{P Q R:Nat→Prop}{A:EA}{K:EK}{s:Sh}(h:SX B w P Q R A K s)(hN:AW N s){k:Nat}{a l:Int}(l0:0≤l){e x q j:Nat}(he:An w P Q R e 39 #[bp A.e])(hx:An w P Q R x 31 #[.int .u64 (l)])(hq:An w P Q R q 3 #[.int .i64 ((k:Int))])(hj:An w P Q R j 31 #[.int .u64 (a)]):
 Calls Tryz.prog 225 #[bp e,bp x,bp q,bp j] w (Dj B w P Q R A K (s.setA (s.a.tick (Al l 2))) (K.low) (.cut k a l (s.a.load (Al l 2))) true):=by
 obtain⟨y,hy⟩:=Aq (s.a.load (Al l 2))
 obtain⟨y0,y1⟩:0≤y∧y<18446744073709551616:=by rw[←hy];exact AG hN.word _
 obtain⟨s1,hs1⟩:=Aq (s.setA (s.a.tick (Al l 2)))
 have hsl:s1.slots=s.slots:=by rw[←hs1];rfl
 rw[hy,hs1]
 have HC:=Aa h.drew
 have M:Ah P w w.drew:=((Ac.refl w).drew).any P
 have fe:=he.onlyP M
 have fx:=hx.onlyP M
 have fq:=hq.onlyP M
 have fj:=hj.onlyP M
 have ce:=fe.c0
 have cx:=fx.c0
 have cq:=fq.c0
 have cj:=fj.c0
 have cA:=HC.out.ca
 have cN:=HC.out.cn
 (try rw[hsl]at cN)
 have cW:=HC.out.cl
 clear h
 go_enter Tryz.func225,Tryz.ntmps225
 go_upto_region 1 with(fail)
 refine wp_region_held_drew (S:=(fun w'=>Ab w' e 0 (bp A.e)∧Ab w' x 0 (.int .u64 (l))∧Ab w' A.e 2 (bp A.a))) (by kernel_rfl) ?_ (fun hHeld=>?_)
 ·exact⟨ce,cx,cA⟩
 refine Af 0 (h:=Af 1 (h:=Af 2 (h:=Af 3 (h:=Af 4 (h:=Ar (i:=5) (h:=fun K hK=>?_))))))
 go_simp
 (refine(Bb l 2 _ l0 (by omega) (by omega)).mono ?_;rintro e1 w1 ⟨rfl,rfl⟩)
 try go_wp2_with fail
 refine AK hK (by exact⟨ce,cx,cA⟩) (h:=fun hHeld=>?_);clear hK K
 refine Ar (i:=6) (h:=fun K hK=>?_)
 try simp only[List.getElem_toArray,List.getElem_cons_zero,List.getElem_cons_succ]
 go_simp
 (refine(Cf HC.out _).mono ?_;rw[hy,hs1];rintro e1 w1 ⟨rfl,h1,m1⟩;have HC:=Aa h1;have M:=M.trans m1;clear h1;have fe:=he.onlyP M;have fx:=hx.onlyP M;have fq:=hq.onlyP M;have fj:=hj.onlyP M;have ce:=fe.c0;have cx:=fx.c0;have cq:=fq.c0;have cj:=fj.c0;have cA:=HC.out.ca;have cN:=HC.out.cn;(try rw[hsl]at cN);have cW:=HC.out.cl)
 try go_wp2_with fail
 refine AK hK (by exact⟨ce,cx,cA⟩) (h:=fun hHeld=>?_);clear hK K
 refine Af 7 (h:=?_)
 refine wpAnyH_done (by kernel_rfl) ?_ _
 clear hHeld
 go_upto_region 2 with(fail)
 have o9:=(Ac.refl (w1)).drew
 have HC:=Aa (HC.out.only0 o9)
 have M:=M.trans (o9.any P)
 have fe:=he.onlyP M
 have fx:=hx.onlyP M
 have fq:=hq.onlyP M
 have fj:=hj.onlyP M
 have ce:=fe.c0
 have cx:=fx.c0
 have cq:=fq.c0
 have cj:=fj.c0
 have cA:=HC.out.ca
 have cN:=HC.out.cn
 (try rw[hsl]at cN)
 have cW:=HC.out.cl
 clear o9
 go_upto_region 2 with(fail)
 refine Ao (S:=(fun w'=>Ab w' e 0 (bp A.e)∧Ab w' q 0 (.int .i64 ((k:Int)))∧Ab w' j 0 (.int .u64 (a))∧Ab w' x 0 (.int .u64 (l)))) 10 (by kernel_rfl) ?_ (fun hHeld=>?_)
 ·exact⟨ce,cq,cj,cx⟩
 refine Av 0 [10] (h:=Av 1 [10] (h:=Av 2 [10] (h:=Av 3 [10] (h:=Av 4 [10] (h:=Av 5 [10] (h:=Bx (i:=6) (h:=fun K hK=>?_)))))))
 go_simp
 (refine(RC HC.out k _ rfl a l y).mono ?_;rintro e1 w1 ⟨v1,rfl,k1,o1⟩;obtain⟨F1,b1,c1,rfl⟩:=k1.func (by simp);have HC:=Aa (HC.out.only0 o1);have M:=M.trans (o1.any P);have HS:=Aa k1;clear k1;have cX:=HC.out.cx;have zX:=HC.out.zf 25;have fe:=he.onlyP M;have fx:=hx.onlyP M;have fq:=hq.onlyP M;have fj:=hj.onlyP M;have ce:=fe.c0;have cx:=fx.c0;have cq:=fq.c0;have cj:=fj.c0;have cA:=HC.out.ca;have cN:=HC.out.cn;(try rw[hsl]at cN);have cW:=HC.out.cl)
 try go_wp2_with fail
 refine D_ hK (by exact⟨ce,cq,cj,cx⟩) (h:=fun hHeld=>?_);clear hK K
 refine Av 7 [8,9,10] (h:=Av 8 [9,10] (h:=Av 9 [10] (h:=?_)))
 refine AI (by kernel_rfl) rfl (by kernel_rfl) (fun K hK=>?_)
 try simp only[List.getElem_toArray,List.getElem_cons_zero,List.getElem_cons_succ]
 go_simp
 skip
 try go_wp2_with fail
 refine hK.out _ _ ?_
 clear hK K
 try simp only[Act.put,List.getElem_toArray,List.getElem_cons_zero,List.getElem_cons_succ,List.setIfInBounds_toArray,List.set_cons_zero,List.set_cons_succ]
 clear hHeld
 have HK:=HC.out.setK 25 (.func F1 b1 c1) (K':={K with nx:=(.func F1 b1 c1)}) rfl
 have HF:=Aa (show Dj B w P Q R A K s1 (K.low) (.cut k a l y) true (.returned (.bool true)) _ from⟨(.func F1 b1 c1),rfl,HK.1,HS.out.onlyP HK.2,M.trans HK.2⟩)
 clear HK
 go_wp2_with fail
 go_ret
 exact HF.out
theorem Ns{B N:Nat}{w:World}{P Q R:Nat→Prop}{A:EA}{K:EK}{s:Sh}(h:SX B w P Q R A K s)(hN:AW N s){k:Nat}{a l id:Int}(id0:0≤id)(id1:id≤65535){e d q j x:Nat}(he:An w P Q R e 39 #[bp A.e])(hd:An w P Q R d 3 #[.int .i64 (id)])(hq:An w P Q R q 3 #[.int .i64 ((k:Int))])(hj:An w P Q R j 31 #[.int .u64 (a)])(hx:An w P Q R x 31 #[.int .u64 (l)]):
 Calls Tryz.prog 201 #[bp e,bp d,bp q,bp j,bp x] w (Dj B w P Q R A K (s.setA (s.a.tick (s.pl id))) (K.low) (if s.a.load (s.pl id)%8=4 then .unlink k a l else .on k l) false):=by
 obtain⟨y,hy⟩:=Aq (s.a.load (s.pl id))
 obtain⟨y0,y1⟩:0≤y∧y<18446744073709551616:=by rw[←hy];exact AG hN.word _
 obtain⟨s1,hs1⟩:=Aq (s.setA (s.a.tick (s.pl id)))
 have hsl:s1.slots=s.slots:=by rw[←hs1];rfl
 rw[hy,hs1]
 have n1:0≤s.slots:=by have:=hN.n1;omega
 have n2:=hN.n2
 have hpl:73+s.slots*3+id=s.pl id:=rfl
 have HC:=Aa h.drew
 have M:Ah P w w.drew:=((Ac.refl w).drew).any P
 have fe:=he.onlyP M
 have fd:=hd.onlyP M
 have fq:=hq.onlyP M
 have fj:=hj.onlyP M
 have fx:=hx.onlyP M
 have ce:=fe.c0
 have cd:=fd.c0
 have cq:=fq.c0
 have cj:=fj.c0
 have cx:=fx.c0
 have cA:=HC.out.ca
 have cN:=HC.out.cn
 (try rw[hsl]at cN)
 have cW:=HC.out.cl
 clear h
 have HR:=Aa (show(if y%8=4 then Sw.unlink k a l else Sw.on k l)=(if y%8=4 then Sw.unlink k a l else Sw.on k l) from rfl)
 by_cases hx:y%8=4
 ·skip
  rw[if_pos hx]
  have bx:((y%8)==4)=true:=by simpa using hx
  clear hx
  go_enter Tryz.func201,Tryz.ntmps201
  go_upto_region 1 with(fail)
  refine wp_region_held_drew (S:=(fun w'=>Ab w' e 0 (bp A.e)∧Ab w' d 0 (.int .i64 (id))∧Ab w' A.e 2 (bp A.a)∧Ab w' A.e 0 (.int .i64 s.slots))) (by kernel_rfl) ?_ (fun hHeld=>?_)
  ·exact⟨ce,cd,cA,cN⟩
  refine Af 0 (h:=Af 1 (h:=Af 2 (h:=Af 3 (h:=Af 4 (h:=Af 5 (h:=Ar (i:=6) (h:=fun K hK=>?_)))))))
  go_simp
  (refine(BS A.e s.slots id _ cN n1 n2 id0 id1).mono ?_;rintro e1 w1 ⟨rfl,rfl⟩)
  try go_wp2_with fail
  refine AK hK (by exact⟨ce,cd,cA,cN⟩) (h:=fun hHeld=>?_);clear hK K
  refine Ar (i:=7) (h:=fun K hK=>?_)
  try simp only[List.getElem_toArray,List.getElem_cons_zero,List.getElem_cons_succ]
  go_simp
  (refine(Cf HC.out _).mono ?_;rw[hy,hs1];rintro e1 w1 ⟨rfl,h1,m1⟩;have HC:=Aa h1;have M:=M.trans m1;clear h1;have fe:=he.onlyP M;have fd:=hd.onlyP M;have fq:=hq.onlyP M;have fj:=hj.onlyP M;have fx:=hx.onlyP M;have ce:=fe.c0;have cd:=fd.c0;have cq:=fq.c0;have cj:=fj.c0;have cx:=fx.c0;have cA:=HC.out.ca;have cN:=HC.out.cn;(try rw[hsl]at cN);have cW:=HC.out.cl)
  try go_wp2_with fail
  refine AK hK (by exact⟨ce,cd,cA,cN⟩) (h:=fun hHeld=>?_);clear hK K
  refine Ar (i:=8) (h:=fun K hK=>?_)
  try simp only[List.getElem_toArray,List.getElem_cons_zero,List.getElem_cons_succ]
  go_simp
  (refine(Dn y _ y0 y1).mono ?_;rintro e1 w1 ⟨rfl,rfl⟩)
  try go_wp2_with fail
  refine AK hK (by exact⟨ce,cd,cA,cN⟩) (h:=fun hHeld=>?_);clear hK K
  refine Af 9 (h:=Af 10 (h:=Af 11 (h:=Af 12 (h:=Af 13 (h:=?_)))))
  refine wpAnyH_done (by kernel_rfl) ?_ _
  clear hHeld
  go_upto_region 3 with(fail)
  have o9:=(Ac.refl (w1)).drew
  have HC:=Aa (HC.out.only0 o9)
  have M:=M.trans (o9.any P)
  have fe:=he.onlyP M
  have fd:=hd.onlyP M
  have fq:=hq.onlyP M
  have fj:=hj.onlyP M
  have fx:=hx.onlyP M
  have ce:=fe.c0
  have cd:=fd.c0
  have cq:=fq.c0
  have cj:=fj.c0
  have cx:=fx.c0
  have cA:=HC.out.ca
  have cN:=HC.out.cn
  (try rw[hsl]at cN)
  have cW:=HC.out.cl
  clear o9
  go_upto_region 3 with(fail)
  refine Ao (S:=(fun w'=>Ab w' e 0 (bp A.e)∧Ab w' q 0 (.int .i64 ((k:Int)))∧Ab w' j 0 (.int .u64 (a))∧Ab w' x 0 (.int .u64 (l)))) 9 (by kernel_rfl) ?_ (fun hHeld=>?_)
  ·exact⟨ce,cq,cj,cx⟩
  refine Av 0 [9] (h:=Av 1 [9] (h:=Av 2 [9] (h:=Av 3 [9] (h:=Av 4 [9] (h:=Bx (i:=5) (h:=fun K hK=>?_))))))
  go_simp
  (refine(IK HC.out k _ rfl a l).mono ?_;rintro e1 w1 ⟨v1,rfl,k1,o1⟩;obtain⟨F1,b1,c1,rfl⟩:=k1.func (by simp);have HC:=Aa (HC.out.only0 o1);have M:=M.trans (o1.any P);have HS:=Aa k1;clear k1;have cX:=HC.out.cx;have zX:=HC.out.zf 25;have fe:=he.onlyP M;have fd:=hd.onlyP M;have fq:=hq.onlyP M;have fj:=hj.onlyP M;have fx:=hx.onlyP M;have ce:=fe.c0;have cd:=fd.c0;have cq:=fq.c0;have cj:=fj.c0;have cx:=fx.c0;have cA:=HC.out.ca;have cN:=HC.out.cn;(try rw[hsl]at cN);have cW:=HC.out.cl)
  exact UV
 ·skip
  rw[if_neg hx]
  have bx:((y%8)==4)=false:=by simpa using hx
  clear hx
  go_enter Tryz.func201,Tryz.ntmps201
  go_upto_region 1 with(fail)
  refine wp_region_held_drew (S:=(fun w'=>Ab w' e 0 (bp A.e)∧Ab w' d 0 (.int .i64 (id))∧Ab w' A.e 2 (bp A.a)∧Ab w' A.e 0 (.int .i64 s.slots))) (by kernel_rfl) ?_ (fun hHeld=>?_)
  ·exact⟨ce,cd,cA,cN⟩
  refine Af 0 (h:=Af 1 (h:=Af 2 (h:=Af 3 (h:=Af 4 (h:=Af 5 (h:=Ar (i:=6) (h:=fun K hK=>?_)))))))
  go_simp
  (refine(BS A.e s.slots id _ cN n1 n2 id0 id1).mono ?_;rintro e1 w1 ⟨rfl,rfl⟩)
  try go_wp2_with fail
  refine AK hK (by exact⟨ce,cd,cA,cN⟩) (h:=fun hHeld=>?_);clear hK K
  refine Ar (i:=7) (h:=fun K hK=>?_)
  try simp only[List.getElem_toArray,List.getElem_cons_zero,List.getElem_cons_succ]
  go_simp
  (refine(Cf HC.out _).mono ?_;rw[hy,hs1];rintro e1 w1 ⟨rfl,h1,m1⟩;have HC:=Aa h1;have M:=M.trans m1;clear h1;have fe:=he.onlyP M;have fd:=hd.onlyP M;have fq:=hq.onlyP M;have fj:=hj.onlyP M;have fx:=hx.onlyP M;have ce:=fe.c0;have cd:=fd.c0;have cq:=fq.c0;have cj:=fj.c0;have cx:=fx.c0;have cA:=HC.out.ca;have cN:=HC.out.cn;(try rw[hsl]at cN);have cW:=HC.out.cl)
  try go_wp2_with fail
  refine AK hK (by exact⟨ce,cd,cA,cN⟩) (h:=fun hHeld=>?_);clear hK K
  refine Ar (i:=8) (h:=fun K hK=>?_)
  try simp only[List.getElem_toArray,List.getElem_cons_zero,List.getElem_cons_succ]
  go_simp
  (refine(Dn y _ y0 y1).mono ?_;rintro e1 w1 ⟨rfl,rfl⟩)
  try go_wp2_with fail
  refine AK hK (by exact⟨ce,cd,cA,cN⟩) (h:=fun hHeld=>?_);clear hK K
  refine Af 9 (h:=Af 10 (h:=Af 11 (h:=Af 12 (h:=Af 13 (h:=?_)))))
  refine wpAnyH_done (by kernel_rfl) ?_ _
  clear hHeld
  go_upto_region 4 with(fail)
  have o9:=(Ac.refl (w1)).drew
  have HC:=Aa (HC.out.only0 o9)
  have M:=M.trans (o9.any P)
  have fe:=he.onlyP M
  have fd:=hd.onlyP M
  have fq:=hq.onlyP M
  have fj:=hj.onlyP M
  have fx:=hx.onlyP M
  have ce:=fe.c0
  have cd:=fd.c0
  have cq:=fq.c0
  have cj:=fj.c0
  have cx:=fx.c0
  have cA:=HC.out.ca
  have cN:=HC.out.cn
  (try rw[hsl]at cN)
  have cW:=HC.out.cl
  clear o9
  go_upto_region 4 with(fail)
  refine Ao (S:=(fun w'=>Ab w' e 0 (bp A.e)∧Ab w' q 0 (.int .i64 ((k:Int)))∧Ab w' x 0 (.int .u64 (l)))) 8 (by kernel_rfl) ?_ (fun hHeld=>?_)
  ·exact⟨ce,cq,cx⟩
  refine Av 0 [8] (h:=Av 1 [8] (h:=Av 2 [8] (h:=Av 3 [8] (h:=Bx (i:=4) (h:=fun K hK=>?_)))))
  go_simp
  (refine(Q5 HC.out k _ rfl l).mono ?_;rintro e1 w1 ⟨v1,rfl,k1,o1⟩;obtain⟨F1,b1,c1,rfl⟩:=k1.func (by simp);have HC:=Aa (HC.out.only0 o1);have M:=M.trans (o1.any P);have HS:=Aa k1;clear k1;have cX:=HC.out.cx;have zX:=HC.out.zf 25;have fe:=he.onlyP M;have fd:=hd.onlyP M;have fq:=hq.onlyP M;have fj:=hj.onlyP M;have fx:=hx.onlyP M;have ce:=fe.c0;have cd:=fd.c0;have cq:=fq.c0;have cj:=fj.c0;have cx:=fx.c0;have cA:=HC.out.ca;have cN:=HC.out.cn;(try rw[hsl]at cN);have cW:=HC.out.cl)
  exact TG
theorem KG{B N:Nat}{w:World}{P Q R:Nat→Prop}{A:EA}{K:EK}{s:Sh}(h:SX B w P Q R A K s)(hN:AW N s){k:Nat}{a l b:Int}(l0:0≤l){d e x q j:Nat}(hd:An w P Q R d 31 #[.int .u64 (b)])(he:An w P Q R e 39 #[bp A.e])(hx:An w P Q R x 31 #[.int .u64 (l)])(hq:An w P Q R q 3 #[.int .i64 ((k:Int))])(hj:An w P Q R j 31 #[.int .u64 (a)]):
 Calls Tryz.prog 204 #[bp d,bp e,bp x,bp q,bp j] w (Dj B w P Q R A K (s.setA (s.a.tick (Al l 1))) (K.low) (if BD (s.a.load (Al l 1))=1∧1≤Br (s.a.load (Al l 1))∧Br (s.a.load (Al l 1))≤K.low then .unlink k a l else .on k l) false):=by
 obtain⟨y,hy⟩:=Aq (s.a.load (Al l 1))
 obtain⟨y0,y1⟩:0≤y∧y<18446744073709551616:=by rw[←hy];exact AG hN.word _
 obtain⟨s1,hs1⟩:=Aq (s.setA (s.a.tick (Al l 1)))
 have hsl:s1.slots=s.slots:=by rw[←hs1];rfl
 rw[hy,hs1]
 have CG:=Jx b y K.low y0
 have HC:=Aa h.drew
 have M:Ah P w w.drew:=((Ac.refl w).drew).any P
 have fd:=hd.onlyP M
 have fe:=he.onlyP M
 have fx:=hx.onlyP M
 have fq:=hq.onlyP M
 have fj:=hj.onlyP M
 have cd:=fd.c0
 have ce:=fe.c0
 have cx:=fx.c0
 have cq:=fq.c0
 have cj:=fj.c0
 have cA:=HC.out.ca
 have cN:=HC.out.cn
 (try rw[hsl]at cN)
 have cW:=HC.out.cl
 clear h
 by_cases hx:BD y=1∧1≤Br y∧Br y≤K.low
 ·skip
  rw[if_pos hx]
  rw[show decide (BD y=1∧1≤Br y∧Br y≤K.low)=true by simpa using hx]at CG
  clear hx
  go_enter Tryz.func204,Tryz.ntmps204
  go_upto_region 1 with(fail)
  refine wp_region_held_drew (S:=(fun w'=>Ab w' d 0 (.int .u64 (b))∧Ab w' e 0 (bp A.e)∧Ab w' x 0 (.int .u64 (l))∧Ab w' A.e 2 (bp A.a)∧Ab w' A.e 26 (.int .u64 K.low))) (by kernel_rfl) ?_ (fun hHeld=>?_)
  ·exact⟨cd,ce,cx,cA,cW⟩
  refine Af 0 (h:=Af 1 (h:=Af 2 (h:=Af 3 (h:=Af 4 (h:=Af 5 (h:=Af 8 (h:=Af 9 (h:=Af 10 (h:=Af 11 (h:=Af 12 (h:=Ar (i:=6) (h:=fun K hK=>?_))))))))))))
  go_simp
  (refine(Bb l 1 _ l0 (by omega) (by omega)).mono ?_;rintro e1 w1 ⟨rfl,rfl⟩)
  try go_wp2_with fail
  refine AK hK (by exact⟨cd,ce,cx,cA,cW⟩) (h:=fun hHeld=>?_);clear hK K
  refine Ar (i:=7) (h:=fun K hK=>?_)
  try simp only[List.getElem_toArray,List.getElem_cons_zero,List.getElem_cons_succ]
  go_simp
  (refine(Cf HC.out _).mono ?_;rw[hy,hs1];rintro e1 w1 ⟨rfl,h1,m1⟩;have HC:=Aa h1;have M:=M.trans m1;clear h1;have fd:=hd.onlyP M;have fe:=he.onlyP M;have fx:=hx.onlyP M;have fq:=hq.onlyP M;have fj:=hj.onlyP M;have cd:=fd.c0;have ce:=fe.c0;have cx:=fx.c0;have cq:=fq.c0;have cj:=fj.c0;have cA:=HC.out.ca;have cN:=HC.out.cn;(try rw[hsl]at cN);have cW:=HC.out.cl)
  try go_wp2_with fail
  refine AK hK (by exact⟨cd,ce,cx,cA,cW⟩) (h:=fun hHeld=>?_);clear hK K
  refine Ar (i:=13) (h:=fun K hK=>?_)
  try simp only[List.getElem_toArray,List.getElem_cons_zero,List.getElem_cons_succ]
  go_simp
  (refine(CG _).mono ?_;rintro e1 w1 ⟨rfl,o1⟩;have HC:=Aa (HC.out.only0 o1);have M:=M.trans (o1.any P);have fd:=hd.onlyP M;have fe:=he.onlyP M;have fx:=hx.onlyP M;have fq:=hq.onlyP M;have fj:=hj.onlyP M;have cd:=fd.c0;have ce:=fe.c0;have cx:=fx.c0;have cq:=fq.c0;have cj:=fj.c0;have cA:=HC.out.ca;have cN:=HC.out.cn;(try rw[hsl]at cN);have cW:=HC.out.cl)
  try go_wp2_with fail
  refine AK hK (by exact⟨cd,ce,cx,cA,cW⟩) (h:=fun hHeld=>?_);clear hK K
  refine wpAnyH_done (by kernel_rfl) ?_ _
  clear hHeld
  clear CG
  go_upto_region 2 with(fail)
  have o9:=(Ac.refl (w1)).drew
  have HC:=Aa (HC.out.only0 o9)
  have M:=M.trans (o9.any P)
  have fd:=hd.onlyP M
  have fe:=he.onlyP M
  have fx:=hx.onlyP M
  have fq:=hq.onlyP M
  have fj:=hj.onlyP M
  have cd:=fd.c0
  have ce:=fe.c0
  have cx:=fx.c0
  have cq:=fq.c0
  have cj:=fj.c0
  have cA:=HC.out.ca
  have cN:=HC.out.cn
  (try rw[hsl]at cN)
  have cW:=HC.out.cl
  clear o9
  go_upto_region 2 with(fail)
  refine Ao (S:=(fun w'=>Ab w' e 0 (bp A.e)∧Ab w' q 0 (.int .i64 ((k:Int)))∧Ab w' j 0 (.int .u64 (a))∧Ab w' x 0 (.int .u64 (l)))) 9 (by kernel_rfl) ?_ (fun hHeld=>?_)
  ·exact⟨ce,cq,cj,cx⟩
  refine Av 0 [9] (h:=Av 1 [9] (h:=Av 2 [9] (h:=Av 3 [9] (h:=Av 4 [9] (h:=Bx (i:=5) (h:=fun K hK=>?_))))))
  go_simp
  (refine(IK HC.out k _ rfl a l).mono ?_;rintro e1 w1 ⟨v1,rfl,k1,o1⟩;obtain⟨F1,b1,c1,rfl⟩:=k1.func (by simp);have HC:=Aa (HC.out.only0 o1);have M:=M.trans (o1.any P);have HS:=Aa k1;clear k1;have cX:=HC.out.cx;have zX:=HC.out.zf 25;have fd:=hd.onlyP M;have fe:=he.onlyP M;have fx:=hx.onlyP M;have fq:=hq.onlyP M;have fj:=hj.onlyP M;have cd:=fd.c0;have ce:=fe.c0;have cx:=fx.c0;have cq:=fq.c0;have cj:=fj.c0;have cA:=HC.out.ca;have cN:=HC.out.cn;(try rw[hsl]at cN);have cW:=HC.out.cl)
  exact UV
 ·skip
  rw[if_neg hx]
  rw[show decide (BD y=1∧1≤Br y∧Br y≤K.low)=false by simpa using hx]at CG
  clear hx
  go_enter Tryz.func204,Tryz.ntmps204
  go_upto_region 1 with(fail)
  refine wp_region_held_drew (S:=(fun w'=>Ab w' d 0 (.int .u64 (b))∧Ab w' e 0 (bp A.e)∧Ab w' x 0 (.int .u64 (l))∧Ab w' A.e 2 (bp A.a)∧Ab w' A.e 26 (.int .u64 K.low))) (by kernel_rfl) ?_ (fun hHeld=>?_)
  ·exact⟨cd,ce,cx,cA,cW⟩
  refine Af 0 (h:=Af 1 (h:=Af 2 (h:=Af 3 (h:=Af 4 (h:=Af 5 (h:=Af 8 (h:=Af 9 (h:=Af 10 (h:=Af 11 (h:=Af 12 (h:=Ar (i:=6) (h:=fun K hK=>?_))))))))))))
  go_simp
  (refine(Bb l 1 _ l0 (by omega) (by omega)).mono ?_;rintro e1 w1 ⟨rfl,rfl⟩)
  try go_wp2_with fail
  refine AK hK (by exact⟨cd,ce,cx,cA,cW⟩) (h:=fun hHeld=>?_);clear hK K
  refine Ar (i:=7) (h:=fun K hK=>?_)
  try simp only[List.getElem_toArray,List.getElem_cons_zero,List.getElem_cons_succ]
  go_simp
  (refine(Cf HC.out _).mono ?_;rw[hy,hs1];rintro e1 w1 ⟨rfl,h1,m1⟩;have HC:=Aa h1;have M:=M.trans m1;clear h1;have fd:=hd.onlyP M;have fe:=he.onlyP M;have fx:=hx.onlyP M;have fq:=hq.onlyP M;have fj:=hj.onlyP M;have cd:=fd.c0;have ce:=fe.c0;have cx:=fx.c0;have cq:=fq.c0;have cj:=fj.c0;have cA:=HC.out.ca;have cN:=HC.out.cn;(try rw[hsl]at cN);have cW:=HC.out.cl)
  try go_wp2_with fail
  refine AK hK (by exact⟨cd,ce,cx,cA,cW⟩) (h:=fun hHeld=>?_);clear hK K
  refine Ar (i:=13) (h:=fun K hK=>?_)
  try simp only[List.getElem_toArray,List.getElem_cons_zero,List.getElem_cons_succ]
  go_simp
  (refine(CG _).mono ?_;rintro e1 w1 ⟨rfl,o1⟩;have HC:=Aa (HC.out.only0 o1);have M:=M.trans (o1.any P);have fd:=hd.onlyP M;have fe:=he.onlyP M;have fx:=hx.onlyP M;have fq:=hq.onlyP M;have fj:=hj.onlyP M;have cd:=fd.c0;have ce:=fe.c0;have cx:=fx.c0;have cq:=fq.c0;have cj:=fj.c0;have cA:=HC.out.ca;have cN:=HC.out.cn;(try rw[hsl]at cN);have cW:=HC.out.cl)
  try go_wp2_with fail
  refine AK hK (by exact⟨cd,ce,cx,cA,cW⟩) (h:=fun hHeld=>?_);clear hK K
  refine wpAnyH_done (by kernel_rfl) ?_ _
  clear hHeld
  clear CG
  go_upto_region 3 with(fail)
  have o9:=(Ac.refl (w1)).drew
  have HC:=Aa (HC.out.only0 o9)
  have M:=M.trans (o9.any P)
  have fd:=hd.onlyP M
  have fe:=he.onlyP M
  have fx:=hx.onlyP M
  have fq:=hq.onlyP M
  have fj:=hj.onlyP M
  have cd:=fd.c0
  have ce:=fe.c0
  have cx:=fx.c0
  have cq:=fq.c0
  have cj:=fj.c0
  have cA:=HC.out.ca
  have cN:=HC.out.cn
  (try rw[hsl]at cN)
  have cW:=HC.out.cl
  clear o9
  go_upto_region 3 with(fail)
  refine Ao (S:=(fun w'=>Ab w' e 0 (bp A.e)∧Ab w' q 0 (.int .i64 ((k:Int)))∧Ab w' x 0 (.int .u64 (l)))) 8 (by kernel_rfl) ?_ (fun hHeld=>?_)
  ·exact⟨ce,cq,cx⟩
  refine Av 0 [8] (h:=Av 1 [8] (h:=Av 2 [8] (h:=Av 3 [8] (h:=Bx (i:=4) (h:=fun K hK=>?_)))))
  go_simp
  (refine(Q5 HC.out k _ rfl l).mono ?_;rintro e1 w1 ⟨v1,rfl,k1,o1⟩;obtain⟨F1,b1,c1,rfl⟩:=k1.func (by simp);have HC:=Aa (HC.out.only0 o1);have M:=M.trans (o1.any P);have HS:=Aa k1;clear k1;have cX:=HC.out.cx;have zX:=HC.out.zf 25;have fd:=hd.onlyP M;have fe:=he.onlyP M;have fx:=hx.onlyP M;have fq:=hq.onlyP M;have fj:=hj.onlyP M;have cd:=fd.c0;have ce:=fe.c0;have cx:=fx.c0;have cq:=fq.c0;have cj:=fj.c0;have cA:=HC.out.ca;have cN:=HC.out.cn;(try rw[hsl]at cN);have cW:=HC.out.cl)
  exact TG
theorem Pq{B N:Nat}{w:World}{P Q R:Nat→Prop}{A:EA}{K:EK}{s:Sh}(h:SX B w P Q R A K s)(hN:AW N s){k:Nat}{a l:Int}(l0:0≤l){e x q j:Nat}(he:An w P Q R e 39 #[bp A.e])(hx:An w P Q R x 31 #[.int .u64 (l)])(hq:An w P Q R q 3 #[.int .i64 ((k:Int))])(hj:An w P Q R j 31 #[.int .u64 (a)]):
 Calls Tryz.prog 178 #[bp e,bp x,bp q,bp j] w (Dj B w P Q R A K (s.setA (s.a.tick (Al l 0))) (K.low) (if BD (s.a.load (Al l 0))=2 then .maker k a l (Br (s.a.load (Al l 0)))else .garbage k a l (s.a.load (Al l 0))) false):=by
 obtain⟨y,hy⟩:=Aq (s.a.load (Al l 0))
 obtain⟨y0,y1⟩:0≤y∧y<18446744073709551616:=by rw[←hy];exact AG hN.word _
 obtain⟨s1,hs1⟩:=Aq (s.setA (s.a.tick (Al l 0)))
 have hsl:s1.slots=s.slots:=by rw[←hs1];rfl
 rw[hy,hs1]
 have CR:=BI y
 have hrn:=FC y y0
 have ew:IntKind.i64.wrap (Br y)=Br y:=by rw[IntKind.wrap_i64];omega
 have HC:=Aa h.drew
 have M:Ah P w w.drew:=((Ac.refl w).drew).any P
 have fe:=he.onlyP M
 have fx:=hx.onlyP M
 have fq:=hq.onlyP M
 have fj:=hj.onlyP M
 have ce:=fe.c0
 have cx:=fx.c0
 have cq:=fq.c0
 have cj:=fj.c0
 have cA:=HC.out.ca
 have cN:=HC.out.cn
 (try rw[hsl]at cN)
 have cW:=HC.out.cl
 clear h
 generalize BD y=kd at *
 generalize Br y=nd at *
 by_cases hx:kd=2
 ·skip
  subst hx
  rw[if_pos rfl]
  go_enter Tryz.func178,Tryz.ntmps178
  go_upto_region 1 with(fail)
  refine wp_region_held_drew (S:=(fun w'=>Ab w' e 0 (bp A.e)∧Ab w' x 0 (.int .u64 (l))∧Ab w' A.e 2 (bp A.a))) (by kernel_rfl) ?_ (fun hHeld=>?_)
  ·exact⟨ce,cx,cA⟩
  refine Af 0 (h:=Af 1 (h:=Af 2 (h:=Af 3 (h:=Af 4 (h:=Ar (i:=5) (h:=fun K hK=>?_))))))
  go_simp
  (refine(Bb l 0 _ l0 (by omega) (by omega)).mono ?_;rintro e1 w1 ⟨rfl,rfl⟩)
  try go_wp2_with fail
  refine AK hK (by exact⟨ce,cx,cA⟩) (h:=fun hHeld=>?_);clear hK K
  refine Ar (i:=6) (h:=fun K hK=>?_)
  try simp only[List.getElem_toArray,List.getElem_cons_zero,List.getElem_cons_succ]
  go_simp
  (refine(Cf HC.out _).mono ?_;rw[hy,hs1];rintro e1 w1 ⟨rfl,h1,m1⟩;have HC:=Aa h1;have M:=M.trans m1;clear h1;have fe:=he.onlyP M;have fx:=hx.onlyP M;have fq:=hq.onlyP M;have fj:=hj.onlyP M;have ce:=fe.c0;have cx:=fx.c0;have cq:=fq.c0;have cj:=fj.c0;have cA:=HC.out.ca;have cN:=HC.out.cn;(try rw[hsl]at cN);have cW:=HC.out.cl)
  try go_wp2_with fail
  refine AK hK (by exact⟨ce,cx,cA⟩) (h:=fun hHeld=>?_);clear hK K
  refine Af 7 (h:=?_)
  refine wpAnyH_done (by kernel_rfl) ?_ _
  clear hHeld
  go_wp2_with fail
  refine(CR _).mono ?_
  rintro e2 w2 ⟨rfl,o2⟩
  clear CR
  obtain⟨V,hV⟩:=Ad (w2.alloc (.cells #[.int .i64 2,.int .u64 nd] 195))
  obtain⟨sb,hsb⟩:=Ad w2.heap.size
  have fs:An V P Q R sb 195 #[.int .i64 2,.int .u64 nd]:=by rw[hV,hsb];exact An.newS (HC.out.only0 o2) _ rfl _ _
  have oV:Ac w1 V:=by rw[hV];exact o2.alloc _
  have HC:=Aa (HC.out.only0 oV)
  have M:=M.trans (oV.any P)
  have fe:=he.onlyP M
  have fx:=hx.onlyP M
  have fq:=hq.onlyP M
  have fj:=hj.onlyP M
  have ce:=fe.c0
  have cx:=fx.c0
  have cq:=fq.c0
  have cj:=fj.c0
  have cA:=HC.out.ca
  have cN:=HC.out.cn
  (try rw[hsl]at cN)
  have cW:=HC.out.cl
  have s0:=fs.d0
  have s9:=fs.d1
  clear oV o2
  go_upto_region 3 with(fail)
  rw[←hV,←hsb]
  clear hV hsb
  go_upto_region 4 with(fail)
  have o9:=(Ac.refl (V)).drew
  have HC:=Aa (HC.out.only0 o9)
  have M:=M.trans (o9.any P)
  have fe:=he.onlyP M
  have fx:=hx.onlyP M
  have fq:=hq.onlyP M
  have fj:=hj.onlyP M
  have ce:=fe.c0
  have cx:=fx.c0
  have cq:=fq.c0
  have cj:=fj.c0
  have cA:=HC.out.ca
  have cN:=HC.out.cn
  (try rw[hsl]at cN)
  have cW:=HC.out.cl
  clear o9
  have fs:=fs.onlyP (((Ac.refl V).drew).any P)
  have s9:=fs.d1
  go_upto_region 4 with(fail)
  refine Ao (S:=(fun w'=>Ab w' e 0 (bp A.e)∧Ab w' q 0 (.int .i64 ((k:Int)))∧Ab w' j 0 (.int .u64 (a))∧Ab w' x 0 (.int .u64 (l))∧Ab w' sb 1 (.int .u64 nd))) 12 (by kernel_rfl) ?_ (fun hHeld=>?_)
  ·exact⟨ce,cq,cj,cx,s9⟩
  refine Av 0 [12] (h:=Av 1 [12] (h:=Av 2 [12] (h:=Av 3 [12] (h:=Av 4 [12] (h:=Av 5 [12] (h:=Av 6 [12] (h:=Av 7 [12] (h:=Bx (i:=8) (h:=fun K hK=>?_)))))))))
  go_simp
  (refine(Pu HC.out k _ rfl a l nd).mono ?_;rintro e1 w1 ⟨v1,rfl,k1,o1⟩;obtain⟨F1,b1,c1,rfl⟩:=k1.func (by simp);have HC:=Aa (HC.out.only0 o1);have M:=M.trans (o1.any P);have HS:=Aa k1;clear k1;have cX:=HC.out.cx;have zX:=HC.out.zf 25;have fe:=he.onlyP M;have fx:=hx.onlyP M;have fq:=hq.onlyP M;have fj:=hj.onlyP M;have ce:=fe.c0;have cx:=fx.c0;have cq:=fq.c0;have cj:=fj.c0;have cA:=HC.out.ca;have cN:=HC.out.cn;(try rw[hsl]at cN);have cW:=HC.out.cl;have s9:=(fs.onlyP (o1.any P)).d1)
  try go_wp2_with fail
  refine D_ hK (by exact⟨ce,cq,cj,cx,s9⟩) (h:=fun hHeld=>?_);clear hK K
  refine Av 9 [10,11,12] (h:=Av 10 [11,12] (h:=Av 11 [12] (h:=?_)))
  refine AI (by kernel_rfl) rfl (by kernel_rfl) (fun K hK=>?_)
  try simp only[List.getElem_toArray,List.getElem_cons_zero,List.getElem_cons_succ]
  go_simp
  skip
  try go_wp2_with fail
  refine hK.out _ _ ?_
  clear hK K
  try simp only[Act.put,List.getElem_toArray,List.getElem_cons_zero,List.getElem_cons_succ,List.setIfInBounds_toArray,List.set_cons_zero,List.set_cons_succ]
  clear hHeld
  have HK:=HC.out.setK 25 (.func F1 b1 c1) (K':={K with nx:=(.func F1 b1 c1)}) rfl
  have HF:=Aa (show Dj B w P Q R A K s1 (K.low) (.maker k a l nd) false (.returned (.bool false)) _ from⟨(.func F1 b1 c1),rfl,HK.1,HS.out.onlyP HK.2,M.trans HK.2⟩)
  clear HK
  go_wp2_with fail
  go_ret
  exact HF.out
 ·skip
  rw[if_neg hx]
  have bx:(kd==2)=false:=by simpa using hx
  clear hx
  go_enter Tryz.func178,Tryz.ntmps178
  go_upto_region 1 with(fail)
  refine wp_region_held_drew (S:=(fun w'=>Ab w' e 0 (bp A.e)∧Ab w' x 0 (.int .u64 (l))∧Ab w' A.e 2 (bp A.a))) (by kernel_rfl) ?_ (fun hHeld=>?_)
  ·exact⟨ce,cx,cA⟩
  refine Af 0 (h:=Af 1 (h:=Af 2 (h:=Af 3 (h:=Af 4 (h:=Ar (i:=5) (h:=fun K hK=>?_))))))
  go_simp
  (refine(Bb l 0 _ l0 (by omega) (by omega)).mono ?_;rintro e1 w1 ⟨rfl,rfl⟩)
  try go_wp2_with fail
  refine AK hK (by exact⟨ce,cx,cA⟩) (h:=fun hHeld=>?_);clear hK K
  refine Ar (i:=6) (h:=fun K hK=>?_)
  try simp only[List.getElem_toArray,List.getElem_cons_zero,List.getElem_cons_succ]
  go_simp
  (refine(Cf HC.out _).mono ?_;rw[hy,hs1];rintro e1 w1 ⟨rfl,h1,m1⟩;have HC:=Aa h1;have M:=M.trans m1;clear h1;have fe:=he.onlyP M;have fx:=hx.onlyP M;have fq:=hq.onlyP M;have fj:=hj.onlyP M;have ce:=fe.c0;have cx:=fx.c0;have cq:=fq.c0;have cj:=fj.c0;have cA:=HC.out.ca;have cN:=HC.out.cn;(try rw[hsl]at cN);have cW:=HC.out.cl)
  try go_wp2_with fail
  refine AK hK (by exact⟨ce,cx,cA⟩) (h:=fun hHeld=>?_);clear hK K
  refine Af 7 (h:=?_)
  refine wpAnyH_done (by kernel_rfl) ?_ _
  clear hHeld
  go_wp2_with fail
  refine(CR _).mono ?_
  rintro e2 w2 ⟨rfl,o2⟩
  clear CR
  obtain⟨V,hV⟩:=Ad (w2.alloc (.cells #[kd,.int .u64 nd] 195))
  obtain⟨sb,hsb⟩:=Ad w2.heap.size
  have fs:An V P Q R sb 195 #[kd,.int .u64 nd]:=by rw[hV,hsb];exact An.newS (HC.out.only0 o2) _ rfl _ _
  have oV:Ac w1 V:=by rw[hV];exact o2.alloc _
  have HC:=Aa (HC.out.only0 oV)
  have M:=M.trans (oV.any P)
  have fe:=he.onlyP M
  have fx:=hx.onlyP M
  have fq:=hq.onlyP M
  have fj:=hj.onlyP M
  have ce:=fe.c0
  have cx:=fx.c0
  have cq:=fq.c0
  have cj:=fj.c0
  have cA:=HC.out.ca
  have cN:=HC.out.cn
  (try rw[hsl]at cN)
  have cW:=HC.out.cl
  have s0:=fs.d0
  have s9:=fs.d1
  clear oV o2
  go_upto_region 3 with(fail)
  rw[←hV,←hsb]
  clear hV hsb
  go_upto_region 5 with(fail)
  have o9:=(Ac.refl (V)).drew
  have HC:=Aa (HC.out.only0 o9)
  have M:=M.trans (o9.any P)
  have fe:=he.onlyP M
  have fx:=hx.onlyP M
  have fq:=hq.onlyP M
  have fj:=hj.onlyP M
  have ce:=fe.c0
  have cx:=fx.c0
  have cq:=fq.c0
  have cj:=fj.c0
  have cA:=HC.out.ca
  have cN:=HC.out.cn
  (try rw[hsl]at cN)
  have cW:=HC.out.cl
  clear o9
  have fs:=fs.onlyP (((Ac.refl V).drew).any P)
  have s9:=fs.d1
  go_upto_region 5 with(fail)
  refine Ao (S:=(fun w'=>Ab w' e 0 (bp A.e)∧Ab w' q 0 (.int .i64 ((k:Int)))∧Ab w' j 0 (.int .u64 (a))∧Ab w' x 0 (.int .u64 (l)))) 10 (by kernel_rfl) ?_ (fun hHeld=>?_)
  ·exact⟨ce,cq,cj,cx⟩
  refine Av 0 [10] (h:=Av 1 [10] (h:=Av 2 [10] (h:=Av 3 [10] (h:=Av 4 [10] (h:=Av 5 [10] (h:=Bx (i:=6) (h:=fun K hK=>?_)))))))
  go_simp
  (refine(KP HC.out k _ rfl a l y).mono ?_;rintro e1 w1 ⟨v1,rfl,k1,o1⟩;obtain⟨F1,b1,c1,rfl⟩:=k1.func (by simp);have HC:=Aa (HC.out.only0 o1);have M:=M.trans (o1.any P);have HS:=Aa k1;clear k1;have cX:=HC.out.cx;have zX:=HC.out.zf 25;have fe:=he.onlyP M;have fx:=hx.onlyP M;have fq:=hq.onlyP M;have fj:=hj.onlyP M;have ce:=fe.c0;have cx:=fx.c0;have cq:=fq.c0;have cj:=fj.c0;have cA:=HC.out.ca;have cN:=HC.out.cn;(try rw[hsl]at cN);have cW:=HC.out.cl)
  try go_wp2_with fail
  refine D_ hK (by exact⟨ce,cq,cj,cx⟩) (h:=fun hHeld=>?_);clear hK K
  refine Av 7 [8,9,10] (h:=Av 8 [9,10] (h:=Av 9 [10] (h:=?_)))
  refine AI (by kernel_rfl) rfl (by kernel_rfl) (fun K hK=>?_)
  try simp only[List.getElem_toArray,List.getElem_cons_zero,List.getElem_cons_succ]
  go_simp
  skip
  try go_wp2_with fail
  refine hK.out _ _ ?_
  clear hK K
  try simp only[Act.put,List.getElem_toArray,List.getElem_cons_zero,List.getElem_cons_succ,List.setIfInBounds_toArray,List.set_cons_zero,List.set_cons_succ]
  clear hHeld
  have HK:=HC.out.setK 25 (.func F1 b1 c1) (K':={K with nx:=(.func F1 b1 c1)}) rfl
  have HF:=Aa (show Dj B w P Q R A K s1 (K.low) (.garbage k a l y) false (.returned (.bool false)) _ from⟨(.func F1 b1 c1),rfl,HK.1,HS.out.onlyP HK.2,M.trans HK.2⟩)
  clear HK
  go_wp2_with fail
  go_ret
  exact HF.out
theorem PV{B N:Nat}{w:World}{P Q R:Nat→Prop}{A:EA}{K:EK}{s:Sh}(h:SX B w P Q R A K s)(hN:AW N s){k:Nat}(hk:k<8)(lw:0≤K.low){e q:Nat}(he:An w P Q R e 39 #[bp A.e])(hq:An w P Q R q 3 #[.int .i64 ((k:Int))]):
 Calls Tryz.prog 113 #[bp e,bp q] w (Dj B w P Q R A K (s.setA (s.a.tick (1+k))) (if 0<s.a.load (1+k)then min K.low (s.a.load (1+k))else K.low) (DX (k+1)) false):=by
 obtain⟨y,hy⟩:=Aq (s.a.load (1+(k:Int)))
 obtain⟨y0,y1⟩:0≤y∧y<18446744073709551616:=by rw[←hy];exact AG hN.word _
 obtain⟨s1,hs1⟩:=Aq (s.setA (s.a.tick (1+(k:Int))))
 have hsl:s1.slots=s.slots:=by rw[←hs1];rfl
 rw[hy,hs1]
 have ew:IntKind.i64.wrap (1+(k:Int))=1+(k:Int):=by rw[IntKind.wrap_i64];omega
 have ew2:IntKind.i64.wrap ((k:Int)+1)=(k:Int)+1:=by rw[IntKind.wrap_i64];omega
 have HC:=Aa h.drew
 have M:Ah P w w.drew:=((Ac.refl w).drew).any P
 have fe:=he.onlyP M
 have fq:=hq.onlyP M
 have ce:=fe.c0
 have cq:=fq.c0
 have cA:=HC.out.ca
 have cN:=HC.out.cn
 (try rw[hsl]at cN)
 have cW:=HC.out.cl
 clear h
 by_cases hx:0<y
 ·skip
  rw[if_pos hx]
  by_cases hm:y<K.low
  ·skip
   rw[show min K.low y=y by omega]
   have bx:y>0:=by omega
   go_enter Tryz.func113,Tryz.ntmps113
   go_upto_region 1 with(fail)
   refine wp_region_held_drew (S:=(fun w'=>Ab w' e 0 (bp A.e)∧Ab w' q 0 (.int .i64 ((k:Int)))∧Ab w' A.e 2 (bp A.a))) (by kernel_rfl) ?_ (fun hHeld=>?_)
   ·exact⟨ce,cq,cA⟩
   refine Af 0 (h:=Af 1 (h:=Af 2 (h:=Af 3 (h:=Af 4 (h:=Af 5 (h:=Ar (i:=6) (h:=fun K hK=>?_)))))))
   go_simp
   (refine(Cf HC.out _).mono ?_;rw[hy,hs1];rintro e1 w1 ⟨rfl,h1,m1⟩;have HC:=Aa h1;have M:=M.trans m1;clear h1;have fe:=he.onlyP M;have fq:=hq.onlyP M;have ce:=fe.c0;have cq:=fq.c0;have cA:=HC.out.ca;have cN:=HC.out.cn;(try rw[hsl]at cN);have cW:=HC.out.cl)
   try go_wp2_with fail
   refine AK hK (by exact⟨ce,cq,cA⟩) (h:=fun hHeld=>?_);clear hK K
   refine Af 7 (h:=?_)
   refine wpAnyH_done (by kernel_rfl) ?_ _
   clear hHeld
   have zW:=HC.out.zf 26
   go_upto_region 3 with(fail)
   obtain⟨W2,hW2⟩:=Ad ((w1.setCell ⟨A.e,26,none⟩ (.int .u64 (y))).drew)
   have HK2:=HC.out.setK 26 (.int .u64 (y)) (K':={K with low:=y}) rfl
   have o2:Ah P w1 W2:=by rw[hW2];exact HK2.2.trans (((Ac.refl _).drew).any P)
   have HC2:Hid (SX B W2 P Q R A {K with low:=y} s1):=Aa (by rw[hW2];exact HK2.1.drew)
   clear HK2
   go_region
   go_upto_region 4 with(fail)
   rw[←hW2]
   clear hW2 cW zW cA cN
   have HC:=HC2
   have M:=M.trans o2
   have fe:=he.onlyP M
   have fq:=hq.onlyP M
   have ce:=fe.c0
   have cq:=fq.c0
   have cA:=HC.out.ca
   have cN:=HC.out.cn
   (try rw[hsl]at cN)
   have cW:=HC.out.cl
   have o9:=(Ac.refl (W2)).drew
   have HC:=Aa (HC.out.only0 o9)
   have M:=M.trans (o9.any P)
   have fe:=he.onlyP M
   have fq:=hq.onlyP M
   have ce:=fe.c0
   have cq:=fq.c0
   have cA:=HC.out.ca
   have cN:=HC.out.cn
   (try rw[hsl]at cN)
   have cW:=HC.out.cl
   clear o9
   go_upto_region 4 with(fail)
   refine Ao (S:=(fun w'=>Ab w' e 0 (bp A.e)∧Ab w' q 0 (.int .i64 ((k:Int))))) 8 (by kernel_rfl) ?_ (fun hHeld=>?_)
   ·exact⟨ce,cq⟩
   refine Av 0 [8] (h:=Av 1 [8] (h:=Av 2 [8] (h:=Av 3 [8] (h:=Bx (i:=4) (h:=fun K hK=>?_)))))
   go_simp
   (refine(G_ HC.out (k+1) _ (by omega) (by omega)).mono ?_;rintro e1 w1 ⟨v1,rfl,k1,o1⟩;obtain⟨F1,b1,c1,rfl⟩:=k1.func (F6 (k+1));have HC:=Aa (HC.out.only0 o1);have M:=M.trans (o1.any P);have HS:=Aa k1;clear k1;have cX:=HC.out.cx;have zX:=HC.out.zf 25;have fe:=he.onlyP M;have fq:=hq.onlyP M;have ce:=fe.c0;have cq:=fq.c0;have cA:=HC.out.ca;have cN:=HC.out.cn;(try rw[hsl]at cN);have cW:=HC.out.cl)
   try go_wp2_with fail
   refine D_ hK (by exact⟨ce,cq⟩) (h:=fun hHeld=>?_);clear hK K
   refine Av 5 [6,7,8] (h:=Av 6 [7,8] (h:=Av 7 [8] (h:=?_)))
   refine AI (by kernel_rfl) rfl (by kernel_rfl) (fun K hK=>?_)
   try simp only[List.getElem_toArray,List.getElem_cons_zero,List.getElem_cons_succ]
   go_simp
   skip
   try go_wp2_with fail
   refine hK.out _ _ ?_
   clear hK K
   try simp only[Act.put,List.getElem_toArray,List.getElem_cons_zero,List.getElem_cons_succ,List.setIfInBounds_toArray,List.set_cons_zero,List.set_cons_succ]
   clear hHeld
   have HK:=HC.out.setK 25 (.func F1 b1 c1) (K':={K with nx:=(.func F1 b1 c1),low:=y}) rfl
   have HF:=Aa (show Dj B w P Q R A K s1 (y) (DX (k+1)) false (.returned (.bool false)) _ from⟨(.func F1 b1 c1),rfl,HK.1,HS.out.onlyP HK.2,M.trans HK.2⟩)
   clear HK
   go_wp2_with fail
   go_ret
   exact HF.out
  ·skip
   rw[show min K.low y=K.low by omega]
   have bx:y>0:=by omega
   go_enter Tryz.func113,Tryz.ntmps113
   go_upto_region 1 with(fail)
   refine wp_region_held_drew (S:=(fun w'=>Ab w' e 0 (bp A.e)∧Ab w' q 0 (.int .i64 ((k:Int)))∧Ab w' A.e 2 (bp A.a))) (by kernel_rfl) ?_ (fun hHeld=>?_)
   ·exact⟨ce,cq,cA⟩
   refine Af 0 (h:=Af 1 (h:=Af 2 (h:=Af 3 (h:=Af 4 (h:=Af 5 (h:=Ar (i:=6) (h:=fun K hK=>?_)))))))
   go_simp
   (refine(Cf HC.out _).mono ?_;rw[hy,hs1];rintro e1 w1 ⟨rfl,h1,m1⟩;have HC:=Aa h1;have M:=M.trans m1;clear h1;have fe:=he.onlyP M;have fq:=hq.onlyP M;have ce:=fe.c0;have cq:=fq.c0;have cA:=HC.out.ca;have cN:=HC.out.cn;(try rw[hsl]at cN);have cW:=HC.out.cl)
   try go_wp2_with fail
   refine AK hK (by exact⟨ce,cq,cA⟩) (h:=fun hHeld=>?_);clear hK K
   refine Af 7 (h:=?_)
   refine wpAnyH_done (by kernel_rfl) ?_ _
   clear hHeld
   have zW:=HC.out.zf 26
   go_upto_region 3 with(fail)
   obtain⟨W2,hW2⟩:=Ad ((w1.setCell ⟨A.e,26,none⟩ (.int .u64 (K.low))).drew)
   have HK2:=HC.out.setK 26 (.int .u64 (K.low)) (K':={K with low:=K.low}) rfl
   have o2:Ah P w1 W2:=by rw[hW2];exact HK2.2.trans (((Ac.refl _).drew).any P)
   have HC2:Hid (SX B W2 P Q R A {K with low:=K.low} s1):=Aa (by rw[hW2];exact HK2.1.drew)
   clear HK2
   go_region
   go_upto_region 4 with(fail)
   rw[←hW2]
   clear hW2 cW zW cA cN
   have HC:=HC2
   have M:=M.trans o2
   have fe:=he.onlyP M
   have fq:=hq.onlyP M
   have ce:=fe.c0
   have cq:=fq.c0
   have cA:=HC.out.ca
   have cN:=HC.out.cn
   (try rw[hsl]at cN)
   have cW:=HC.out.cl
   have o9:=(Ac.refl (W2)).drew
   have HC:=Aa (HC.out.only0 o9)
   have M:=M.trans (o9.any P)
   have fe:=he.onlyP M
   have fq:=hq.onlyP M
   have ce:=fe.c0
   have cq:=fq.c0
   have cA:=HC.out.ca
   have cN:=HC.out.cn
   (try rw[hsl]at cN)
   have cW:=HC.out.cl
   clear o9
   go_upto_region 4 with(fail)
   refine Ao (S:=(fun w'=>Ab w' e 0 (bp A.e)∧Ab w' q 0 (.int .i64 ((k:Int))))) 8 (by kernel_rfl) ?_ (fun hHeld=>?_)
   ·exact⟨ce,cq⟩
   refine Av 0 [8] (h:=Av 1 [8] (h:=Av 2 [8] (h:=Av 3 [8] (h:=Bx (i:=4) (h:=fun K hK=>?_)))))
   go_simp
   (refine(G_ HC.out (k+1) _ (by omega) (by omega)).mono ?_;rintro e1 w1 ⟨v1,rfl,k1,o1⟩;obtain⟨F1,b1,c1,rfl⟩:=k1.func (F6 (k+1));have HC:=Aa (HC.out.only0 o1);have M:=M.trans (o1.any P);have HS:=Aa k1;clear k1;have cX:=HC.out.cx;have zX:=HC.out.zf 25;have fe:=he.onlyP M;have fq:=hq.onlyP M;have ce:=fe.c0;have cq:=fq.c0;have cA:=HC.out.ca;have cN:=HC.out.cn;(try rw[hsl]at cN);have cW:=HC.out.cl)
   try go_wp2_with fail
   refine D_ hK (by exact⟨ce,cq⟩) (h:=fun hHeld=>?_);clear hK K
   refine Av 5 [6,7,8] (h:=Av 6 [7,8] (h:=Av 7 [8] (h:=?_)))
   refine AI (by kernel_rfl) rfl (by kernel_rfl) (fun K hK=>?_)
   try simp only[List.getElem_toArray,List.getElem_cons_zero,List.getElem_cons_succ]
   go_simp
   skip
   try go_wp2_with fail
   refine hK.out _ _ ?_
   clear hK K
   try simp only[Act.put,List.getElem_toArray,List.getElem_cons_zero,List.getElem_cons_succ,List.setIfInBounds_toArray,List.set_cons_zero,List.set_cons_succ]
   clear hHeld
   have HK:=HC.out.setK 25 (.func F1 b1 c1) (K':={K with nx:=(.func F1 b1 c1),low:=K.low}) rfl
   exact SV
 ·skip
  rw[if_neg hx]
  have bx:¬y>0:=by omega
  go_enter Tryz.func113,Tryz.ntmps113
  go_upto_region 1 with(fail)
  refine wp_region_held_drew (S:=(fun w'=>Ab w' e 0 (bp A.e)∧Ab w' q 0 (.int .i64 ((k:Int)))∧Ab w' A.e 2 (bp A.a))) (by kernel_rfl) ?_ (fun hHeld=>?_)
  ·exact⟨ce,cq,cA⟩
  refine Af 0 (h:=Af 1 (h:=Af 2 (h:=Af 3 (h:=Af 4 (h:=Af 5 (h:=Ar (i:=6) (h:=fun K hK=>?_)))))))
  go_simp
  (refine(Cf HC.out _).mono ?_;rw[hy,hs1];rintro e1 w1 ⟨rfl,h1,m1⟩;have HC:=Aa h1;have M:=M.trans m1;clear h1;have fe:=he.onlyP M;have fq:=hq.onlyP M;have ce:=fe.c0;have cq:=fq.c0;have cA:=HC.out.ca;have cN:=HC.out.cn;(try rw[hsl]at cN);have cW:=HC.out.cl)
  try go_wp2_with fail
  refine AK hK (by exact⟨ce,cq,cA⟩) (h:=fun hHeld=>?_);clear hK K
  refine Af 7 (h:=?_)
  refine wpAnyH_done (by kernel_rfl) ?_ _
  clear hHeld
  go_upto_region 4 with(fail)
  have o9:=(Ac.refl (w1)).drew
  have HC:=Aa (HC.out.only0 o9)
  have M:=M.trans (o9.any P)
  have fe:=he.onlyP M
  have fq:=hq.onlyP M
  have ce:=fe.c0
  have cq:=fq.c0
  have cA:=HC.out.ca
  have cN:=HC.out.cn
  (try rw[hsl]at cN)
  have cW:=HC.out.cl
  clear o9
  go_upto_region 4 with(fail)
  refine Ao (S:=(fun w'=>Ab w' e 0 (bp A.e)∧Ab w' q 0 (.int .i64 ((k:Int))))) 8 (by kernel_rfl) ?_ (fun hHeld=>?_)
  ·exact⟨ce,cq⟩
  refine Av 0 [8] (h:=Av 1 [8] (h:=Av 2 [8] (h:=Av 3 [8] (h:=Bx (i:=4) (h:=fun K hK=>?_)))))
  go_simp
  (refine(G_ HC.out (k+1) _ (by omega) (by omega)).mono ?_;rintro e1 w1 ⟨v1,rfl,k1,o1⟩;obtain⟨F1,b1,c1,rfl⟩:=k1.func (F6 (k+1));have HC:=Aa (HC.out.only0 o1);have M:=M.trans (o1.any P);have HS:=Aa k1;clear k1;have cX:=HC.out.cx;have zX:=HC.out.zf 25;have fe:=he.onlyP M;have fq:=hq.onlyP M;have ce:=fe.c0;have cq:=fq.c0;have cA:=HC.out.ca;have cN:=HC.out.cn;(try rw[hsl]at cN);have cW:=HC.out.cl)
  try go_wp2_with fail
  refine D_ hK (by exact⟨ce,cq⟩) (h:=fun hHeld=>?_);clear hK K
  refine Av 5 [6,7,8] (h:=Av 6 [7,8] (h:=Av 7 [8] (h:=?_)))
  refine AI (by kernel_rfl) rfl (by kernel_rfl) (fun K hK=>?_)
  try simp only[List.getElem_toArray,List.getElem_cons_zero,List.getElem_cons_succ]
  go_simp
  skip
  try go_wp2_with fail
  refine hK.out _ _ ?_
  clear hK K
  try simp only[Act.put,List.getElem_toArray,List.getElem_cons_zero,List.getElem_cons_succ,List.setIfInBounds_toArray,List.set_cons_zero,List.set_cons_succ]
  clear hHeld
  have HK:=HC.out.setK 25 (.func F1 b1 c1) (K':={K with nx:=(.func F1 b1 c1)}) rfl
  exact SV
theorem RO{B N:Nat}{w:World}{P Q R:Nat→Prop}{A:EA}{K:EK}{s:Sh}(h:SX B w P Q R A K s)(hN:AW N s):
 Calls Tryz.prog 56 #[bp A.e] w (Dj B w P Q R A K (s.setA (s.a.tick 0)) (s.a.load 0/65536) (DX 0) false):=by
 obtain⟨y,hy⟩:=Aq (s.a.load (0))
 obtain⟨y0,y1⟩:0≤y∧y<18446744073709551616:=by rw[←hy];exact AG hN.word _
 obtain⟨s1,hs1⟩:=Aq (s.setA (s.a.tick (0)))
 have hsl:s1.slots=s.slots:=by rw[←hs1];rfl
 rw[hy,hs1]
 have CD:=EO y
 have HC:=Aa h
 have M:Ah P w w:=Ah.refl _ _
 have cA:=HC.out.ca
 have cW:=HC.out.cl
 clear h
 go_enter Tryz.func56,Tryz.ntmps56
 go_wp2_with fail
 refine(Cf HC.out 0).mono ?_
 rw[hy,hs1]
 rintro e1 w1 ⟨rfl,h1,m1⟩
 have HC:=Aa h1
 have M:=M.trans m1
 clear h1 m1
 have cA:=HC.out.ca
 have cW:=HC.out.cl
 have zW:=HC.out.zf 26
 go_wp2_with fail
 refine(CD w1 y0 y1).mono ?_
 rintro e1 w1 ⟨rfl,rfl⟩
 clear CD
 obtain⟨W2,hW2⟩:=Ad (w1.setCell ⟨A.e,26,none⟩ (.int .u64 (y/65536)))
 have HK2:=HC.out.setK 26 (.int .u64 (y/65536)) (K':={K with low:=y/65536}) rfl
 have o2:Ah P w1 W2:=by rw[hW2];exact HK2.2
 have HC2:Hid (SX B W2 P Q R A {K with low:=y/65536} s1):=Aa (by rw[hW2];exact HK2.1)
 clear HK2
 go_upto_region 2 with(fail)
 rw[←hW2]
 clear hW2 cW zW
 have HC:=HC2
 have M:=M.trans o2
 go_wp2_with fail
 refine(G_ HC.out 0 0 rfl (by omega)).mono ?_
 rintro e1 w1 ⟨v1,rfl,k1,o1⟩
 obtain⟨F1,b1,c1,rfl⟩:=k1.func (F6 0)
 have HC:=Aa (HC.out.only0 o1)
 have M:=M.trans (o1.any P)
 have HS:=Aa k1
 clear k1
 have cX:=HC.out.cx
 have zX:=HC.out.zf 25
 have HK:=HC.out.setK 25 (.func F1 b1 c1) (K':={K with nx:=(.func F1 b1 c1),low:=y/65536}) rfl
 have HF:=Aa (show Dj B w P Q R A K s1 (y/65536) (DX 0) false (.returned (.bool false)) _ from⟨(.func F1 b1 c1),rfl,HK.1,HS.out.onlyP HK.2,M.trans HK.2⟩)
 clear HK
 go_wp2_with fail
 go_ret
 exact HF.out
end
section
theorem FD{P:Program}(w:World)(t ty e:TypeId)(i:TypeInfo)(ht:P.underlying t=some (.slice e))(hi:P.info? e=some i)
 (g off sLen sCap:Nat) (cur:Array Value) (hg:w.heap[g]? =some (.cells cur e (0,0)))
 (a:Addr) (m c:Nat) (news:List Value) (hl:news.length=m*i.size) (hnews:∀j u,news[j]? =some u→w.cell? (a.add j)=some u) (h1:∀u∈news,u.oneCell'=true)
 (hroom:sLen+m≤sCap) (hfit:off+sLen*i.size+news.length≤cur.size):
 (Builtin.append_ #[t,t] ty #[.slice (some ⟨g,off,none⟩) sLen sCap,.slice (some a) m c]).run P w=
  .ok (.slice (some ⟨g,off,none⟩) (sLen+m) sCap) (w.setRow g (cur.toList.take (off+sLen*i.size)++news++cur.toList.drop (off+sLen*i.size+news.length)).toArray):=by
 have hf:=run_firstCells_some (P:=P) w i.size m a m c news hl hnews
 have hst:=run_storeCells_at P g (off+sLen*i.size) e news 0 cur w hg (by simpa using hfit) h1
 simp only[Nat.add_zero]at hst
 simp[Builtin.append_,run_underlying ht,sizeOf,typeInfo,hi,Builtin.lenOf,hroom,hf,Addr.add_lit,hst]
theorem Le:(Tryz.prog.info? 202).map (fun i=>(i.zero,i.size,i.bytes))=some (some (.agg #[.int .u64 0,.int .i64 0]),2,16):=by kernel_rfl
def I_(L:List (Int×Int)):List Value:=DI (fun i=>[.int .u64 (L.getD i (0,0)).1,.int .i64 (L.getD i (0,0)).2]) L.length
theorem Ed(L:List (Int×Int)):(I_ L).length=L.length*2:=BF (w:=2) (c:=fun i=>[.int .u64 (L.getD i (0,0)).1,.int .i64 (L.getD i (0,0)).2]) (fun i=>rfl) _
theorem JF(L:List (Int×Int)){i:Nat}(hi:i<L.length):(I_ L)[i*2]? =some (.int .u64 (L.getD i (0,0)).1)∧(I_ L)[i*2+1]? =some (.int .i64 (L.getD i (0,0)).2):=by
 have h:=Bu (w:=2) (c:=fun i=>[.int .u64 (L.getD i (0,0)).1,.int .i64 (L.getD i (0,0)).2]) (fun i=>rfl) L.length i
 exact⟨h 0 hi (by decide),h 1 hi (by decide)⟩
theorem GL{L:List (Int×Int)}{p:Int×Int}{i:Nat}(hi:i<L.length):(L++[p]).getD i (0,0)=L.getD i (0,0):=by
 rw[List.getD_eq_getElem?_getD,List.getElem?_append_left hi,←List.getD_eq_getElem?_getD]
theorem Gw{L:List (Int×Int)}{p:Int×Int}:(L++[p]).getD L.length (0,0)=p:=by
 rw[List.getD_eq_getElem?_getD];simp
theorem I8{α:Type}(a x z:List α){j:Nat}(h:j<a.length):(a++x++z)[j]? =a[j]? :=by
 rw[List.append_assoc,List.getElem?_append_left h]
theorem Js{α:Type}(a x z:List α){j n:Nat}(hn:n=a.length+j)(h:j<x.length):(a++x++z)[n]? =x[j]? :=by
 subst hn
 rw[List.append_assoc,List.getElem?_append_right (by omega),Nat.add_sub_cancel_left,List.getElem?_append_left h]
theorem Ck.made{B:Nat}{w:World}{Q:Nat→Prop}{L:List (Int×Int)}{zs:Array Value}(l q:Int){cap:Nat}(hc:L.length+1≤cap)(hm:cap≤maxLen)(hB:B≤w.heap.size)(hQ:Q w.heap.size){cur:Array Value}(hcur:cur.toList=I_ L++[.int .u64 l,.int .i64 q]++zs.toList)(hs:cur.size=cap*2):
 Ck B (w.alloc (.cells cur 202)) Q (some ⟨w.heap.size,0,none⟩) cap (L++[(l,q)]):=by
 refine .inr ⟨w.heap.size,0,cur,by simp,Am.new _ _ _,hB,hQ,by rw[List.length_append,List.length_singleton];exact hc,hm,by omega,fun i hi=>?_⟩
 rw[List.length_append,List.length_singleton]at hi
 have e:∀j,cur[j]? =(I_ L++[.int .u64 l,.int .i64 q]++zs.toList)[j]? :=fun j=>by rw[←hcur,Array.getElem?_toList]
 rw[Nat.zero_add,e,e]
 by_cases h:i<L.length
 ·obtain⟨g1,g2⟩:=JF L h
  rw[GL h,I8 _ _ _ (by rw[Ed];omega),I8 _ _ _ (by rw[Ed];omega)]
  exact⟨g1,g2⟩
 ·obtain rfl:i=L.length:=by omega
  rw[Gw,Js (j:=0) _ _ _ (by rw[Ed];rfl) (by simp),Js (j:=1) _ _ _ (by rw[Ed]) (by simp)]
  exact⟨rfl,rfl⟩
theorem Gq{B:Nat}{w:World}{Q:Nat→Prop}{la:Option Addr}{lc:Nat}{L:List (Int×Int)}(h:Ck B w Q la lc L)(n:Nat)(l q:Int)(h0:w.cell? ⟨n,0,none⟩=some (.int .u64 l))(h1:w.cell? ⟨n,1,none⟩=some (.int .i64 q))
 (hL:L.length≤100000000) (hB:B≤w.heap.size) (ty:TypeId):
 ∃la' lc' w',(Builtin.append_ #[103,103] ty #[.slice la L.length lc,.slice (some ⟨n,0,none⟩) 1 1]).run Tryz.prog w= .ok (.slice la' (L.length+1) lc') w'∧
  (∀Q':Nat→Prop,(∀b,AL la' b→Q' b)→Ck B w' Q' la' lc' (L++[(l,q)]))∧Ah (AL la) w w'∧(∀b,AL la' b→(AL la b∨w.heap.size≤b)∧b<w'.heap.size):=by
 obtain⟨i,hi,hz0,hz1,hz2⟩:=info_parts Le
 have ht:Tryz.prog.underlying 103=some (.slice 202):=Tryz.underlying103
 have hnews:∀j u,([.int .u64 l,.int .i64 q]:List Value)[j]? =some u→w.cell? ((⟨n,0,none⟩:Addr).add j)=some u:=fun j u hu=>by
  rw[Addr.add_lit,Nat.zero_add]
  match j with
  |0=>simp at hu;subst hu;exact h0
  |1=>simp at hu;subst hu;exact h1
  |j+2=>simp at hu
 have hone:∀u∈([.int .u64 l,.int .i64 q]:List Value),u.oneCell'=true:=fun u hu=>by simp at hu;rcases hu with rfl|rfl<;>rfl
 have hzs:(Value.agg #[.int .u64 0,.int .i64 0]).cells.size=2:=rfl
 have only:∀(cs:Array Value),Ah (AL la) w (w.drew.alloc (.cells cs 202)):=fun cs=>(((Ac.refl w).drew).alloc _).any _
 have made:∀old,old<L.length+1→∀cs:Array Value,cs.toList=I_ L++[.int .u64 l,.int .i64 q]++(Builtin.zeroCells (Value.agg #[.int .u64 0,.int .i64 0]).cells (grownCap w (L.length+1) old 202-(L.length+1))).toList→
  (∀Q':Nat→Prop,(∀b,AL (some ⟨w.heap.size,0,none⟩) b→Q' b)→Ck B (w.drew.alloc (.cells cs 202)) Q' (some ⟨w.heap.size,0,none⟩) (grownCap w (L.length+1) old 202) (L++[(l,q)]))∧
  (∀b,AL (some ⟨w.heap.size,0,none⟩) b→(AL la b∨w.heap.size≤b)∧b<(w.drew.alloc (.cells cs 202)).heap.size):=fun old ho cs hcs=>by
  have hge:=grownCap_ge w (L.length+1) old 202
  have hcm:grownCap w (L.length+1) old 202≤maxLen:=grownCap_le_maxLen w (L.length+1) old 202 (by unfold maxLen;omega)
  refine⟨fun Q' hQ=>?_,fun b ⟨a,e1,e2⟩=>?_⟩
  ·have hsz:cs.size=grownCap w (L.length+1) old 202*2:=by
    rw[←Array.length_toList,hcs]
    simp only[List.length_append,Ed,Array.length_toList,size_zeroCells,hzs,List.length_cons,List.length_nil]
    omega
   exact Ck.made (w:=w.drew) l q hge hcm hB (hQ _ ⟨_,rfl,rfl⟩) hcs hsz
  ·cases e1;subst e2
   exact⟨.inr (Nat.le_refl _),by simp⟩
 rcases h with⟨rfl,rfl,rfl⟩|⟨g,off,cur,rfl,hg,hgB,hgQ,hlen,hm,hcs,hc⟩
 ·have hr:=run_append_nil (P:=Tryz.prog) w 103 ty 202 i _ ht hi hz0 ⟨n,0,none⟩ 1 1 [.int .u64 l,.int .i64 q] (by rw[hz1];rfl) hnews (by omega) (by omega) (by rw[hz2];omega)
  obtain⟨m1,m2⟩:=made 0 (by omega) _ (by rw[Array.toList_append])
  exact⟨_,_,_,hr,m1,only _,m2⟩
 ·by_cases hroom:L.length+1≤lc
  ·have hfit:off*2+L.length*i.size+2≤cur.size:=by rw[hz1];omega
   have hr:=FD (P:=Tryz.prog) w 103 ty 202 i ht hi g (off*2) L.length lc cur hg ⟨n,0,none⟩ 1 1 [.int .u64 l,.int .i64 q] (by rw[hz1];rfl) hnews hone hroom hfit
   rw[hz1,show([Value.int .u64 l,.int .i64 q]:List Value).length=2 from rfl]at hr
   have hgw:=setRow_heap w g cur (cur.toList.take (off*2+L.length*2)++[Value.int .u64 l,.int .i64 q]++cur.toList.drop (off*2+L.length*2+2)).toArray 202 (0,0) hg
   have hszw:(w.setRow g (cur.toList.take (off*2+L.length*2)++[Value.int .u64 l,.int .i64 q]++cur.toList.drop (off*2+L.length*2+2)).toArray).heap.size=w.heap.size:=by simp[World.setRow]
   refine⟨_,_,_,hr,fun Q' hQ=> .inr ⟨g,off,_,rfl,hgw,hgB,hQ g ⟨_,rfl,rfl⟩,by rw[List.length_append,List.length_singleton];exact hroom,hm,?_,fun j hj=>?_⟩,⟨rfl,rfl,rfl,by rw[hszw];exact Nat.le_refl _,fun k _ hn=>setRow_other w g k _ (fun e=>hn ⟨_,rfl,e.symm⟩)⟩,fun b ⟨a,e1,e2⟩=>?_⟩
   ·simp only[List.size_toArray,List.length_append,List.length_take,List.length_drop,Array.length_toList,List.length_cons,List.length_nil]
    omega
   ·rw[List.length_append,List.length_singleton]at hj
    have tl:(cur.toList.take (off*2+L.length*2)).length=off*2+L.length*2:=by have:cur.toList.length=cur.size:=Array.length_toList;rw[List.length_take];omega
    simp only[List.getElem?_toArray]
    by_cases hj2:j<L.length
    ·rw[GL hj2,I8 _ _ _ (by rw[tl];omega),I8 _ _ _ (by rw[tl];omega),List.getElem?_take,List.getElem?_take,if_pos (by omega),if_pos (by omega)]
     simpa using hc j hj2
    ·obtain rfl:j=L.length:=by omega
     rw[Gw,Js (j:=0) _ _ _ (by rw[tl];omega) (by simp),Js (j:=1) _ _ _ (by rw[tl];omega) (by simp)]
     exact⟨rfl,rfl⟩
   ·cases e1;subst e2
    exact⟨.inl ⟨_,rfl,rfl⟩,by rw[hszw];exact lt_of_block hg⟩
  ·have holds:∀j v,(I_ L)[j]? =some v→w.cell? ((⟨g,off*2,none⟩:Addr).add j)=some v:=fun j v hv=>by
    have hj:j<L.length*2:=by
     have:=(List.getElem?_eq_some_iff.1 hv).1
     rw[Ed]at this;exact this
    rw[Addr.add_lit,cell_of_row w g _ cur _ _ hg]
    obtain⟨g1,g2⟩:=JF L (show j/2<L.length by omega)
    obtain⟨c1,c2⟩:=hc (j/2) (by omega)
    rcases Nat.mod_two_eq_zero_or_one j with e|e
    ·rw[show j=j/2*2 by omega,g1]at hv
     rw[show off*2+j=(off+j/2)*2 by omega,c1];exact hv
    ·rw[show j=j/2*2+1 by omega,g2]at hv
     rw[show off*2+j=(off+j/2)*2+1 by omega,c2];exact hv
   have hr:=run_append_grow (P:=Tryz.prog) w 103 ty 202 i _ ht hi hz0 ⟨g,off*2,none⟩ L.length lc (I_ L) (by rw[Ed,hz1]) holds ⟨n,0,none⟩ 1 1 [.int .u64 l,.int .i64 q] (by rw[hz1];rfl) hnews (by omega) (by omega) (by rw[hz2];exact growslice_fits (by omega) (by omega))
   obtain⟨m1,m2⟩:=made lc (by omega) ((I_ L).toArray++[Value.int .u64 l,.int .i64 q].toArray++Builtin.zeroCells (Value.agg #[.int .u64 0,.int .i64 0]).cells (grownCap w (L.length+1) lc 202-(L.length+1))) (by simp)
   exact⟨_,_,_,hr,m1,only _,m2⟩
theorem C_{B:Nat}{w:World}{o:Oper}{a:Act}{K:Act→World→Prop}{Q:Exit→Act→World→Prop}(s x:Operand)
 (ho:o.op= .call {callee:= .builtin .append,args:=#[s,x],argTypes:=#[103,103]})
 {QQ:Nat→Prop} {la:Option Addr} {lc:Nat} {L:List (Int×Int)} (h:Ck B w QQ la lc L) (m:Nat) (hm:m=L.length) (hs:a.eval s= .slice la m lc) (n:Nat) (l q:Int) (hx:a.eval x= .slice (some ⟨n,0,none⟩) 1 1) (h0:w.cell? ⟨n,0,none⟩=some (.int .u64 l)) (h1:w.cell? ⟨n,1,none⟩=some (.int .i64 q))
 (hL:m≤100000000) (hB:B≤w.heap.size)
 (hk:∀la' lc' w',(∀Q':Nat→Prop,(∀b,AL la' b→Q' b)→Ck B w' Q' la' lc' (L++[(l,q)]))→Ah (AL la) w w'→(∀b,AL la' b→(AL la b∨w.heap.size≤b)∧b<w'.heap.size)→K (a.put o.dst (.slice la' (m+1) lc')) w'):o.wp Tryz.prog a w K Q:=by
 subst hm
 obtain⟨la',lc',w',hr,h2,h3,h4⟩:=Gq h n l q h0 h1 hL hB o.type
 unfold Oper.wp execOp
 simp only[ho,resolve,invoke,builtin,Sem.run_bind,Sem.run_pure,Result.andThen_ok,List.map_toArray,List.map_cons,List.map_nil,hs,hx,hr]
 exact hk la' lc' w' h2 h3 h4
end
section
attribute [local go_sem ↓] Go.wp_at_zero Go.wp_at_succ
def Gx(B:Nat)(w:World)(P Q R:Nat→Prop)(A:EA)(K:EK)(la:Option Addr)(s':Sh)(k:Sw)(L':List (Int×Int))(r:Ending)(w':World):Prop:=
 ∃v Q' la' lc',r= .returned (.bool true)∧SX B w' P Q' R A {K with nx:=v,cs:= .slice la' L'.length lc'} s'∧FL w' P Q' R A k v∧Ck B w' Q' la' lc' L'∧Ah (fun b=>P b∨AL la b) w w'∧
  (∀b,Q b→Q' b)∧(∀b,Q' b→Q b∨(AL la' b∧w.heap.size≤b))∧(∀b,AL la' b→AL la b∨w.heap.size≤b)
section
variable {B:Nat} {w w' w1:World} {P Q R:Nat→Prop} {A:EA} {K:EK} {s:Sh} {la la':Option Addr} {lc lc':Nat} {L:List (Int×Int)}
theorem Ck.q(h:Ck B w Q la lc L){b:Nat}(hb:AL la b):Q b:=by
 obtain⟨a,h1,h2⟩:=hb
 rcases h with⟨q,_⟩|⟨g,off,cur,q1,q2,q3,q4,_⟩
 ·rw[q]at h1;cases h1
 ·rw[q1]at h1;cases h1;rw[←h2];exact q4
theorem SX.limApp(h:SX B w P Q R A K s)(hPQ:AR P Q)(hq:∀b,AL la b→Q b)(o:Ah (AL la) w w1)(hb:∀b,AL la' b→(AL la b∨w.heap.size≤b)∧b<w1.heap.size){L':List (Int×Int)}(hA:∀Q':Nat→Prop,(∀b,AL la' b→Q' b)→Ck B w1 Q' la' lc' L')(v:Value):
 SX B (w1.setCell ⟨A.e,27,none⟩ v) P (fun b=>Q b∨AL la' b) R A {K with cs:=v} s∧Ck B (w1.setCell ⟨A.e,27,none⟩ v) (fun b=>Q b∨AL la' b) la' lc' L'∧Ag w (w1.setCell ⟨A.e,27,none⟩ v) P Q P (fun b=>Q b∨AL la' b)∧Ah (fun b=>P b∨AL la b) w (w1.setCell ⟨A.e,27,none⟩ v):=by
 have hPL:AR P (AL la):=fun b hp hl=>hPQ b hp (hq b hl)
 have ex1:=h.ex.far o hPL (fun b hl=> .inl (hq b hl))
 obtain⟨K2,O2,_⟩:=ex1.setK 27 v (K':={K with cs:=v}) rfl
 have oT:Ah (fun b=>P b∨AL la b) w (w1.setCell ⟨A.e,27,none⟩ v):=(o.mono (fun b _ hl=> .inr hl)).trans (O2.mono (fun b _ hp=> .inl hp))
 have gq:AC w.heap.size Q (fun b=>Q b∨AL la' b):=fun b hb'=>hb'.elim .inl (fun hl=>(hb b hl).1.imp (hq b) (fun z=>z))
 have m:Ag w (w1.setCell ⟨A.e,27,none⟩ v) P Q P (fun b=>Q b∨AL la' b):=⟨oT.mono (fun b _ hb'=>hb'.imp (fun z=>z) (hq b)),AC.refl _ _,gq⟩
 have one:Ah (fun b=>b=A.e) w1 (w1.setCell ⟨A.e,27,none⟩ v):=Ah.setCell (S:=fun b=>b=A.e) (Ah.refl _ w1) (fun _=>rfl) _
 refine⟨⟨⟨K2.sh,K2.uP,K2.aP,fun i hi=>(h.ex.prs i hi).move m⟩,fun b hb'=>?_,h.uR.mono oT.size⟩,(hA _ (fun b hl=> .inr hl)).far one (fun b hb' e=>?_),m,oT⟩
 ·rcases hb' with y|y
  ·exact Nat.lt_of_lt_of_le (h.uQ b y) oT.size
  ·exact Nat.lt_of_lt_of_le (hb b y).2 one.size
 ·subst e
  have hp:=h.ex.sh.pe
  rcases hb' with y|y
  ·exact hPQ _ hp y
  ·rcases(hb _ y).1 with z|z
   ·exact hPL _ hp z
   ·have:=h.ex.uP _ hp;omega
end
theorem QH{B N:Nat}{w:World}{P Q R:Nat→Prop}{A:EA}{K:EK}{s:Sh}(h:SX B w P Q R A K s)(hN:AW N s){la:Option Addr}{lc:Nat}{L:List (Int×Int)}(hL:Ck B w Q la lc L)(hK:K.cs= .slice la L.length lc)(hPQ:AR P Q)(hlen:L.length≤100000000){k:Nat}(hk:k<64){a l n:Int}(ha:a≠0)(a0:0≤a){j e d q x:Nat}(hj:An w P Q R j 31 #[.int .u64 (a)])(he:An w P Q R e 39 #[bp A.e])(hd:An w P Q R d 31 #[.int .u64 (n)])(hq:An w P Q R q 3 #[.int .i64 ((k:Int))])(hx:An w P Q R x 31 #[.int .u64 (l)]):
 Calls Tryz.prog 240 #[bp j,bp e,bp d,bp q,bp x] w (Gx B w P Q R A K la (s.setA (s.a.store (Al a 2) n)) (A4 k a n) (L++[(l,K.seq)])):=by
 have h0:=h.ex.uP
 obtain⟨s1,hs1⟩:=Aq (s.setA (s.a.store (Al a 2) n))
 rw[hs1]
 have hsl:s1.slots=s.slots:=by rw[←hs1];rfl
 obtain⟨len,hln⟩:=Ad L.length
 obtain⟨sq,hsq⟩:=Ad K.seq
 have hlen9:len≤100000000:=by rw[hln];exact hlen
 have HK:=Aa (show K.cs= .slice la len lc by rw[hK,hln])
 have HLN:=Aa (And.intro hln hsq)
 have HL:=Aa hL
 have HPQ:=Aa hPQ
 have hB9:=h.ex.hB
 have HC:=Aa h.drew
 have M:Ah P w w.drew:=((Ac.refl w).drew).any P
 have fj:=hj.onlyP M
 have fe:=he.onlyP M
 have fd:=hd.onlyP M
 have fq:=hq.onlyP M
 have fx:=hx.onlyP M
 have cj:=fj.c0
 have ce:=fe.c0
 have cd:=fd.c0
 have cq:=fq.c0
 have cx:=fx.c0
 have cA:=HC.out.ca
 have cN:=HC.out.cn
 (try rw[hsl]at cN)
 have cW:=HC.out.cl
 clear h
 have cj0:=hj.c0
 clear hK hln hsq hL hPQ hlen
 have ba:(a==0)=false:=by simpa using ha
 have ba2:(a != 0)=true:=by simpa using ha
 clear ha
 have HUP:=Aa h0
 by_cases hx9:n=0∧k=63
 ·skip
  have HR:=Aa (show A4 k a n= .idle by unfold A4 Cq;rw[if_pos hx9.1,if_pos (by omega)])
  clear hx9
  go_enter Tryz.func240,Tryz.ntmps240
  go_upto_region 2 with(fail)
  refine wp_region_held_drew (S:=(fun w'=>Ab w' e 0 (bp A.e)∧Ab w' j 0 (.int .u64 (a))∧Ab w' d 0 (.int .u64 (n))∧Ab w' A.e 2 (bp A.a))) (by kernel_rfl) ?_ (fun hHeld=>?_)
  ·exact⟨ce,cj,cd,cA⟩
  refine Af 0 (h:=Af 1 (h:=Af 2 (h:=Af 3 (h:=Af 4 (h:=Af 6 (h:=Ar (i:=5) (h:=fun K hK=>?_)))))))
  go_simp
  (refine(Bb a 2 _ a0 (by omega) (by omega)).mono ?_;rintro e1 w1 ⟨rfl,rfl⟩)
  try go_wp2_with fail
  refine AK hK (by exact⟨ce,cj,cd,cA⟩) (h:=fun hHeld=>?_);clear hK K
  refine Ar (i:=7) (h:=fun K hK=>?_)
  try simp only[List.getElem_toArray,List.getElem_cons_zero,List.getElem_cons_succ]
  go_simp
  (refine(JW HC.out _ _).mono ?_;rw[hs1];rintro e1 w1 ⟨rfl,h1,m1⟩;have HC:=Aa h1;have M:=M.trans m1;clear h1;have fj:=hj.onlyP M;have fe:=he.onlyP M;have fd:=hd.onlyP M;have fq:=hq.onlyP M;have fx:=hx.onlyP M;have cj:=fj.c0;have ce:=fe.c0;have cd:=fd.c0;have cq:=fq.c0;have cx:=fx.c0;have cA:=HC.out.ca;have cN:=HC.out.cn;(try rw[hsl]at cN);have cW:=HC.out.cl)
  try go_wp2_with fail
  refine AK hK (by exact⟨ce,cj,cd,cA⟩) (h:=fun hHeld=>?_);clear hK K
  refine wpAnyH_done (by kernel_rfl) ?_ _
  clear hHeld
  have HLw:=Aa (HL.out.far M (fun b hb hp=>HPQ.out b hp hb))
  have se:=ce
  have sx:=cx
  have sc:=HC.out.cc
  rw[HK.out]at sc
  have sv:=HC.out.cq
  rw[←HLN.out.2]at sv
  obtain⟨W6,hW6⟩:=Ad ((w1.alloc (.cells #[.int .u64 l,sq] 202)).drew)
  have oo6:Ac w1 W6:=by rw[hW6];exact((Ac.refl _).alloc _).drew
  have HC6:=Aa (HC.out.only0 oo6)
  have L6:=HLw.out.far (oo6.any P) (fun b hb hp=>HPQ.out b hp hb)
  have b60:=Ae W6 w1.heap.size 0 (.int .u64 l) (by rw[hW6];exact(Am.new w1 _ _).cell 0)
  have b61:=Ae W6 w1.heap.size 1 (.int .i64 sq) (by rw[hW6];exact(Am.new w1 _ _).cell 1)
  have hB6:B≤W6.heap.size:=Nat.le_trans (Nat.le_trans hB9 M.size) oo6.size
  have ue:=Ai oo6 se
  have ux:=Ai oo6 sx
  have uc:=Ai oo6 sc
  have uv:=Ai oo6 sv
  have nE:¬AL la A.e:=fun hb=>HPQ.out _ HC.out.ex.sh.pe (HLw.out.q hb)
  have ne:¬AL la e:=fun hb=>he.2.2.1 (HLw.out.q hb)
  have nx:¬AL la x:=fun hb=>hx.2.2.1 (HLw.out.q hb)
  have fz6:W6.frozen? ⟨A.e,27,none⟩=false:=HC6.out.zf 27
  have LA:=L6
  have HAPP:=Aa (fun(la2:Option Addr) (lc2:Nat) (w2:World) (hA2:∀Q':Nat→Prop,(∀b,AL la2 b→Q' b)→Ck B w2 Q' la2 lc2 (L++[(l,sq)])) (hO2:Ah (AL la) W6 w2) (hB2:∀b,AL la2 b→(AL la b∨W6.heap.size≤b)∧b<w2.heap.size)=>HC6.out.limApp HPQ.out (fun b hb=>L6.q hb) hO2 hB2 hA2 (.slice la2 (len+1) lc2))
  have HM6:=Aa (M.trans (oo6.any P))
  rw[hW6]at LA b60 b61 hB6 fz6 HAPP ue ux uc uv HM6
  clear hW6 oo6 HC6 L6 ce cx cj cd cq cA cN cW fe fx fj fd fq
  go_upto_region 6 with(fail)
  refine Ao (S:=(fun w'=>Ab w' e 0 (bp A.e)∧Ab w' x 0 (.int .u64 l)∧Ab w' A.e 27 (.slice la len lc)∧Ab w' A.e 22 (.int .i64 sq))) 17 (by kernel_rfl) ?_ (fun hHeld=>?_)
  ·exact U0
  refine Av 0 [17] (h:=Av 1 [17] (h:=Av 2 [17] (h:=Av 3 [17] (h:=Av 4 [17] (h:=Av 5 [17] (h:=Av 6 [17] (h:=Av 7 [17] (h:=Av 8 [17] (h:=Av 9 [17] (h:=Av 10 [17] (h:=Av 11 [17] (h:=Bx (i:=12) (h:=fun K hK=>?_)))))))))))))
  go_simp
  skip
  try go_wp2_with fail
  refine D_ hK (by first|exact⟨se,sx,sc,sv⟩|exact⟨ue,ux,uc,uv⟩|exact⟨ze,zx,zc,zv⟩) (h:=fun hHeld=>?_);clear hK K
  refine Bx (i:=13) (h:=fun K hK=>?_)
  try simp only[List.getElem_toArray,List.getElem_cons_zero,List.getElem_cons_succ]
  (rw[if_pos (by simp[Region.wanted])];refine C_ _ _ (by rfl) LA len HLN.out.1 (by rfl) w1.heap.size l sq (by rfl) b60 b61 hlen9 hB6 ?_;intro la2 lc2 w2 hA2 hO2 hB2;have ze:=AH hO2 ue ne;have zx:=AH hO2 ux nx;have zc:=AH hO2 uc nE;have zv:=AH hO2 uv nE;have fz2:w2.frozen? ⟨A.e,27,none⟩=false:=(World.frozen?_of_block (hO2.block _ (block_lt_of_cell uc) nE)).trans fz6)
  refine D_ hK (by first|exact⟨se,sx,sc,sv⟩|exact⟨ue,ux,uc,uv⟩|exact⟨ze,zx,zc,zv⟩) (h:=fun hHeld=>?_);clear hK K
  refine Av 14 [15,16,17] (h:=Av 15 [16,17] (h:=Av 16 [17] (h:=?_)))
  refine AI (by kernel_rfl) rfl (by kernel_rfl) (fun K hK=>?_)
  try simp only[List.getElem_toArray,List.getElem_cons_zero,List.getElem_cons_succ]
  go_simp
  skip
  try go_wp2_with fail
  refine hK.out _ _ ?_
  clear hK K
  try simp only[Act.put,List.getElem_toArray,List.getElem_cons_zero,List.getElem_cons_succ,List.setIfInBounds_toArray,List.set_cons_zero,List.set_cons_succ]
  obtain⟨h9,l9,m9,o9⟩:=HAPP.out la2 lc2 w2 hA2 hO2 hB2
  obtain⟨W9,hW9⟩:=Ad (w2.setCell ⟨A.e,27,none⟩ (.slice la2 (len+1) lc2))
  rw[←hW9]at h9 l9 m9 o9 ⊢
  have HB2:=Aa hB2
  obtain⟨Q9,hQ9⟩:∃Q9:Nat→Prop,Q9=fun b=>Q b∨AL la2 b:=⟨_,rfl⟩
  rw[←hQ9]at h9 l9 m9
  have oM:=HM6.out
  have O9:Ah (fun b=>P b∨AL la b) w W9:=(oM.mono (fun b _ hb=> .inl hb)).trans o9
  have MM:Ag w W9 P Q P Q9:=Ag.trans ⟨oM.mono (fun b _ hb=> .inl hb),AC.refl _ _,AC.refl _ _⟩ m9
  have HL9:=Aa l9
  have HO9:=Aa O9
  have HQ9:=Aa (And.intro hQ9 oM.size)
  have fj:=hj.move MM
  have fe:=he.move MM
  have fd:=hd.move MM
  have fq:=hq.move MM
  have fx:=hx.move MM
  clear hW9 hB2 hA2 hO2 HAPP o9 m9 MM LA l9 O9 hQ9 oM HM6 b60 b61 fz6 fz2 nE ne nx se sx sc sv ue ux uc uv ze zx zc zv hB6 HLw
  have HC:=Aa h9.drew
  have M:=((Ac.refl W9).drew).any P
  have fj:=fj.onlyP M
  have cj:=fj.c0
  have fe:=fe.onlyP M
  have ce:=fe.c0
  have fd:=fd.onlyP M
  have cd:=fd.c0
  have fq:=fq.onlyP M
  have cq:=fq.c0
  have fx:=fx.onlyP M
  have cx:=fx.c0
  have HL9:=Aa (HL9.out.far (((Ac.refl W9).drew).any (fun _=>False)) (fun _ _ hf=>hf))
  have HO9:=Aa (HO9.out.trans (((Ac.refl W9).drew).any _))
  clear h9
  go_upto_region 7 with(fail)
  refine Ao (S:=(fun w'=>Ab w' e 0 (bp A.e)∧Ab w' q 0 (.int .i64 ((k:Int)))∧Ab w' j 0 (.int .u64 (a))∧Ab w' d 0 (.int .u64 (n)))) 9 (by kernel_rfl) ?_ (fun hHeld=>?_)
  ·exact⟨ce,cq,cj,cd⟩
  refine Av 0 [9] (h:=Av 1 [9] (h:=Av 2 [9] (h:=Av 3 [9] (h:=Av 4 [9] (h:=Bx (i:=5) (h:=fun K hK=>?_))))))
  go_simp
  (refine(DF HC.out k _ rfl hk a n).mono ?_;rintro e1 w3 ⟨v1,rfl,k1,o1⟩;rw[HR.out]at k1;obtain rfl:=k1.nil;have HC:=Aa (HC.out.only0 o1);have HS:=Aa k1;have HL9:=Aa (HL9.out.far (o1.any (fun _=>False)) (fun _ _ hf=>hf));have HO9:=Aa (HO9.out.trans (o1.any _));have cX:=HC.out.cx;have zX:=HC.out.zf 25;have ce:=(fe.onlyP (o1.any P)).c0;have cq:=(fq.onlyP (o1.any P)).c0;have cj:=(fj.onlyP (o1.any P)).c0;have cd:=(fd.onlyP (o1.any P)).c0;clear k1)
  exact TX
 ·skip
  have HR:=Aa (show A4 k a n≠ .idle by exact FB hx9 hk)
  clear hx9
  go_enter Tryz.func240,Tryz.ntmps240
  go_upto_region 2 with(fail)
  refine wp_region_held_drew (S:=(fun w'=>Ab w' e 0 (bp A.e)∧Ab w' j 0 (.int .u64 (a))∧Ab w' d 0 (.int .u64 (n))∧Ab w' A.e 2 (bp A.a))) (by kernel_rfl) ?_ (fun hHeld=>?_)
  ·exact⟨ce,cj,cd,cA⟩
  refine Af 0 (h:=Af 1 (h:=Af 2 (h:=Af 3 (h:=Af 4 (h:=Af 6 (h:=Ar (i:=5) (h:=fun K hK=>?_)))))))
  go_simp
  (refine(Bb a 2 _ a0 (by omega) (by omega)).mono ?_;rintro e1 w1 ⟨rfl,rfl⟩)
  try go_wp2_with fail
  refine AK hK (by exact⟨ce,cj,cd,cA⟩) (h:=fun hHeld=>?_);clear hK K
  refine Ar (i:=7) (h:=fun K hK=>?_)
  try simp only[List.getElem_toArray,List.getElem_cons_zero,List.getElem_cons_succ]
  go_simp
  (refine(JW HC.out _ _).mono ?_;rw[hs1];rintro e1 w1 ⟨rfl,h1,m1⟩;have HC:=Aa h1;have M:=M.trans m1;clear h1;have fj:=hj.onlyP M;have fe:=he.onlyP M;have fd:=hd.onlyP M;have fq:=hq.onlyP M;have fx:=hx.onlyP M;have cj:=fj.c0;have ce:=fe.c0;have cd:=fd.c0;have cq:=fq.c0;have cx:=fx.c0;have cA:=HC.out.ca;have cN:=HC.out.cn;(try rw[hsl]at cN);have cW:=HC.out.cl)
  try go_wp2_with fail
  refine AK hK (by exact⟨ce,cj,cd,cA⟩) (h:=fun hHeld=>?_);clear hK K
  refine wpAnyH_done (by kernel_rfl) ?_ _
  clear hHeld
  have HLw:=Aa (HL.out.far M (fun b hb hp=>HPQ.out b hp hb))
  have se:=ce
  have sx:=cx
  have sc:=HC.out.cc
  rw[HK.out]at sc
  have sv:=HC.out.cq
  rw[←HLN.out.2]at sv
  obtain⟨W6,hW6⟩:=Ad ((w1.alloc (.cells #[.int .u64 l,sq] 202)).drew)
  have oo6:Ac w1 W6:=by rw[hW6];exact((Ac.refl _).alloc _).drew
  have HC6:=Aa (HC.out.only0 oo6)
  have L6:=HLw.out.far (oo6.any P) (fun b hb hp=>HPQ.out b hp hb)
  have b60:=Ae W6 w1.heap.size 0 (.int .u64 l) (by rw[hW6];exact(Am.new w1 _ _).cell 0)
  have b61:=Ae W6 w1.heap.size 1 (.int .i64 sq) (by rw[hW6];exact(Am.new w1 _ _).cell 1)
  have hB6:B≤W6.heap.size:=Nat.le_trans (Nat.le_trans hB9 M.size) oo6.size
  have ue:=Ai oo6 se
  have ux:=Ai oo6 sx
  have uc:=Ai oo6 sc
  have uv:=Ai oo6 sv
  have nE:¬AL la A.e:=fun hb=>HPQ.out _ HC.out.ex.sh.pe (HLw.out.q hb)
  have ne:¬AL la e:=fun hb=>he.2.2.1 (HLw.out.q hb)
  have nx:¬AL la x:=fun hb=>hx.2.2.1 (HLw.out.q hb)
  have fz6:W6.frozen? ⟨A.e,27,none⟩=false:=HC6.out.zf 27
  have LA:=L6
  have HAPP:=Aa (fun(la2:Option Addr) (lc2:Nat) (w2:World) (hA2:∀Q':Nat→Prop,(∀b,AL la2 b→Q' b)→Ck B w2 Q' la2 lc2 (L++[(l,sq)])) (hO2:Ah (AL la) W6 w2) (hB2:∀b,AL la2 b→(AL la b∨W6.heap.size≤b)∧b<w2.heap.size)=>HC6.out.limApp HPQ.out (fun b hb=>L6.q hb) hO2 hB2 hA2 (.slice la2 (len+1) lc2))
  have HM6:=Aa (M.trans (oo6.any P))
  rw[hW6]at LA b60 b61 hB6 fz6 HAPP ue ux uc uv HM6
  clear hW6 oo6 HC6 L6 ce cx cj cd cq cA cN cW fe fx fj fd fq
  go_upto_region 6 with(fail)
  refine Ao (S:=(fun w'=>Ab w' e 0 (bp A.e)∧Ab w' x 0 (.int .u64 l)∧Ab w' A.e 27 (.slice la len lc)∧Ab w' A.e 22 (.int .i64 sq))) 17 (by kernel_rfl) ?_ (fun hHeld=>?_)
  ·exact U0
  refine Av 0 [17] (h:=Av 1 [17] (h:=Av 2 [17] (h:=Av 3 [17] (h:=Av 4 [17] (h:=Av 5 [17] (h:=Av 6 [17] (h:=Av 7 [17] (h:=Av 8 [17] (h:=Av 9 [17] (h:=Av 10 [17] (h:=Av 11 [17] (h:=Bx (i:=12) (h:=fun K hK=>?_)))))))))))))
  go_simp
  skip
  try go_wp2_with fail
  refine D_ hK (by first|exact⟨se,sx,sc,sv⟩|exact⟨ue,ux,uc,uv⟩|exact⟨ze,zx,zc,zv⟩) (h:=fun hHeld=>?_);clear hK K
  refine Bx (i:=13) (h:=fun K hK=>?_)
  try simp only[List.getElem_toArray,List.getElem_cons_zero,List.getElem_cons_succ]
  (rw[if_pos (by simp[Region.wanted])];refine C_ _ _ (by rfl) LA len HLN.out.1 (by rfl) w1.heap.size l sq (by rfl) b60 b61 hlen9 hB6 ?_;intro la2 lc2 w2 hA2 hO2 hB2;have ze:=AH hO2 ue ne;have zx:=AH hO2 ux nx;have zc:=AH hO2 uc nE;have zv:=AH hO2 uv nE;have fz2:w2.frozen? ⟨A.e,27,none⟩=false:=(World.frozen?_of_block (hO2.block _ (block_lt_of_cell uc) nE)).trans fz6)
  refine D_ hK (by first|exact⟨se,sx,sc,sv⟩|exact⟨ue,ux,uc,uv⟩|exact⟨ze,zx,zc,zv⟩) (h:=fun hHeld=>?_);clear hK K
  refine Av 14 [15,16,17] (h:=Av 15 [16,17] (h:=Av 16 [17] (h:=?_)))
  refine AI (by kernel_rfl) rfl (by kernel_rfl) (fun K hK=>?_)
  try simp only[List.getElem_toArray,List.getElem_cons_zero,List.getElem_cons_succ]
  go_simp
  skip
  try go_wp2_with fail
  refine hK.out _ _ ?_
  clear hK K
  try simp only[Act.put,List.getElem_toArray,List.getElem_cons_zero,List.getElem_cons_succ,List.setIfInBounds_toArray,List.set_cons_zero,List.set_cons_succ]
  obtain⟨h9,l9,m9,o9⟩:=HAPP.out la2 lc2 w2 hA2 hO2 hB2
  obtain⟨W9,hW9⟩:=Ad (w2.setCell ⟨A.e,27,none⟩ (.slice la2 (len+1) lc2))
  rw[←hW9]at h9 l9 m9 o9 ⊢
  have HB2:=Aa hB2
  obtain⟨Q9,hQ9⟩:∃Q9:Nat→Prop,Q9=fun b=>Q b∨AL la2 b:=⟨_,rfl⟩
  rw[←hQ9]at h9 l9 m9
  have oM:=HM6.out
  have O9:Ah (fun b=>P b∨AL la b) w W9:=(oM.mono (fun b _ hb=> .inl hb)).trans o9
  have MM:Ag w W9 P Q P Q9:=Ag.trans ⟨oM.mono (fun b _ hb=> .inl hb),AC.refl _ _,AC.refl _ _⟩ m9
  have HL9:=Aa l9
  have HO9:=Aa O9
  have HQ9:=Aa (And.intro hQ9 oM.size)
  have fj:=hj.move MM
  have fe:=he.move MM
  have fd:=hd.move MM
  have fq:=hq.move MM
  have fx:=hx.move MM
  clear hW9 hB2 hA2 hO2 HAPP o9 m9 MM LA l9 O9 hQ9 oM HM6 b60 b61 fz6 fz2 nE ne nx se sx sc sv ue ux uc uv ze zx zc zv hB6 HLw
  have HC:=Aa h9.drew
  have M:=((Ac.refl W9).drew).any P
  have fj:=fj.onlyP M
  have cj:=fj.c0
  have fe:=fe.onlyP M
  have ce:=fe.c0
  have fd:=fd.onlyP M
  have cd:=fd.c0
  have fq:=fq.onlyP M
  have cq:=fq.c0
  have fx:=fx.onlyP M
  have cx:=fx.c0
  have HL9:=Aa (HL9.out.far (((Ac.refl W9).drew).any (fun _=>False)) (fun _ _ hf=>hf))
  have HO9:=Aa (HO9.out.trans (((Ac.refl W9).drew).any _))
  clear h9
  go_upto_region 7 with(fail)
  refine Ao (S:=(fun w'=>Ab w' e 0 (bp A.e)∧Ab w' q 0 (.int .i64 ((k:Int)))∧Ab w' j 0 (.int .u64 (a))∧Ab w' d 0 (.int .u64 (n)))) 9 (by kernel_rfl) ?_ (fun hHeld=>?_)
  ·exact⟨ce,cq,cj,cd⟩
  refine Av 0 [9] (h:=Av 1 [9] (h:=Av 2 [9] (h:=Av 3 [9] (h:=Av 4 [9] (h:=Bx (i:=5) (h:=fun K hK=>?_))))))
  go_simp
  (refine(DF HC.out k _ rfl hk a n).mono ?_;rintro e1 w3 ⟨v1,rfl,k1,o1⟩;obtain⟨F1,b1,c1,rfl⟩:=k1.func HR.out;have HC:=Aa (HC.out.only0 o1);have HS:=Aa k1;have HL9:=Aa (HL9.out.far (o1.any (fun _=>False)) (fun _ _ hf=>hf));have HO9:=Aa (HO9.out.trans (o1.any _));have cX:=HC.out.cx;have zX:=HC.out.zf 25;have ce:=(fe.onlyP (o1.any P)).c0;have cq:=(fq.onlyP (o1.any P)).c0;have cj:=(fj.onlyP (o1.any P)).c0;have cd:=(fd.onlyP (o1.any P)).c0;clear k1)
  try go_wp2_with fail
  refine D_ hK (by exact⟨ce,cq,cj,cd⟩) (h:=fun hHeld=>?_);clear hK K
  refine Av 6 [7,8,9] (h:=Av 7 [8,9] (h:=Av 8 [9] (h:=?_)))
  refine AI (by kernel_rfl) rfl (by kernel_rfl) (fun K hK=>?_)
  try simp only[List.getElem_toArray,List.getElem_cons_zero,List.getElem_cons_succ]
  go_simp
  skip
  try go_wp2_with fail
  refine hK.out _ _ ?_
  clear hK K
  try simp only[Act.put,List.getElem_toArray,List.getElem_cons_zero,List.getElem_cons_succ,List.setIfInBounds_toArray,List.set_cons_zero,List.set_cons_succ]
  clear hHeld
  have HZ:=HC.out.setK 25 (.func F1 b1 c1) (K':={K with nx:=(.func F1 b1 c1),cs:= .slice la2 (len+1) lc2}) rfl
  have HF:Hid (Gx B w P Q R A K la s1 (A4 k a n) (L++[(l,sq)]) (.returned (.bool true)) (w3.setCell ⟨A.e,25,none⟩ (.func F1 b1 c1))):=Aa (by
   refine⟨_,Q9,la2,lc2,rfl,?_,HS.out.onlyP HZ.2,HL9.out.far HZ.2 (fun b hb hp=>?_),HO9.out.trans (HZ.2.mono (fun b _ hb=> .inl hb)),fun b hb=>by rw[HQ9.out.1];exact .inl hb,fun b hb=>?_,fun b hb=>(HB2.out b hb).1.imp (fun z=>z) (fun z=>Nat.le_trans HQ9.out.2 z)⟩
   ·exact Ua
   ·exact Sx
   ·rw[HQ9.out.1]at hb
    rcases hb with y|y
    ·exact .inl y
    ·rcases(HB2.out b y).1 with z|z
     ·exact .inl (HL.out.q z)
     ·exact .inr ⟨y,Nat.le_trans HQ9.out.2 z⟩)
  exact Ub
theorem PX{B N:Nat}{w:World}{P Q R:Nat→Prop}{A:EA}{K:EK}{s:Sh}(h:SX B w P Q R A K s)(hN:AW N s){la:Option Addr}{lc:Nat}{L:List (Int×Int)}(hL:Ck B w Q la lc L)(hK:K.cs= .slice la L.length lc)(hPQ:AR P Q)(hlen:L.length≤100000000){k:Nat}(hk:k<64){a l n:Int}(ha:a=0)(hc:s.a.casOk (9+(k:Int)) l=true){j e d q x:Nat}(hj:An w P Q R j 31 #[.int .u64 (a)])(he:An w P Q R e 39 #[bp A.e])(hd:An w P Q R d 31 #[.int .u64 (n)])(hq:An w P Q R q 3 #[.int .i64 ((k:Int))])(hx:An w P Q R x 31 #[.int .u64 (l)]):
 Calls Tryz.prog 240 #[bp j,bp e,bp d,bp q,bp x] w (Gx B w P Q R A K la (s.setA (s.a.cas (9+(k:Int)) l n)) (A4 k a n) (L++[(l,K.seq)])):=by
 have h0:=h.ex.uP
 subst ha
 obtain⟨s1,hs1⟩:=Aq (s.setA (s.a.cas (9+(k:Int)) l n))
 rw[hs1]
 have hsl:s1.slots=s.slots:=by rw[←hs1];rfl
 obtain⟨len,hln⟩:=Ad L.length
 obtain⟨sq,hsq⟩:=Ad K.seq
 have hlen9:len≤100000000:=by rw[hln];exact hlen
 have HK:=Aa (show K.cs= .slice la len lc by rw[hK,hln])
 have HLN:=Aa (And.intro hln hsq)
 have HL:=Aa hL
 have HPQ:=Aa hPQ
 have hB9:=h.ex.hB
 have HC:=Aa h.drew
 have M:Ah P w w.drew:=((Ac.refl w).drew).any P
 have fj:=hj.onlyP M
 have fe:=he.onlyP M
 have fd:=hd.onlyP M
 have fq:=hq.onlyP M
 have fx:=hx.onlyP M
 have cj:=fj.c0
 have ce:=fe.c0
 have cd:=fd.c0
 have cq:=fq.c0
 have cx:=fx.c0
 have cA:=HC.out.ca
 have cN:=HC.out.cn
 (try rw[hsl]at cN)
 have cW:=HC.out.cl
 clear h
 have cj0:=hj.c0
 clear hK hln hsq hL hPQ hlen
 have ew:IntKind.i64.wrap (9+(k:Int))=9+(k:Int):=by rw[IntKind.wrap_i64];omega
 have HUP:=Aa h0
 by_cases hx9:n=0∧k=63
 ·skip
  have HR:=Aa (show A4 k 0 n= .idle by unfold A4 Cq;rw[if_pos hx9.1,if_pos (by omega)])
  clear hx9
  go_enter Tryz.func240,Tryz.ntmps240
  go_upto_region 3 with(fail)
  refine wp_region_held_drew (S:=(fun w'=>Ab w' e 0 (bp A.e)∧Ab w' q 0 (.int .i64 ((k:Int)))∧Ab w' x 0 (.int .u64 (l))∧Ab w' d 0 (.int .u64 (n))∧Ab w' A.e 2 (bp A.a))) (by kernel_rfl) ?_ (fun hHeld=>?_)
  ·exact⟨ce,cq,cx,cd,cA⟩
  refine Af 0 (h:=Af 1 (h:=Af 2 (h:=Af 3 (h:=Af 4 (h:=Af 5 (h:=Af 6 (h:=Af 7 (h:=Ar (i:=8) (h:=fun K hK=>?_)))))))))
  go_simp
  (refine(KT HC.out _ _ _).mono ?_;rw[hs1,hc];rintro e1 w1 ⟨rfl,h1,m1⟩;have HC:=Aa h1;have M:=M.trans m1;clear h1;have fj:=hj.onlyP M;have fe:=he.onlyP M;have fd:=hd.onlyP M;have fq:=hq.onlyP M;have fx:=hx.onlyP M;have cj:=fj.c0;have ce:=fe.c0;have cd:=fd.c0;have cq:=fq.c0;have cx:=fx.c0;have cA:=HC.out.ca;have cN:=HC.out.cn;(try rw[hsl]at cN);have cW:=HC.out.cl)
  try go_wp2_with fail
  refine AK hK (by exact⟨ce,cq,cx,cd,cA⟩) (h:=fun hHeld=>?_);clear hK K
  refine Af 9 (h:=?_)
  refine wpAnyH_done (by kernel_rfl) ?_ _
  clear hHeld
  have HLw:=Aa (HL.out.far M (fun b hb hp=>HPQ.out b hp hb))
  have se:=ce
  have sx:=cx
  have sc:=HC.out.cc
  rw[HK.out]at sc
  have sv:=HC.out.cq
  rw[←HLN.out.2]at sv
  obtain⟨W6,hW6⟩:=Ad ((w1.alloc (.cells #[.int .u64 l,sq] 202)).drew)
  have oo6:Ac w1 W6:=by rw[hW6];exact((Ac.refl _).alloc _).drew
  have HC6:=Aa (HC.out.only0 oo6)
  have L6:=HLw.out.far (oo6.any P) (fun b hb hp=>HPQ.out b hp hb)
  have b60:=Ae W6 w1.heap.size 0 (.int .u64 l) (by rw[hW6];exact(Am.new w1 _ _).cell 0)
  have b61:=Ae W6 w1.heap.size 1 (.int .i64 sq) (by rw[hW6];exact(Am.new w1 _ _).cell 1)
  have hB6:B≤W6.heap.size:=Nat.le_trans (Nat.le_trans hB9 M.size) oo6.size
  have ue:=Ai oo6 se
  have ux:=Ai oo6 sx
  have uc:=Ai oo6 sc
  have uv:=Ai oo6 sv
  have nE:¬AL la A.e:=fun hb=>HPQ.out _ HC.out.ex.sh.pe (HLw.out.q hb)
  have ne:¬AL la e:=fun hb=>he.2.2.1 (HLw.out.q hb)
  have nx:¬AL la x:=fun hb=>hx.2.2.1 (HLw.out.q hb)
  have fz6:W6.frozen? ⟨A.e,27,none⟩=false:=HC6.out.zf 27
  have LA:=L6
  have HAPP:=Aa (fun(la2:Option Addr) (lc2:Nat) (w2:World) (hA2:∀Q':Nat→Prop,(∀b,AL la2 b→Q' b)→Ck B w2 Q' la2 lc2 (L++[(l,sq)])) (hO2:Ah (AL la) W6 w2) (hB2:∀b,AL la2 b→(AL la b∨W6.heap.size≤b)∧b<w2.heap.size)=>HC6.out.limApp HPQ.out (fun b hb=>L6.q hb) hO2 hB2 hA2 (.slice la2 (len+1) lc2))
  have HM6:=Aa (M.trans (oo6.any P))
  rw[hW6]at LA b60 b61 hB6 fz6 HAPP ue ux uc uv HM6
  clear hW6 oo6 HC6 L6 ce cx cj cd cq cA cN cW fe fx fj fd fq
  go_upto_region 6 with(fail)
  refine Ao (S:=(fun w'=>Ab w' e 0 (bp A.e)∧Ab w' x 0 (.int .u64 l)∧Ab w' A.e 27 (.slice la len lc)∧Ab w' A.e 22 (.int .i64 sq))) 17 (by kernel_rfl) ?_ (fun hHeld=>?_)
  ·exact U0
  refine Av 0 [17] (h:=Av 1 [17] (h:=Av 2 [17] (h:=Av 3 [17] (h:=Av 4 [17] (h:=Av 5 [17] (h:=Av 6 [17] (h:=Av 7 [17] (h:=Av 8 [17] (h:=Av 9 [17] (h:=Av 10 [17] (h:=Av 11 [17] (h:=Bx (i:=12) (h:=fun K hK=>?_)))))))))))))
  go_simp
  skip
  try go_wp2_with fail
  refine D_ hK (by first|exact⟨se,sx,sc,sv⟩|exact⟨ue,ux,uc,uv⟩|exact⟨ze,zx,zc,zv⟩) (h:=fun hHeld=>?_);clear hK K
  refine Bx (i:=13) (h:=fun K hK=>?_)
  try simp only[List.getElem_toArray,List.getElem_cons_zero,List.getElem_cons_succ]
  (rw[if_pos (by simp[Region.wanted])];refine C_ _ _ (by rfl) LA len HLN.out.1 (by rfl) w1.heap.size l sq (by rfl) b60 b61 hlen9 hB6 ?_;intro la2 lc2 w2 hA2 hO2 hB2;have ze:=AH hO2 ue ne;have zx:=AH hO2 ux nx;have zc:=AH hO2 uc nE;have zv:=AH hO2 uv nE;have fz2:w2.frozen? ⟨A.e,27,none⟩=false:=(World.frozen?_of_block (hO2.block _ (block_lt_of_cell uc) nE)).trans fz6)
  refine D_ hK (by first|exact⟨se,sx,sc,sv⟩|exact⟨ue,ux,uc,uv⟩|exact⟨ze,zx,zc,zv⟩) (h:=fun hHeld=>?_);clear hK K
  refine Av 14 [15,16,17] (h:=Av 15 [16,17] (h:=Av 16 [17] (h:=?_)))
  refine AI (by kernel_rfl) rfl (by kernel_rfl) (fun K hK=>?_)
  try simp only[List.getElem_toArray,List.getElem_cons_zero,List.getElem_cons_succ]
  go_simp
  skip
  try go_wp2_with fail
  refine hK.out _ _ ?_
  clear hK K
  try simp only[Act.put,List.getElem_toArray,List.getElem_cons_zero,List.getElem_cons_succ,List.setIfInBounds_toArray,List.set_cons_zero,List.set_cons_succ]
  obtain⟨h9,l9,m9,o9⟩:=HAPP.out la2 lc2 w2 hA2 hO2 hB2
  obtain⟨W9,hW9⟩:=Ad (w2.setCell ⟨A.e,27,none⟩ (.slice la2 (len+1) lc2))
  rw[←hW9]at h9 l9 m9 o9 ⊢
  have HB2:=Aa hB2
  obtain⟨Q9,hQ9⟩:∃Q9:Nat→Prop,Q9=fun b=>Q b∨AL la2 b:=⟨_,rfl⟩
  rw[←hQ9]at h9 l9 m9
  have oM:=HM6.out
  have O9:Ah (fun b=>P b∨AL la b) w W9:=(oM.mono (fun b _ hb=> .inl hb)).trans o9
  have MM:Ag w W9 P Q P Q9:=Ag.trans ⟨oM.mono (fun b _ hb=> .inl hb),AC.refl _ _,AC.refl _ _⟩ m9
  have HL9:=Aa l9
  have HO9:=Aa O9
  have HQ9:=Aa (And.intro hQ9 oM.size)
  have fj:=hj.move MM
  have fe:=he.move MM
  have fd:=hd.move MM
  have fq:=hq.move MM
  have fx:=hx.move MM
  clear hW9 hB2 hA2 hO2 HAPP o9 m9 MM LA l9 O9 hQ9 oM HM6 b60 b61 fz6 fz2 nE ne nx se sx sc sv ue ux uc uv ze zx zc zv hB6 HLw
  have HC:=Aa h9.drew
  have M:=((Ac.refl W9).drew).any P
  have fj:=fj.onlyP M
  have cj:=fj.c0
  have fe:=fe.onlyP M
  have ce:=fe.c0
  have fd:=fd.onlyP M
  have cd:=fd.c0
  have fq:=fq.onlyP M
  have cq:=fq.c0
  have fx:=fx.onlyP M
  have cx:=fx.c0
  have HL9:=Aa (HL9.out.far (((Ac.refl W9).drew).any (fun _=>False)) (fun _ _ hf=>hf))
  have HO9:=Aa (HO9.out.trans (((Ac.refl W9).drew).any _))
  clear h9
  go_upto_region 7 with(fail)
  refine Ao (S:=(fun w'=>Ab w' e 0 (bp A.e)∧Ab w' q 0 (.int .i64 ((k:Int)))∧Ab w' j 0 (.int .u64 0)∧Ab w' d 0 (.int .u64 (n)))) 9 (by kernel_rfl) ?_ (fun hHeld=>?_)
  ·exact⟨ce,cq,cj,cd⟩
  refine Av 0 [9] (h:=Av 1 [9] (h:=Av 2 [9] (h:=Av 3 [9] (h:=Av 4 [9] (h:=Bx (i:=5) (h:=fun K hK=>?_))))))
  go_simp
  (refine(DF HC.out k _ rfl hk 0 n).mono ?_;rintro e1 w3 ⟨v1,rfl,k1,o1⟩;rw[HR.out]at k1;obtain rfl:=k1.nil;have HC:=Aa (HC.out.only0 o1);have HS:=Aa k1;have HL9:=Aa (HL9.out.far (o1.any (fun _=>False)) (fun _ _ hf=>hf));have HO9:=Aa (HO9.out.trans (o1.any _));have cX:=HC.out.cx;have zX:=HC.out.zf 25;have ce:=(fe.onlyP (o1.any P)).c0;have cq:=(fq.onlyP (o1.any P)).c0;have cj:=(fj.onlyP (o1.any P)).c0;have cd:=(fd.onlyP (o1.any P)).c0;clear k1)
  exact TX
 ·skip
  have HR:=Aa (show A4 k 0 n≠ .idle by exact FB hx9 hk)
  clear hx9
  go_enter Tryz.func240,Tryz.ntmps240
  go_upto_region 3 with(fail)
  refine wp_region_held_drew (S:=(fun w'=>Ab w' e 0 (bp A.e)∧Ab w' q 0 (.int .i64 ((k:Int)))∧Ab w' x 0 (.int .u64 (l))∧Ab w' d 0 (.int .u64 (n))∧Ab w' A.e 2 (bp A.a))) (by kernel_rfl) ?_ (fun hHeld=>?_)
  ·exact⟨ce,cq,cx,cd,cA⟩
  refine Af 0 (h:=Af 1 (h:=Af 2 (h:=Af 3 (h:=Af 4 (h:=Af 5 (h:=Af 6 (h:=Af 7 (h:=Ar (i:=8) (h:=fun K hK=>?_)))))))))
  go_simp
  (refine(KT HC.out _ _ _).mono ?_;rw[hs1,hc];rintro e1 w1 ⟨rfl,h1,m1⟩;have HC:=Aa h1;have M:=M.trans m1;clear h1;have fj:=hj.onlyP M;have fe:=he.onlyP M;have fd:=hd.onlyP M;have fq:=hq.onlyP M;have fx:=hx.onlyP M;have cj:=fj.c0;have ce:=fe.c0;have cd:=fd.c0;have cq:=fq.c0;have cx:=fx.c0;have cA:=HC.out.ca;have cN:=HC.out.cn;(try rw[hsl]at cN);have cW:=HC.out.cl)
  try go_wp2_with fail
  refine AK hK (by exact⟨ce,cq,cx,cd,cA⟩) (h:=fun hHeld=>?_);clear hK K
  refine Af 9 (h:=?_)
  refine wpAnyH_done (by kernel_rfl) ?_ _
  clear hHeld
  have HLw:=Aa (HL.out.far M (fun b hb hp=>HPQ.out b hp hb))
  have se:=ce
  have sx:=cx
  have sc:=HC.out.cc
  rw[HK.out]at sc
  have sv:=HC.out.cq
  rw[←HLN.out.2]at sv
  obtain⟨W6,hW6⟩:=Ad ((w1.alloc (.cells #[.int .u64 l,sq] 202)).drew)
  have oo6:Ac w1 W6:=by rw[hW6];exact((Ac.refl _).alloc _).drew
  have HC6:=Aa (HC.out.only0 oo6)
  have L6:=HLw.out.far (oo6.any P) (fun b hb hp=>HPQ.out b hp hb)
  have b60:=Ae W6 w1.heap.size 0 (.int .u64 l) (by rw[hW6];exact(Am.new w1 _ _).cell 0)
  have b61:=Ae W6 w1.heap.size 1 (.int .i64 sq) (by rw[hW6];exact(Am.new w1 _ _).cell 1)
  have hB6:B≤W6.heap.size:=Nat.le_trans (Nat.le_trans hB9 M.size) oo6.size
  have ue:=Ai oo6 se
  have ux:=Ai oo6 sx
  have uc:=Ai oo6 sc
  have uv:=Ai oo6 sv
  have nE:¬AL la A.e:=fun hb=>HPQ.out _ HC.out.ex.sh.pe (HLw.out.q hb)
  have ne:¬AL la e:=fun hb=>he.2.2.1 (HLw.out.q hb)
  have nx:¬AL la x:=fun hb=>hx.2.2.1 (HLw.out.q hb)
  have fz6:W6.frozen? ⟨A.e,27,none⟩=false:=HC6.out.zf 27
  have LA:=L6
  have HAPP:=Aa (fun(la2:Option Addr) (lc2:Nat) (w2:World) (hA2:∀Q':Nat→Prop,(∀b,AL la2 b→Q' b)→Ck B w2 Q' la2 lc2 (L++[(l,sq)])) (hO2:Ah (AL la) W6 w2) (hB2:∀b,AL la2 b→(AL la b∨W6.heap.size≤b)∧b<w2.heap.size)=>HC6.out.limApp HPQ.out (fun b hb=>L6.q hb) hO2 hB2 hA2 (.slice la2 (len+1) lc2))
  have HM6:=Aa (M.trans (oo6.any P))
  rw[hW6]at LA b60 b61 hB6 fz6 HAPP ue ux uc uv HM6
  clear hW6 oo6 HC6 L6 ce cx cj cd cq cA cN cW fe fx fj fd fq
  go_upto_region 6 with(fail)
  refine Ao (S:=(fun w'=>Ab w' e 0 (bp A.e)∧Ab w' x 0 (.int .u64 l)∧Ab w' A.e 27 (.slice la len lc)∧Ab w' A.e 22 (.int .i64 sq))) 17 (by kernel_rfl) ?_ (fun hHeld=>?_)
  ·exact U0
  refine Av 0 [17] (h:=Av 1 [17] (h:=Av 2 [17] (h:=Av 3 [17] (h:=Av 4 [17] (h:=Av 5 [17] (h:=Av 6 [17] (h:=Av 7 [17] (h:=Av 8 [17] (h:=Av 9 [17] (h:=Av 10 [17] (h:=Av 11 [17] (h:=Bx (i:=12) (h:=fun K hK=>?_)))))))))))))
  go_simp
  skip
  try go_wp2_with fail
  refine D_ hK (by first|exact⟨se,sx,sc,sv⟩|exact⟨ue,ux,uc,uv⟩|exact⟨ze,zx,zc,zv⟩) (h:=fun hHeld=>?_);clear hK K
  refine Bx (i:=13) (h:=fun K hK=>?_)
  try simp only[List.getElem_toArray,List.getElem_cons_zero,List.getElem_cons_succ]
  (rw[if_pos (by simp[Region.wanted])];refine C_ _ _ (by rfl) LA len HLN.out.1 (by rfl) w1.heap.size l sq (by rfl) b60 b61 hlen9 hB6 ?_;intro la2 lc2 w2 hA2 hO2 hB2;have ze:=AH hO2 ue ne;have zx:=AH hO2 ux nx;have zc:=AH hO2 uc nE;have zv:=AH hO2 uv nE;have fz2:w2.frozen? ⟨A.e,27,none⟩=false:=(World.frozen?_of_block (hO2.block _ (block_lt_of_cell uc) nE)).trans fz6)
  refine D_ hK (by first|exact⟨se,sx,sc,sv⟩|exact⟨ue,ux,uc,uv⟩|exact⟨ze,zx,zc,zv⟩) (h:=fun hHeld=>?_);clear hK K
  refine Av 14 [15,16,17] (h:=Av 15 [16,17] (h:=Av 16 [17] (h:=?_)))
  refine AI (by kernel_rfl) rfl (by kernel_rfl) (fun K hK=>?_)
  try simp only[List.getElem_toArray,List.getElem_cons_zero,List.getElem_cons_succ]
  go_simp
  skip
  try go_wp2_with fail
  refine hK.out _ _ ?_
  clear hK K
  try simp only[Act.put,List.getElem_toArray,List.getElem_cons_zero,List.getElem_cons_succ,List.setIfInBounds_toArray,List.set_cons_zero,List.set_cons_succ]
  obtain⟨h9,l9,m9,o9⟩:=HAPP.out la2 lc2 w2 hA2 hO2 hB2
  obtain⟨W9,hW9⟩:=Ad (w2.setCell ⟨A.e,27,none⟩ (.slice la2 (len+1) lc2))
  rw[←hW9]at h9 l9 m9 o9 ⊢
  have HB2:=Aa hB2
  obtain⟨Q9,hQ9⟩:∃Q9:Nat→Prop,Q9=fun b=>Q b∨AL la2 b:=⟨_,rfl⟩
  rw[←hQ9]at h9 l9 m9
  have oM:=HM6.out
  have O9:Ah (fun b=>P b∨AL la b) w W9:=(oM.mono (fun b _ hb=> .inl hb)).trans o9
  have MM:Ag w W9 P Q P Q9:=Ag.trans ⟨oM.mono (fun b _ hb=> .inl hb),AC.refl _ _,AC.refl _ _⟩ m9
  have HL9:=Aa l9
  have HO9:=Aa O9
  have HQ9:=Aa (And.intro hQ9 oM.size)
  have fj:=hj.move MM
  have fe:=he.move MM
  have fd:=hd.move MM
  have fq:=hq.move MM
  have fx:=hx.move MM
  clear hW9 hB2 hA2 hO2 HAPP o9 m9 MM LA l9 O9 hQ9 oM HM6 b60 b61 fz6 fz2 nE ne nx se sx sc sv ue ux uc uv ze zx zc zv hB6 HLw
  have HC:=Aa h9.drew
  have M:=((Ac.refl W9).drew).any P
  have fj:=fj.onlyP M
  have cj:=fj.c0
  have fe:=fe.onlyP M
  have ce:=fe.c0
  have fd:=fd.onlyP M
  have cd:=fd.c0
  have fq:=fq.onlyP M
  have cq:=fq.c0
  have fx:=fx.onlyP M
  have cx:=fx.c0
  have HL9:=Aa (HL9.out.far (((Ac.refl W9).drew).any (fun _=>False)) (fun _ _ hf=>hf))
  have HO9:=Aa (HO9.out.trans (((Ac.refl W9).drew).any _))
  clear h9
  go_upto_region 7 with(fail)
  refine Ao (S:=(fun w'=>Ab w' e 0 (bp A.e)∧Ab w' q 0 (.int .i64 ((k:Int)))∧Ab w' j 0 (.int .u64 0)∧Ab w' d 0 (.int .u64 (n)))) 9 (by kernel_rfl) ?_ (fun hHeld=>?_)
  ·exact⟨ce,cq,cj,cd⟩
  refine Av 0 [9] (h:=Av 1 [9] (h:=Av 2 [9] (h:=Av 3 [9] (h:=Av 4 [9] (h:=Bx (i:=5) (h:=fun K hK=>?_))))))
  go_simp
  (refine(DF HC.out k _ rfl hk 0 n).mono ?_;rintro e1 w3 ⟨v1,rfl,k1,o1⟩;obtain⟨F1,b1,c1,rfl⟩:=k1.func HR.out;have HC:=Aa (HC.out.only0 o1);have HS:=Aa k1;have HL9:=Aa (HL9.out.far (o1.any (fun _=>False)) (fun _ _ hf=>hf));have HO9:=Aa (HO9.out.trans (o1.any _));have cX:=HC.out.cx;have zX:=HC.out.zf 25;have ce:=(fe.onlyP (o1.any P)).c0;have cq:=(fq.onlyP (o1.any P)).c0;have cj:=(fj.onlyP (o1.any P)).c0;have cd:=(fd.onlyP (o1.any P)).c0;clear k1)
  try go_wp2_with fail
  refine D_ hK (by exact⟨ce,cq,cj,cd⟩) (h:=fun hHeld=>?_);clear hK K
  refine Av 6 [7,8,9] (h:=Av 7 [8,9] (h:=Av 8 [9] (h:=?_)))
  refine AI (by kernel_rfl) rfl (by kernel_rfl) (fun K hK=>?_)
  try simp only[List.getElem_toArray,List.getElem_cons_zero,List.getElem_cons_succ]
  go_simp
  skip
  try go_wp2_with fail
  refine hK.out _ _ ?_
  clear hK K
  try simp only[Act.put,List.getElem_toArray,List.getElem_cons_zero,List.getElem_cons_succ,List.setIfInBounds_toArray,List.set_cons_zero,List.set_cons_succ]
  clear hHeld
  have HZ:=HC.out.setK 25 (.func F1 b1 c1) (K':={K with nx:=(.func F1 b1 c1),cs:= .slice la2 (len+1) lc2}) rfl
  have HF:Hid (Gx B w P Q R A K la s1 (A4 k 0 n) (L++[(l,sq)]) (.returned (.bool true)) (w3.setCell ⟨A.e,25,none⟩ (.func F1 b1 c1))):=Aa (by
   refine⟨_,Q9,la2,lc2,rfl,?_,HS.out.onlyP HZ.2,HL9.out.far HZ.2 (fun b hb hp=>?_),HO9.out.trans (HZ.2.mono (fun b _ hb=> .inl hb)),fun b hb=>by rw[HQ9.out.1];exact .inl hb,fun b hb=>?_,fun b hb=>(HB2.out b hb).1.imp (fun z=>z) (fun z=>Nat.le_trans HQ9.out.2 z)⟩
   ·exact Ua
   ·exact Sx
   ·rw[HQ9.out.1]at hb
    rcases hb with y|y
    ·exact .inl y
    ·rcases(HB2.out b y).1 with z|z
     ·exact .inl (HL.out.q z)
     ·exact .inr ⟨y,Nat.le_trans HQ9.out.2 z⟩)
  exact Ub
theorem Qr{B N:Nat}{w:World}{P Q R:Nat→Prop}{A:EA}{K:EK}{s:Sh}(h:SX B w P Q R A K s)(hN:AW N s){la:Option Addr}{lc:Nat}{L:List (Int×Int)}(hL:Ck B w Q la lc L)(hK:K.cs= .slice la L.length lc)(hPQ:AR P Q)(hlen:L.length≤100000000){k:Nat}(hk:k<64){a l n:Int}(ha:a=0)(hc:s.a.casOk (9+(k:Int)) l=false){j e d q x:Nat}(hj:An w P Q R j 31 #[.int .u64 (a)])(he:An w P Q R e 39 #[bp A.e])(hd:An w P Q R d 31 #[.int .u64 (n)])(hq:An w P Q R q 3 #[.int .i64 ((k:Int))])(hx:An w P Q R x 31 #[.int .u64 (l)]):
 Calls Tryz.prog 240 #[bp j,bp e,bp d,bp q,bp x] w (Gx B w P Q R A K la (s.setA (s.a.cas (9+(k:Int)) l n)) (Cq k) (L)):=by
 have h0:=h.ex.uP
 subst ha
 obtain⟨s1,hs1⟩:=Aq (s.setA (s.a.cas (9+(k:Int)) l n))
 rw[hs1]
 have hsl:s1.slots=s.slots:=by rw[←hs1];rfl
 obtain⟨len,hln⟩:=Ad L.length
 obtain⟨sq,hsq⟩:=Ad K.seq
 have hlen9:len≤100000000:=by rw[hln];exact hlen
 have HK:=Aa (show K.cs= .slice la len lc by rw[hK,hln])
 have HLN:=Aa (And.intro hln hsq)
 have HL:=Aa hL
 have HPQ:=Aa hPQ
 have hB9:=h.ex.hB
 have HC:=Aa h.drew
 have M:Ah P w w.drew:=((Ac.refl w).drew).any P
 have fj:=hj.onlyP M
 have fe:=he.onlyP M
 have fd:=hd.onlyP M
 have fq:=hq.onlyP M
 have fx:=hx.onlyP M
 have cj:=fj.c0
 have ce:=fe.c0
 have cd:=fd.c0
 have cq:=fq.c0
 have cx:=fx.c0
 have cA:=HC.out.ca
 have cN:=HC.out.cn
 (try rw[hsl]at cN)
 have cW:=HC.out.cl
 clear h
 have cj0:=hj.c0
 clear hK hln hsq hL hPQ hlen
 have ew:IntKind.i64.wrap (9+(k:Int))=9+(k:Int):=by rw[IntKind.wrap_i64];omega
 go_enter Tryz.func240,Tryz.ntmps240
 go_upto_region 3 with(fail)
 refine wp_region_held_drew (S:=(fun w'=>Ab w' e 0 (bp A.e)∧Ab w' q 0 (.int .i64 ((k:Int)))∧Ab w' x 0 (.int .u64 (l))∧Ab w' d 0 (.int .u64 (n))∧Ab w' A.e 2 (bp A.a))) (by kernel_rfl) ?_ (fun hHeld=>?_)
 ·exact⟨ce,cq,cx,cd,cA⟩
 refine Af 0 (h:=Af 1 (h:=Af 2 (h:=Af 3 (h:=Af 4 (h:=Af 5 (h:=Af 6 (h:=Af 7 (h:=Ar (i:=8) (h:=fun K hK=>?_)))))))))
 go_simp
 (refine(KT HC.out _ _ _).mono ?_;rw[hs1,hc];rintro e1 w1 ⟨rfl,h1,m1⟩;have HC:=Aa h1;have M:=M.trans m1;clear h1;have fj:=hj.onlyP M;have fe:=he.onlyP M;have fd:=hd.onlyP M;have fq:=hq.onlyP M;have fx:=hx.onlyP M;have cj:=fj.c0;have ce:=fe.c0;have cd:=fd.c0;have cq:=fq.c0;have cx:=fx.c0;have cA:=HC.out.ca;have cN:=HC.out.cn;(try rw[hsl]at cN);have cW:=HC.out.cl)
 try go_wp2_with fail
 refine AK hK (by exact⟨ce,cq,cx,cd,cA⟩) (h:=fun hHeld=>?_);clear hK K
 refine Af 9 (h:=?_)
 refine wpAnyH_done (by kernel_rfl) ?_ _
 clear hHeld
 go_upto_region 4 with(fail)
 have o9:=(Ac.refl (w1)).drew
 have HC:=Aa (HC.out.only0 o9)
 have M:=M.trans (o9.any P)
 have fj:=hj.onlyP M
 have fe:=he.onlyP M
 have fd:=hd.onlyP M
 have fq:=hq.onlyP M
 have fx:=hx.onlyP M
 have cj:=fj.c0
 have ce:=fe.c0
 have cd:=fd.c0
 have cq:=fq.c0
 have cx:=fx.c0
 have cA:=HC.out.ca
 have cN:=HC.out.cn
 (try rw[hsl]at cN)
 have cW:=HC.out.cl
 clear o9
 go_upto_region 4 with(fail)
 refine Ao (S:=(fun w'=>Ab w' e 0 (bp A.e)∧Ab w' q 0 (.int .i64 ((k:Int))))) 7 (by kernel_rfl) ?_ (fun hHeld=>?_)
 ·exact⟨ce,cq⟩
 refine Av 0 [7] (h:=Av 1 [7] (h:=Av 2 [7] (h:=Bx (i:=3) (h:=fun K hK=>?_))))
 go_simp
 (refine(I5 HC.out k _ rfl).mono ?_;rintro e1 w1 ⟨v1,rfl,k1,o1⟩;obtain⟨F1,b1,c1,rfl⟩:=k1.func (Hw (by omega));have HC:=Aa (HC.out.only0 o1);have M:=M.trans (o1.any P);have HS:=Aa k1;clear k1;have cX:=HC.out.cx;have zX:=HC.out.zf 25;have fj:=hj.onlyP M;have fe:=he.onlyP M;have fd:=hd.onlyP M;have fq:=hq.onlyP M;have fx:=hx.onlyP M;have cj:=fj.c0;have ce:=fe.c0;have cd:=fd.c0;have cq:=fq.c0;have cx:=fx.c0;have cA:=HC.out.ca;have cN:=HC.out.cn;(try rw[hsl]at cN);have cW:=HC.out.cl)
 try go_wp2_with fail
 refine D_ hK (by exact⟨ce,cq⟩) (h:=fun hHeld=>?_);clear hK K
 refine Av 4 [5,6,7] (h:=Av 5 [6,7] (h:=Av 6 [7] (h:=?_)))
 refine AI (by kernel_rfl) rfl (by kernel_rfl) (fun K hK=>?_)
 try simp only[List.getElem_toArray,List.getElem_cons_zero,List.getElem_cons_succ]
 go_simp
 skip
 try go_wp2_with fail
 refine hK.out _ _ ?_
 clear hK K
 try simp only[Act.put,List.getElem_toArray,List.getElem_cons_zero,List.getElem_cons_succ,List.setIfInBounds_toArray,List.set_cons_zero,List.set_cons_succ]
 clear hHeld
 have HZ:=HC.out.setK 25 (.func F1 b1 c1) (K':={K with nx:= .func F1 b1 c1}) rfl
 have HF:Hid (Gx B w P Q R A K la s1 (Cq k) L (.returned (.bool true)) (w1.setCell ⟨A.e,25,none⟩ (.func F1 b1 c1))):=Aa (by
  have OO:=M.trans HZ.2
  refine⟨_,Q,la,lc,rfl,?_,HS.out.onlyP HZ.2,HL.out.far OO (fun b hb hp=>HPQ.out b hp hb),OO.mono (fun b _ hb=> .inl hb),fun b hb=>hb,fun b hb=> .inl hb,fun b hb=> .inl hb⟩
  have e9:({K with nx:=Value.func F1 b1 c1,cs:=Value.slice la L.length lc}:EK)={K with nx:= .func F1 b1 c1}:=by have:=HK.out;rw[HLN.out.1]at this;rw[←this]
  rw[e9];exact HZ.1)
 clear HZ
 go_wp2_with fail
 go_ret
 exact HF.out
end
end Go.Proofs.YtoakelhnhkilcaaGreat

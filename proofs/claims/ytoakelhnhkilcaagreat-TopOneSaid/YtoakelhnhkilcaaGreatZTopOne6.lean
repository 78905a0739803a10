/-
  TopOne:what its proof rests on,part 6.
-/
import Derived.Deep.RegionHeld3
import Derived.Deep.DrawnRows
import Derived.Deep.Cut
import Derived.Deep.AppendLies
import Derived.Laws.AppendOwnNone
import Derived.Test.YtoakelhnhkilcaaGreatZTopOne1
import Derived.Test.YtoakelhnhkilcaaGreatZTopOne4
import Derived.Test.YtoakelhnhkilcaaGreatZTopOne5
set_option linter.unusedVariables false
set_option linter.unusedSimpArgs false
set_option maxRecDepth 100000
set_option maxHeartbeats 64000000
namespace Go.Proofs.YtoakelhnhkilcaaGreat
open Go.RowKit
section
attribute [local go_sem ↓] Go.wp_at_zero Go.wp_at_succ
theorem zA{P:Prop}(h:P:=by
 rw[←hV3]at ex30
 have sz3:V3.heap.size=mb:=by rw[hV3,hmb];simp[World.setCell]
 obtain⟨V,hV⟩:=Ad ((V3.alloc (.map #[] 0)).alloc (.cells #[.int .i64 (E.made+1),level,.int .i64 (j:Int),.int .u64 (now+1),.int .u64 0,.int .i64 0,.slice none 0 0,.map (some mb),.slice none 0 0,.slice none 0 0,.int .u32 0,.int .i32 0,.int .u32 0,.bool false] 123))
 have oV:Ac V3 V:=by rw[hV];exact((Ac.refl V3).alloc _).alloc _
 have bT:Am V (mb+1) 123 (Ep (Fa (mb+1) mb) (Dd (E.made+1) level (j:Int) (now+1))):=by rw[hV];exact Am.new' _ _ _ _ (by simp[sz3])
 obtain⟨DM,bM⟩:∃DM,Eg Tryz.prog Jh D8 V mb (fun _=>none) DM:=by
  rw[hV]
  have h1:=Eg.made V3 Tryz.prog Jh D8
  rw[sz3]at h1
  exact⟨_,h1.only ((Ac.refl _).alloc _) (fun e=>e)⟩
 have T0:Dc B V (fun b=>F j b∨b=mb+1∨b=mb) (Fa (mb+1) mb) (Dd (E.made+1) level (j:Int) (now+1)):=ND bT bM (.inr (.inl rfl)) (.inr (.inr rfl))
 have ap0:AR P (fun b=>F j b∨b=mb+1∨b=mb):=by
  rintro b hb (e|e|e)
  ·exact HH.out.1.hole.pf j (by omega) b hb e
  ·have:=ex30.1.uP b hb;omega
  ·have:=ex30.1.uP b hb;omega
 have ex4:=ex30.1.only0 oV
 have v21_:=Ae V3 D.A.e 21 (.int .i64 (E.made+1)) (ex30.1.sh.eng.cell 21)
 have O4:Ah P w V:=((O2.out).trans ex30.2.1).trans (oV.any P)
 have z2:w.heap.size≤mb:=by rw[hmb];exact O2.out.size
 have lt4:=bT.lt
 have CK:=fun wz=>Hi (now+1) 0 wz (by omega) (by omega) (by omega) (by omega)
 have CC:=K7 ex4.drew 0 x (Bp (now+1) 0)
 have f0:=And.intro ex4.ca (Fi bT)
 have HX4:=Aa (And.intro ex4 (And.intro T0 (And.intro O4 ap0)))
 have hidn:∀id:Int,73+E.sh.slots*3+id=E.sh.pl id:=fun _=>rfl
 have hn1:=hfs.n1
 have hn2:=hfs.n2
 have HMB:=Aa hmb
 clear ex30 bT bM oV ap0 T0 O4 ex2 O2 ex4 hmb
 have v21:=Ae V3 D.A.e 21 (.int .i64 (E.made+1)) v21_
 go_upto_region 14 with(fail)
 rw[←hV3]
 clear hV3 c21 f21 cm
 go_upto_region 15 with(fail)
 rw[←hV]
 clear hV v21 sz3
 refine wp_region_held_drew (S:=(fun w'=>Ab w' D.A.e 2 (bp D.A.a)∧Ab w' (mb+1) 0 (.int .i64 (E.made+1))∧Ab w' (mb+1) 3 (.int .u64 (now+1)))) (by kernel_rfl) ?_ (fun hHeld=>?_)
 ·first|exact f0|exact f5
 refine Af 0 (h:=Af 1 (h:=Af 2 (h:=Af 3 (h:=Af 4 (h:=Af 5 (h:=Af 6 (h:=Af 7 (h:=Af 8 (h:=Ar (i:=9) (h:=fun K hK=>?_))))))))))
 go_simp
 (refine(CK _).mono ?_;rintro e5 w5 ⟨rfl,rfl⟩)
 try go_wp2_with fail
 refine AK hK (by first|exact f0|exact f5) (h:=fun hHeld=>?_);clear hK K
 refine Ar (i:=10) (h:=fun K hK=>?_)
 try simp only[List.getElem_toArray,List.getElem_cons_zero,List.getElem_cons_succ]
 go_simp
 (refine CC.mono ?_;rintro e5 w5 ⟨rfl,ex5,o5,m5⟩;have T5:=HX4.out.2.1.far (((Ac.refl V).drew.any P).trans o5) HX4.out.2.2.2.symm;have O5:=HX4.out.2.2.1.trans (((Ac.refl V).drew.any P).trans o5);have f5:=And.intro ex5.ca (Fi T5.blk);have H5:=Aa (And.intro ex5 (And.intro T5 O5));clear ex5 T5 O5 o5 m5 CC CK)
 try go_wp2_with fail
 refine AK hK (by first|exact f0|exact f5) (h:=fun hHeld=>?_);clear hK K
 refine wpAnyH_done (by kernel_rfl) ?_ _
 clear f0 hHeld
 have ex5:=H5.out.1
 have g0:=And.intro ex5.ca (And.intro (Fi H5.out.2.1.blk).1 ex5.cn)
 have CPl:=fun wz (hz:wz.cell? ⟨D.A.e,0,none⟩=some (.int .i64 E.sh.slots))=>BS D.A.e E.sh.slots (E.made+1) wz hz (by omega) (by omega) (by omega) (by omega)
 have CPk:=fun wz=>EW 1 0 wz (by omega) (by omega) (by omega) (by omega)
 have CSt:=Ie ex5.drew (E.sh.pl (E.made+1)) (Bc 1 0)
 have HSt:=Aa CSt
 clear CSt ex5
 go_upto_region 16 with(fail)
 go_cut [86,87,88,89,90,91,92,93,94,95,96,97] (fun _ _ _ _ _ _ _ _ _ _ _ _ wx=>Hid (EX B wx P (F j) (Do F j) D.A {Bk D E with made:=E.made+1} (E.sh.setA ((a2.cas 0 x (Bp (now+1) 0)).store (E.sh.pl (E.made+1)) (Bc 1 0)))∧Dc B wx (fun b=>F j b∨b=mb+1∨b=mb) (Fa (mb+1) mb) (Dd (E.made+1) level (j:Int) (now+1))∧Ah P w wx))
 case first=>
  refine wp_region_held_drew (S:=(fun w'=>Ab w' D.A.e 2 (bp D.A.a)∧Ab w' (mb+1) 0 (.int .i64 (E.made+1))∧Ab w' D.A.e 0 (.int .i64 E.sh.slots))) (by kernel_rfl) ?_ (fun hHeld=>?_)
  ·first|exact g0|exact g6
  refine Af 0 (h:=Af 1 (h:=Af 2 (h:=Af 3 (h:=Af 4 (h:=Af 5 (h:=Af 6 (h:=Af 7 (h:=Af 8 (h:=Ar (i:=9) (h:=fun K hK=>?_))))))))))
  go_simp
  (refine(CPl w5.drew g0.2.2).mono ?_;rintro e6 w6 ⟨rfl,rfl⟩)
  try go_wp2_with fail
  refine AK hK (by first|exact g0|exact g6) (h:=fun hHeld=>?_);clear hK K
  refine Ar (i:=10) (h:=fun K hK=>?_)
  try simp only[List.getElem_toArray,List.getElem_cons_zero,List.getElem_cons_succ]
  go_simp
  (refine(CPk _).mono ?_;rintro e6 w6 ⟨rfl,rfl⟩)
  try go_wp2_with fail
  refine AK hK (by first|exact g0|exact g6) (h:=fun hHeld=>?_);clear hK K
  refine Ar (i:=11) (h:=fun K hK=>?_)
  try simp only[List.getElem_toArray,List.getElem_cons_zero,List.getElem_cons_succ]
  go_simp
  (refine HSt.out.mono ?_;rintro e6 w6 ⟨rfl,ex6,o6,m6⟩;have T6:=H5.out.2.1.far (((Ac.refl w5).drew.any P).trans o6) HX4.out.2.2.2.symm;have O6:=H5.out.2.2.trans (((Ac.refl w5).drew.any P).trans o6);have g6:=And.intro ex6.ca (And.intro (Fi T6.blk).1 ex6.cn);have H6:=Aa (And.intro ex6 (And.intro T6 O6));clear ex6 T6 O6 o6 m6)
  try go_wp2_with fail
  refine AK hK (by first|exact g0|exact g6) (h:=fun hHeld=>?_);clear hK K
  refine wpAnyH_done (by kernel_rfl) ?_ _
  go_wp2_with fail
  go_meet
  case rel=>exact Aa H6.out
 have H6:=hcut
 clear hcut HSt g0
 have ex6:=H6.out.1
 have q0:=And.intro ex6.ca (Fi H6.out.2.1.blk).2
 have CSt:=Ie ex6.drew (1+(j:Int)) (now+1)
 have HSt:=Aa CSt
 clear CSt ex6
 go_upto_region 17 with(fail)
 refine wp_region_held_drew (S:=(fun w'=>Ab w' D.A.e 2 (bp D.A.a)∧Ab w' (mb+1) 3 (.int .u64 (now+1)))) (by kernel_rfl) ?_ (fun hHeld=>?_)
 ·first|exact q0|exact q7
 refine Af 0 (h:=Af 1 (h:=Af 2 (h:=Af 3 (h:=Af 4 (h:=Af 5 (h:=Af 6 (h:=Af 7 (h:=Af 8 (h:=Af 9 (h:=Ar (i:=10) (h:=fun K hK=>?_)))))))))))
 go_simp
 (refine HSt.out.mono ?_;rintro e7 w7 ⟨rfl,ex7,o7,m7⟩;have T7:=H6.out.2.1.far (((Ac.refl wc).drew.any P).trans o7) HX4.out.2.2.2.symm;have O7:=H6.out.2.2.trans (((Ac.refl wc).drew.any P).trans o7);have q7:=And.intro ex7.ca (Fi T7.blk).2;have H7:=Aa (And.intro ex7 (And.intro T7 O7));clear ex7 T7 O7 o7 m7)
 try go_wp2_with fail
 refine AK hK (by first|exact q0|exact q7) (h:=fun hHeld=>?_);clear hK K
 refine wpAnyH_done (by kernel_rfl) ?_ _
 clear q0 q7 hHeld HSt
 have ex7:=H7.out.1
 have c5:w7.cell? ⟨D.A.e,5+j,none⟩=some (.pointer none):=by
  rw[EX.tpc ex7 j hj]
  show some (Cj D E j)=_
  unfold Cj;rw[HH.out.2.2]
 have f5:=fun i=>ex7.sh.eng.free i
 have ex80:=ex7.setK (5+j) (bp (mb+1)) (K':={Bk D E with made:=E.made+1,tp:=AT (Cj D E) j (bp (mb+1))}) (NQ D.A {Bk D E with made:=E.made+1} _ j hj (bp (mb+1)))
 obtain⟨V8,hV8⟩:=Ad (w7.setCell ⟨D.A.e,5+j,none⟩ (bp (mb+1)))
 rw[←hV8]at ex80
 have T8:=H7.out.2.1.far ex80.2.1 HX4.out.2.2.2.symm
 have O8:=H7.out.2.2.trans ex80.2.1
 have CE:=IZ ex80.1.drew (by have:=hfs.tlen;show E.sh.tale.length≤_;omega) ⟨1,E.made+1,now+1,⟨0,0,0,level⟩,.zero⟩ none 0 (.inl rfl)
 have q0:=Fi T8.blk
 have H8:=Aa (And.intro T8 O8)
 have HCE:=Aa CE
 clear ex7 ex80 T8 O8 CE
 go_upto_region 19 with(fail)
 rw[←hV8]
 clear hV8 c5 f5
 have CE:=HCE.out
 unfold KY at CE
 refine wp_region_held_drew (S:=(fun w'=>Ab w' (mb+1) 0 (.int .i64 (E.made+1))∧Ab w' (mb+1) 3 (.int .u64 (now+1)))) (by kernel_rfl) ?_ (fun hHeld=>?_)
 ·first|exact q0|exact q9
 refine Af 0 (h:=Af 1 (h:=Af 2 (h:=Af 3 (h:=Af 4 (h:=Af 5 (h:=Af 6 (h:=Af 7 (h:=Af 8 (h:=Af 9 (h:=Af 10 (h:=Af 11 (h:=Ar (i:=12) (h:=fun K hK=>?_)))))))))))))
 go_simp
 (refine CE.mono ?_;rintro e9 w9 ⟨rfl,P9,A9,ex9,m9,o9,k9⟩;have T9:=H8.out.1.far (((Ac.refl V8).drew.any P).trans o9) HX4.out.2.2.2.symm;have O9:=H8.out.2.trans (((Ac.refl V8).drew.any P).trans o9);have q9:=Fi T9.blk;have H9:=Aa (And.intro ex9 (And.intro T9 (And.intro O9 (And.intro m9 k9))));clear ex9 T9 O9 m9 o9 k9)
 try go_wp2_with fail
 refine AK hK (by first|exact q0|exact q9) (h:=fun hHeld=>?_);clear hK K
 refine wpAnyH_done (by kernel_rfl) ?_ _
 clear q0 hHeld CE
 have q90:=Ae w9 (mb+1) 0 (.int .i64 (E.made+1)) q9.1
 clear q9
 go_upto_region 20 with(fail)
 go_wp2_with fail
 go_ret2
 rw[←hres.out]
 exact⟨rfl,Jz HH.out.1 j hj hu H9.out.1 rfl rfl H9.out.2.1 H9.out.2.2.1 H8.out.2.size H9.out.2.2.2.1 H9.out.2.2.2.2 z2 H8.out.1.blk.lt HX4.out.2.2.2⟩):P:=h
theorem SL{P:Prop}(h:P:=by
 obtain⟨c13,c5,cops,d0,d1,d2,d3⟩:=HC2.out W3 O4.out
 clear o3 CEn
 have EX3:=Aa ((HA.out.1.exs j (by omega)).only0 (HA.out.2.2.2.2.2.1.trans O4.out))
 have M3:=Aa (Ag.only0 P (F j) (HA.out.2.2.2.2.2.1.trans O4.out))
 have BX3:=Aa (O4.out.blk HA.out.2.2.2.2.2.2.1 (fun e=>e))
 have T3:=Aa (HA.out.2.2.2.2.2.2.2.far (HA.out.2.2.2.2.2.1.trans O4.out) (fun b _ e=>e))
 clear O2 c13 c5 cops d0 d1 d2 d3
 have v22:=Ae W3 D.A.e 22 (.int .i64 E.seq) (EX3.out.sh.eng.cell 22)
 have f22:=fun i=>EX3.out.sh.eng.free i
 have ex40:=EX3.out.setK 22 (.int .i64 (E.seq+1)) (K':={Bk D E with seq:=E.seq+1}) rfl
 obtain⟨V4,hV4⟩:=Ad (W3.setCell ⟨D.A.e,22,none⟩ (.int .i64 (E.seq+1)))
 rw[←hV4]at ex40
 obtain⟨ex4,oP4,m4⟩:=ex40
 have T4:=T3.out.far oP4 (HA.out.1.hole.pf j (by omega)).symm
 have B4:=oP4.blk BX3.out (fun e=>by have:=HA.out.1.ex.uP _ e;rw[HN.out]at this;omega)
 obtain⟨cb,hcb⟩:=Ad V4.heap.size
 obtain⟨V,hV⟩:=Ad ((V4.alloc (.cells #[kind,key,hi,value,.nilFunc,.int .i64 0,.int .i64 0,.slice none 0 0,.int .i64 0,.int .i64 0,.bool false,.bool false,.int .i64 (E.seq+1)] 127)).drew)
 have oV:Ac V4 V:=by rw[hV];exact((Ac.refl V4).alloc _).drew
 have bC:Am V cb 127 (BW (GH (D.S j) cb) (Bz ⟨kind,key,hi,value⟩ (E.seq+1)) .nilFunc):=by rw[hV,hcb];exact(Am.new _ _ _).drew
 have szw:w.heap.size≤cb:=by rw[hcb];exact Nat.le_trans M3.out.o.size m4.o.size
 have hPcb:¬P cb:=fun e=>by have:=HA.out.1.ex.uP _ e;omega
 have cx:=NJ (op:=⟨kind,key,hi,value⟩) (seq:=E.seq+1) (cb:=cb) HA.out.1 hj (ex4.only0 oV) (T4.far oV (fun b _ e=>e)) (Nat.le_trans M3.out.o.size (Nat.le_trans m4.o.size oV.size)) bC szw hPcb
 have hXe:(⟨E.sh,t,Bz ⟨kind,key,hi,value⟩ (E.seq+1)⟩:Cx)=X:=by rw[HA.out.2.2.2.1];rw[hmore]
 rw[hXe]at cx
 have mV:Ag w V P (F j) P (fun b=>F j b∨b=cb):=⟨(M3.out.trans (m4.trans (Ag.only0 P (F j) oV))).o,AC.refl _ _,fun b hb=>hb.imp (fun q=>q) (fun q=>by omega)⟩
 have c24:=Ae V4 D.A.e 22 (.int .i64 (E.seq+1)) (ex4.sh.eng.cell 22)
 have d0:=Ae V4 n0 0 (.int .i64 kind) (B4.cell 0)
 have d1:=Ae V4 n0 1 (.int .i64 key) (B4.cell 1)
 have d2:=Ae V4 n0 2 (.int .i64 hi) (B4.cell 2)
 have d3:=Ae V4 n0 3 (.int .i64 value) (B4.cell 3)
 have CF1:=IP cx HA.out.2.2.2.2.1 (by omega) (by rw[HA.out.2.2.2.1];exact HPm.out)
 rw[HR.out]at CF1
 have CF:Calls Tryz.prog 80 #[bp D.A.e,bp (D.S j).t,bp cb] V (Ak B V P (fun b=>F j b∨b=cb) (Do F j) D.A {Bk D E with seq:=E.seq+1} (GH (D.S j) cb) .nilFunc r.1 (some r.2)):=CF1
 clear CF1
 have vt:V.cell? ⟨D.A.e,13+j,none⟩=some (.pointer none):=by
  exact SG
 have HV:=Aa (And.intro cx (And.intro mV hPcb))
 have HCB:=Aa hcb
 clear cx mV ex4 oP4 m4 T4 B4 oV bC szw hPcb hXe hcb
 go_upto_region 10 with(fail)
 go_upto_region 11 with(fail)
 rw[←hV4]
 clear hV4 v22 f22
 go_region
 go_upto_region 12 with(fail)
 rw[←hV,←HCB.out]
 clear hV
 go_wp2_with fail
 ((with_reducible refine CF.mono ?_))
 rintro e w6 r6
 obtain⟨P1,Q1,A1,S1,v1,rfl,cx1,nx1,m1,k1⟩:=r6
 clear CF
 obtain⟨fn,bd,cp0,hv1⟩:=BP.func (show BP w6 P1 Q1 (Do F j) A1 S1 r.1 r.2 v1 from nx1)
 subst hv1
 have hblk:=cx1.cl.blk
 have c4:=Ae w6 cb 4 .nilFunc (by have:=hblk.cell 4;rw[k1.c]at this;exact this)
 have cfr:∀i,w6.frozen? ⟨cb,i,none⟩=false:=fun i=>by have:=hblk.free i;rw[k1.c]at this;exact this
 have cxU0:=cx1.setF 4 (.func (.func fn) bd cp0) (c':=r.1.c) (nx':= .func (.func fn) bd cp0) rfl rfl
 rw[k1.c]at cxU0
 obtain⟨U,hU⟩:=Ad (w6.setCell ⟨cb,4,none⟩ (.func (.func fn) bd cp0))
 have cxU1:CX B U P1 Q1 (Do F j) A1 {Bk D E with seq:=E.seq+1} S1 (.func (.func fn) bd cp0) r.1∧Ag w6 U P1 Q1 P1 Q1:=by rw[hU];exact cxU0
 obtain⟨cxU,mU⟩:=cxU1
 clear cxU0 hblk
 have ufr:∀i,U.frozen? ⟨D.A.e,i,none⟩=false:=fun i=>by have:=cxU.sh.eng.free i;rw[k1.e]at this;exact this
 have u13:U.cell? ⟨D.A.e,13+j,none⟩=some (.pointer none):=by
  exact SS
 have cxY0:=cxU.setK (13+j) (bp cb) (K':={Bk D E with seq:=E.seq+1,cp:=AT (Cm D E) j (bp cb)}) (Lf A1 {Bk D E with seq:=E.seq+1} _ j hj (bp cb))
 rw[k1.e]at cxY0
 obtain⟨cxY,mY⟩:=cxY0
 have stY:=(show BP w6 P1 Q1 (Do F j) A1 S1 r.1 r.2 (.func (.func fn) bd cp0) from nx1).pass ((mU.trans mY).pass _) rfl rfl
 have HZ:=Aa (Lp HA.out.1 hj HA.out.2.2.1 (seq:=E.seq+1) (cb:=cb) cxY stY (HV.out.2.1.trans (m1.trans (mU.trans mY))) k1 rfl)
 clear cx1 nx1 m1 k1 cxU mU cxY mY stY
 go_upto_region 13 with(fail)
 rw[←hU]
 clear hU c4 cfr
 go_wp2_with fail
 go_ret
 exact⟨rfl,HZ.out⟩):P:=h
theorem Tz{P:Prop}(h:P:=by
 go_enter Tryz.func34,Tryz.ntmps34
 go_wp2_with fail
 refine CS.mono ?_
 rintro e w1 ⟨rfl,rfl⟩
 go_wp2_with fail
 refine CL.mono ?_
 rintro e w1 ⟨rfl,rfl⟩
 go_wp2_with fail
 go_ret2
 exact⟨rfl,HR.out⟩):P:=h
theorem UT{P:Prop}(h:P:=by
 have hf:f<6:=by
  have:=(List.getElem?_eq_some_iff.1 hv).1
  rw[Cp]at this;exact this
 rw[H'.cellAt (i*6+f) (by omega)]
 unfold CQ
 rw[Bu (fun k=>Cp _ _ _) _ _ _ hi hf]
 exact hv):P:=h
theorem Uv{P:Prop}(h:P:=by
 refine bodyPost_ret (BB Tryz.results36 _ _ n0 _ _ _ _ (.int .i64 0) rfl rfl B9 Tryz.underlying129 rfl Fp) rfl ?_
 rw[HS.out]
 exact(HR.out _ o9).noRow rfl):P:=h
theorem T_{P:Prop}(h:P:=by
 have hk:(0≤op.key∧op.key≤63)∧(0≤op.hi∧op.hi≤63)∧(0≤op.value∧op.value≤65535):=by
  unfold AF A0 at h
  split at h
  ·simp at h;omega
  ·split at h
   ·simp at h;omega
   ·split at h
    ·simp at h;omega
    ·split at h
     ·simp at h;omega
     ·simp at h
 exact⟨hk.1,hk.2.1,hk.2.2,Nat.zero_le _⟩):P:=h
theorem S_{P:Prop}(h:P:=by
 go_enter Tryz.func37,Tryz.ntmps37
 go_upto_region 1 with(fail)
 rw[←hW,←HN.out]
 clear hW
 go_wp2_with fail
 refine CS.mono ?_
 rintro e w1 ⟨rfl,rfl⟩
 go_wp2_with fail
 go_ret
 exact⟨rfl,Bg.same HE.out HO.out⟩):P:=h
theorem Ly{P:Prop}(h:P:=by
 exact⟨q.id1,q.id2,q.lv,q.s1,q.beg,q.fin,q.klen,q.rlen,q.blen,q.keys,q.cell,q.read,q.bond⟩):P:=h
theorem Sl{P:Prop}(h:P:=by
 injection e with e1 e2 e3
 exact⟨.inl (List.eq_nil_of_length_eq_zero h0),by omega⟩):P:=h
theorem Tw{P:Prop}(h:P:=by
 show AT E.ses s.toNat _ j=none
 rw[Ap _ _ _ (by omega)];exact h.none j hj):P:=h
theorem SG{P:Prop}(h:P:=by
 rw[EX.cpc cx.toEX j hj]
 show some (Cm D E j)=_
 unfold Cm;rw[HA.out.2.2.1]):P:=h
theorem TJ{P:Prop}(h:P:=by
 show AM _ ((List.replicate _ (0:Int)).getD _ 0)
 rw[Jf];exact AM.zero _):P:=h
theorem UX{P:Prop}(h:P:=by
 rw[List.length_replicate]
 refine Df n (fun i hi=>?_)
 rw[List.getD_eq_getElem?_getD,List.getElem?_replicate,if_pos hi];rfl):P:=h
theorem Td{P:Prop}(h:P:=by
 have own8b:=Ni own8 hsz
 exact AD own8b o9 (fun b hb e=>by subst e;exact Bn own8b H8.out (by decide) hb)):P:=h
theorem Ta{P:Prop}(h:P:=by
 by_cases e:j=s
 ·subst e;rw[Au]at hx1;cases hx1;exact me
 ·rw[Ap _ _ _ e]at hx1;exact oth j x hx1):P:=h
theorem SS{P:Prop}(h:P:=by
 have:=EX.cpc cxU.toEX j hj
 rw[k1.e]at this
 rw[this]
 show some (Cm D E j)=_
 unfold Cm;rw[HA.out.2.2.1]):P:=h
theorem zC{P:Prop}(h:P:=by
 clear o2
 go_wp2_with fail
 go_ret
 exact⟨rfl,Bg.same HE.out O2.out⟩):P:=h
theorem US{P:Prop}(h:P:=by
 show AT E.ses s _ j=none
 rw[Ap _ _ _ (by omega)];exact h.none j hj):P:=h
theorem Uh{P:Prop}(h:P:=by
 rcases hb with hb|rfl
 ·exact h.aR b hb
 ·exact(hown.lt b rfl).1):P:=h
theorem UZ{P:Prop}(h:P:=by
 rw[EX.tpc ex2 j hj]
 show some (Cj D E j)=_
 unfold Cj;rw[hu]):P:=h
theorem TQ{P:Prop}(h:P:=by
 rw[List.getD_eq_getElem?_getD,List.getElem?_replicate];split<;>rfl):P:=h
theorem Ag.pass{w w':World}{P Q P' Q':Nat→Prop}(m:Ag w w' P Q P' Q')(R:Nat→Prop):EF w w' P Q R P' Q' R:=
 ⟨m.o.size,fun g hg hp hq hr=>⟨⟨(m.far hg hp hq).1,(m.far hg hp hq).2,hr⟩,m.o.block g hg (fun e=>e.elim hp hq)⟩⟩
theorem Rn{D:DB}{E:En}{j:Nat}(hj:j<8){A1:EA}{S1:SA}{v1:Value}(kt:S1.t=(D.S j).t)(kc:S1.c=(D.S j).c)(x:Option Kx)(L:Int)(S2:Sh){tp cp:Value}
 (htp:tp=match x with|none=> .pointer none|some _=>bp (D.S j).t) (hcp:cp=match x with|some ⟨_,some _⟩=>bp (D.S j).c|_=> .pointer none):
 Bk ⟨A1,AT D.S j S1,AT D.nx j v1,D.sv,D.la,D.lc⟩ {E with sh:=S2,looks:=L,ses:=AT E.ses j x}={Bk D E with looks:=L,tp:=AT (Cj D E) j tp,cp:=AT (Cm D E) j cp}:=by
 have e1:Cj ⟨A1,AT D.S j S1,AT D.nx j v1,D.sv,D.la,D.lc⟩ {E with sh:=S2,looks:=L,ses:=AT E.ses j x}=AT (Cj D E) j tp:=by
  funext i
  unfold Cj
  by_cases e:i=j
  ·subst e
   simp only[Au]
   rw[htp,kt]
   cases x<;>rfl
  ·simp only[Ap _ _ _ e]
 have e2:Cm ⟨A1,AT D.S j S1,AT D.nx j v1,D.sv,D.la,D.lc⟩ {E with sh:=S2,looks:=L,ses:=AT E.ses j x}=AT (Cm D E) j cp:=by
  funext i
  unfold Cm
  by_cases e:i=j
  ·subst e
   simp only[Au]
   rw[hcp,kc]
   cases x with
   |none=>rfl
   |some y=>obtain⟨yt,yc⟩:=y;cases yc<;>rfl
  ·simp only[Ap _ _ _ e]
 unfold Bk
 rw[e1,e2]
theorem A6.closeT{B:Nat}{w w':World}{P:Nat→Prop}{F:Nat→Nat→Prop}{D:DB}{E:En}{s:Nat}(h:A6 B w P F D E)(hs:s<8){P' Q':Nat→Prop}{D':DB}{E':En}(m:Ag w w' P (F s) P' Q')(ap:AR P' Q')(uQ:Bo Q' w'.heap.size)(aQ:Cz Q' B)(kA:D'.A.e=D.A.e)
 (kS:∀j,j≠s→D'.S j=D.S j∧D'.nx j=D.nx j) (kE:∀j,j≠s→E'.ses j=E.ses j) (kW:E'.sw=E.sw∧D'.sv=D.sv∧D'.la=D.la∧D'.lc=D.lc∧E'.lim=E.lim)
 (hx:EX B w' P' Q' (Do F s) D'.A (Bk D' E') E'.sh) (ht:∀x,E'.ses s=some x→Dc B w' Q' (D'.S s) x.t)
 (hc:∀t c k,E'.ses s=some ⟨t,some (c,k)⟩→Gm B w' Q' (D'.S s) c (D'.nx s)∧BP w' P' Q' (Do F s) D'.A (D'.S s) ⟨E'.sh,t,c⟩ k (D'.nx s)) {T:Nat→Prop} (hT:∀b,T b→¬P' b∧¬Q' b∧¬MS F b):Hm B w P F D T E' w':=by
 have hm:=(h.hole.mk9 s).move (by omega) h.ex.uP m ap uQ aQ kA kS kE (fun _=>kW)
 refine⟨P',Fr F s Q',D',A6.back hm hs ?_ (fun x hx=>?_) (fun t c k hx=>?_),kA,m.o.mono (fun b _ hb=>hb.elim .inl (fun x=> .inr (.inl ⟨s,hs,x⟩))),LJ m.gp m.gq hs kW.2.2.1,fun b hb=>by rw[AX _ _ (by omega)];exact hb,?_⟩
 ·rw[A3,ES];exact hx
 ·rw[A3];exact ht x hx
 ·rw[A3,ES];exact hc t c k hx
 ·rintro b (hb|⟨i,hi,hb⟩) hbT
  ·exact(hT b hbT).1 hb
  ·by_cases e:i=s
   ·subst e;rw[A3]at hb;exact(hT b hbT).2.1 hb
   ·rw[AX _ _ e]at hb;exact(hT b hbT).2.2 ⟨i,hi,hb⟩
theorem Hm.no{B:Nat}{w w':World}{P:Nat→Prop}{F:Nat→Nat→Prop}{D:DB}{E:En}{T:Nat→Prop}(h:Hm B w P F D T E w'):Bg B w P F D E w':=by
 obtain⟨P',F',D',h1,h2,h3,h4,h5,_⟩:=h
 exact⟨P',F',D',h1,h2,h3,h4,h5⟩
theorem Lf(A:EA)(K:EK)(s:Sh)(j:Nat)(hj:j<8)(v:Value):Fd A {K with cp:=AT K.cp j v} s=(Fd A K s).setIfInBounds (13+j) v:=by
 match j,hj with
 |0,_=>rfl
 |1,_=>rfl
 |2,_=>rfl
 |3,_=>rfl
 |4,_=>rfl
 |5,_=>rfl
 |6,_=>rfl
 |7,_=>rfl
theorem NQ(A:EA)(K:EK)(s:Sh)(j:Nat)(hj:j<8)(v:Value):Fd A {K with tp:=AT K.tp j v} s=(Fd A K s).setIfInBounds (5+j) v:=by
 match j,hj with
 |0,_=>rfl
 |1,_=>rfl
 |2,_=>rfl
 |3,_=>rfl
 |4,_=>rfl
 |5,_=>rfl
 |6,_=>rfl
 |7,_=>rfl
theorem EE(ps:List (Int×Int))(i:Nat)(hi:i<ps.length):(AJ ps)[i*2]? =some (.int .i64 (ps.getD i (0,0)).1)∧(AJ ps)[i*2+1]? =some (.int .i64 (ps.getD i (0,0)).2):=by
 induction ps generalizing i with
 |nil=>simp at hi
 |cons p l ih=>
  cases i with
  |zero=>exact⟨rfl,rfl⟩
  |succ i=>
   have hi':i<l.length:=by simpa using hi
   have:=ih i hi'
   rw[show(i+1)*2=i*2+1+1 by omega]
   simpa[AJ]using this
theorem Nw{w:World}{tb cb:Nat}{S S':SA}{t:Dq}{c:Cw}{nx:Value}{id:Int}(h:Am w tb 123 (Ep S t))(k:Am w cb 127 (BW S' c nx))(hi:t.id=id)(hz:c.r.over=0):
 Ab w tb 0 (.int .i64 id)∧Ab w cb 0 (.int .i64 c.op.kind)∧Ab w cb 1 (.int .i64 c.op.key)∧Ab w cb 2 (.int .i64 c.op.hi)∧Ab w cb 3 (.int .i64 c.op.value)∧Ab w cb 5 (.int .i64 c.r.e)∧Ab w cb 6 (.int .i64 c.r.value)∧Ab w cb 7 (.slice S'.qa c.r.pairs.length S'.qc)∧Ab w cb 8 (.int .i64 0)∧Ab w cb 9 (.int .i64 c.r.reason):=by
 rw[←hi,←hz]
 exact⟨h.cell 0,k.cell 0,k.cell 1,k.cell 2,k.cell 3,k.cell 5,k.cell 6,k.cell 7,k.cell 8,k.cell 9⟩
theorem Mk(g k:Nat):(⟨g,0,none⟩:Addr).add k=⟨g,0+k,none⟩:=by by_cases h:k=0<;>simp[Addr.add,h]
theorem AU.fresh{w w6:World}{P Q R:Nat→Prop}{a:Option Addr}{c n:Nat}{ps:List (Int×Int)}(h:w6.ownsRow w.heap.size 77 2 (.slice a n c) n (AJ ps))(hn:n=ps.length)(uP:Bo P w.heap.size)(uQ:Bo Q w.heap.size)(uR:Bo R w.heap.size):AU w6 P Q R a ps:=by
 rcases h.2 with⟨e,h0⟩|⟨g,cap,cur,e,hg,hh,_⟩
 ·left
  subst h0
  exact List.eq_nil_of_length_eq_zero hn.symm
 ·cases e
  refine .inr ⟨g,0,cur,rfl,fun hb=>by have:=uP g hb;omega,fun hb=>by have:=uQ g hb;omega,fun hb=>by have:=uR g hb;omega,hh,fun i hi=>?_⟩
  have hc:=h.cells (g:=g) rfl
  obtain⟨e1,e2⟩:=EE ps i hi
  have q1:=hc _ _ e1
  have q2:=hc _ _ e2
  rw[Mk]at q1 q2
  exact⟨q1,q2⟩
theorem A6.back1{B:Nat}{w:World}{P:Nat→Prop}{F:Nat→Nat→Prop}{D:DB}{E:En}(h:A6 B w P F D E){j:Nat}(hj:j<8){n0:Nat}{Y w9:World}{P1 Q1:Nat→Prop}{A1:EA}{K2:EK}{S1:SA}{v1:Value}{X1:Cx}
 (cx:CX B Y P1 Q1 (fun b=>Do F j b∨b=n0) A1 K2 S1 v1 X1) (m:Ag w Y P (F j) P1 Q1) (kp:At D.A A1 (D.S j) S1) (o9:Ah (fun b=>b=n0) Y w9) (hn:w.heap.size≤n0) (hP:¬P1 n0) (hQ:¬Q1 n0)
 (x:Option Kx) (L:Int) {tp cp:Value} (htp:tp=match x with|none=> .pointer none|some _=>bp (D.S j).t) (hcp:cp=match x with|some ⟨_,some _⟩=>bp (D.S j).c|_=> .pointer none)
 (hK:K2={Bk D E with looks:=L,tp:=AT (Cj D E) j tp,cp:=AT (Cm D E) j cp})
 (hx:∀t c,x=some ⟨t,c⟩→t=X1.t∧∀c' k',c=some (c',k')→c'=X1.c∧BP Y P1 Q1 (fun b=>Do F j b∨b=n0) A1 S1 X1 k' v1) {T:Nat→Prop} (hT:∀b,T b→¬P1 b∧¬Q1 b∧¬MS F b):Hm B w P F D T {E with sh:=X1.sh,looks:=L,ses:=AT E.ses j x} w9:=by
 have apP:AR P1 (fun b=>b=n0):=fun b hb e=>hP (by rw[←e];exact hb)
 have apQ:AR Q1 (fun b=>b=n0):=fun b hb e=>hQ (by rw[←e];exact hb)
 have o9':Ah (fun b=>b=n0) Y w9:=o9
 have m9:Ag w w9 P (F j) P1 Q1:=⟨by
  refine⟨o9.os.trans m.o.os,o9.tape.trans m.o.tape,o9.output.trans m.o.output,Nat.le_trans m.o.size o9.size,fun b hb hb2=>?_⟩
  rw[o9.block b (Nat.lt_of_lt_of_le hb m.o.size) (fun e=>by omega)]
  exact m.o.block b hb hb2,m.gp,m.gq⟩
 have ex:=((cx.toEX.far o9 apP (fun b hb=> .inr (.inr hb))).conv (Q':=Q1) (R':=Do F j) (fun b hb=> .inl hb) (fun b hb=> .inr (.inl hb)))
 have hek:=Rn (D:=D) (E:=E) hj (A1:=A1) (S1:=S1) (v1:=v1) kp.t kp.c x L X1.sh htp hcp
 rw[hK,←hek]at ex
 refine A6.closeT (hT:=hT) (E':={E with sh:=X1.sh,looks:=L,ses:=AT E.ses j x}) (D':=⟨A1,AT D.S j S1,AT D.nx j v1,D.sv,D.la,D.lc⟩) h hj m9 cx.ap (cx.uQ.mono o9.size) cx.aQ kp.e (fun i hi=>⟨Ap _ _ _ hi,Ap _ _ _ hi⟩) (fun i hi=>Ap _ _ _ hi) ⟨rfl,rfl,rfl,rfl,rfl⟩ ex (fun y hy=>?_) (fun t c k hy=>?_)
 ·have hy':AT E.ses j x j=some y:=hy
  rw[Au]at hy'
  obtain⟨ty,cy⟩:=y
  have:=(hx ty cy hy').1
  show Dc B w9 Q1 (AT D.S j S1 j) ty
  rw[Au,this]
  exact cx.tx.far o9 apQ
 ·have hy':AT E.ses j x j=some ⟨t,some (c,k)⟩:=hy
  rw[Au]at hy'
  obtain⟨e1,e2⟩:=hx t _ hy'
  obtain⟨e3,e4⟩:=e2 c k rfl
  show Gm B w9 Q1 (AT D.S j S1 j) c (AT D.nx j v1 j)∧BP w9 P1 Q1 (Do F j) A1 (AT D.S j S1 j) ⟨X1.sh,t,c⟩ k (AT D.nx j v1 j)
  rw[Au,Au,e1,e3]
  refine⟨cx.cl.far o9 apQ,?_⟩
  exact e4.pass ⟨o9.size,fun g hg hp hq hr=>⟨⟨hp,hq,fun e=>hr (.inl e)⟩,o9.block g hg (fun e=>hr (.inr e))⟩⟩ rfl rfl
theorem OB{B N:Nat}{w:World}{P:Nat→Prop}{F:Nat→Nat→Prop}{D:DB}{E:En}(h:A6 B w P F D E)(hf:As N E)(hN:256≤N)(hN2:N≤30000000)(j:Nat)(hj:j<8){t:Dq}{c:Cw}{k:Da}(he:E.ses j=some ⟨t,some (c,k)⟩):
 Calls Tryz.prog 36 #[bp D.A.e,.int .i64 (j:Int)] w (FW B w P F D (E.step (j:Int)).1 (E.step (j:Int)).2.1 (E.step (j:Int)).2.2):=by
 obtain⟨W,hW⟩:=Ad (w.alloc (.cells #[.int .i64 0,.int .i64 0,.int .i64 0,.slice none 0 0,.int .i64 0,.int .i64 0] 129))
 have oW:Ac w W:=by rw[hW];exact(Ac.refl w).alloc _
 have BX:Am W w.heap.size 129 #[.int .i64 0,.int .i64 0,.int .i64 0,.slice none 0 0,.int .i64 0,.int .i64 0]:=by rw[hW];exact Am.new _ _ _
 obtain⟨n0,hn0⟩:=Ad w.heap.size
 have HN:=Aa hn0
 rw[←hn0]at BX
 have CS:=E5 (j:Int) W
 rw[show Be (j:Int)=true by simp[Be];omega]at CS
 have j8:(j:Int)<8:=by omega
 have j0:(0:Int)≤(j:Int):=by omega
 have hstep:E.step (j:Int)=((E.stepped j t (Ay ⟨E.sh,t,{c with waits:=false}⟩ k) (RowKit.wrap64 (E.looks+RowKit.wrap64 ((Ay ⟨E.sh,t,{c with waits:=false}⟩ k).1.sh.a.cnt-E.sh.a.cnt)))).1,0,(E.stepped j t (Ay ⟨E.sh,t,{c with waits:=false}⟩ k) (RowKit.wrap64 (E.looks+RowKit.wrap64 ((Ay ⟨E.sh,t,{c with waits:=false}⟩ k).1.sh.a.cnt-E.sh.a.cnt)))).2):=by
  unfold En.step
  rw[show Be (j:Int)=true by simp[Be];omega,if_neg (by simp),Int.toNat_natCast,he]
 have hcl:=hf.cl j t c k he
 have hX1:Ax N ⟨E.sh,t,{c with waits:=false}⟩:=⟨hf.sh,(hf.tx j _ he).1,⟨hcl.cl.key,hcl.cl.hi,hcl.cl.val,hcl.cl.plen⟩⟩
 have hOK:=Lw hX1 hN hN2 hcl.ro (hcl.stp.waits false)
 obtain⟨cxW,stW⟩:=h.cxN hj he oW (n0:=n0) (by rw[hn0];exact Nat.le_refl _) (by rw[hn0,hW];simp)
 have cj:W.cell? ⟨D.A.e,13+j,none⟩=some (bp (D.S j).c):=by
  have:=EX.cpc (h.ex.only0 oW) j hj
  rw[this]
  show some (Cm D E j)=_
  unfold Cm;rw[he]
 have ct:W.cell? ⟨D.A.e,5+j,none⟩=some (bp (D.S j).t):=by
  have:=EX.tpc (h.ex.only0 oW) j hj
  rw[this]
  show some (Cj D E j)=_
  unfold Cj;rw[he]
 have cA:=Ae W D.A.e 2 (bp D.A.a) cxW.ca
 obtain⟨V,hV⟩:=Ad ((W.setCell ⟨(D.S j).c,10,none⟩ (.bool false)).drew)
 have cxV0:=cxW.setF 10 (.bool false) (c':={c with waits:=false}) (nx':=D.nx j) rfl rfl
 have cxV:CX B V P (F j) (fun b=>Do F j b∨b=n0) D.A (Bk D E) (D.S j) (D.nx j) ⟨E.sh,t,{c with waits:=false}⟩:=by rw[hV];exact cxV0.1.drew
 have mV:Ag W V P (F j) P (F j):=by rw[hV];exact cxV0.2.trans (Ag.only0 P (F j) (Ac.refl _).drew)
 clear cxV0
 have stV:BP V P (F j) (fun b=>Do F j b∨b=n0) D.A (D.S j) ⟨E.sh,t,{c with waits:=false}⟩ k (D.nx j):=
  (stW.waits false).pass (mV.pass _) rfl rfl
 have c10:=Ae W ((D.S j).c) 10 (.bool c.waits) (cxW.cl.blk.cell 10)
 have cfr:=fun i=>cxW.cl.blk.free i
 have CC:=Ey cxV.sh.ar
 have vA:=Ae V D.A.e 2 (bp D.A.a) cxV.ca
 have vN:=Ae V ((D.S j).c) 4 (D.nx j) (cxV.cl.blk.cell 4)
 obtain⟨fn,bnd,cap,hv,hbc,hcf,CT⟩:=RG cxV hX1 (by omega) (fun e=>(hf.pm e).1) (hcl.stp.waits false) stV
 rw[hv]at vN
 have HV:=Aa hv
 have mW:Ag w V P (F j) P (F j):=((Ag.only0 P (F j) oW).trans mV)
 have BV:Am V n0 129 #[.int .i64 0,.int .i64 0,.int .i64 0,.slice none 0 0,.int .i64 0,.int .i64 0]:=by
  rw[hV];refine Am.drew (BX.other _ _ (fun e=>by have:=h.hole.uF j (by omega) _ ((h.cx hj he).cl.qc);rw[hn0]at e;have e':w.heap.size=(D.S j).c:=e;omega))
 have hn0P:¬P n0:=fun e=>by have:=h.ex.uP _ e;omega
 have hn0F:¬F j n0:=fun e=>by have:=h.hole.uF j (by omega) _ e;omega
 have HH:=Aa (And.intro h (And.intro hf (And.intro he (And.intro hn0P (And.intro hn0F (And.intro BV (And.intro mW hOK)))))))
 rw[hstep]
 obtain⟨r,hr⟩:∃r,Ay ⟨E.sh,t,{c with waits:=false}⟩ k=r:=⟨_,rfl⟩
 rw[hr]at CT HH ⊢
 obtain⟨X1,o1⟩:=r
 dsimp only
 obtain⟨L,hL0⟩:=Aq (RowKit.wrap64 (E.looks+RowKit.wrap64 (X1.sh.a.cnt-E.sh.a.cnt)))
 have hL:IntKind.i64.wrap (E.looks+IntKind.i64.wrap (X1.sh.a.cnt-E.sh.a.cnt))=L:=by rw[←hL0];unfold RowKit.wrap64;simp only[IntKind.wrap_i64]
 rw[hL0]
 clear hL0
 have HCV:=Aa cxV
 clear hcl hX1 hOK cxW stW cxV stV hstep h hf he BX oW hn0 BV mV mW hr hv hn0P hn0F
 go_enter Tryz.func36,Tryz.ntmps36
 go_upto_region 1 with(fail)
 rw[←hW,←HN.out]
 clear hW
 go_wp2_with fail
 refine CS.mono ?_
 rintro e w1 ⟨rfl,rfl⟩
 clear CS
 go_wp2_with fail
 go_region
 go_upto_region 7 with(fail)
 rw[←hV]
 clear hV cj ct cA c10 cfr
 go_wp2_with fail
 refine CC.mono ?_
 rintro e w1 ⟨rfl,rfl⟩
 clear CC
 go_wp2_with fail
 refine CT.mono ?_
 rintro e w1 r1
 obtain⟨P1,Q1,A1,S1,v1,rfl,cx1,nx1,m1,k1⟩:=r1
 clear CT
 have hblk:=cx1.cl.blk
 have c4:=Ae w1 ((D.S j).c) 4 (.func (.func fn) bnd cap) (by rw[←k1.c];have:=hblk.cell 4;rw[this];show some (D.nx j)=_;rw[HV.out])
 have cfr:∀i,w1.frozen? ⟨(D.S j).c,i,none⟩=false:=fun i=>by rw[←k1.c];exact hblk.free i
 have cxU0:=cx1.setF 4 v1 (c':=X1.c) (nx':=v1) rfl rfl
 rw[k1.c]at cxU0
 obtain⟨U,hU⟩:=Ad (w1.setCell ⟨(D.S j).c,4,none⟩ v1)
 rw[←hU]at cxU0
 have cxU:CX B U P1 Q1 (fun b=>Do F j b∨b=n0) A1 (Bk D E) S1 v1 X1:=cxU0.1
 have mU:=cxU0.2
 clear cxU0 hblk
 have uA:=Ae U D.A.e 2 (bp D.A.a) (by rw[←k1.e,←k1.a];exact cxU.ca)
 have uL:=Ae U D.A.e 23 (.int .i64 E.looks) (by rw[←k1.e];exact cxU.sh.eng.cell 23)
 have ufr:∀i,U.frozen? ⟨D.A.e,i,none⟩=false:=fun i=>by rw[←k1.e];exact cxU.sh.eng.free i
 have CC:=Ey cxU.drew.sh.ar
 rw[k1.a]at CC
 have cxY0:=cxU.setK 23 (.int .i64 L) (K':={Bk D E with looks:=L}) rfl
 rw[k1.e]at cxY0
 obtain⟨Y,hY⟩:=Ad ((U.setCell ⟨D.A.e,23,none⟩ (.int .i64 L)).drew)
 have cxY:CX B Y P1 Q1 (fun b=>Do F j b∨b=n0) A1 {Bk D E with looks:=L} S1 v1 X1:=by rw[hY];exact cxY0.1.drew
 have mY:Ag U Y P1 Q1 P1 Q1:=by rw[hY];exact cxY0.2.trans (Ag.only0 P1 Q1 (Ac.refl _).drew)
 clear cxY0
 have m1Y:=mU.trans mY
 have nP1:¬P1 n0:=fun e=>by rcases m1.gp n0 e with e|e;exact HH.out.2.2.2.1 e;have:=HH.out.2.2.2.2.2.1.lt;omega
 have nQ1:¬Q1 n0:=fun e=>by rcases m1.gq n0 e with e|e;exact HH.out.2.2.2.2.1 e;have:=HH.out.2.2.2.2.2.1.lt;omega
 have B1:=m1.o.blk HH.out.2.2.2.2.2.1 (fun e=>e.elim HH.out.2.2.2.1 HH.out.2.2.2.2.1)
 have BY:=m1Y.o.blk B1 (fun e=>e.elim nP1 nQ1)
 have mAll:Ag w Y P (F j) P1 Q1:=HH.out.2.2.2.2.2.2.1.trans (m1.trans m1Y)
 have y10:=Ae Y ((D.S j).c) 10 (.bool X1.c.waits) (by rw[←k1.c];exact cxY.cl.blk.cell 10)
 have y11:=Ae Y ((D.S j).c) 11 (.bool X1.c.over) (by rw[←k1.c];exact cxY.cl.blk.cell 11)
 have n0r:w.heap.size≤n0:=by rw[HN.out];exact Nat.le_refl _
 have hOK:=HH.out.2.2.2.2.2.2.2
 have cp0:AT (Cm D E) j (bp (D.S j).c)=Cm D E:=by
  funext i;by_cases e:i=j
  ·subst e;rw[Au];unfold Cm;rw[HH.out.2.2.1]
  ·exact Ap _ _ _ e
 have tp0:AT (Cj D E) j (bp (D.S j).t)=Cj D E:=by
  funext i;by_cases e:i=j
  ·subst e;rw[Au];unfold Cj;rw[HH.out.2.2.1]
  ·exact Ap _ _ _ e
 cases o1 with
 |some k'=>
  have hN1:BP w1 P1 Q1 (fun b=>Do F j b∨b=n0) A1 S1 X1 k' v1:=nx1
  obtain⟨F2,b2,c2,rfl⟩:=hN1.func
  have hov:X1.c.over=false:=((hOK.over2 (by simp)).1).trans (HH.out.2.1.cl j t c k HH.out.2.2.1).over
  rw[hov]at y11
  have hNY:=hN1.pass (m1Y.pass _) rfl rfl
  have HR:Hid (∀(w9:World),Ah (fun b=>b=n0) Y w9→Bg B w P F D {E with sh:=X1.sh,looks:=L,ses:=AT E.ses j (some ⟨X1.t,some (X1.c,k')⟩)} w9):=Aa (fun w9 o9=>
   (HH.out.1.back1 hj cxY mAll k1 o9 n0r nP1 nQ1 (some ⟨X1.t,some (X1.c,k')⟩) L (tp:=bp (D.S j).t) (cp:=bp (D.S j).c) rfl rfl (by rw[tp0,cp0];rfl) (fun t c e=>by cases e;exact⟨rfl,fun c' k' e=>by cases e;exact⟨rfl,hNY⟩⟩) (T:=fun _=>False) (fun _ e=>e.elim)).no)
  have HBY:=Aa BY
  obtain⟨wt,hwt⟩:=Aq (X1.c.waits)
  have HS:Hid (E.stepped j t (X1,some k') L=(⟨if wt then 2 else 1,.zero⟩,{E with sh:=X1.sh,looks:=L,ses:=AT E.ses j (some ⟨X1.t,some (X1.c,k')⟩)})):=Aa (by unfold En.stepped;rw[hwt])
  rw[hwt]at y10
  clear hN1 hNY nx1 cx1 cxU cxY m1 mU mY m1Y mAll B1 BY nP1 nQ1 hov hwt cp0 tp0 k1
  go_wp2_with fail
  go_upto_region 9 with(fail)
  rw[←hU]
  clear hU c4 cfr
  refine Ao (S:=(fun w'=>Ab w' D.A.e 2 (bp D.A.a)∧Ab w' D.A.e 23 (.int .i64 E.looks))) 14 (by kernel_rfl) ?_ (fun hHeld=>?_)
  ·exact⟨uA,uL⟩
  refine Av 0 [14] (h:=Av 1 [14] (h:=Av 2 [14] (h:=Av 3 [14] (h:=Av 4 [14] (h:=Av 5 [14] (h:=Av 6 [14] (h:=Av 7 [14] (h:=Av 9 [14] (h:=Bx (i:=8) (h:=fun K hK=>?_))))))))))
  go_simp
  (refine CC.mono ?_;rintro e5 w5 ⟨rfl,rfl⟩)
  try go_wp2_with fail
  refine D_ hK (by exact⟨uA,uL⟩) (h:=fun hHeld=>?_);clear hK K
  refine Av 10 [14] (h:=Av 11 [14] (h:=Av 12 [13,14] (h:=Av 13 [14] (h:=?_))))
  refine AI (by kernel_rfl) rfl (by kernel_rfl) (fun K hK=>?_)
  try simp only[List.getElem_toArray,List.getElem_cons_zero,List.getElem_cons_succ]
  go_simp
  skip
  try go_wp2_with fail
  refine hK.out _ _ ?_
  clear hK K
  try simp only[Act.put,List.getElem_toArray,List.getElem_cons_zero,List.getElem_cons_succ,List.setIfInBounds_toArray,List.set_cons_zero,List.set_cons_succ]
  clear CC uA uL ufr hHeld
  go_upto_region 10 with(fail)
  rw[←hY]
  clear hY
  have d0:=Ae Y n0 0 (.int .i64 0) (HBY.out.cell 0)
  have d1:=Ae Y n0 1 (.int .i64 0) (HBY.out.cell 1)
  have d2:=Ae Y n0 2 (.int .i64 0) (HBY.out.cell 2)
  have d3:=Ae Y n0 3 (.slice none 0 0) (HBY.out.cell 3)
  have d4:=Ae Y n0 4 (.int .i64 0) (HBY.out.cell 4)
  have d5:=Ae Y n0 5 (.int .i64 0) (HBY.out.cell 5)
  have dfr:=fun i=>(HBY.out).free i
  cases wt with
  |true=>
   go_wp2_with fail
   obtain⟨B9,o9⟩:=NO HBY.out (.int .i64 2) (.int .i64 0) (.int .i64 0) (.slice none 0 0) (.int .i64 0) (.int .i64 0)
   exact Uv
  |false=>
   go_wp2_with fail
   obtain⟨B9,o9⟩:=NO HBY.out (.int .i64 1) (.int .i64 0) (.int .i64 0) (.slice none 0 0) (.int .i64 0) (.int .i64 0)
   exact Uv
 |none=>
  have hN1:v1= .nilFunc:=nx1
  subst hN1
  obtain⟨hov,hwt,h034⟩:=hOK.over1 rfl
  rw[hov]at y11
  rw[show X1.c.waits=false from hwt]at y10
  have hid:X1.t.id=t.id:=hOK.id
  have hfX:Ax (N+80) X1:=hOK.fine
  have cyR:(Do F j)=Do F j:=rfl
  have yfr:∀i,Y.frozen? ⟨D.A.e,i,none⟩=false:=fun i=>by rw[←k1.e];exact cxY.sh.eng.free i
  have ycp:Y.cell? ⟨D.A.e,13+j,none⟩=some (bp (D.S j).c):=by
   have:=EX.cpc cxY.toEX j hj
   rw[k1.e]at this;rw[this]
   show some (Cm D E j)=_
   unfold Cm;rw[HH.out.2.2.1]
  have ytp:Y.cell? ⟨D.A.e,5+j,none⟩=some (bp (D.S j).t):=by
   have:=EX.tpc cxY.toEX j hj
   rw[k1.e]at this;rw[this]
   show some (Cj D E j)=_
   unfold Cj;rw[HH.out.2.2.1]
  have cxZ0:=cxY.setK (13+j) (.pointer none) (K':={Bk D E with looks:=L,cp:=AT (Cm D E) j (.pointer none)}) (Lf A1 {Bk D E with looks:=L} X1.sh j hj (.pointer none))
  rw[k1.e]at cxZ0
  obtain⟨Z,hZ⟩:=Ad (Y.setCell ⟨D.A.e,13+j,none⟩ (.pointer none))
  rw[←hZ]at cxZ0
  have cxZ:CX B Z P1 Q1 (fun b=>Do F j b∨b=n0) A1 {Bk D E with looks:=L,cp:=AT (Cm D E) j (.pointer none)} S1 .nilFunc X1:=cxZ0.1
  have mZ:=cxZ0.2
  clear cxZ0
  have mAllZ:=mAll.trans mZ
  have BZ:=mZ.o.blk BY (fun e=>e.elim nP1 nQ1)
  have z8:=Ae Z ((D.S j).c) 8 (.int .i64 X1.c.r.over) (by rw[←k1.c];exact cxZ.cl.blk.cell 8)
  have hpl:X1.c.r.pairs.length≤1000000000:=by have:=hfX.cl.plen;omega
  have htl:X1.sh.tale.length≤1000000000:=by have:=hfX.sh.tlen;omega
  have HBZ:=Aa BZ
  have HMZ:=Aa mAllZ
  have Hk1:=Aa k1
  have HnP:=Aa (And.intro nP1 nQ1)
  have HCZ:=Aa cxZ
  have Htp:=Aa tp0
  have hB0:B≤w.heap.size:=HH.out.1.ex.hB
  clear nx1 cx1 cxU cxY m1 mU mY m1Y mAll B1 BY hov hwt cp0 hOK mZ mAllZ BZ
  go_wp2_with fail
  go_upto_region 9 with(fail)
  rw[←hU]
  clear hU c4 cfr
  refine Ao (S:=(fun w'=>Ab w' D.A.e 2 (bp D.A.a)∧Ab w' D.A.e 23 (.int .i64 E.looks))) 14 (by kernel_rfl) ?_ (fun hHeld=>?_)
  ·exact⟨uA,uL⟩
  refine Av 0 [14] (h:=Av 1 [14] (h:=Av 2 [14] (h:=Av 3 [14] (h:=Av 4 [14] (h:=Av 5 [14] (h:=Av 6 [14] (h:=Av 7 [14] (h:=Av 9 [14] (h:=Bx (i:=8) (h:=fun K hK=>?_))))))))))
  go_simp
  (refine CC.mono ?_;rintro e5 w5 ⟨rfl,rfl⟩)
  try go_wp2_with fail
  refine D_ hK (by exact⟨uA,uL⟩) (h:=fun hHeld=>?_);clear hK K
  refine Av 10 [14] (h:=Av 11 [14] (h:=Av 12 [13,14] (h:=Av 13 [14] (h:=?_))))
  refine AI (by kernel_rfl) rfl (by kernel_rfl) (fun K hK=>?_)
  try simp only[List.getElem_toArray,List.getElem_cons_zero,List.getElem_cons_succ]
  go_simp
  skip
  try go_wp2_with fail
  refine hK.out _ _ ?_
  clear hK K
  try simp only[Act.put,List.getElem_toArray,List.getElem_cons_zero,List.getElem_cons_succ,List.setIfInBounds_toArray,List.set_cons_zero,List.set_cons_succ]
  clear CC uA uL ufr hHeld
  go_upto_region 10 with(fail)
  rw[←hY]
  clear hY
  have ztp:Z.cell? ⟨D.A.e,5+j,none⟩=some (bp (D.S j).t):=by
   have:=EX.tpc HCZ.out.toEX j hj
   rw[Hk1.out.e]at this;rw[this]
   show some (Cj D E j)=_
   unfold Cj;rw[HH.out.2.2.1]
  have zfr:∀i,Z.frozen? ⟨D.A.e,i,none⟩=false:=fun i=>by rw[←Hk1.out.e];exact HCZ.out.sh.eng.free i
  by_cases hz:X1.c.r.over=0
  ·rw[hz]at z8
   have HS:Hid (E.stepped j t (X1,none) L=(⟨3,X1.c.r⟩,{E with sh:={X1.sh with tale:=X1.sh.tale++[⟨2,t.id,0,X1.c.op,X1.c.r⟩]},looks:=L,ses:=AT E.ses j (some ⟨X1.t,none⟩)})):=Aa (by unfold En.stepped;dsimp only;rw[if_neg (by rw[hz];simp)])
   have CP:=Fw X1.c.r S1.qa S1.qc (Cr.row HCZ.out.drew.cl.prs rfl) hpl
   unfold Gn at CP
   rw[hz]at CP
   have tb:Am Z (D.S j).t 123 (Ep S1 X1.t):=by rw[←Hk1.out.t];exact HCZ.out.tx.blk
   have cb:Am Z (D.S j).c 127 (BW S1 X1.c .nilFunc):=by rw[←Hk1.out.c];exact HCZ.out.cl.blk
   have f0:=Nw tb cb hid hz
   have Hf:=Aa (And.intro tb cb)
   have Hid0:=Aa hid
   clear tb cb
   go_upto_region 15 with(fail)
   rw[←hZ]
   clear hZ yfr ycp ytp y10 y11
   go_upto_region 17 with(fail)
   refine wp_region_held_drew (S:=(fun w'=>Ab w' ((D.S j).t) 0 (.int .i64 t.id)∧Ab w' ((D.S j).c) 0 (.int .i64 X1.c.op.kind)∧Ab w' ((D.S j).c) 1 (.int .i64 X1.c.op.key)∧Ab w' ((D.S j).c) 2 (.int .i64 X1.c.op.hi)∧Ab w' ((D.S j).c) 3 (.int .i64 X1.c.op.value)∧Ab w' ((D.S j).c) 5 (.int .i64 X1.c.r.e)∧Ab w' ((D.S j).c) 6 (.int .i64 X1.c.r.value)∧Ab w' ((D.S j).c) 7 (.slice S1.qa X1.c.r.pairs.length S1.qc)∧Ab w' ((D.S j).c) 8 (.int .i64 0)∧Ab w' ((D.S j).c) 9 (.int .i64 X1.c.r.reason))) (by kernel_rfl) ?_ (fun hHeld=>?_)
   ·first|exact f0|exact f6|exact f7
   refine Af 0 (h:=Af 1 (h:=Af 2 (h:=Af 3 (h:=Af 4 (h:=Af 5 (h:=Af 6 (h:=Af 7 (h:=Af 8 (h:=Af 9 (h:=Af 10 (h:=Af 11 (h:=?_))))))))))))
   refine Af 12 (h:=Ar (i:=13) (h:=fun K hK=>?_))
   go_simp
   (refine CP.mono ?_;rintro e6 w6 ⟨a6,c6,rfl,o6,own6⟩;have f6:=Nw (o6.blk Hf.out.1.drew (fun e=>e)) (o6.blk Hf.out.2.drew (fun e=>e)) Hid0.out hz;have hfp:AU w6 P1 Q1 (fun b=>Do F j b∨b=n0) a6 X1.c.r.pairs:=AU.fresh own6 rfl HCZ.out.drew.uP HCZ.out.drew.uQ HCZ.out.drew.uR;have cx6:=HCZ.out.drew.only0 o6;have CE:=Ib cx6 htl cx6.toEX.hB ⟨2,t.id,0,X1.c.op,X1.c.r⟩ a6 c6 hfp;rw[Hk1.out.e]at CE;unfold KY at CE;rw[hz]at CE;have Hfp:=Aa hfp;have H6:=Aa o6;clear cx6 hfp own6 o6 CP)
   try go_wp2_with fail
   refine AK hK (by first|exact f0|exact f6|exact f7) (h:=fun hHeld=>?_);clear hK K
   refine Af 14 (h:=Ar (i:=15) (h:=fun K hK=>?_))
   go_simp
   (refine CE.mono ?_;rintro e7 w7 ⟨rfl,P7,A7,cx7,m7,k7⟩;have tb7:Am w7 (D.S j).t 123 (Ep S1 X1.t):=(by rw[←Hk1.out.t];exact cx7.tx.blk);have cb7:Am w7 (D.S j).c 127 (BW S1 X1.c .nilFunc):=(by rw[←Hk1.out.c];exact cx7.cl.blk);have f7:=Nw tb7 cb7 Hid0.out hz;clear tb7 cb7;clear CE f6)
   try go_wp2_with fail
   refine AK hK (by first|exact f0|exact f6|exact f7) (h:=fun hHeld=>?_);clear hK K
   refine wpAnyH_done (by kernel_rfl) ?_ _
   have HC7:=Aa cx7
   have mA:=(Ag.only0 P1 Q1 ((Ac.refl Z).drew.trans H6.out))
   have HM7:=Aa ((HMZ.out.trans mA).trans m7)
   have b6:=mA.o.blk HBZ.out (fun e=>e.elim HnP.out.1 HnP.out.2)
   have HB7:=Aa (m7.o.blk b6 (fun e=>e.elim HnP.out.1 HnP.out.2))
   have HnP7:=Aa (show ¬P7 n0∧¬Q1 n0 from⟨fun e=>by rcases m7.gp n0 e with e|e;exact HnP.out.1 e;have:=b6.lt;omega,HnP.out.2⟩)
   have HK7:=Aa (Hk1.out.trans k7)
   clear cx7 mA m7 b6 k7 hHeld f7 f0 ztp zfr z8
   go_upto_region 18 with(fail)
   have hblk:=(HC7.out).cl.blk
   have r5:=Ae w7 ((D.S j).c) 5 (.int .i64 X1.c.r.e) (by rw[←Hk1.out.c];exact hblk.cell 5)
   have r6:=Ae w7 ((D.S j).c) 6 (.int .i64 X1.c.r.value) (by rw[←Hk1.out.c];exact hblk.cell 6)
   have r7:=Ae w7 ((D.S j).c) 7 (.slice S1.qa X1.c.r.pairs.length S1.qc) (by rw[←Hk1.out.c];exact hblk.cell 7)
   have r8:=Ae w7 ((D.S j).c) 8 (.int .i64 X1.c.r.over) (by rw[←Hk1.out.c];exact hblk.cell 8)
   have r9:=Ae w7 ((D.S j).c) 9 (.int .i64 X1.c.r.reason) (by rw[←Hk1.out.c];exact hblk.cell 9)
   rw[hz]at r8
   have CP:=Fw X1.c.r S1.qa S1.qc (Cr.row (HC7.out).cl.prs rfl) hpl
   have CP:Calls Tryz.prog 51 #[.agg #[X1.c.r.e,X1.c.r.value,.slice S1.qa X1.c.r.pairs.length S1.qc,.int .i64 0,X1.c.r.reason]] w7 fun e w'=>∃a c,e= .returned (.agg (Gn X1.c.r a c))∧Ac w7 w'∧w'.ownsRow w7.heap.size 77 2 (.slice a X1.c.r.pairs.length c) X1.c.r.pairs.length (AJ X1.c.r.pairs):=by unfold Gn at CP;rw[hz]at CP;unfold Gn;rw[hz];exact CP
   unfold Gn at CP
   rw[hz]at CP
   clear hblk
   go_wp2_with fail
   refine CP.mono ?_
   rintro e8 w8 ⟨a8,c8,rfl,o8,own8⟩
   clear CP
   have B8:=o8.blk HB7.out (fun e=>e)
   have d0:=Ae w8 n0 0 (.int .i64 0) (B8.cell 0)
   have d1:=Ae w8 n0 1 (.int .i64 0) (B8.cell 1)
   have d2:=Ae w8 n0 2 (.int .i64 0) (B8.cell 2)
   have d3:=Ae w8 n0 3 (.slice none 0 0) (B8.cell 3)
   have d4:=Ae w8 n0 4 (.int .i64 0) (B8.cell 4)
   have d5:=Ae w8 n0 5 (.int .i64 0) (B8.cell 5)
   have dfr:=fun i=>B8.free i
   have H8:=Aa B8
   clear B8
   go_wp2_with fail
   obtain⟨B9,o9⟩:=NO H8.out (.int .i64 3) (.int .i64 X1.c.r.e) (.int .i64 X1.c.r.value) (.slice a8 X1.c.r.pairs.length c8) (.int .i64 0) (.int .i64 X1.c.r.reason)
   refine bodyPost_ret (BB Tryz.results36 _ _ n0 _ _ _ _ (.int .i64 0) rfl rfl B9 Tryz.underlying129 rfl Fp) rfl ?_
   have hun:=fun b (hb:AA (.slice a8 X1.c.r.pairs.length c8) b)=>(own8.lt b hb).1
   have hsz:=(HM7.out).o.size
   rw[HS.out]
   refine⟨a8,c8,by unfold RP;rw[hz],?_,?_⟩
   ·exact HH.out.1.back1 hj ((HC7.out).only0 o8) ((HM7.out).trans (Ag.only0 _ _ o8)) HK7.out o9 n0r HnP7.out.1 HnP7.out.2 (some ⟨X1.t,none⟩) L (tp:=(bp (D.S j).t)) (cp:=(.pointer none)) rfl rfl (by rw[Htp.out];rfl) (fun t c e=>by cases e;exact⟨rfl,fun c2 k2 e=>by cases e⟩) (T:=AA (.slice a8 X1.c.r.pairs.length c8)) (fun b hb=>⟨fun e=>by have:=(HC7.out).uP b e;have:=hun b hb;omega,fun e=>by have:=(HC7.out).uQ b e;have:=hun b hb;omega,fun⟨i,hi,e⟩=>by have:=HH.out.1.hole.uF i hi b e;have:=hun b hb;omega⟩)
   ·exact Td
  ·have hnz:(X1.c.r.over==0)=false:=by simpa using hz
   have cx20:=HCZ.out.setK (5+j) (.pointer none) (K':={Bk D E with looks:=L,cp:=AT (Cm D E) j (.pointer none),tp:=AT (Cj D E) j (.pointer none)}) (NQ A1 {Bk D E with looks:=L,cp:=AT (Cm D E) j (.pointer none)} X1.sh j hj (.pointer none))
   rw[Hk1.out.e]at cx20
   obtain⟨Z2,hZ2⟩:=Ad (Z.setCell ⟨D.A.e,5+j,none⟩ (.pointer none))
   rw[←hZ2]at cx20
   have HC2:=Aa cx20.1
   have HM2:=Aa (HMZ.out.trans cx20.2)
   have HB2:=Aa (cx20.2.o.blk HBZ.out (fun e=>e.elim HnP.out.1 HnP.out.2))
   have HS:Hid (E.stepped j t (X1,none) L=(⟨3,X1.c.r⟩,{E with sh:=X1.sh,looks:=L,ses:=AT E.ses j none})):=Aa (by unfold En.stepped;dsimp only;rw[if_pos hz])
   clear cx20
   go_upto_region 15 with(fail)
   rw[←hZ]
   clear hZ yfr ycp ytp y10 y11
   go_upto_region 18 with(fail)
   rw[←hZ2]
   clear hZ2 ztp zfr z8
   have hblk:=(HC2.out).cl.blk
   have r5:=Ae Z2 ((D.S j).c) 5 (.int .i64 X1.c.r.e) (by rw[←Hk1.out.c];exact hblk.cell 5)
   have r6:=Ae Z2 ((D.S j).c) 6 (.int .i64 X1.c.r.value) (by rw[←Hk1.out.c];exact hblk.cell 6)
   have r7:=Ae Z2 ((D.S j).c) 7 (.slice S1.qa X1.c.r.pairs.length S1.qc) (by rw[←Hk1.out.c];exact hblk.cell 7)
   have r8:=Ae Z2 ((D.S j).c) 8 (.int .i64 X1.c.r.over) (by rw[←Hk1.out.c];exact hblk.cell 8)
   have r9:=Ae Z2 ((D.S j).c) 9 (.int .i64 X1.c.r.reason) (by rw[←Hk1.out.c];exact hblk.cell 9)
   have CP:=Fw X1.c.r S1.qa S1.qc (Cr.row (HC2.out).cl.prs rfl) hpl
   unfold Gn at CP
   clear hblk
   go_wp2_with fail
   refine CP.mono ?_
   rintro e8 w8 ⟨a8,c8,rfl,o8,own8⟩
   clear CP
   have B8:=o8.blk HB2.out (fun e=>e)
   have d0:=Ae w8 n0 0 (.int .i64 0) (B8.cell 0)
   have d1:=Ae w8 n0 1 (.int .i64 0) (B8.cell 1)
   have d2:=Ae w8 n0 2 (.int .i64 0) (B8.cell 2)
   have d3:=Ae w8 n0 3 (.slice none 0 0) (B8.cell 3)
   have d4:=Ae w8 n0 4 (.int .i64 0) (B8.cell 4)
   have d5:=Ae w8 n0 5 (.int .i64 0) (B8.cell 5)
   have dfr:=fun i=>B8.free i
   have H8:=Aa B8
   clear B8
   go_wp2_with fail
   obtain⟨B9,o9⟩:=NO H8.out (.int .i64 3) (.int .i64 X1.c.r.e) (.int .i64 X1.c.r.value) (.slice a8 X1.c.r.pairs.length c8) (.int .i64 X1.c.r.over) (.int .i64 X1.c.r.reason)
   refine bodyPost_ret (BB Tryz.results36 _ _ n0 _ _ _ _ (.int .i64 0) rfl rfl B9 Tryz.underlying129 rfl Fp) rfl ?_
   have hun:=fun b (hb:AA (.slice a8 X1.c.r.pairs.length c8) b)=>(own8.lt b hb).1
   have hsz:=(HM2.out).o.size
   rw[HS.out]
   refine⟨a8,c8,rfl,?_,?_⟩
   ·exact HH.out.1.back1 hj ((HC2.out).only0 o8) ((HM2.out).trans (Ag.only0 _ _ o8)) Hk1.out o9 n0r HnP.out.1 HnP.out.2 none L (tp:= .pointer none) (cp:= .pointer none) rfl rfl rfl (fun t c e=>by cases e) (T:=AA (.slice a8 X1.c.r.pairs.length c8)) (fun b hb=>⟨fun e=>by have:=(HC2.out).uP b e;have:=hun b hb;omega,fun e=>by have:=(HC2.out).uQ b e;have:=hun b hb;omega,fun⟨i,hi,e⟩=>by have:=HH.out.1.hole.uF i hi b e;have:=hun b hb;omega⟩)
   ·exact Td
theorem Qx{B N:Nat}{w:World}{P:Nat→Prop}{F:Nat→Nat→Prop}{D:DB}{E:En}(h:A6 B w P F D E)(hf:As N E)(hN:256≤N)(hN2:N≤30000000)(s:Int):
 Calls Tryz.prog 36 #[bp D.A.e,s] w (FW B w P F D (E.step s).1 (E.step s).2.1 (E.step s).2.2):=by
 cases hs:Be s with
 |false=>exact Ic h s (.inl hs)
 |true=>
  obtain⟨s0,s1⟩:0≤s∧s<8:=by simpa[Be]using hs
  obtain⟨j,rfl⟩:=Int.eq_ofNat_of_zero_le s0
  match he:E.ses j with
  |none=>exact Ic h (j:Int) (.inr (fun t c k=>by rw[Int.toNat_natCast,he];simp))
  |some ⟨t,none⟩=>exact Ic h (j:Int) (.inr (fun t c k=>by rw[Int.toNat_natCast,he];simp))
  |some ⟨t,some (c,k)⟩=>exact OB h hf hN hN2 j (by omega) he
end
section
attribute [local go_sem ↓] Go.wp_at_zero Go.wp_at_succ
section
variable {B:Nat} {w w':World} {P Q R:Nat→Prop} {A:EA} {K:EK} {s:Sh}
theorem EX.arena(h:EX B w P Q R A K s){a:AS}(ha:AN w' A.a A.aw a)(o:Ah (QN A.a A.aw) w w'):EX B w' P Q R A K (s.setA a)∧Ah P w w'∧Ag w w' P Q P Q:=by
 have t:=h.sh.ar.onlyT o
 have oP:Ah P w w':=o.mono (fun k _ hk=>by
  rcases hk with rfl|rfl
  ·exact h.sh.pa.1
  ·exact h.sh.pa.2)
 have m:Ag w w' P Q P Q:=⟨oP.mono (fun _ _ hb=> .inl hb),AC.refl _ _,AC.refl _ _⟩
 exact⟨⟨⟨h.sh.eng.ty t (by decide),ha,h.sh.pool.ty t (by decide) (by decide) (by decide),h.sh.vals.ty t (by decide),AO h.sh.tale t (by decide),h.sh.pe,h.sh.pa,h.sh.pp,h.sh.pf,h.sh.pv,h.sh.pt⟩,
  h.uP.mono o.size,h.aP,fun i hi=>(h.prs i hi).move m⟩,oP,m⟩
theorem Lx(h:EX B w P Q R A K s)(i:Int):
 Calls Tryz.prog 70 #[bp A.a,i] w fun e w'=>e= .returned (.int .u64 (s.a.load i))∧EX B w' P Q R A K (s.setA (s.a.tick i))∧Ah P w w'∧Ag w w' P Q P Q:=
 (Hh h.sh.ar i).mono (fun e w' hw=>⟨hw.1,h.arena hw.2.1 hw.2.2⟩)
theorem Ie(h:EX B w P Q R A K s)(i v:Int):
 Calls Tryz.prog 74 #[bp A.a,i,.int .u64 v] w fun e w'=>e= .returned (.tuple #[])∧EX B w' P Q R A K (s.setA (s.a.store i v))∧Ah P w w'∧Ag w w' P Q P Q:=
 (GJ h.sh.ar i v).mono (fun e w' hw=>⟨hw.1,h.arena hw.2.1 hw.2.2⟩)
theorem K7(h:EX B w P Q R A K s)(i old new:Int):
 Calls Tryz.prog 72 #[bp A.a,i,.int .u64 old,.int .u64 new] w fun e w'=>e= .returned (.bool (s.a.casOk i old))∧EX B w' P Q R A K (s.setA (s.a.cas i old new))∧Ah P w w'∧Ag w w' P Q P Q:=
 (IX h.sh.ar i old new).mono (fun e w' hw=>⟨hw.1,h.arena hw.2.1 hw.2.2⟩)
theorem EX.drew(h:EX B w P Q R A K s):EX B w.drew P Q R A K s:=h.only0 ((Ac.refl w).drew)
theorem EX.ca(h:EX B w P Q R A K s):w.cell? ⟨A.e,2,none⟩=some (bp A.a):=h.sh.eng.cell 2
theorem EX.cn(h:EX B w P Q R A K s):w.cell? ⟨A.e,0,none⟩=some (.int .i64 s.slots):=h.sh.eng.cell 0
end
theorem On{B N:Nat}{w:World}{P Q R:Nat→Prop}{A:EA}{Ke:EK}{s:Sh}(h:EX B w P Q R A Ke s)(hN:AW N s)(x:Int)(x0:0≤x)(x1:x<18446744073709551616):
 Calls Tryz.prog 71 #[bp A.e,.int .u64 x] w fun e w'=>e= .returned (.tuple #[])∧EX B w' P Q R A Ke (s.setA (s.a.cas (s.pl (x%65536)) (Bc 1 0) (Bc 2 (x/65536))))∧Ah P w w'∧Ag w w' P Q P Q:=by
 have CD:=EO x w x0 x1
 have hi0:0≤x%65536:=by omega
 have hi1:x%65536≤65535:=by omega
 have ht0:0≤x/65536:=by omega
 have ht1:x/65536<2305843009213693952:=by omega
 have s1:0≤s.slots:=by have:=hN.n1;omega
 have s2:=hN.n2
 have hpl:∀id:Int,73+s.slots*3+id=s.pl id:=fun _=>rfl
 generalize x%65536=id at *
 generalize x/65536=tt at *
 have HC:=Aa h.drew
 have cA:=HC.out.ca
 have cN:=HC.out.cn
 clear h hN
 go_enter Tryz.func71,Tryz.ntmps71
 go_wp2_with fail
 refine CD.mono ?_
 rintro e1 w1 ⟨rfl,rfl⟩
 clear CD
 go_upto_region 1 with(fail)
 refine wp_region_held_drew (S:=(fun w'=>Ab w' A.e 2 (bp A.a)∧Ab w' A.e 0 (.int .i64 s.slots))) (by kernel_rfl) ?_ (fun hHeld=>?_)
 ·exact⟨cA,cN⟩
 refine Af 0 (h:=Af 1 (h:=Af 2 (h:=Af 3 (h:=Af 4 (h:=Af 5 (h:=Af 8 (h:=Ar (i:=6) (h:=fun K hK=>?_))))))))
 go_simp
 (refine(BS A.e s.slots id _ cN s1 s2 hi0 hi1).mono ?_;rintro e1 w1 ⟨rfl,rfl⟩)
 try go_wp2_with fail
 refine AK hK (by exact⟨cA,cN⟩) (h:=fun hHeld=>?_);clear hK K
 refine Ar (i:=7) (h:=fun K hK=>?_)
 try simp only[List.getElem_toArray,List.getElem_cons_zero,List.getElem_cons_succ]
 go_simp
 (refine(EW 1 0 _ (by omega) (by omega) (by omega) (by omega)).mono ?_;rintro e1 w1 ⟨rfl,rfl⟩)
 try go_wp2_with fail
 refine AK hK (by exact⟨cA,cN⟩) (h:=fun hHeld=>?_);clear hK K
 refine Ar (i:=9) (h:=fun K hK=>?_)
 try simp only[List.getElem_toArray,List.getElem_cons_zero,List.getElem_cons_succ]
 go_simp
 (refine(EW 2 tt _ (by omega) (by omega) ht0 ht1).mono ?_;rintro e1 w1 ⟨rfl,rfl⟩)
 try go_wp2_with fail
 refine AK hK (by exact⟨cA,cN⟩) (h:=fun hHeld=>?_);clear hK K
 refine Ar (i:=10) (h:=fun K hK=>?_)
 try simp only[List.getElem_toArray,List.getElem_cons_zero,List.getElem_cons_succ]
 go_simp
 (refine(K7 HC.out _ _ _).mono ?_;rintro e1 w2 ⟨rfl,h2,o2,m2⟩;have HZ:=Aa h2;have HO:=Aa ((((Ac.refl w).drew).any P).trans o2);have MZ:=Aa ((Ag.only0 P Q ((Ac.refl w).drew)).trans m2);have cA:=h2.ca;have cN:=Ae w2 A.e 0 (.int .i64 s.slots) h2.cn;clear h2 m2 o2)
 try go_wp2_with fail
 refine AK hK (by exact⟨cA,cN⟩) (h:=fun hHeld=>?_);clear hK K
 refine wpAnyH_done (by kernel_rfl) ?_ _
 go_end0
 exact⟨rfl,HZ.out,HO.out,MZ.out⟩
end
section
attribute [local go_sem ↓] Go.wp_at_zero Go.wp_at_succ
section
variable {B:Nat} {w w':World} {P:Nat→Prop} {F:Nat→Nat→Prop} {D:DB} {E:En}
theorem A6.shared(h:A6 B w P F D E){P':Nat→Prop}{D':DB}{E':En}(oP:Ah P w w')(gp:AC w.heap.size P P')(ex:EX B w' P' (F 8) (Do F 8) D'.A (Bk D' E') E'.sh)(kA:D'.A.e=D.A.e)(kS:∀j,D'.S j=D.S j∧D'.nx j=D.nx j)(kE:∀j,E'.ses j=E.ses j)
 (kW:E'.sw=E.sw∧D'.sv=D.sv∧D'.la=D.la∧D'.lc=D.lc∧E'.lim=E.lim):Bg B w P F D E' w':=by
 have m:Ag w w' P (F 8) P' (F 8):=⟨oP.mono (fun _ _ hb=> .inl hb),gp,AC.refl _ _⟩
 have ap:AR P' (F 8):=(h.hole.pf 8 (by omega)).grew gp (h.hole.uF 8 (by omega))
 have hm:=(h.hole.mk9 8).move (by omega) h.ex.uP m ap ((h.hole.uF 8 (by omega)).mono oP.size) (h.hole.aF 8 (by omega)) kA (fun j _=>kS j) (fun j _=>kE j) (fun e=>absurd rfl e)
 rw[Gk]at hm
 have hm2:DD B w' P' F D' E' 9:=⟨fun j x hj _ he=>hm.tx j x hj (by omega) he,fun j t c k hj _ he=>hm.cl j t c k hj (by omega) he,
  fun hn=>by rw[kW.1,kW.2.1];exact(h.hole.sw hn).pass (m.pass _) kA,
  fun hn=>by rw[kW.2.2.1,kW.2.2.2.1,kW.2.2.2.2];exact(h.hole.lim hn).far oP (h.hole.pf 8 (by omega)).symm,hm.pf,hm.ff,hm.uF,hm.aF⟩
 exact⟨P',F,D',⟨ex.all,hm2⟩,kA,oP.mono (fun _ _ hb=> .inl hb),(fun b hb=>hb.elim (fun x=>(gp b x).imp .inl (fun y=>y)) (fun x=> .inl (.inr (by rw[←kW.2.2.1];exact x)))),fun _ hb=>hb⟩
theorem LQ{D':DB}{E':En}{j:Nat}{x:Option Kx}{S1:SA}(hE:E'.ses=AT E.ses j x)(hD:D'.S=AT D.S j S1){tp:Value}(htp:tp=match x with|none=> .pointer none|some _=>bp S1.t):Cj D' E'=AT (Cj D E) j tp:=by
 funext i
 unfold Cj
 rw[hE,hD]
 by_cases e:i=j
 ·subst e
  simp only[Au]
  rw[htp]
  cases x<;>rfl
 ·simp only[Ap _ _ _ e]
theorem Lt{D':DB}{E':En}{j:Nat}{x:Option Kx}{S1:SA}(hE:E'.ses=AT E.ses j x)(hD:D'.S=AT D.S j S1){cp:Value}(hcp:cp=match x with|some ⟨_,some _⟩=>bp S1.c|_=> .pointer none):Cm D' E'=AT (Cm D E) j cp:=by
 funext i
 unfold Cm
 rw[hE,hD]
 by_cases e:i=j
 ·subst e
  simp only[Au]
  rw[hcp]
  cases x with
  |none=>rfl
  |some y=>obtain⟨yt,yc⟩:=y;cases yc<;>rfl
 ·simp only[Ap _ _ _ e]
end
def Fa(t m:Nat):SA:=⟨t,m,fun _=>0,none,0,none,0,none,0,0,none,0⟩
theorem ND{B:Nat}{w:World}{Q:Nat→Prop}{tb mb:Nat}{id level s beg:Int}{D:MD}(hb:Am w tb 123 (Ep (Fa tb mb) (Dd id level s beg)))(hm:Eg Tryz.prog Jh D8 w mb (fun _=>none) D)(qt:Q tb)(qm:Q mb):Dc B w Q (Fa tb mb) (Dd id level s beg):=
 ⟨hb,⟨D,hm⟩,fun k x hk=>(by cases hk),fun k l x y hk=>(by cases hk),World.ownsRow_nil _ _ _ _,World.ownsRow_nil _ _ _ _,World.ownsRow_nil _ _ _ _,fun b hb=>(by cases hb),qt,qm,fun b hb=>(by cases hb),fun b hb=>(by cases hb),fun b hb=>(by cases hb)⟩
def Je(B:Nat)(w:World)(P:Nat→Prop)(F:Nat→Nat→Prop)(D:DB)(r:Int×Int×En)(e:Ending)(w':World):Prop:=
 e= .returned (.tuple #[.int .i64 r.1,.int .i64 r.2.1])∧Bg B w P F D r.2.2 w'
theorem M6{B:Nat}{w:World}{P:Nat→Prop}{F:Nat→Nat→Prop}{D:DB}{E:En}(h:A6 B w P F D E)(s level:Int)(hno:¬(Be s=true∧DV level=true∧E.ses s.toNat=none∧E.made<2000)):
 Calls Tryz.prog 34 #[bp D.A.e,s,level] w (Je B w P F D (E.begin s level)):=by
 have CS:=E5 s w
 have CL:=J_ level w
 have HR:=Aa (Bg.same h (Ac.refl w))
 have cm:=Ae w D.A.e 21 (.int .i64 E.made) (h.ex.sh.eng.cell 21)
 cases hs:Be s with
 |false=>
  rw[show E.begin s level=(0,1,E) by unfold En.begin;rw[hs];rfl]
  rw[hs]at CS
  clear hs h hno cm
  go_enter Tryz.func34,Tryz.ntmps34
  go_wp2_with fail
  refine CS.mono ?_
  rintro e w1 ⟨rfl,rfl⟩
  go_wp2_with fail
  go_ret2
  exact⟨rfl,HR.out⟩
 |true=>
  rw[hs]at CS
  cases hl:DV level with
  |false=>
   rw[show E.begin s level=(0,1,E) by unfold En.begin;rw[hs,hl];rfl]
   rw[hl]at CL
   clear hs h hno cm hl
   exact Tz
  |true=>
   rw[hl]at CL
   obtain⟨s0,s1⟩:0≤s∧s<8:=by simpa[Be]using hs
   obtain⟨j,rfl⟩:=Int.eq_ofNat_of_zero_le s0
   have hj:j<8:=by omega
   have j8:(j:Int)<8:=by omega
   have ct:=Ae w D.A.e (5+j) (Cj D E j) (EX.tpc h.ex j hj)
   cases hu:E.ses j with
   |some x=>
    rw[show E.begin (j:Int) level=(0,9,E) by unfold En.begin;rw[hs,hl,Int.toNat_natCast,hu];rfl]
    rw[show Cj D E j=bp (D.S j).t by unfold Cj;rw[hu]]at ct
    clear hs h hno cm hl hu
    exact Tz
   |none=>
    have hm:2000≤E.made:=by
     rw[Int.toNat_natCast]at hno
     exact Int.not_lt.1 (fun e=>hno ⟨hs,hl,hu,e⟩)
    have hm2:E.made≥2000:=hm
    rw[show E.begin (j:Int) level=(0,65,E) by unfold En.begin;rw[hs,hl,Int.toNat_natCast,hu];simp only[Bool.and_self,Bool.not_true,Option.isSome_none];rw[if_neg (by simp),if_neg (by simp),if_pos hm]]
    rw[show Cj D E j= .pointer none by unfold Cj;rw[hu]]at ct
    clear hs h hno hl hu
    exact Tz
end
section
attribute [local go_sem ↓] Go.wp_at_zero Go.wp_at_succ
theorem Fi{w:World}{tb:Nat}{ty:TypeId}{S:SA}{t:Dq}(h:Am w tb ty (Ep S t)):w.cell? ⟨tb,0,none⟩=some (.int .i64 t.id)∧w.cell? ⟨tb,3,none⟩=some (.int .u64 t.beg):=⟨h.cell 0,h.cell 3⟩
theorem Jz{B:Nat}{w w9 V8:World}{P P9:Nat→Prop}{F:Nat→Nat→Prop}{D:DB}{E:En}(h:A6 B w P F D E)(j:Nat)(hj:j<8)(hu:E.ses j=none){mb:Nat}{level now x:Int}{a2:AS}{A9:EA}{K9:EK}{S9:Sh}
 (ex:EX B w9 P9 (F j) (Do F j) A9 K9 S9) (hK:K9={Bk D E with made:=E.made+1,tp:=AT (Cj D E) j (bp (mb+1))}) (hS:S9=(E.begun a2 (j:Int) level now x).sh)
 (T:Dc B w9 (fun b=>F j b∨b=mb+1∨b=mb) (Fa (mb+1) mb) (Dd (E.made+1) level (j:Int) (now+1))) (O:Ah P w w9) (hV:w.heap.size≤V8.heap.size) (m:Ag V8.drew w9 P (F j) P9 (F j)) (k:Gy D.A A9)
 (z:w.heap.size≤mb) (hm:mb+1<V8.heap.size) (ap:AR P (fun b=>F j b∨b=mb+1∨b=mb)):Bg B w P F D (E.begun a2 (j:Int) level now x) w9:=by
 have hB0:B≤w.heap.size:=h.ex.hB
 have hdr:V8.drew.heap.size=V8.heap.size:=rfl
 have m9:Ag w w9 P (F j) P9 (fun b=>F j b∨b=mb+1∨b=mb):=⟨O.mono (fun _ _ hb=> .inl hb),fun b hb=>(m.gp b hb).imp (fun q=>q) (fun q=>by omega),fun b hb=>by
  rcases hb with q|q|q
  ·exact .inl q
  ·exact .inr (by omega)
  ·exact .inr (by omega)⟩
 have ap9:AR P9 (fun b=>F j b∨b=mb+1∨b=mb):=fun b hb hq=>by
  rcases m.gp b hb with q|q
  ·exact ap b q hq
  ·rcases hq with r|r|r
   ·have:=h.hole.uF j (by omega) b r;omega
   ·omega
   ·omega
 have sz:=m.o.size
 have ex9:EX B w9 P9 (fun b=>F j b∨b=mb+1∨b=mb) (Do F j) A9 K9 S9:=by
  refine⟨ex.sh,ex.uP,ex.aP,fun i hi=>?_⟩
  rcases ex.prs i hi with e|⟨b,off,cs,h1,h2,h3,h4,h5,h6⟩
  ·exact .inl e
  ·refine .inr ⟨b,off,cs,h1,h2,fun q=>?_,h4,h5,h6⟩
   rcases q with q|q|q
   ·exact h3 q
   ·exact Am.ne h5 T.blk (by decide) q
   ·exact T.map.ne h5 q.symm
 have hnat:((j:Int)).toNat=j:=rfl
 refine A6.close (s:=j) (P':=P9) (Q':=fun b=>F j b∨b=mb+1∨b=mb) (D':=⟨A9,AT D.S j (Fa (mb+1) mb),D.nx,D.sv,D.la,D.lc⟩) h hj m9 ap9 (fun b hb=>?_) (fun b hb=>?_) k.e (fun i hi=>⟨Ap _ _ _ hi,rfl⟩) (fun i hi=>Ap _ _ _ hi) ⟨rfl,rfl,rfl,rfl,rfl⟩ ?_ (fun y hy=>?_) (fun t c k' hy=>?_)
 ·rcases hb with q|q|q
  ·have:=h.hole.uF j (by omega) b q;omega
  ·omega
  ·omega
 ·rcases hb with q|q|q
  ·exact h.hole.aF j (by omega) b q
  ·omega
  ·omega
 ·have e1:=LQ (D:=D) (E:=E) (D':=⟨A9,AT D.S j (Fa (mb+1) mb),D.nx,D.sv,D.la,D.lc⟩) (E':=E.begun a2 (j:Int) level now x) (j:=j) (x:=some ⟨Dd (E.made+1) level (j:Int) (now+1),none⟩) rfl rfl (tp:=bp (mb+1)) rfl
  have e2:=Lt (D:=D) (E:=E) (D':=⟨A9,AT D.S j (Fa (mb+1) mb),D.nx,D.sv,D.la,D.lc⟩) (E':=E.begun a2 (j:Int) level now x) (j:=j) (x:=some ⟨Dd (E.made+1) level (j:Int) (now+1),none⟩) rfl rfl (cp:= .pointer none) rfl
  have e3:AT (Cm D E) j (.pointer none)=Cm D E:=by
   funext i
   by_cases q:i=j
   ·subst q;rw[Au];unfold Cm;rw[hu]
   ·rw[Ap _ _ _ q]
  have e4:Bk ⟨A9,AT D.S j (Fa (mb+1) mb),D.nx,D.sv,D.la,D.lc⟩ (E.begun a2 (j:Int) level now x)=K9:=by
   rw[hK]
   unfold Bk
   rw[e1,e2,e3]
   rfl
  rw[e4,←hS]
  exact ex9
 ·have hy':AT E.ses j (some (⟨Dd (E.made+1) level (j:Int) (now+1),none⟩:Kx)) j=some y:=hy
  rw[Au]at hy'
  cases hy'
  show Dc B w9 _ (AT D.S j (Fa (mb+1) mb) j) _
  rw[Au]
  exact T
 ·have hy':AT E.ses j (some (⟨Dd (E.made+1) level (j:Int) (now+1),none⟩:Kx)) j=some ⟨t,some (c,k')⟩:=hy
  rw[Au]at hy'
  cases hy'
theorem Nf{B N:Nat}{w:World}{P:Nat→Prop}{F:Nat→Nat→Prop}{D:DB}{E:En}(h:A6 B w P F D E)(hf:As N E)(hN2:N≤30000000)(j:Nat)(level:Int)(hj:j<8)(hl:DV level=true)(hu:E.ses j=none)(hm:E.made<2000):
 Calls Tryz.prog 34 #[bp D.A.e,.int .i64 (j:Int),level] w (Je B w P F D (E.begin (j:Int) level)):=by
 have CS:=E5 (j:Int) w
 have hs:Be (j:Int)=true:=by simp[Be];omega
 rw[hs]at CS
 have CL:=J_ level w
 rw[hl]at CL
 have j8:(j:Int)<8:=by omega
 have j0:(0:Int)≤(j:Int):=by omega
 have ct:=Ae w D.A.e (5+j) (.pointer none) (by rw[EX.tpc h.ex j hj];show some (Cj D E j)=_;unfold Cj;rw[hu])
 have cm:=Ae w D.A.e 21 (.int .i64 E.made) (h.ex.sh.eng.cell 21)
 have cA:=Ae w D.A.e 2 (bp D.A.a) h.ex.ca
 have hm1:=hf.made.1
 have hnm:¬E.made≥2000:=by omega
 have hnm2:¬(2000≤E.made):=by omega
 have hx0:=h.exs j (by omega)
 have CLd:=Lx hx0 0
 obtain⟨x,hx⟩:=Aq (E.sh.a.load 0)
 obtain⟨x0,x1⟩:0≤x∧x<18446744073709551616:=by rw[←hx];exact AG hf.sh.word _
 rw[hx]at CLd
 have hbeg:E.begin (j:Int) level=if E.sh.limit≤x/65536 then(0,16,{E with sh:=E.sh.setA (E.sh.a.tick 0)})else(E.made+1,0,E.begun (if 0<x%65536 then(E.sh.a.tick 0).cas (E.sh.pl (x%65536)) (Bc 1 0) (Bc 2 (x/65536))else E.sh.a.tick 0) (j:Int) level (x/65536) x):=by
  unfold En.begin
  rw[hs,hl,Int.toNat_natCast,hu,hx]
  simp only[Bool.and_self,Bool.not_true,Option.isSome_none]
  rw[if_neg (by simp),if_neg (by simp),if_neg hnm2]
 have hB0:B≤w.heap.size:=h.ex.hB
 have hL1:=hf.sh.l2
 have hfs:=hf.sh
 have HH:=Aa (And.intro h (And.intro hf hu))
 rw[hbeg]
 have hi0:0≤x%65536:=by omega
 have hi1:x%65536≤65535:=by omega
 have ht0:0≤x/65536:=by omega
 have CD:=fun wz=>EO x wz x0 x1
 have CHp:=fun(Q R:Nat→Prop) (wz:World) (hz:EX B wz P Q R D.A (Bk D E) (E.sh.setA (E.sh.a.tick 0))) (hfz:AW N (E.sh.setA (E.sh.a.tick 0)))=>On hz hfz x x0 x1
 obtain⟨now,hnow⟩:=Aq (x/65536)
 obtain⟨last,hlast⟩:=Aq (x%65536)
 rw[hnow]at CD CHp ht0 ⊢
 rw[hlast]at CD CHp hi0 hi1 ⊢
 obtain⟨res,hres⟩:∃res:Int×Int×En,(if E.sh.limit≤now then(0,16,{E with sh:=E.sh.setA (E.sh.a.tick 0)})else(E.made+1,0,E.begun (if 0<last then(E.sh.a.tick 0).cas (E.sh.pl last) (Bc 1 0) (Bc 2 now)else E.sh.a.tick 0) (j:Int) level now x))=res:=⟨_,rfl⟩
 rw[hres]
 have HRes:=Aa hres
 clear hbeg hx hs hl hm h hf hx0 hlast hnow hres
 go_enter Tryz.func34,Tryz.ntmps34
 go_wp2_with fail
 refine CS.mono ?_
 rintro e w1 ⟨rfl,rfl⟩
 go_wp2_with fail
 refine CL.mono ?_
 rintro e w1 ⟨rfl,rfl⟩
 clear CS CL
 go_wp2_with fail
 refine CLd.mono ?_
 rintro e w1 ⟨rfl,ex1,o1,m1⟩
 clear CLd
 go_wp2_with fail
 refine(CD w1).mono ?_
 rintro e w1' ⟨rfl,rfl⟩
 clear CD
 have c1:=Ae w1 D.A.e 1 (.int .u64 E.sh.limit) (ex1.sh.eng.cell 1)
 by_cases hlim:E.sh.limit≤now
 ·have hres:=HRes.out
  rw[if_pos hlim]at hres
  have hg:now≥E.sh.limit:=hlim
  have HR:=Aa (HH.out.1.shared (P':=P) (D':=D) (E':={E with sh:=E.sh.setA (E.sh.a.tick 0)}) o1 (AC.refl _ _) (ex1.all.conv (fun b hb=> .inr ⟨8,by omega,hb⟩) (fun b ⟨i,hi,_,hb⟩=> .inr ⟨i,hi,hb⟩)) rfl (fun _=>⟨rfl,rfl⟩) (fun _=>rfl) ⟨rfl,rfl,rfl,rfl,rfl⟩)
  have hres:=Aa hres
  clear ex1 o1 m1 CHp
  go_wp2_with fail
  go_ret2
  rw[←hres.out]
  exact⟨rfl,HR.out⟩
 ·have hres:=HRes.out
  rw[if_neg hlim]at hres
  have hg:¬now≥E.sh.limit:=hlim
  have hw1:IntKind.u64.wrap (now+1)=now+1:=by rw[IntKind.wrap_u64];omega
  have hw2:IntKind.i64.wrap (E.made+1)=E.made+1:=by rw[IntKind.wrap_i64];omega
  have hw3:IntKind.i64.wrap (1+(j:Int))=1+(j:Int):=by rw[IntKind.wrap_i64];omega
  have hf1:AW N (E.sh.setA (E.sh.a.tick 0)):=AW.tick hfs 0
  have hln:¬(E.sh.limit≤now):=hlim
  clear hlim
  by_cases hp:0<last
  ·rw[if_pos hp]at hres
   have hres:=Aa hres
   have hpg:last>0:=hp
   go_wp2_with fail
   refine(CHp _ _ w1 ex1 hf1).mono ?_
   rintro e w2 ⟨rfl,ex2,o2,m2⟩
   have O2:=Aa (o1.trans o2)
   clear CHp ex1 o1 m1 o2 m2
   obtain⟨a2,ha2⟩:=Ad ((E.sh.a.tick 0).cas (E.sh.pl last) (Bc 1 0) (Bc 2 now))
   replace ex2:EX B w2 P (F j) (Do F j) D.A (Bk D E) (E.sh.setA a2):=by rw[ha2];exact ex2
   rw[←ha2]at hres
   clear ha2
   have hmm:=@run_makeMap Tryz.prog
   have c21:=Ae w2 D.A.e 21 (.int .i64 E.made) (ex2.sh.eng.cell 21)
   have f21:=fun i=>ex2.sh.eng.free i
   have ex30:=ex2.setK 21 (.int .i64 (E.made+1)) (K':={Bk D E with made:=E.made+1}) rfl
   obtain⟨mb,hmb⟩:=Ad w2.heap.size
   obtain⟨V3,hV3⟩:=Ad (w2.setCell ⟨D.A.e,21,none⟩ (.int .i64 (E.made+1)))
   exact zA
  ·rw[if_neg hp]at hres
   have hres:=Aa hres
   have hpg:¬last>0:=hp
   have ex2:=ex1
   have O2:=Aa o1
   clear CHp ex1 o1 m1
   obtain⟨a2,ha2⟩:=Ad (E.sh.a.tick 0)
   replace ex2:EX B w1 P (F j) (Do F j) D.A (Bk D E) (E.sh.setA a2):=by rw[ha2];exact ex2
   rw[←ha2]at hres
   clear ha2
   have hmm:=@run_makeMap Tryz.prog
   have c21:=Ae w1 D.A.e 21 (.int .i64 E.made) (ex2.sh.eng.cell 21)
   have f21:=fun i=>ex2.sh.eng.free i
   have ex30:=ex2.setK 21 (.int .i64 (E.made+1)) (K':={Bk D E with made:=E.made+1}) rfl
   obtain⟨mb,hmb⟩:=Ad w1.heap.size
   obtain⟨V3,hV3⟩:=Ad (w1.setCell ⟨D.A.e,21,none⟩ (.int .i64 (E.made+1)))
   exact zA
end
section
attribute [local go_sem ↓] Go.wp_at_zero Go.wp_at_succ
theorem NI{B N:Nat}{w:World}{P:Nat→Prop}{F:Nat→Nat→Prop}{D:DB}{E:En}(h:A6 B w P F D E)(hf:As N E)(hN2:N≤30000000)(s level:Int):
 Calls Tryz.prog 34 #[bp D.A.e,s,level] w (Je B w P F D (E.begin s level)):=by
 by_cases hno:Be s=true∧DV level=true∧E.ses s.toNat=none∧E.made<2000
 ·obtain⟨h1,h2,h3,h4⟩:=hno
  obtain⟨s0,s1⟩:0≤s∧s<8:=by simpa[Be]using h1
  obtain⟨j,rfl⟩:=Int.eq_ofNat_of_zero_le s0
  exact Nf h hf hN2 j level (by omega) h2 h3 h4
 ·exact M6 h s level hno
def Jr(B:Nat)(w:World)(P:Nat→Prop)(F:Nat→Nat→Prop)(D:DB)(r:Int×En)(e:Ending)(w':World):Prop:=
 e= .returned (.int .i64 r.1)∧Bg B w P F D r.2 w'
theorem Nc{B N:Nat}{w:World}{P:Nat→Prop}{F:Nat→Nat→Prop}{D:DB}{E:En}(h:A6 B w P F D E)(hf:As N E)(s kind key hi value:Int)(hno:¬(Be s=true∧∃t,E.ses s.toNat=some ⟨t,none⟩∧AF ⟨kind,key,hi,value⟩=true∧¬(12≤t.ops∧DY ⟨kind,key,hi,value⟩=false))):
 Calls Tryz.prog 37 #[bp D.A.e,.int .i64 s,.agg #[kind,key,hi,value]] w (Jr B w P F D (E.issue s ⟨kind,key,hi,value⟩)):=by
 obtain⟨W,hW⟩:=Ad (w.alloc (.cells #[kind,key,hi,value] 37))
 have oW:Ac w W:=by rw[hW];exact(Ac.refl w).alloc _
 have BX:Am W w.heap.size 37 #[kind,key,hi,value]:=by rw[hW];exact Am.new _ _ _
 obtain⟨n0,hn0⟩:=Ad w.heap.size
 have HN:=Aa hn0
 have HO:=Aa oW
 rw[←hn0]at BX
 have CS:=E5 s W
 have CO:=LE kind key hi value W
 have b0:=Ae W n0 0 (.int .i64 kind) (BX.cell 0)
 have b1:=Ae W n0 1 (.int .i64 key) (BX.cell 1)
 have b2:=Ae W n0 2 (.int .i64 hi) (BX.cell 2)
 have b3:=Ae W n0 3 (.int .i64 value) (BX.cell 3)
 have HBX:=Aa BX
 have HE:=Aa h
 obtain⟨op,hop⟩:∃op:DS,op=⟨kind,key,hi,value⟩:=⟨_,rfl⟩
 rw[←hop]at CO hno ⊢
 have CEn:=fun wz=>Lo kind key hi value wz
 rw[←hop]at CEn
 have HOP:=Aa hop
 clear BX hn0 hop
 cases hs:Be s with
 |false=>
  rw[show E.issue s op=(1,E) by unfold En.issue;rw[hs];rfl]
  rw[hs]at CS
  clear hs h hf oW hno CO CEn
  exact S_
 |true=>
  obtain⟨s0,s1⟩:0≤s∧s<8:=by simpa[Be]using hs
  obtain⟨j,rfl⟩:=Int.eq_ofNat_of_zero_le s0
  rw[hs]at CS
  have hj:j<8:=by omega
  have j8:(j:Int)<8:=by omega
  have ct:=Ae W D.A.e (5+j) (Cj D E j) (by rw[hW];exact(EX.tpc (h.ex.only0 ((Ac.refl w).alloc _)) j hj))
  have hst:((j:Int)).toNat=j:=rfl
  cases hu:E.ses j with
  |none=>
   rw[show E.issue (j:Int) op=(9,E) by unfold En.issue;rw[hs,hst,hu];rfl]
   rw[show Cj D E j= .pointer none by unfold Cj;rw[hu]]at ct
   clear hs h hf oW hno CO CEn hu
   exact S_
  |some y=>
   rw[show Cj D E j=bp (D.S j).t by unfold Cj;rw[hu]]at ct
   have hT:=(h.hole.tx j y hj (by omega) hu)
   have hT0:=Aa hT
   have c2:∀w2,Ac W w2→Ab w2 D.A.e (13+j) (Cm D E j)∧Ab w2 D.A.e (5+j) (bp (D.S j).t)∧Ab w2 ((D.S j).t) 5 (.int .i64 y.t.ops)∧Ab w2 n0 0 (.int .i64 kind)∧Ab w2 n0 1 (.int .i64 key)∧Ab w2 n0 2 (.int .i64 hi)∧Ab w2 n0 3 (.int .i64 value):=by
    intro w2 o2
    have ex2:=h.ex.only0 (HO.out.trans o2)
    have t2:=(HO.out.trans o2).blk hT.blk (fun e=>e)
    have x2:=o2.blk HBX.out (fun e=>e)
    refine⟨EX.cpc ex2 j hj,?_,t2.cell 5,x2.cell 0,x2.cell 1,x2.cell 2,x2.cell 3⟩
    exact UZ
   cases hok:AF op with
   |false=>
    rw[show E.issue (j:Int) op=(9,E) by unfold En.issue;rw[hs,hst,hu,hok];rfl]
    rw[hok]at CO
    clear hs h hf oW hno CEn hu hT hok
    go_enter Tryz.func37,Tryz.ntmps37
    go_upto_region 1 with(fail)
    rw[←hW,←HN.out]
    clear hW
    go_wp2_with fail
    refine CS.mono ?_
    rintro e w1 ⟨rfl,rfl⟩
    go_wp2_with fail
    refine CO.mono ?_
    rintro e w2 ⟨rfl,o2⟩
    have O2:=Aa (HO.out.trans o2)
    exact zC
   |true=>
    obtain⟨yt,yc⟩:=y
    cases yc with
    |some ck=>
     obtain⟨yc,yk⟩:=ck
     rw[show E.issue (j:Int) op=(9,E) by unfold En.issue;rw[hs,hst,hu,hok];rfl]
     have hcp:Cm D E j=bp (D.S j).c:=by unfold Cm;rw[hu]
     rw[hok]at CO
     have HC2:=Aa (And.intro c2 hcp)
     clear hs h hf oW hno CEn hu hT hok c2 hcp
     go_enter Tryz.func37,Tryz.ntmps37
     go_upto_region 1 with(fail)
     rw[←hW,←HN.out]
     clear hW
     go_wp2_with fail
     refine CS.mono ?_
     rintro e w1 ⟨rfl,rfl⟩
     go_wp2_with fail
     refine CO.mono ?_
     rintro e w2 ⟨rfl,o2⟩
     have O2:=Aa (HO.out.trans o2)
     have c13:=(HC2.out.1 w2 o2).1
     rw[HC2.out.2]at c13
     exact zC
    |none=>
     have hops:12≤yt.ops∧DY op=false:=by
      rw[hst]at hno
      rcases Classical.em (12≤yt.ops∧DY op=false)with q|q
      ·exact q
      ·exact absurd ⟨hs,yt,hu,hok,q⟩ hno
     rw[show E.issue (j:Int) op=(65,E) by unfold En.issue;rw[hs,hst,hu];simp only[Bool.not_true,Bool.false_eq_true,if_false];rw[hok];simp only[Option.isSome_none,Bool.or_false,Bool.not_true,Bool.false_eq_true,if_false];rw[if_pos hops]]
     have hcp:Cm D E j= .pointer none:=by unfold Cm;rw[hu]
     rw[hok]at CO
     have HC2:=Aa (And.intro c2 hcp)
     have ho12:yt.ops≥12:=hops.1
     rw[hops.2]at CEn
     clear hs h hf oW hno hu hT hok c2 hcp hops
     go_enter Tryz.func37,Tryz.ntmps37
     go_upto_region 1 with(fail)
     rw[←hW,←HN.out]
     clear hW
     go_wp2_with fail
     refine CS.mono ?_
     rintro e w1 ⟨rfl,rfl⟩
     go_wp2_with fail
     refine CO.mono ?_
     rintro e w2 ⟨rfl,o2⟩
     have O2:=Aa (HO.out.trans o2)
     obtain⟨c13,c5,cops,d0,d1,d2,d3⟩:=HC2.out.1 w2 o2
     rw[HC2.out.2]at c13
     clear o2
     go_wp2_with fail
     refine(CEn w2).mono ?_
     rintro e w3 ⟨rfl,o3⟩
     have O3:=Aa (O2.out.trans o3)
     clear o3
     go_wp2_with fail
     go_ret
     exact⟨rfl,Bg.same HE.out O3.out⟩
end
section
attribute [local go_sem ↓] Go.wp_at_zero Go.wp_at_succ
def GH(S:SA)(cb:Nat):SA:={S with c:=cb,qa:=none,qc:=0}
theorem Dc.plus{B:Nat}{w:World}{Q Q':Nat→Prop}{S:SA}{t:Dq}(h:Dc B w Q S t)(hq:∀b,Q b→Q' b)(cb:Nat):Dc B w Q' (GH S cb) t:=
 ⟨h.blk,h.map,fun k x hk=>⟨(h.cel k x hk).1,(h.cel k x hk).2.1,hq _ (h.cel k x hk).2.2⟩,h.xinj,h.keys,h.reads,h.bonds,h.kb,hq _ h.qt,hq _ h.qm,fun b hb=>hq _ (h.qk b hb),fun b hb=>hq _ (h.qr b hb),fun b hb=>hq _ (h.qb b hb)⟩
theorem Dc.setOps{B:Nat}{w:World}{Q:Nat→Prop}{S:SA}{t:Dq}(h:Dc B w Q S t)(n:Int):Dc B (w.setCell ⟨S.t,5,none⟩ (.int .i64 n)) Q S {t with ops:=n}∧Aw [123] w (w.setCell ⟨S.t,5,none⟩ (.int .i64 n))∧Ah (fun b=>b=S.t) w (w.setCell ⟨S.t,5,none⟩ (.int .i64 n)):=by
 have o1:Ah (fun b=>b=S.t) w (w.setCell ⟨S.t,5,none⟩ (.int .i64 n)):=Ah.setCell (S:=fun b=>b=S.t) (Ah.refl _ w) (fun _=>rfl) _
 have t1:Aw [123] w (w.setCell ⟨S.t,5,none⟩ (.int .i64 n)):=Aw.of o1 h.blk
 refine⟨⟨?_,h.map.ty t1,fun k x hk=>⟨(h.cel k x hk).1,(h.cel k x hk).2.1.ty t1 (by decide),(h.cel k x hk).2.2⟩,h.xinj,AO h.keys t1 (by decide),AO h.reads t1 (by decide),AO h.bonds t1 (by decide),h.kb,h.qt,h.qm,h.qk,h.qr,h.qb⟩,t1,o1⟩
 exact h.blk.set 5 (.int .i64 n)
theorem NJ{B:Nat}{w V:World}{P:Nat→Prop}{F:Nat→Nat→Prop}{D:DB}{E:En}(h:A6 B w P F D E){j cb:Nat}(hj:j<8){A:EA}{K:EK}{S:Sh}{t:Dq}{op:DS}{seq:Int}(ex:EX B V P (F j) (Do F j) A K S)(T:Dc B V (F j) (D.S j) t)(m:w.heap.size≤V.heap.size)
 (hb:Am V cb 127 (BW (GH (D.S j) cb) (Bz op seq) .nilFunc)) (hc:w.heap.size≤cb) (hP:¬P cb):CX B V P (fun b=>F j b∨b=cb) (Do F j) A K (GH (D.S j) cb) .nilFunc ⟨S,t,Bz op seq⟩:=by
 have hB:B≤w.heap.size:=h.ex.hB
 refine⟨ex.sh,T.plus (fun b hb=> .inl hb) cb,⟨hb,World.ownsRow_nil _ _ _ _,.inr rfl,fun b hb=>by cases hb⟩,fun b hb hq=>?_,ex.uP,fun b hb=>?_,ex.aP,fun b hb=>?_,fun b ⟨i,hi,_,hb⟩=>?_,fun i hi=>?_⟩
 ·rcases hq with q|q
  ·exact h.hole.pf j (by omega) b hb q
  ·rw[q]at hb;exact hP hb
 ·rcases hb with q|q
  ·have:=h.hole.uF j (by omega) b q;omega
  ·rw[q];exact Am.lt ‹_›
 ·rcases hb with q|q
  ·exact h.hole.aF j (by omega) b q
  ·omega
 ·have:=h.hole.uF i hi b hb;omega
 ·rcases ex.prs i hi with e|⟨b,off,cs,h1,h2,h3,h4,h5,h6⟩
  ·exact .inl e
  ·exact .inr ⟨b,off,cs,h1,h2,fun q=>q.elim h3 (fun q=>Am.ne h5 hb (by decide) q),h4,h5,h6⟩
theorem Lp{B:Nat}{w w9:World}{P P1 Q1:Nat→Prop}{F:Nat→Nat→Prop}{D:DB}{E:En}(h:A6 B w P F D E){j cb:Nat}(hj:j<8){A1:EA}{K9:EK}{S1:SA}{v1:Value}{X1:Cx}{k1:Da}{seq:Int}{t0:Dq}(hu:E.ses j=some ⟨t0,none⟩)
 (cx:CX B w9 P1 Q1 (Do F j) A1 K9 S1 v1 X1) (st:BP w9 P1 Q1 (Do F j) A1 S1 X1 k1 v1) (m:Ag w w9 P (F j) P1 Q1) (kp:At D.A A1 (GH (D.S j) cb) S1) (hK:K9={Bk D E with seq:=seq,cp:=AT (Cm D E) j (bp cb)}):
 Bg B w P F D {E with sh:=X1.sh,seq:=seq,ses:=AT E.ses j (some ⟨X1.t,some (X1.c,k1)⟩)} w9:=by
 refine A6.close (s:=j) (P':=P1) (Q':=Q1) (D':=⟨A1,AT D.S j S1,AT D.nx j v1,D.sv,D.la,D.lc⟩) h hj m cx.ap cx.uQ cx.aQ kp.e (fun i hi=>⟨Ap _ _ _ hi,Ap _ _ _ hi⟩) (fun i hi=>Ap _ _ _ hi) ⟨rfl,rfl,rfl,rfl,rfl⟩ ?_ (fun y hy=>?_) (fun t c k' hy=>?_)
 ·have e1:=LQ (D:=D) (E:=E) (D':=⟨A1,AT D.S j S1,AT D.nx j v1,D.sv,D.la,D.lc⟩) (E':={E with sh:=X1.sh,seq:=seq,ses:=AT E.ses j (some ⟨X1.t,some (X1.c,k1)⟩)}) (j:=j) (x:=some ⟨X1.t,some (X1.c,k1)⟩) rfl rfl (tp:=bp (D.S j).t) (by show _=bp S1.t;rw[kp.t];rfl)
  have e2:=Lt (D:=D) (E:=E) (D':=⟨A1,AT D.S j S1,AT D.nx j v1,D.sv,D.la,D.lc⟩) (E':={E with sh:=X1.sh,seq:=seq,ses:=AT E.ses j (some ⟨X1.t,some (X1.c,k1)⟩)}) (j:=j) (x:=some ⟨X1.t,some (X1.c,k1)⟩) rfl rfl (cp:=bp cb) (by show _=bp S1.c;rw[kp.c];rfl)
  have e3:AT (Cj D E) j (bp (D.S j).t)=Cj D E:=by
   funext i
   by_cases q:i=j
   ·subst q;rw[Au];unfold Cj;rw[hu]
   ·rw[Ap _ _ _ q]
  have e4:Bk ⟨A1,AT D.S j S1,AT D.nx j v1,D.sv,D.la,D.lc⟩ {E with sh:=X1.sh,seq:=seq,ses:=AT E.ses j (some ⟨X1.t,some (X1.c,k1)⟩)}=K9:=by
   rw[hK]
   unfold Bk
   rw[e1,e2,e3]
  rw[e4]
  exact cx.toEX
 ·have hy':AT E.ses j (some (⟨X1.t,some (X1.c,k1)⟩:Kx)) j=some y:=hy
  rw[Au]at hy'
  cases hy'
  show Dc B w9 _ (AT D.S j S1 j) _
  rw[Au]
  exact cx.tx
 ·have hy':AT E.ses j (some (⟨X1.t,some (X1.c,k1)⟩:Kx)) j=some ⟨t,some (c,k')⟩:=hy
  rw[Au]at hy'
  cases hy'
  show Gm B w9 _ (AT D.S j S1 j) _ (AT D.nx j v1 j)∧BP w9 _ _ _ _ (AT D.S j S1 j) _ _ (AT D.nx j v1 j)
  rw[Au,Au]
  exact⟨cx.cl,st⟩
theorem EG.new{N:Nat}{op:DS}(h:AF op=true)(seq:Int):EG N (Bz op seq):=by
 exact T_
theorem MK{B N:Nat}{w:World}{P:Nat→Prop}{F:Nat→Nat→Prop}{D:DB}{E:En}(h:A6 B w P F D E)(hf:As N E)(hN:256≤N)(hN2:N≤30000000)(j:Nat)(hj:j<8)(kind key hi value:Int){t:Dq}(hu:E.ses j=some ⟨t,none⟩)(hok:AF ⟨kind,key,hi,value⟩=true)(hm:¬(12≤t.ops∧DY ⟨kind,key,hi,value⟩=false)):
 Calls Tryz.prog 37 #[bp D.A.e,.int .i64 (j:Int),.agg #[kind,key,hi,value]] w (Jr B w P F D (E.issue (j:Int) ⟨kind,key,hi,value⟩)):=by
 obtain⟨W,hW⟩:=Ad (w.alloc (.cells #[kind,key,hi,value] 37))
 have oW:Ac w W:=by rw[hW];exact(Ac.refl w).alloc _
 have BX:Am W w.heap.size 37 #[kind,key,hi,value]:=by rw[hW];exact Am.new _ _ _
 obtain⟨n0,hn0⟩:=Ad w.heap.size
 have HN:=Aa hn0
 rw[←hn0]at BX
 have hs:Be (j:Int)=true:=by simp[Be];omega
 have CS:=E5 (j:Int) W
 rw[hs]at CS
 have CO:=LE kind key hi value W
 rw[hok]at CO
 have CEn:=fun wz=>Lo kind key hi value wz
 have j8:(j:Int)<8:=by omega
 have hst:((j:Int)).toNat=j:=rfl
 have hT:=h.hole.tx j _ hj (by omega) hu
 have hops:=(hf.tx j _ hu).2.2
 have hw0:IntKind.i64.wrap (E.seq+1)=E.seq+1:=by have:=hf.seq;rw[IntKind.wrap_i64];omega
 have hw1:IntKind.i64.wrap (t.ops+1)=t.ops+1:=by have:=hops;rw[IntKind.wrap_i64];dsimp only at *;omega
 obtain⟨X,hX⟩:∃X:Cx,X=⟨E.sh,t.more ⟨kind,key,hi,value⟩,Bz ⟨kind,key,hi,value⟩ (E.seq+1)⟩:=⟨_,rfl⟩
 have hI:E.issue (j:Int) ⟨kind,key,hi,value⟩=(0,{E with sh:=(Cb X).1.sh,seq:=E.seq+1,ses:=AT E.ses j (some ⟨(Cb X).1.t,some ((Cb X).1.c,(Cb X).2)⟩)}):=by
  unfold En.issue
  rw[hs,hst,hu]
  simp only[Bool.not_true,Bool.false_eq_true,if_false]
  rw[hok]
  simp only[Option.isSome_none,Bool.or_false,Bool.not_true,Bool.false_eq_true,if_false]
  rw[if_neg hm,hX]
 have hfX:Ax N X:=by
  rw[hX]
  have q:=(hf.tx j _ hu).1
  refine⟨hf.sh,?_,EG.new hok _⟩
  show Dy N E.sh.slots (t.more _)
  unfold Dq.more
  split
  ·exact q
  ·exact Ly
 have c2:∀w2,Ac W w2→Ab w2 D.A.e (13+j) (.pointer none)∧Ab w2 D.A.e (5+j) (bp (D.S j).t)∧Ab w2 ((D.S j).t) 5 (.int .i64 t.ops)∧Ab w2 n0 0 (.int .i64 kind)∧Ab w2 n0 1 (.int .i64 key)∧Ab w2 n0 2 (.int .i64 hi)∧Ab w2 n0 3 (.int .i64 value):=by
  intro w2 o2
  have ex2:=h.ex.only0 (oW.trans o2)
  have t2:=(oW.trans o2).blk hT.blk (fun e=>e)
  have x2:=o2.blk BX (fun e=>e)
  refine⟨?_,?_,t2.cell 5,x2.cell 0,x2.cell 1,x2.cell 2,x2.cell 3⟩
  ·rw[EX.cpc ex2 j hj]
   show some (Cm D E j)=_
   unfold Cm;rw[hu]
  ·exact UZ
 obtain⟨c13_,ct,ctt_,b0,b1,b2,b3⟩:=c2 W (Ac.refl W)
 have HC2:=Aa c2
 have HM:=Aa hm
 have HA:=Aa (And.intro h (And.intro hf (And.intro hu (And.intro hX (And.intro hfX (And.intro oW (And.intro BX hT)))))))
 rw[hI]
 obtain⟨r,hr⟩:=Aq (Cb X)
 rw[hr]
 have HR:=Aa hr
 have HPm:=Aa (fun e=>(hf.pm e).1)
 have hseq0:=hf.seq.1
 clear hI hr hm hX hfX h hf hu BX hn0 c2 hs hok hst hT hops oW c13_ ctt_
 cases hen:DY ⟨kind,key,hi,value⟩with
 |true=>
  have hmore:t.more ⟨kind,key,hi,value⟩=t:=by unfold Dq.more;rw[hen];rfl
  rw[hen]at CEn
  by_cases hbig:t.ops≥12
  ·have hbg:=hbig
   go_enter Tryz.func37,Tryz.ntmps37
   go_upto_region 1 with(fail)
   rw[←hW,←HN.out]
   clear hW
   go_wp2_with fail
   refine CS.mono ?_
   rintro e w1 ⟨rfl,rfl⟩
   go_wp2_with fail
   refine CO.mono ?_
   rintro e w2 ⟨rfl,o2⟩
   obtain⟨c13,c5,cops,d0,d1,d2,d3⟩:=HC2.out w2 o2
   have O2:=Aa o2
   clear o2 CS CO ct b0 b1 b2 b3
   go_wp2_with fail
   refine(CEn w2).mono ?_
   rintro e w3 ⟨rfl,o3⟩
   have O3:=Aa (O2.out.trans o3)
   obtain⟨c13,c5,cops,d0,d1,d2,d3⟩:=HC2.out w3 O3.out
   clear o3
   go_wp2_with fail
   refine(CEn w3).mono ?_
   rintro e W3 ⟨rfl,o3⟩
   have O4:=Aa (O3.out.trans o3)
   exact SL
  ·have hbg:¬t.ops≥12:=hbig
   go_enter Tryz.func37,Tryz.ntmps37
   go_upto_region 1 with(fail)
   rw[←hW,←HN.out]
   clear hW
   go_wp2_with fail
   refine CS.mono ?_
   rintro e w1 ⟨rfl,rfl⟩
   go_wp2_with fail
   refine CO.mono ?_
   rintro e w2 ⟨rfl,o2⟩
   obtain⟨c13,c5,cops,d0,d1,d2,d3⟩:=HC2.out w2 o2
   have O2:=Aa o2
   clear o2 CS CO ct b0 b1 b2 b3
   go_wp2_with fail
   refine(CEn w2).mono ?_
   rintro e W3 ⟨rfl,o3⟩
   have O4:=Aa (O2.out.trans o3)
   exact SL
 |false=>
  have hmore:t.more ⟨kind,key,hi,value⟩={t with ops:=t.ops+1}:=by unfold Dq.more;rw[hen];rfl
  have hlt:¬t.ops≥12:=fun e=>HM.out ⟨e,hen⟩
  rw[hen]at CEn
  go_enter Tryz.func37,Tryz.ntmps37
  go_upto_region 1 with(fail)
  rw[←hW,←HN.out]
  clear hW
  go_wp2_with fail
  refine CS.mono ?_
  rintro e w1 ⟨rfl,rfl⟩
  go_wp2_with fail
  refine CO.mono ?_
  rintro e w2 ⟨rfl,o2⟩
  obtain⟨c13,c5,cops,d0,d1,d2,d3⟩:=HC2.out w2 o2
  have O2:=Aa o2
  clear o2 CS CO ct b0 b1 b2 b3
  go_wp2_with fail
  refine(CEn w2).mono ?_
  rintro e w3 ⟨rfl,o3⟩
  have O3:=Aa (O2.out.trans o3)
  obtain⟨c13,c5,cops,d0,d1,d2,d3⟩:=HC2.out w3 O3.out
  clear o3 CEn
  have tf:=fun i=>((HA.out.2.2.2.2.2.1.trans O3.out).blk HA.out.2.2.2.2.2.2.2.blk (fun e=>e)).free i
  obtain⟨T3_,t3,o3⟩:=(HA.out.2.2.2.2.2.2.2.far (HA.out.2.2.2.2.2.1.trans O3.out) (fun b _ e=>e)).setOps (t.ops+1)
  obtain⟨W3,hW3⟩:=Ad (w3.setCell ⟨(D.S j).t,5,none⟩ (.int .i64 (t.ops+1)))
  rw[←hW3]at T3_ t3 o3
  have qt:F j (D.S j).t:=T3_.qt
  have EX3:=Aa (((HA.out.1.exs j (by omega)).only0 (HA.out.2.2.2.2.2.1.trans O3.out)).far o3 (fun b hb e=>HA.out.1.hole.pf j (by omega) b hb (by rw[e];exact qt)) (fun b e=> .inl (by rw[e];exact qt)))
  have M3:=Aa ((Ag.only0 P (F j) (HA.out.2.2.2.2.2.1.trans O3.out)).trans (⟨o3.mono (fun b _ e=> .inr (by rw[e];exact qt)),AC.refl _ _,AC.refl _ _⟩:Ag w3 W3 P (F j) P (F j)))
  have BX3:=Aa (o3.blk (O3.out.blk HA.out.2.2.2.2.2.2.1 (fun e=>e)) (fun e=>by have:=HA.out.1.hole.uF j (by omega) _ qt;rw[←e,HN.out]at this;omega))
  have T3:=Aa T3_
  have s5:W3.cell? ⟨D.A.e,5+j,none⟩=some (bp (D.S j).t):=by
   rw[EX.tpc EX3.out j hj]
   show some (Cj D E j)=_
   unfold Cj;rw[HA.out.2.2.1]
  clear T3_ t3 o3 qt O2
  go_upto_region 10 with(fail)
  rw[←hW3]
  clear hW3 tf c13 c5 cops d0 d1 d2 d3
  have v22:=Ae W3 D.A.e 22 (.int .i64 E.seq) (EX3.out.sh.eng.cell 22)
  have f22:=fun i=>EX3.out.sh.eng.free i
  have ex40:=EX3.out.setK 22 (.int .i64 (E.seq+1)) (K':={Bk D E with seq:=E.seq+1}) rfl
  obtain⟨V4,hV4⟩:=Ad (W3.setCell ⟨D.A.e,22,none⟩ (.int .i64 (E.seq+1)))
  rw[←hV4]at ex40
  obtain⟨ex4,oP4,m4⟩:=ex40
  have T4:=T3.out.far oP4 (HA.out.1.hole.pf j (by omega)).symm
  have B4:=oP4.blk BX3.out (fun e=>by have:=HA.out.1.ex.uP _ e;rw[HN.out]at this;omega)
  obtain⟨cb,hcb⟩:=Ad V4.heap.size
  obtain⟨V,hV⟩:=Ad ((V4.alloc (.cells #[kind,key,hi,value,.nilFunc,.int .i64 0,.int .i64 0,.slice none 0 0,.int .i64 0,.int .i64 0,.bool false,.bool false,.int .i64 (E.seq+1)] 127)).drew)
  have oV:Ac V4 V:=by rw[hV];exact((Ac.refl V4).alloc _).drew
  have bC:Am V cb 127 (BW (GH (D.S j) cb) (Bz ⟨kind,key,hi,value⟩ (E.seq+1)) .nilFunc):=by rw[hV,hcb];exact(Am.new _ _ _).drew
  have szw:w.heap.size≤cb:=by rw[hcb];exact Nat.le_trans M3.out.o.size m4.o.size
  have hPcb:¬P cb:=fun e=>by have:=HA.out.1.ex.uP _ e;omega
  have cx:=NJ (op:=⟨kind,key,hi,value⟩) (seq:=E.seq+1) (cb:=cb) HA.out.1 hj (ex4.only0 oV) (T4.far oV (fun b _ e=>e)) (Nat.le_trans M3.out.o.size (Nat.le_trans m4.o.size oV.size)) bC szw hPcb
  have hXe:(⟨E.sh,{t with ops:=t.ops+1},Bz ⟨kind,key,hi,value⟩ (E.seq+1)⟩:Cx)=X:=by rw[HA.out.2.2.2.1];rw[hmore]
  rw[hXe]at cx
  have mV:Ag w V P (F j) P (fun b=>F j b∨b=cb):=⟨(M3.out.trans (m4.trans (Ag.only0 P (F j) oV))).o,AC.refl _ _,fun b hb=>hb.imp (fun q=>q) (fun q=>by omega)⟩
  have c24:=Ae V4 D.A.e 22 (.int .i64 (E.seq+1)) (ex4.sh.eng.cell 22)
  have d0:=Ae V4 n0 0 (.int .i64 kind) (B4.cell 0)
  have d1:=Ae V4 n0 1 (.int .i64 key) (B4.cell 1)
  have d2:=Ae V4 n0 2 (.int .i64 hi) (B4.cell 2)
  have d3:=Ae V4 n0 3 (.int .i64 value) (B4.cell 3)
  have CF1:=IP cx HA.out.2.2.2.2.1 (by omega) (by rw[HA.out.2.2.2.1];exact HPm.out)
  rw[HR.out]at CF1
  have CF:Calls Tryz.prog 80 #[bp D.A.e,bp (D.S j).t,bp cb] V (Ak B V P (fun b=>F j b∨b=cb) (Do F j) D.A {Bk D E with seq:=E.seq+1} (GH (D.S j) cb) .nilFunc r.1 (some r.2)):=CF1
  clear CF1
  have vt:V.cell? ⟨D.A.e,13+j,none⟩=some (.pointer none):=by
   exact SG
  have HV:=Aa (And.intro cx (And.intro mV hPcb))
  have HCB:=Aa hcb
  clear cx mV ex4 oP4 m4 T4 B4 oV bC szw hPcb hXe hcb
  go_upto_region 11 with(fail)
  rw[←hV4]
  clear hV4 v22 f22
  go_region
  go_upto_region 12 with(fail)
  rw[←hV,←HCB.out]
  clear hV
  go_wp2_with fail
  ((with_reducible refine CF.mono ?_))
  rintro e w6 r6
  obtain⟨P1,Q1,A1,S1,v1,rfl,cx1,nx1,m1,k1⟩:=r6
  clear CF
  obtain⟨fn,bd,cp0,hv1⟩:=BP.func (show BP w6 P1 Q1 (Do F j) A1 S1 r.1 r.2 v1 from nx1)
  subst hv1
  have hblk:=cx1.cl.blk
  have c4:=Ae w6 cb 4 .nilFunc (by have:=hblk.cell 4;rw[k1.c]at this;exact this)
  have cfr:∀i,w6.frozen? ⟨cb,i,none⟩=false:=fun i=>by have:=hblk.free i;rw[k1.c]at this;exact this
  have cxU0:=cx1.setF 4 (.func (.func fn) bd cp0) (c':=r.1.c) (nx':= .func (.func fn) bd cp0) rfl rfl
  rw[k1.c]at cxU0
  obtain⟨U,hU⟩:=Ad (w6.setCell ⟨cb,4,none⟩ (.func (.func fn) bd cp0))
  have cxU1:CX B U P1 Q1 (Do F j) A1 {Bk D E with seq:=E.seq+1} S1 (.func (.func fn) bd cp0) r.1∧Ag w6 U P1 Q1 P1 Q1:=by rw[hU];exact cxU0
  obtain⟨cxU,mU⟩:=cxU1
  clear cxU0 hblk
  have ufr:∀i,U.frozen? ⟨D.A.e,i,none⟩=false:=fun i=>by have:=cxU.sh.eng.free i;rw[k1.e]at this;exact this
  have u13:U.cell? ⟨D.A.e,13+j,none⟩=some (.pointer none):=by
   exact SS
  have cxY0:=cxU.setK (13+j) (bp cb) (K':={Bk D E with seq:=E.seq+1,cp:=AT (Cm D E) j (bp cb)}) (Lf A1 {Bk D E with seq:=E.seq+1} _ j hj (bp cb))
  rw[k1.e]at cxY0
  obtain⟨cxY,mY⟩:=cxY0
  have stY:=(show BP w6 P1 Q1 (Do F j) A1 S1 r.1 r.2 (.func (.func fn) bd cp0) from nx1).pass ((mU.trans mY).pass _) rfl rfl
  have HZ:=Aa (Lp HA.out.1 hj HA.out.2.2.1 (seq:=E.seq+1) (cb:=cb) cxY stY (HV.out.2.1.trans (m1.trans (mU.trans mY))) k1 rfl)
  clear cx1 nx1 m1 k1 cxU mU cxY mY stY
  go_upto_region 13 with(fail)
  rw[←hU]
  clear hU c4 cfr
  go_wp2_with fail
  go_ret
  exact⟨rfl,HZ.out⟩
end
section
structure Cl where
 op:DS
 res:Dt
instance:Inhabited Cl:=⟨⟨⟨0,0,0,0⟩,.zero⟩⟩
structure Dl where
 id:Int
 level:Int
 state:Int
 beg:Int
 fin:Int
 ops:List Cl
instance:Inhabited Dl:=⟨⟨0,0,0,0,0,[]⟩⟩
def Jg(l:List (Int×Int))(key:Int):Nat:=(l.takeWhile fun p=>decide (p.1<key)).length
def Sf(l:List (Int×Int))(key:Int):Bool:=match l[Jg l key]? with
 |some p=>decide (p.1=key)
 |none=>false
def Ve(l:List (Int×Int))(key value:Int)(gone:Bool):List (Int×Int):=
 l.take (Jg l key)++(if gone then[]else[(key,value)])++l.drop (if Sf l key then Jg l key+1 else Jg l key)
def Rq(l:List (Int×Int))(lo hi:Int):List (Int×Int):=l.filter fun p=>decide (lo≤p.1)&&decide (p.1≤hi)
abbrev Ba(l:List Dl)(i:Nat):Dl:=l.getD i default
end
section
structure GT where
 t:Dq
 out:Option Bool
 ops:List Cl
structure Gh where
 n:Int
 T:Int→GT
 ch:Nat→List Int
 mkr:Int→Int
 en:Int→Option Int
section
variable (g:Gh)
def Gh.is(i:Int):Prop:=1≤i∧i≤g.n
end
section
variable {g:Gh} {k:Nat}
end
section
variable {g:Gh} {k:Nat}
end
end
section
theorem AS.onIff{a:AS}{i:Int}:a.on i=true↔0≤i∧i<(a.ws.length:Int):=by unfold AS.on;simp
theorem AS.load_tick(a:AS)(i j:Int):(a.tick i).load j=a.load j:=by
 unfold AS.load AS.on;rw[AS.tick_ws]
theorem AS.on_store(a:AS)(i v j:Int):(a.store i v).on j=a.on j:=by unfold AS.on;rw[AS.store_len]
theorem AS.on_tick(a:AS)(i j:Int):(a.tick i).on j=a.on j:=by unfold AS.on;rw[AS.tick_ws]
theorem AS.on_cas(a:AS)(i o v j:Int):(a.cas i o v).on j=a.on j:=by unfold AS.on;rw[AS.cas_len]
theorem AS.load_store(a:AS)(i v j:Int):(a.store i v).load j=if j=i then(if a.on i then v else 0)else a.load j:=by
 unfold AS.load
 rw[AS.on_store]
 by_cases e:j=i
 ·subst e
  rw[if_pos rfl]
  by_cases h:a.on j=true
  ·rw[if_pos h,if_pos h]
   unfold AS.store
   rw[if_pos h]
   have:=AS.onIff.1 h
   rw[List.getD_eq_getElem?_getD,List.getElem?_set,if_pos rfl,if_pos (by omega)];rfl
  ·rw[if_neg h,if_neg h]
 ·rw[if_neg e]
  by_cases h:a.on j=true
  ·rw[if_pos h,if_pos h]
   unfold AS.store
   split
   ·next h2=>
    have:=AS.onIff.1 h
    have:=AS.onIff.1 h2
    rw[List.getD_eq_getElem?_getD,List.getElem?_set,if_neg (by omega),←List.getD_eq_getElem?_getD]
   ·rfl
  ·rw[if_neg h,if_neg h]
theorem AS.load_other{a:AS}{i v j:Int}(h:j≠i):(a.store i v).load j=a.load j:=by rw[AS.load_store,if_neg h]
theorem AS.load_same{a:AS}{i v:Int}(h:a.on i=true):(a.store i v).load i=v:=by rw[AS.load_store,if_pos rfl,if_pos h]
theorem AS.casOk_iff{a:AS}{i o:Int}(h:a.on i=true):a.casOk i o=true↔a.load i=o:=by
 unfold AS.casOk AS.load
 rw[h];simp
theorem AS.cas_yes{a:AS}{i o v:Int}(h:a.casOk i o=true):a.cas i o v=a.store i v:=by unfold AS.cas;rw[if_pos h]
theorem AS.cas_no{a:AS}{i o v:Int}(h:a.casOk i o=false):a.cas i o v=a.tick i:=by unfold AS.cas;rw[h];simp
theorem AS.load_cas_other{a:AS}{i o v j:Int}(h:j≠i):(a.cas i o v).load j=a.load j:=by
 cases hc:a.casOk i o with
 |true=>rw[AS.cas_yes hc,AS.load_other h]
 |false=>rw[AS.cas_no hc,AS.load_tick]
section
variable {g g':Gh} {now i:Int}
end
end
section
section
variable {g g':Gh} {S S':Sh} {now i:Int} {z:Option Int}
structure Of(g:Gh)(t:Dq)(i:Int):Prop where
 is:g.is t.id
 ne:t.id≠i
 t:(g.T t.id).t=t
end
end
section
def E9(slots limit:Int):En:=⟨⟨slots,limit,⟨List.replicate (73+slots*3+2001).toNat 0,0⟩,⟨List.replicate slots.toNat (0,false),[],0,false⟩,List.replicate slots.toNat (0,0),[]⟩,fun _=>none,0,0,0,.idle,0,[],false⟩
theorem Jf(n i:Nat):(List.replicate n (0:Int)).getD i 0=0:=by
 exact TQ
theorem Ir{slots limit:Int}(h1:1≤slots)(h2:slots≤256)(h3:1≤limit)(h4:limit≤1099511627776):As 256 (E9 slots limit):=by
 have l1:(List.replicate slots.toNat ((0:Nat),(0:Int))).length=slots.toNat:=List.length_replicate
 refine⟨⟨h1,h2,h3,h4,?_,fun i=>?_,?_,?_,fun i=>?_,fun i hi=>(by cases hi),Nat.zero_le _,⟨Int.le_refl _,by show(0:Int)≤_;omega⟩,Nat.zero_le _,fun k hk=>?_,fun i hi=>?_⟩,fun _=>⟨rfl,fun i=>?_⟩,⟨Int.le_refl _,by show(0:Int)≤2000;decide⟩,⟨Int.le_refl _,by show(0:Int)≤_;omega⟩,⟨Int.le_refl _,by show(0:Int)≤_;omega⟩,fun s _=>rfl,fun s x h=>(by cases h),fun s t c k h=>(by cases h),trivial,⟨Int.le_refl _,by show(0:Int)<_;decide⟩,fun p hp=>(by cases hp),Nat.zero_le _⟩
 ·show((List.replicate (73+slots*3+2001).toNat (0:Int)).length:Int)=_
  rw[List.length_replicate];show _=73+slots*3+2001;omega
 ·show 0≤(List.replicate _ (0:Int)).getD i 0∧_
  rw[Jf];exact⟨Int.le_refl _,by show(List.replicate _ (0:Int)).getD i 0<_;rw[Jf];decide⟩
 ·show((List.replicate slots.toNat ((0:Nat),(0:Int))).length:Int)=slots
  rw[l1];omega
 ·show(List.replicate slots.toNat ((0:Int),false)).length=(List.replicate slots.toNat ((0:Nat),(0:Int))).length
  rw[List.length_replicate,l1]
 ·show 0≤((List.replicate slots.toNat ((0:Int),false)).getD i (0,false)).1∧((List.replicate slots.toNat ((0:Int),false)).getD i (0,false)).1≤65535
  rw[List.getD_eq_getElem?_getD,List.getElem?_replicate];split<;>decide
 ·exact TJ
 ·exact TJ
 ·show((List.replicate slots.toNat ((0:Int),false)).getD i (0,false)).2=false
  exact TQ
section
variable {E:En} {g:Gh} {now last:Int} {N:Nat}
end
end
section
attribute [local go_sem ↓] Go.wp_at_zero Go.wp_at_succ
theorem QV(a b:Value)(n:Nat):madeCells #[a,b] (n*2)=(DI (fun _=>[a,b]) n).toArray:=by
 apply Array.ext'
 show(madeCells #[a,b] (n*2)).toList=DI (fun _=>[a,b]) n
 refine Kr (w:=2) (fun _=>rfl) (by omega) (by rw[Array.length_toList,size_madeCells]) (fun i f hi hf=>?_)
 unfold madeCells
 have hlt:i*2+f<n*2:=by omega
 rw[Array.getElem?_toList,Array.getElem?_map,Array.getElem?_eq_getElem (by simpa using hlt),Array.getElem_range]
 match f,hf with
 |0,_=>simp
 |1,_=>simp[Nat.add_mod]
theorem MN(n:Nat):CU (List.replicate n ((0:Int),false))=DI (fun _=>[.int .i64 0,.bool false]) n:=by
 unfold CU
 exact UX
theorem Og(n:Nat):DQ (List.replicate n ((0:Nat),(0:Int)))=DI (fun _=>[.int .i64 0,.int .i64 0]) n:=by
 unfold DQ
 exact UX
theorem Nj:(Tryz.prog.info? 228).map (fun i=>(i.zero,i.size,i.bytes))=some (some (.agg #[.int .i64 0,.bool false]),2,16):=by kernel_rfl
theorem KJ:(Tryz.prog.info? 148).map (fun i=>(i.zero,i.size,i.bytes))=some (some (.agg #[.int .i64 0,.int .i64 0]),2,16):=by kernel_rfl
theorem Nt(n:Nat)(hn:n≤1000000)(w:World):(Instr.makeSlice 184 (.int .i64 n) (.int .i64 n)).run Tryz.prog w= .ok (.slice (some ⟨w.heap.size,0,none⟩) n n) (w.alloc (.cells (CU (List.replicate n ((0:Int),false))).toArray 228)):=by
 obtain⟨i,hi,hz,h1,h2⟩:=info_parts Nj
 have hr:=run_make (P:=Tryz.prog) w 184 228 i _ Tryz.underlying184 hi hz .i64 .i64 n n (by omega) (Int.le_refl _) (by rw[h2];omega) (by omega)
 rw[h1,Int.toNat_natCast]at hr
 rw[show(Value.agg #[Value.int IntKind.i64 0,Value.bool false]).cells=#[Value.int IntKind.i64 0,Value.bool false] from rfl,QV,←MN]at hr
 exact hr
theorem QP(n:Nat)(hn:n≤1000000)(w:World):(Instr.makeSlice 99 (.int .i64 n) (.int .i64 n)).run Tryz.prog w= .ok (.slice (some ⟨w.heap.size,0,none⟩) n n) (w.alloc (.cells (DQ (List.replicate n ((0:Nat),(0:Int)))).toArray 148)):=by
 obtain⟨i,hi,hz,h1,h2⟩:=info_parts KJ
 have hr:=run_make (P:=Tryz.prog) w 99 148 i _ Tryz.underlying99 hi hz .i64 .i64 n n (by omega) (Int.le_refl _) (by rw[h2];omega) (by omega)
 rw[h1,Int.toNat_natCast]at hr
 rw[show(Value.agg #[Value.int IntKind.i64 0,Value.int IntKind.i64 0]).cells=#[Value.int IntKind.i64 0,Value.int IntKind.i64 0] from rfl,QV,←Og]at hr
 exact hr
def Lj(ps n:Nat):Array Value:=#[.slice (some (DP ps)) n n,.int .i64 65535,.slice none 0 0,.int .i64 0,.int .u32 0,.int .i32 0,.int .u32 0]
theorem OI(n:Nat)(h0:1≤n)(h1:n≤4096)(w:World):
 Calls Tryz.prog 41 #[.int .i64 (n:Int),.int .i64 65535] w fun e w'=>e= .returned (.tuple #[bp (w.heap.size+1),.int .i64 0])∧w'=(w.alloc (.cells (CU (List.replicate n ((0:Int),false))).toArray 228)).alloc (.cells (Lj w.heap.size n) 186):=by
 have hmk:=fun wx=>Nt n (by omega) wx
 have g1:¬((n:Int)<1):=by omega
 have g2:¬((n:Int)>4096):=by omega
 go_enter Tryz.func41,Tryz.ntmps41
 go_wp2_with fail
 go_ret2
 exact⟨rfl,rfl⟩
def Id(n:Nat):DB:=⟨⟨n+5,n+1,n,n+3,n+2,n+4,none,0,none,0,fun _=>none,fun _=>0⟩,fun _=>Fa 0 0,fun _=> .nilFunc,.nilFunc,none,0⟩
def QL(n:Nat):Nat→Prop:=fun b=>n≤b∧b≤n+5
def PY(w:World)(slots limit:Int)(e:Ending)(w':World):Prop:=
 ∃n,e= .returned (.tuple #[bp (n+5),.int .i64 0])∧w.heap.size≤n∧w'.heap.size=n+6∧Ac w w'∧∀B,B≤n→A6 B w' (QL n) (fun _ _=>False) (Id n) (E9 slots limit)
theorem PE{w9:World}{n k B:Nat}{limit:Int}(hB:B≤n)(ar:AN w9 (n+1) n (E9 (k:Int) limit).sh.a)(bs:Am w9 (n+2) 228 (CU (List.replicate k ((0:Int),false))).toArray)(bpl:Am w9 (n+3) 186 (Lj (n+2) k))
 (bv:Am w9 (n+4) 148 (DQ (List.replicate k ((0:Nat),(0:Int)))).toArray) (be:Am w9 (n+5) 107 (Fd (Id n).A (Bk (Id n) (E9 (k:Int) limit)) (E9 (k:Int) limit).sh)) (sz:w9.heap.size=n+6):A6 B w9 (QL n) (fun _ _=>False) (Id n) (E9 (k:Int) limit):=by
 have hk:((k:Int)).toNat=k:=rfl
 have Rq:∀i,i≤5→QL n (n+i):=fun i hi=>⟨by omega,by omega⟩
 have pl:D2 (Id n).A (E9 (k:Int) limit).sh.p=Lj (n+2) k:=by
  show #[Value.slice (some (DP (n+2))) (List.replicate k ((0:Int),false)).length (List.replicate k ((0:Int),false)).length,_,_,_,_,_,_]=_
  rw[List.length_replicate];rfl
 refine⟨⟨⟨be,ar,⟨?_,bs,World.ownsRow_nil _ _ _ _⟩,bv,World.ownsRow_nil _ _ _ _,Rq 5 (by omega),⟨Rq 1 (by omega),Rq 0 (by omega)⟩,⟨Rq 3 (by omega),Rq 2 (by omega)⟩,fun b hb=>(by cases hb),Rq 4 (by omega),fun b hb=>(by cases hb)⟩,fun b hb=>by have:=hb.2;omega,fun b hb=>Nat.le_trans hB hb.1,fun i hi=>(by cases hi)⟩,⟨fun j x _ _ he=>(by cases he),fun j t c k _ _ he=>(by cases he),fun _=>rfl,fun _=> .inl ⟨rfl,rfl,rfl⟩,fun j _ b _ hb=>hb,fun i j _ _ _ b hb=>hb.elim,fun j _ b hb=>hb.elim,fun j _ b hb=>hb.elim⟩⟩
 rw[pl];exact bpl
theorem Re(slots limit:Int)(hc:GI slots limit=true)(w:World):
 Calls Tryz.prog 18 #[.agg #[slots,.int .u64 limit]] w (PY w slots limit):=by
 have hcc:(1≤slots∧slots≤256)∧(1≤limit∧limit≤1099511627776):=by
  unfold GI at hc
  simp only[Bool.and_eq_true,decide_eq_true_eq]at hc
  omega
 obtain⟨⟨s1,s2⟩,l1,l2⟩:=hcc
 obtain⟨k,rfl⟩:=Int.eq_ofNat_of_zero_le (show 0≤slots by omega)
 obtain⟨W,hW⟩:=Ad (w.alloc (.cells #[.int .i64 (k:Int),.int .u64 limit] 54))
 have oW:Ac w W:=by rw[hW];exact(Ac.refl w).alloc _
 have BX:Am W w.heap.size 54 #[.int .i64 (k:Int),.int .u64 limit]:=by rw[hW];exact Am.new _ _ _
 obtain⟨n0,hn0⟩:=Ad w.heap.size
 rw[←hn0]at BX
 have HN:=Aa hn0
 have CC:=PZ (k:Int) limit W
 rw[hc]at CC
 have hw1:IntKind.i64.wrap ((k:Int)*3)=(k:Int)*3:=by rw[IntKind.wrap_i64];omega
 have hw2:IntKind.i64.wrap (73+(k:Int)*3)=73+(k:Int)*3:=by rw[IntKind.wrap_i64];omega
 have hw3:IntKind.i64.wrap (73+(k:Int)*3+2000)=73+(k:Int)*3+2000:=by rw[IntKind.wrap_i64];omega
 have hw4:IntKind.i64.wrap (73+(k:Int)*3+2000+1)=73+(k:Int)*3+2000+1:=by rw[IntKind.wrap_i64];omega
 have CA:=fun wz=>LW (73+(k:Int)*3+2000+1) (by omega) (by omega) wz
 have CP:=fun wz=>OI k (by omega) (by omega) wz
 have hmk:=fun wx=>QP k (by omega) wx
 have HB:=Aa (And.intro BX oW)
 have b0:=Ae W n0 0 (.int .i64 (k:Int)) (BX.cell 0)
 have b1:=Ae W n0 1 (.int .u64 limit) (BX.cell 1)
 clear BX hn0 oW hc
 go_enter Tryz.func18,Tryz.ntmps18
 go_upto_region 1 with(fail)
 rw[←hW,←HN.out]
 clear hW
 go_wp2_with fail
 refine CC.mono ?_
 rintro e w1 ⟨rfl,o1⟩
 have B1:=o1.blk HB.out.1 (fun e=>e)
 have c0:=Ae w1 n0 0 (.int .i64 (k:Int)) (B1.cell 0)
 have H1:=Aa (And.intro B1 (HB.out.2.trans o1))
 clear o1 B1 b0 b1 CC
 go_wp2_with fail
 refine(CA w1).mono ?_
 rintro e w2 ⟨rfl,ar2,be2,sz2⟩
 have o2:=Below.only0 be2
 have B2:=o2.blk H1.out.1 (fun e=>e)
 have c2:=Ae w2 n0 0 (.int .i64 (k:Int)) (B2.cell 0)
 obtain⟨n,hn⟩:=Ad w1.heap.size
 rw[←hn]at ar2 sz2 ⊢
 have a2:(w2.heap.size=n+2):=sz2
 have b2:=Ae w2 n0 0 (.int .i64 (k:Int)) c2
 have le0:w.heap.size≤n:=by rw[hn];exact H1.out.2.size
 have OO2:=H1.out.2.trans o2
 have CP2:=CP w2
 rw[a2]at CP2
 have H2:=Aa (And.intro B2 (And.intro OO2 (And.intro ar2 (And.intro a2 (And.intro le0 hn)))))
 clear ar2 be2 o2 B2 hn c0 CA a2 le0 OO2 CP sz2 c2
 go_wp2_with fail
 refine CP2.mono ?_
 rintro e w3 ⟨rfl,h3⟩
 have o3:Ac w2 w3:=by rw[h3];exact((Ac.refl w2).alloc _).alloc _
 have B3:=o3.blk H2.out.1 (fun e=>e)
 have d0:=Ae w3 n0 0 (.int .i64 (k:Int)) (B3.cell 0)
 have d1:=Ae w3 n0 1 (.int .u64 limit) (B3.cell 1)
 have bs3:Am w3 (n+2) 228 (CU (List.replicate k ((0:Int),false))).toArray:=by
  rw[h3]
  exact(Am.new' w2 _ _ _ H2.out.2.2.2.1.symm).alloc _
 have bp3:Am w3 (n+3) 186 (Lj (n+2) k):=by rw[h3];exact Am.new' _ _ _ _ (by simp[H2.out.2.2.2.1])
 have B3v:=B3.alloc (.cells (DQ (List.replicate k ((0:Nat),(0:Int)))).toArray 148)
 have v0:=Ae (w3.alloc (.cells (DQ (List.replicate k ((0:Nat),(0:Int)))).toArray 148)) n0 0 (.int .i64 (k:Int)) (B3v.cell 0)
 have v1:=Ae (w3.alloc (.cells (DQ (List.replicate k ((0:Nat),(0:Int)))).toArray 148)) n0 1 (.int .u64 limit) (B3v.cell 1)
 have sz3:w3.heap.size=n+4:=by rw[h3];simp[H2.out.2.2.2.1]
 have ar3:=H2.out.2.2.1.only o3 (fun e=>e) (fun e=>e)
 have H3:=Aa (And.intro bs3 (And.intro bp3 (And.intro sz3 (And.intro ar3 (H2.out.2.1.trans o3)))))
 clear bs3 bp3 sz3 ar3 o3 B3 h3 CP2 B3v
 go_upto_region 5 with(fail)
 clear b2
 have hm9:=hmk
 clear hmk
 go_region
 clear v0 v1 d0 d1 hm9
 go_wp2_with fail
 go_ret2
 obtain⟨bs3,bp3,sz3,ar3,o3⟩:=H3.out
 have le0:=H2.out.2.2.2.2.1
 have sz4:(w3.alloc (.cells (DQ (List.replicate k ((0:Nat),(0:Int)))).toArray 148)).heap.size=n+5:=by simp[sz3]
 refine⟨n,by rw[sz3];rfl,le0,?_,((o3.alloc _).alloc _).drew,fun B hB=>PE hB ?_ ?_ ?_ ?_ ?_ ?_⟩
 ·simp[sz3]
 ·exact((ar3.alloc _).alloc _).drew
 ·exact((bs3.alloc _).alloc _).drew
 ·exact((bp3.alloc _).alloc _).drew
 ·exact((Am.new' w3 _ _ _ sz3.symm).alloc _).drew
 ·have pe:Fd (Id n).A (Bk (Id n) (E9 (k:Int) limit)) (E9 (k:Int) limit).sh=#[.int .i64 k,.int .u64 limit,.pointer (some (DP (n+1))),.pointer (some (DP (n+3))),.slice (some (DP (n+4))) k k,.pointer none,.pointer none,.pointer none,.pointer none,.pointer none,.pointer none,.pointer none,.pointer none,.pointer none,.pointer none,.pointer none,.pointer none,.pointer none,.pointer none,.pointer none,.pointer none,.int .i64 0,.int .i64 0,.int .i64 0,.slice none 0 0,.nilFunc,.int .u64 0,.slice none 0 0,.bool false]:=by
   show #[_,_,_,_,Value.slice _ (List.replicate k ((0:Nat),(0:Int))).length (List.replicate k ((0:Nat),(0:Int))).length,_,_,_,_,_,_,_,_,_,_,_,_,_,_,_,_,_,_,_,_,_,_,_,_]=_
   rw[List.length_replicate];rfl
  rw[sz3,pe]
  exact(Am.new' (w3.alloc (.cells (DQ (List.replicate k ((0:Nat),(0:Int)))).toArray 148)) _ _ _ sz4.symm).drew
 ·simp[sz3]
end
section
def AV(w:World)(a:Option Addr)(ps:List (Int×Int)):Prop:=
 ps=[]∨∃b off,a=some ⟨b,off,none⟩∧∀i,i<ps.length→Ab w b (off+i*2) (.int .i64 (ps.getD i (0,0)).1)∧Ab w b (off+(i*2+1)) (.int .i64 (ps.getD i (0,0)).2)
theorem AV.only{w w':World}{a:Option Addr}{ps:List (Int×Int)}{S:Nat→Prop}(h:AV w a ps)(o:Ah S w w')(hs:∀x,a=some x→¬S x.block):AV w' a ps:=by
 rcases h with rfl|⟨b,off,rfl,hc⟩
 ·exact .inl rfl
 ·refine .inr ⟨b,off,rfl,fun i hi=>?_⟩
  have hlt:=block_lt_of_cell (hc i hi).1
  have e:=o.block b hlt (hs _ rfl)
  exact⟨(World.cell?_of_block e).trans (hc i hi).1,(World.cell?_of_block e).trans (hc i hi).2⟩
theorem AV.of_own{B n c:Nat}{w:World}{a:Option Addr}{ps:List (Int×Int)}(h:w.ownsRow B 77 2 (.slice a n c) ps.length (AJ ps)):AV w a ps:=by
 rcases h.2 with⟨_,h0⟩|⟨g,cap,cur,hv,_⟩
 ·exact .inl (List.eq_nil_of_length_eq_zero h0)
 ·injection hv with h1 h2 h3
  subst h1 h2 h3
  refine .inr ⟨g,0,rfl,fun i hi=>?_⟩
  have G:=EE ps i hi
  have e0:=h.cellAt (i*2) (by omega)
  have e1:=h.cellAt (i*2+1) (by omega)
  rw[Nat.zero_add,Nat.zero_add]
  exact⟨e0.trans G.1,e1.trans G.2⟩
theorem Ah.grewTrans{P P2:Nat→Prop}{w w2 w3:World}(h:Ah P w w2)(g:AC w.heap.size P P2)(h':Ah P2 w2 w3):Ah P w w3:=
 ⟨h'.os.trans h.os,h'.tape.trans h.tape,h'.output.trans h.output,Nat.le_trans h.size h'.size,fun k hk hn=>(h'.block k (Nat.lt_of_lt_of_le hk h.size) (fun hp=>by
  rcases g k hp with h1|h1
  ·exact hn h1
  ·omega)).trans (h.block k hk hn)⟩
theorem Fy{l:List Dl}{i k:Nat}{d:Dl}(h:i<l.length):Ba (l.set i d) k=if k=i then d else Ba l k:=by
 unfold Ba
 rw[List.getD_eq_getElem?_getD,List.getD_eq_getElem?_getD,List.getElem?_set]
 by_cases e:i=k
 ·subst e;rw[if_pos rfl,if_pos h,if_pos rfl];rfl
 ·rw[if_neg e,if_neg (fun x=>e x.symm)]
theorem Jm{l:List Dl}{k:Nat}{d:Dl}:Ba (l++[d]) k=if k=l.length then d else Ba l k:=by
 unfold Ba
 rw[List.getD_eq_getElem?_getD,List.getD_eq_getElem?_getD]
 by_cases e:k=l.length
 ·subst e;rw[if_pos rfl];simp
 ·rw[if_neg e]
  by_cases hk:k<l.length
  ·rw[List.getElem?_append_left hk]
  ·rw[List.getElem?_eq_none (by simp;omega),List.getElem?_eq_none (by omega)]
theorem AH{w w':World}{S:Nat→Prop}(o:Ah S w w'){p:Addr}{v:Value}(h:w.cell? p=some v)(hs:¬S p.block):w'.cell? p=some v:=
 (World.cell?_of_block (o.block _ (block_lt_of_cell h) hs)).trans h
theorem Et{P:Program}(w:World){ops:Array Oper}{rest:List Oper}{o:Oper}{a:Act}{Q:Exit→Act→World→Prop}(hgd:o.guard=none)(s x:Operand)(t:TypeId)
 (ho:o.op= .call {callee:= .builtin .append,args:=#[s,x],argTypes:=#[t,t]})
 (base:Nat) (e:TypeId) (i:TypeInfo) (z:Value) (size bytes:Nat) (ht:P.underlying t=some (.slice e)) (hi:P.info? e=some i) (hz:i.zero=some z)
 (hsize:i.size=size) (hby:i.bytes=bytes) (hzs:z.cells.size=size) (hsz:0<size)
 (v:Value) (n:Nat) (xs:List Value) (hs:a.eval s=v) (hown:w.ownsRow base e size v n xs)
 (ao:Option Addr) (m c:Nat) (news:List Value) (hx:a.eval x= .slice ao m c) (hl:news.length=m*size) (hnone:ao=none→m=0∧c=0) (hnews:∀ad,ao=some ad→∀j u,news[j]? =some u→w.cell? (ad.add j)=some u) (h1:∀u∈news,u.oneCell'=true)
 (h63:n+m≤maxLen) (hbytes:(n+m)*bytes≤140737488355328) (hbase:base≤w.heap.size) (N:Nat) (hN:n+m=N)
 (h:∀a' c' w',w'.ownsRow base e size (.slice a' N c') N (xs++news)→w.grownBy w' v.ownBlock→wpList P ops Q rest (a.put o.dst (.slice a' N c')) w'):wpList P ops Q (o::rest) a w:=by
 subst hN
 have form:∀(v':Value) (w':World) (k:Nat) (ys:List Value),w'.ownsRow base e size v' k ys→∃a' c',v'= .slice a' k c':=by
  intro v' w' k ys hk
  rcases hk.2 with⟨rfl,rfl⟩|⟨g,cap,cur,rfl,_⟩
  ·exact⟨_,_,rfl⟩
  ·exact⟨_,_,rfl⟩
 cases ao with
 |some ad=>
  refine wpList_append_own w hgd s x t ho base e i z size bytes ht hi hz hsize hby hzs hsz v n xs hs hown ad m c news hx hl (hnews ad rfl) h1 h63 hbytes hbase ?_
  intro v' w' h2 h3 _
  obtain⟨a',c',rfl⟩:=form _ _ _ _ h2
  exact h a' c' w' h2 h3
 |none=>
  obtain⟨rfl,rfl⟩:=hnone rfl
  have hnews:news=[]:=List.eq_nil_of_length_eq_zero (by simpa using hl)
  subst hnews
  refine wpList_append_own_none hgd s x t ho base e i size ht hi v n xs hs hown hx ?_
  obtain⟨a',c',rfl⟩:=form _ _ _ _ hown
  exact h a' c' w (by simpa using hown) (World.grownBy.refl _ _)
def Ew(c:Cl)(pa:Option Addr)(pc:Nat):List Value:=[.int .i64 c.op.kind,.int .i64 c.op.key,.int .i64 c.op.hi,.int .i64 c.op.value,.int .i64 c.res.e,.int .i64 c.res.value,.slice pa c.res.pairs.length pc,.int .i64 c.res.over,.int .i64 c.res.reason]
def Jc(w:World)(g i:Nat)(c:Cl):Prop:=∃pa pc,AV w pa c.res.pairs∧∀f v,(Ew c pa pc)[f]? =some v→w.cell? ⟨g,i*9+f,none⟩=some v
def Ex(w:World)(a:Option Addr)(l:List Cl):Prop:=l=[]∨∃g,a=some ⟨g,0,none⟩∧∀i,i<l.length→Jc w g i (l.getD i default)
def By(d:Dl)(oa:Option Addr)(oc:Nat):List Value:=[.int .i64 d.id,.int .i64 d.level,.int .i64 d.state,.int .u64 d.beg,.int .u64 d.fin,.slice oa d.ops.length oc]
def RL(w:World)(g i:Nat)(d:Dl):Prop:=∃oa oc,Ex w oa d.ops∧d.ops.length≤oc∧∀f v,(By d oa oc)[f]? =some v→w.cell? ⟨g,i*6+f,none⟩=some v
def BJ(w:World)(a:Option Addr)(l:List Dl):Prop:=l=[]∨∃g,a=some ⟨g,0,none⟩∧∀i,i<l.length→RL w g i (Ba l i)
theorem Jc.only0{w w':World}{g i:Nat}{c:Cl}(h:Jc w g i c)(o:Ac w w'):Jc w' g i c:=by
 obtain⟨pa,pc,hp,hc⟩:=h
 exact⟨pa,pc,hp.only (S:=fun _=>False) o (fun _ _ hf=>hf),fun f v hv=>Ai o (hc f v hv)⟩
theorem Ex.only0{w w':World}{a:Option Addr}{l:List Cl}(h:Ex w a l)(o:Ac w w'):Ex w' a l:=by
 rcases h with rfl|⟨g,rfl,h⟩
 ·exact .inl rfl
 ·exact .inr ⟨g,rfl,fun i hi=>(h i hi).only0 o⟩
theorem BJ.only0{w w':World}{a:Option Addr}{l:List Dl}(h:BJ w a l)(o:Ac w w'):BJ w' a l:=by
 rcases h with rfl|⟨g,rfl,h⟩
 ·exact .inl rfl
 ·refine .inr ⟨g,rfl,fun i hi=>?_⟩
  obtain⟨oa,oc,h1,h2,h3⟩:=h i hi
  exact⟨oa,oc,h1.only0 o,h2,fun f v hv=>Ai o (h3 f v hv)⟩
theorem BJ.at_{w:World}{a:Option Addr}{l:List Dl}(h:BJ w a l){i:Nat}(hi:i<l.length):∃g oa oc,a=some ⟨g,0,none⟩∧Ex w oa (Ba l i).ops∧(Ba l i).ops.length≤oc∧
 Ab w g (i*6) (.int .i64 (Ba l i).id)∧Ab w g (i*6+1) (.int .i64 (Ba l i).level)∧Ab w g (i*6+2) (.int .i64 (Ba l i).state)∧Ab w g (i*6+3) (.int .u64 (Ba l i).beg)∧Ab w g (i*6+4) (.int .u64 (Ba l i).fin)∧Ab w g (i*6+5) (.slice oa (Ba l i).ops.length oc):=by
 rcases h with rfl|⟨g,rfl,h⟩
 ·simp at hi
 ·obtain⟨oa,oc,h1,h2,h3⟩:=h i hi
  exact⟨g,oa,oc,rfl,h1,h2,h3 0 _ rfl,h3 1 _ rfl,h3 2 _ rfl,h3 3 _ rfl,h3 4 _ rfl,h3 5 _ rfl⟩
theorem Ex.at_{w:World}{a:Option Addr}{l:List Cl}(h:Ex w a l){i:Nat}(hi:i<l.length):∃g pa pc,a=some ⟨g,0,none⟩∧AV w pa (l.getD i default).res.pairs∧
 Ab w g (i*9) (.int .i64 (l.getD i default).op.kind)∧Ab w g (i*9+1) (.int .i64 (l.getD i default).op.key)∧Ab w g (i*9+2) (.int .i64 (l.getD i default).op.hi)∧Ab w g (i*9+3) (.int .i64 (l.getD i default).op.value)∧
 Ab w g (i*9+4) (.int .i64 (l.getD i default).res.e)∧Ab w g (i*9+5) (.int .i64 (l.getD i default).res.value)∧Ab w g (i*9+6) (.slice pa (l.getD i default).res.pairs.length pc)∧Ab w g (i*9+7) (.int .i64 (l.getD i default).res.over)∧Ab w g (i*9+8) (.int .i64 (l.getD i default).res.reason):=by
 rcases h with rfl|⟨g,rfl,h⟩
 ·simp at hi
 ·obtain⟨pa,pc,h1,h3⟩:=h i hi
  exact⟨g,pa,pc,rfl,h1,h3 0 _ rfl,h3 1 _ rfl,h3 2 _ rfl,h3 3 _ rfl,h3 4 _ rfl,h3 5 _ rfl,h3 6 _ rfl,h3 7 _ rfl,h3 8 _ rfl⟩
def Sd(c:Cl)(pa:Option Addr)(pc:Nat):Value:= .agg #[.int .i64 c.op.kind,.int .i64 c.op.key,.int .i64 c.op.hi,.int .i64 c.op.value,.int .i64 c.res.e,.int .i64 c.res.value,.slice pa c.res.pairs.length pc,.int .i64 c.res.over,.int .i64 c.res.reason]
def CQ(ds:List Dl)(oa:Nat→Option Addr)(oc:Nat→Nat):List Value:=DI (fun i=>By (Ba ds i) (oa i) (oc i)) ds.length
def Ds(ops:List Cl)(pa:Nat→Option Addr)(pc:Nat→Nat):List Value:=DI (fun i=>Ew (ops.getD i default) (pa i) (pc i)) ops.length
theorem Cp(d:Dl)(a:Option Addr)(c:Nat):(By d a c).length=6:=rfl
theorem Fq(d:Cl)(a:Option Addr)(c:Nat):(Ew d a c).length=9:=rfl
structure GN where
 oa:Nat→Option Addr
 oc:Nat→Nat
 pa:Nat→Nat→Option Addr
 pc:Nat→Nat→Nat
abbrev GN.opV(A:GN)(ds:List Dl)(i:Nat):Value:= .slice (A.oa i) (Ba ds i).ops.length (A.oc i)
structure DO(B:Nat)(w:World)(R S:Nat→Prop)(va:Option Addr)(vc:Nat)(ds:List Dl)(A:GN):Prop where
 row:w.ownsRow B 57 6 (.slice va ds.length vc) ds.length (CQ ds A.oa A.oc)
 ops:∀i,i<ds.length→w.ownsRow B 66 9 (A.opV ds i) (Ba ds i).ops.length (Ds (Ba ds i).ops (A.pa i) (A.pc i))
 inj:∀i j,i<ds.length→j<ds.length→i≠j→AR (AA (A.opV ds i)) (AA (A.opV ds j))
 pr:∀i m,i<ds.length→m<(Ba ds i).ops.length→AV w (A.pa i m) ((Ba ds i).ops.getD m default).res.pairs∧(((Ba ds i).ops.getD m default).res.pairs≠[]→∀x,A.pa i m=some x→S x.block)
 rR:∀b,AA (.slice va ds.length vc) b→R b
 oR:∀i,i<ds.length→∀b,AA (A.opV ds i) b→R b
 ap:AR R S
 uR:Bo R w.heap.size
 uS:Bo S w.heap.size
 aR:Cz R B
 aS:Cz S B
theorem AV.onlyS{w w':World}{a:Option Addr}{ps:List (Int×Int)}{S T:Nat→Prop}(h:AV w a ps)(o:Ah T w w')(hS:ps≠[]→∀x,a=some x→S x.block)(ha:AR S T):AV w' a ps:=by
 by_cases e:ps=[]
 ·exact .inl e
 ·exact h.only o (fun x hx=>ha _ (hS e x hx))
theorem DO.only{B:Nat}{w w':World}{R S T:Nat→Prop}{va:Option Addr}{vc:Nat}{ds:List Dl}{A:GN}(h:DO B w R S va vc ds A)(o:Ah T w w')(h1:AR R T)(h2:AR S T):DO B w' R S va vc ds A:=
 ⟨AD h.row o (fun b hb=>h1 b (h.rR b hb)),fun i hi=>AD (h.ops i hi) o (fun b hb=>h1 b (h.oR i hi b hb)),h.inj,fun i m hi hm=>⟨(h.pr i m hi hm).1.onlyS o (h.pr i m hi hm).2 h2,(h.pr i m hi hm).2⟩,h.rR,h.oR,h.ap,h.uR.mono o.size,h.uS.mono o.size,h.aR,h.aS⟩
theorem DO.only0{B:Nat}{w w':World}{R S:Nat→Prop}{va:Option Addr}{vc:Nat}{ds:List Dl}{A:GN}(h:DO B w R S va vc ds A)(o:Ac w w'):DO B w' R S va vc ds A:=
 h.only (T:=fun _=>False) o (fun _ _ hf=>hf) (fun _ _ hf=>hf)
theorem DO.nil(B:Nat)(w:World):DO B w (fun _=>False) (fun _=>False) none 0 [] ⟨fun _=>none,fun _=>0,fun _ _=>none,fun _ _=>0⟩:=
 ⟨World.ownsRow_nil _ _ _ _,fun i hi=>by simp at hi,fun i j hi=>by simp at hi,fun i m hi=>by simp at hi,fun b hb=>absurd hb (Ce _ _ _),fun i hi=>by simp at hi,fun _ hf=>hf.elim,fun _ hf=>hf.elim,fun _ hf=>hf.elim,fun _ hf=>hf.elim,fun _ hf=>hf.elim⟩
theorem DO.callsIn{B:Nat}{w:World}{R S:Nat→Prop}{va:Option Addr}{vc:Nat}{ds:List Dl}{A:GN}(h:DO B w R S va vc ds A){i:Nat}(hi:i<ds.length):Ex w (A.oa i) (Ba ds i).ops∧(Ba ds i).ops.length≤A.oc i:=by
 have H:=h.ops i hi
 rcases H.2 with⟨e,h0⟩|⟨g,cap,cur,hv,_,_,h1,_⟩
 ·exact Sl
 ·have hv':=hv
  injection hv with e1 e2 e3
  have H':=H
  rw[show A.opV ds i= .slice (some ⟨g,0,none⟩) (Ba ds i).ops.length (A.oc i) by unfold GN.opV;rw[e1]]at H'
  refine⟨.inr ⟨g,e1,fun m hm=>⟨A.pa i m,A.pc i m,(h.pr i m hi hm).1,fun f v hv=>?_⟩⟩,by omega⟩
  have hf:f<9:=by
   have:=(List.getElem?_eq_some_iff.1 hv).1
   rw[Fq]at this;exact this
  rw[H'.cellAt (m*9+f) (by omega)]
  unfold Ds
  rw[Bu (fun k=>Fq _ _ _) _ _ _ hm hf]
  exact hv
theorem DO.deals{B:Nat}{w:World}{R S:Nat→Prop}{va:Option Addr}{vc:Nat}{ds:List Dl}{A:GN}(h:DO B w R S va vc ds A):BJ w va ds∧ds.length≤vc:=by
 have H:=h.row
 rcases H.2 with⟨e,h0⟩|⟨g,cap,cur,hv,_,_,h1,_⟩
 ·exact Sl
 ·injection hv with e1 e2 e3
  have H':=H
  rw[e1]at H'
  refine⟨.inr ⟨g,e1,fun i hi=>⟨A.oa i,A.oc i,(h.callsIn hi).1,(h.callsIn hi).2,fun f v hv=>?_⟩⟩,by omega⟩
  exact UT
theorem DO.push{B gg cap:Nat}{w w1:World}{R S:Nat→Prop}{va:Option Addr}{vc:Nat}{ds:List Dl}{A:GN}(h:DO B w R S va vc ds A){d:Dl}(hd:d.ops=[])
 (hown:w1.ownsRow B 57 6 (.slice (some ⟨gg,0,none⟩) (ds.length+1) cap) (ds.length+1) (CQ ds A.oa A.oc++By d none 0)) (hg:w.grownBy w1 (Value.slice va ds.length vc).ownBlock) (hat:(Value.slice va ds.length vc).ownBlock=some gg∨w.heap.size≤gg) (hlt:gg<w1.heap.size):
 ∃A',DO B w1 (fun b=>R b∨b=gg) S (some ⟨gg,0,none⟩) cap (ds++[d]) A'∧Ah R w w1:=by
 have o1:Ah (AA (.slice va ds.length vc)) w w1:=⟨hg.os,hg.tape,hg.output,hg.size,fun b hb hn=>hg.block b hb (fun e=>hn e.symm)⟩
 have oR:Ah R w w1:=o1.toward h.rR
 have hap:AR S (AA (.slice va ds.length vc)):=fun b hb hr=>h.ap b (h.rR b hr) hb
 have rapt:∀i,i<ds.length→AR (AA (A.opV ds i)) (AA (.slice va ds.length vc)):=fun i hi=>(Dg h.row (h.ops i hi) (by decide)).symm
 refine⟨⟨fun i=>if i=ds.length then none else A.oa i,fun i=>if i=ds.length then 0 else A.oc i,A.pa,A.pc⟩,?_,oR⟩
 have hat':∀i,i<ds.length→Ba (ds++[d]) i=Ba ds i:=fun i hi=>by rw[Jm,if_neg (by omega)]
 have hat2:Ba (ds++[d]) ds.length=d:=by rw[Jm,if_pos rfl]
 have hV:∀i,i<ds.length→GN.opV ⟨fun i=>if i=ds.length then none else A.oa i,fun i=>if i=ds.length then 0 else A.oc i,A.pa,A.pc⟩ (ds++[d]) i=A.opV ds i:=fun i hi=>by
  unfold GN.opV
  simp only[if_neg (show ¬i=ds.length by omega),hat' i hi]
 have hV2:GN.opV ⟨fun i=>if i=ds.length then none else A.oa i,fun i=>if i=ds.length then 0 else A.oc i,A.pa,A.pc⟩ (ds++[d]) ds.length= .slice none 0 0:=by
  unfold GN.opV
  simp only[if_true,hat2,hd,List.length_nil]
 have hn:(ds++[d]).length=ds.length+1:=by simp
 have hrow:CQ (ds++[d]) (fun i=>if i=ds.length then none else A.oa i) (fun i=>if i=ds.length then 0 else A.oc i)=CQ ds A.oa A.oc++By d none 0:=by
  unfold CQ
  rw[hn,Dp]
  congr 1
  ·exact Df _ (fun i hi=>by simp only[if_neg (show ¬i=ds.length by omega),hat' i hi])
  ·simp only[if_true,hat2]
 refine⟨?_,fun i hi=>?_,fun i j hi hj hne=>?_,fun i m hi hm=>?_,fun b hb=>?_,fun i hi b hb=>?_,fun b hb hS=>?_,fun b hb=>?_,h.uS.mono o1.size,fun b hb=>?_,h.aS⟩
 ·rw[hrow,hn];exact hown
 ·by_cases e:i=ds.length
  ·subst e
   rw[hV2,hat2,hd]
   exact World.ownsRow_nil _ _ _ _
  ·have hi':i<ds.length:=by simp at hi;omega
   rw[hV i hi',hat' i hi']
   exact AD (h.ops i hi') o1 (rapt i hi')
 ·by_cases e:i=ds.length
  ·subst e;rw[hV2];exact fun b hb=>absurd hb (Ce _ _ _)
  ·by_cases e':j=ds.length
   ·subst e';rw[hV2];exact fun b _ hb=>Ce _ _ _ hb
   ·have hi':i<ds.length:=by simp at hi;omega
    have hj':j<ds.length:=by simp at hj;omega
    rw[hV i hi',hV j hj'];exact h.inj i j hi' hj' hne
 ·by_cases e:i=ds.length
  ·subst e;rw[hat2,hd]at hm;simp at hm
  ·have hi':i<ds.length:=by simp at hi;omega
   rw[hat' i hi']at hm ⊢
   exact⟨(h.pr i m hi' hm).1.onlyS o1 (h.pr i m hi' hm).2 hap,(h.pr i m hi' hm).2⟩
 ·exact .inr (AE.1 hb)
 ·by_cases e:i=ds.length
  ·subst e;rw[hV2]at hb;exact absurd hb (Ce _ _ _)
  ·have hi':i<ds.length:=by simp at hi;omega
   rw[hV i hi']at hb
   exact .inl (h.oR i hi' b hb)
 ·rcases hb with hb|rfl
  ·exact h.ap b hb hS
  ·rcases hat with x|x
   ·exact h.ap b (h.rR b x) hS
   ·have:=h.uS b hS;omega
 ·rcases hb with hb|rfl
  ·exact Nat.lt_of_lt_of_le (h.uR b hb) o1.size
  ·exact hlt
 ·exact Uh
theorem DO.at_{B:Nat}{w:World}{R S:Nat→Prop}{va:Option Addr}{vc:Nat}{ds:List Dl}{A:GN}(h:DO B w R S va vc ds A)(hn:0<ds.length):∃g,va=some ⟨g,0,none⟩∧R g∧g<w.heap.size∧(∀o,w.frozen? ⟨g,o,none⟩=false)∧
 ∀i,i<ds.length→∀f v,(By (Ba ds i) (A.oa i) (A.oc i))[f]? =some v→w.cell? ⟨g,i*6+f,none⟩=some v:=by
 rcases h.row.2 with⟨e,h0⟩|⟨g,cap,cur,hv,_,hg,_⟩
 ·omega
 ·injection hv with e1 e2 e3
  have H':=h.row
  rw[e1]at H'
  refine⟨g,e1,h.rR g (by rw[e1];exact AE.2 rfl),lt_of_block hg,fun o=>H'.frozenAt o,fun i hi f v hv=>?_⟩
  exact UT
theorem DO.turn{B g:Nat}{w:World}{R S:Nat→Prop}{vc:Nat}{ds:List Dl}{A:GN}(h:DO B w R S (some ⟨g,0,none⟩) vc ds A){i f:Nat}{v:Value}(hi:i<ds.length)(hf:f<6){d':Dl}(hops:d'.ops=(Ba ds i).ops)(hc:∀a c,By d' a c=(By (Ba ds i) a c).set f v):
 DO B (w.setCell ⟨g,i*6+f,none⟩ v) R S (some ⟨g,0,none⟩) vc (ds.set i d') A∧Ah R w (w.setCell ⟨g,i*6+f,none⟩ v):=by
 have hn:(ds.set i d').length=ds.length:=List.length_set
 have hS:∀k,Ba (ds.set i d') k=if k=i then d' else Ba ds k:=fun k=>Fy hi
 have hgR:R g:=h.rR g (AE.2 rfl)
 have o1:Ah (AA (.slice (some ⟨g,0,none⟩) ds.length vc)) w (w.setCell ⟨g,i*6+f,none⟩ v):=Ah.setCell (S:=AA (.slice (some ⟨g,0,none⟩) ds.length vc)) (Ah.refl _ w) (fun _=>AE.2 rfl) v
 have oR:Ah R w (w.setCell ⟨g,i*6+f,none⟩ v):=o1.toward h.rR
 have hO:∀k,(Ba (ds.set i d') k).ops=(Ba ds k).ops:=fun k=>by
  rw[hS];split
  ·rename_i e;subst e;exact hops
  ·rfl
 have hV:∀k,A.opV (ds.set i d') k=A.opV ds k:=fun k=>by unfold GN.opV;rw[hO]
 have hap:AR S (AA (.slice (some ⟨g,0,none⟩) ds.length vc)):=fun b hb hr=>h.ap b (h.rR b hr) hb
 have rapt:∀k,k<ds.length→AR (AA (A.opV ds k)) (AA (.slice (some ⟨g,0,none⟩) ds.length vc)):=fun k hk=>(Dg h.row (h.ops k hk) (by decide)).symm
 refine⟨⟨?_,fun k hk=>?_,fun k j hk hj hne=>?_,fun k m hk hm=>?_,fun b hb=>?_,fun k hk b hb=>?_,h.ap,h.uR.mono o1.size,h.uS.mono o1.size,h.aR,h.aS⟩,oR⟩
 ·have:=(h.row.stored (i*6+f) v).1
  have e:(CQ ds A.oa A.oc).set (i*6+f) v=CQ (ds.set i d') A.oa A.oc:=by
   unfold CQ
   rw[hn]
   exact Eh (fun k=>Cp _ _ _) hi hf (fun k hk hne=>by rw[hS,if_neg hne]) (by rw[hS,if_pos rfl];exact hc _ _) (fun k=>Cp _ _ _)
  rw[e]at this
  rw[hn];exact this
 ·rw[hn]at hk
  rw[hV,hO]
  exact AD (h.ops k hk) o1 (rapt k hk)
 ·rw[hn]at hk hj
  rw[hV,hV];exact h.inj k j hk hj hne
 ·rw[hn]at hk
  rw[hO]at hm ⊢
  exact⟨(h.pr k m hk hm).1.onlyS o1 (h.pr k m hk hm).2 hap,(h.pr k m hk hm).2⟩
 ·rw[hn]at hb;exact h.rR b hb
 ·rw[hn]at hk
  rw[hV]at hb;exact h.oR k hk b hb
theorem DO.call{B g gg cap:Nat}{w w1:World}{R S:Nat→Prop}{vc:Nat}{ds:List Dl}{A:GN}(h:DO B w R S (some ⟨g,0,none⟩) vc ds A){i:Nat}(hi:i<ds.length){c:Cl}{pa:Option Addr}{pc:Nat}
 (hp:AV w pa c.res.pairs) (hpn:c.res.pairs≠[]→∀x,pa=some x→¬R x.block∧x.block<w.heap.size∧B≤x.block)
 (hown:w1.ownsRow B 66 9 (.slice (some ⟨gg,0,none⟩) ((Ba ds i).ops.length+1) cap) ((Ba ds i).ops.length+1) (Ds (Ba ds i).ops (A.pa i) (A.pc i)++Ew c pa pc)) (hg:w.grownBy w1 (A.opV ds i).ownBlock) (hat:(A.opV ds i).ownBlock=some gg∨w.heap.size≤gg) (hlt:gg<w1.heap.size):
 ∃A',DO B (w1.setCell ⟨g,i*6+5,none⟩ (.slice (some ⟨gg,0,none⟩) ((Ba ds i).ops.length+1) cap)) (fun b=>R b∨b=gg) (fun b=>S b∨(c.res.pairs≠[]∧∃x,pa=some x∧x.block=b)) (some ⟨g,0,none⟩) vc (ds.set i {Ba ds i with ops:=(Ba ds i).ops++[c]}) A'
  ∧Ah R w (w1.setCell ⟨g,i*6+5,none⟩ (.slice (some ⟨gg,0,none⟩) ((Ba ds i).ops.length+1) cap)):=by
 obtain⟨ops,hops⟩:=Ad ((Ba ds i).ops)
 rw[←hops]at hown ⊢
 obtain⟨d',hd'⟩:∃d':Dl,d'={Ba ds i with ops:=ops++[c]}:=⟨_,rfl⟩
 have hd'o:d'.ops=ops++[c]:=by rw[hd']
 have hd'c:∀a c1,By d' a c1=(By (Ba ds i) a c1).set 5 (.slice a (ops.length+1) c1):=fun a c1=>by rw[hd'];unfold By;simp
 rw[←hd']
 have o1:Ah (AA (A.opV ds i)) w w1:=⟨hg.os,hg.tape,hg.output,hg.size,fun b hb hn=>hg.block b hb (fun e=>hn e.symm)⟩
 have hrow1:=AD h.row o1 (Dg h.row (h.ops i hi) (by decide))
 have hgR:R g:=h.rR g (AE.2 rfl)
 have hglt:g<w.heap.size:=h.uR g hgR
 have hgne:gg≠g:=fun e=>by
  have:=Dg hrow1 hown (by decide)
  exact this g (AE.2 rfl) (AE.2 e.symm)
 have o2:Ah (fun b=>b=g) w1 (w1.setCell ⟨g,i*6+5,none⟩ (.slice (some ⟨gg,0,none⟩) (ops.length+1) cap)):=Ah.setCell (S:=fun b=>b=g) (Ah.refl _ w1) (fun _=>rfl) _
 obtain⟨W,hW⟩:=Ad (w1.setCell ⟨g,i*6+5,none⟩ (.slice (some ⟨gg,0,none⟩) (ops.length+1) cap))
 have hst:=(hrow1.stored (i*6+5) (.slice (some ⟨gg,0,none⟩) (ops.length+1) cap)).1
 rw[←hW]at o2 hst ⊢
 have oR:Ah R w W:=(o1.toward (h.oR i hi)).trans (o2.mono (fun b _ hb=>by subst hb;exact hgR))
 have hn:(ds.set i d').length=ds.length:=List.length_set
 have hS:∀k,Ba (ds.set i d') k=if k=i then d' else Ba ds k:=fun k=>Fy hi
 have hne5:∀k,k<ds.length→k≠i→AR (AA (A.opV ds k)) (AA (A.opV ds i)):=fun k hk hne=>h.inj k i hk hi hne
 have hSR:AR S (AA (A.opV ds i)):=fun b hb hr=>h.ap b (h.oR i hi b hr) hb
 have hSg:AR S (fun b=>b=g):=fun b hb e=>by subst e;exact h.ap b hgR hb
 obtain⟨A',hA'⟩:∃A':GN,A'=⟨fun k=>if k=i then some ⟨gg,0,none⟩else A.oa k,fun k=>if k=i then cap else A.oc k,fun k m=>if k=i∧m=ops.length then pa else A.pa k m,fun k m=>if k=i∧m=ops.length then pc else A.pc k m⟩:=⟨_,rfl⟩
 have hVi:A'.opV (ds.set i d') i= .slice (some ⟨gg,0,none⟩) (ops.length+1) cap:=by
  unfold GN.opV;rw[hS,if_pos rfl,hd'o,hA'];simp
 have hVk:∀k,k≠i→A'.opV (ds.set i d') k=A.opV ds k:=fun k hk=>by
  unfold GN.opV;rw[hS,if_neg hk,hA'];simp only[if_neg hk]
 have hggR:∀b,b=gg→R b∨b=gg:=fun b e=> .inr e
 have ggw:∀k,k<ds.length→k≠i→¬AA (A.opV ds k) gg:=fun k hk hne hx=>by
  rcases hat with x|x
  ·exact hne5 k hk hne gg hx x
  ·have:=h.uR gg (h.oR k hk gg hx);omega
 have ggS:¬S gg:=fun hx=>by
  rcases hat with x|x
  ·exact h.ap gg (h.oR i hi gg x) hx
  ·have:=h.uS gg hx;omega
 have hpx:c.res.pairs≠[]→∀x,pa=some x→x.block≠gg:=fun hne x hx e=>by
  obtain⟨p1,p2,p3⟩:=hpn hne x hx
  rcases hat with y|y
  ·exact p1 (by rw[e];exact h.oR i hi gg y)
  ·omega
 have hw1:w.heap.size≤W.heap.size:=Nat.le_trans o1.size o2.size
 refine⟨A',⟨?_,fun k hk=>?_,fun k j hk hj hne=>?_,fun k m hk hm=>?_,fun b hb=>?_,fun k hk b hb=>?_,fun b hb hs=>?_,fun b hb=>?_,fun b hb=>?_,fun b hb=>?_,fun b hb=>?_⟩,oR⟩
 ·have e:(CQ ds A.oa A.oc).set (i*6+5) (.slice (some ⟨gg,0,none⟩) (ops.length+1) cap)=CQ (ds.set i d') A'.oa A'.oc:=by
   unfold CQ
   rw[hn]
   refine Eh (fun k=>Cp _ _ _) hi (by decide) (fun k hk hne=>?_) ?_ (fun k=>Cp _ _ _)
   ·rw[hS,if_neg hne,hA'];simp only[if_neg hne]
   ·rw[hS,if_pos rfl,hd'c,hA'];simp only[if_true];unfold By;simp
  rw[e]at hst
  rw[hn];exact hst
 ·rw[hn]at hk
  by_cases e:k=i
  ·subst e
   have hrow:Ds (ops++[c]) (A'.pa k) (A'.pc k)=Ds ops (A.pa k) (A.pc k)++Ew c pa pc:=by
    unfold Ds
    rw[show(ops++[c]).length=ops.length+1 by simp,Dp]
    congr 1
    ·refine Df _ (fun m hm=>?_)
     have hm2:¬m=ops.length:=by omega
     have e1:A'.pa k m=A.pa k m:=by rw[hA'];simp[hm2]
     have e2:A'.pc k m=A.pc k m:=by rw[hA'];simp[hm2]
     have e3:(ops++[c]).getD m default=ops.getD m default:=by
      rw[List.getD_eq_getElem?_getD,List.getD_eq_getElem?_getD,List.getElem?_append_left hm]
     show Ew _ _ _=Ew _ _ _
     rw[e1,e2,e3]
    ·rw[hA']
     simp only[and_self,if_true]
     rw[List.getD_eq_getElem?_getD,List.getElem?_append_right (Nat.le_refl _)];simp
   rw[hVi,hS,if_pos rfl,hd'o,hrow,show(ops++[c]).length=ops.length+1 by simp]
   exact AD hown o2 (fun b hb e=>hgne ((AE.1 hb).symm.trans e))
  ·rw[hVk k e,hS,if_neg e]
   have h1:=AD (h.ops k hk) o1 (hne5 k hk e)
   have h2:=AD h1 o2 (fun b hb e=>by
    subst e
    exact(Dg h.row (h.ops k hk) (by decide)) b (AE.2 rfl) hb)
   have e3:Ds (Ba ds k).ops (A'.pa k) (A'.pc k)=Ds (Ba ds k).ops (A.pa k) (A.pc k):=by
    unfold Ds
    refine Df _ (fun m hm=>?_)
    rw[hA']
    simp only[show ¬(k=i∧m=ops.length) from fun x=>e x.1,if_false]
   rw[e3];exact h2
 ·rw[hn]at hk hj
  by_cases e:k=i
  ·subst e
   rw[hVi,hVk j (fun x=>hne x.symm)]
   exact fun b hb hb'=>ggw j hj (fun x=>hne x.symm) (by rw[←AE.1 hb];exact hb')
  ·by_cases e':j=i
   ·subst e'
    rw[hVi,hVk k e]
    exact fun b hb hb'=>ggw k hk e (by rw[←AE.1 hb'];exact hb)
   ·rw[hVk k e,hVk j e'];exact h.inj k j hk hj hne
 ·rw[hn]at hk
  have old:∀m,m<(Ba ds k).ops.length→AV W (A.pa k m) ((Ba ds k).ops.getD m default).res.pairs∧(((Ba ds k).ops.getD m default).res.pairs≠[]→∀x,A.pa k m=some x→S x.block∨(c.res.pairs≠[]∧∃y,pa=some y∧y.block=x.block)):=fun m hm=>by
   obtain⟨p1,p2⟩:=h.pr k m hk hm
   exact⟨(p1.onlyS o1 p2 hSR).onlyS o2 p2 hSg,fun hne x hx=> .inl (p2 hne x hx)⟩
  by_cases e:k=i
  ·subst e
   rw[hS,if_pos rfl,hd'o]at hm ⊢
   by_cases em:m=ops.length
   ·subst em
    have e1:A'.pa k ops.length=pa:=by rw[hA'];simp
    rw[e1,show(ops++[c]).getD ops.length default=c by rw[List.getD_eq_getElem?_getD,List.getElem?_append_right (Nat.le_refl _)];simp]
    refine⟨?_,fun hne x hx=> .inr ⟨hne,x,hx,rfl⟩⟩
    by_cases hne:c.res.pairs=[]
    ·exact .inl hne
    ·refine(hp.only o1 (fun x hx hr=>(hpn hne x hx).1 (h.oR k hi _ hr))).only o2 (fun x hx e=>(hpn hne x hx).1 (by rw[e];exact hgR))
   ·have hm':m<ops.length:=by simp at hm;omega
    have e1:A'.pa k m=A.pa k m:=by rw[hA'];simp[em]
    have e2:(ops++[c]).getD m default=(Ba ds k).ops.getD m default:=by
     rw[←hops,List.getD_eq_getElem?_getD,List.getD_eq_getElem?_getD,List.getElem?_append_left hm']
    rw[e1,e2]
    exact old m (by rw[←hops];exact hm')
  ·rw[hS,if_neg e]at hm ⊢
   have e1:A'.pa k m=A.pa k m:=by rw[hA'];simp[e]
   rw[e1]
   exact old m hm
 ·rw[hn]at hb;exact .inl (h.rR b hb)
 ·rw[hn]at hk
  by_cases e:k=i
  ·subst e;rw[hVi]at hb;exact .inr (AE.1 hb)
  ·rw[hVk k e]at hb;exact .inl (h.oR k hk b hb)
 ·rcases hb with hb|rfl
  ·rcases hs with hs|⟨hne,x,hx,rfl⟩
   ·exact h.ap b hb hs
   ·exact(hpn hne x hx).1 hb
  ·rcases hs with hs|⟨hne,x,hx,e⟩
   ·exact ggS hs
   ·exact hpx hne x hx e
 ·rcases hb with hb|rfl
  ·exact Nat.lt_of_lt_of_le (h.uR b hb) hw1
  ·exact Nat.lt_of_lt_of_le hlt o2.size
 ·rcases hb with hb|⟨hne,x,hx,rfl⟩
  ·exact Nat.lt_of_lt_of_le (h.uS b hb) hw1
  ·exact Nat.lt_of_lt_of_le (hpn hne x hx).2.1 hw1
 ·exact Uh
 ·rcases hb with hb|⟨hne,x,hx,rfl⟩
  ·exact h.aS b hb
  ·exact(hpn hne x hx).2.2
theorem IL:(Tryz.prog.info? 57).map (fun i=>(i.zero,i.size,i.bytes))=some (some (.agg #[.int .i64 0,.int .i64 0,.int .i64 0,.int .u64 0,.int .u64 0,.slice none 0 0]),6,64):=by kernel_rfl
theorem IR:(Tryz.prog.info? 66).map (fun i=>(i.zero,i.size,i.bytes))=some (some (.agg #[.int .i64 0,.int .i64 0,.int .i64 0,.int .i64 0,.int .i64 0,.int .i64 0,.slice none 0 0,.int .i64 0,.int .i64 0]),9,88):=by kernel_rfl
end
section
theorem N7{B N:Nat}{w:World}{P:Nat→Prop}{F:Nat→Nat→Prop}{D:DB}{E:En}(h:A6 B w P F D E)(hf:As N E)(hN:256≤N)(hN2:N≤30000000)(s kind key hi value:Int):
 Calls Tryz.prog 37 #[bp D.A.e,.int .i64 s,.agg #[kind,key,hi,value]] w (Jr B w P F D (E.issue s ⟨kind,key,hi,value⟩)):=by
 by_cases hno:Be s=true∧∃t,E.ses s.toNat=some ⟨t,none⟩∧AF ⟨kind,key,hi,value⟩=true∧¬(12≤t.ops∧DY ⟨kind,key,hi,value⟩=false)
 ·obtain⟨h1,t,h2,h3,h4⟩:=hno
  obtain⟨s0,s1⟩:0≤s∧s<8:=by simpa[Be]using h1
  obtain⟨j,rfl⟩:=Int.eq_ofNat_of_zero_le s0
  exact MK h hf hN hN2 j (by omega) kind key hi value h2 h3 h4
 ·exact Nc h hf s kind key hi value hno
def DG(B:Nat)(w:World)(U T:Nat→Prop)(e:Nat)(E:En):Prop:=∃P F D,A6 B w P F D E∧D.A.e=e∧(∀b,U b↔EI P F D.la b)∧∀b,T b→F 8 b∧¬AL D.la b
def KQ(B:Nat)(w:World)(U T:Nat→Prop)(e:Nat)(E':En)(w':World):Prop:=∃U',DG B w' U' T e E'∧Ah U w w'∧AC w.heap.size U U'
section
variable {B N:Nat} {w w':World} {P U T:Nat→Prop} {F:Nat→Nat→Prop} {D:DB} {E E':En} {e:Nat}
theorem A6.limF(h:A6 B w P F D E){b:Nat}(hb:AL D.la b):F 8 b:=by
 obtain⟨a,h1,h2⟩:=hb
 rcases h.hole.lim (by omega)with⟨q,_⟩|⟨g,off,cur,q1,q2,q3,q4,_⟩
 ·rw[q]at h1;cases h1
 ·rw[q1]at h1;cases h1;rw[←h2];exact q4
theorem DG.apart(h:DG B w U T e E):AR U T:=by
 obtain⟨P,F,D,h1,h2,h3,h4⟩:=h
 intro b hu ht
 obtain⟨q1,q2⟩:=h4 b ht
 rcases(h3 b).1 hu with x|⟨j,hj,x⟩|x
 ·exact h1.hole.pf 8 (by omega) b x q1
 ·exact h1.hole.ff j 8 (by omega) (by omega) (by omega) b x q1
 ·exact q2 x
theorem DG.under(h:DG B w U T e E):Bo U w.heap.size:=by
 obtain⟨P,F,D,h1,h2,h3,h4⟩:=h
 intro b hu
 rcases(h3 b).1 hu with x|⟨j,hj,x⟩|x
 ·exact h1.ex.uP b x
 ·exact h1.hole.uF j (by omega) b x
 ·exact h1.hole.uF 8 (by omega) b (h1.limF x)
theorem DG.underT(h:DG B w U T e E):Bo T w.heap.size:=by
 obtain⟨P,F,D,h1,h2,h3,h4⟩:=h
 exact fun b hb=>h1.hole.uF 8 (by omega) b (h4 b hb).1
theorem DG.base(h:DG B w U T e E):B≤w.heap.size:=by
 obtain⟨P,F,D,h1,_⟩:=h
 exact h1.ex.hB
theorem DG.turn(h:DG B w U T e E)(o:Ah T w w'){T':Nat→Prop}(hN:∀b,T' b→T b∨w.heap.size≤b)(hu:Bo T' w'.heap.size):DG B w' U T' e E:=by
 obtain⟨P,F,D,h1,h2,h3,h4⟩:=h
 have hPT:AR P T:=fun b hp ht=>h1.hole.pf 8 (by omega) b hp (h4 b ht).1
 have m:Ag w w' P (F 8) P (fun b=>F 8 b∨T' b):=⟨o.mono (fun b _ hb=> .inr (h4 b hb).1),AC.refl _ _,fun b hb=>hb.elim .inl (fun x=>(hN b x).imp (fun y=>(h4 b y).1) (fun y=>y))⟩
 have ap:AR P (fun b=>F 8 b∨T' b):=fun b hp hb=>by
  rcases hb with x|x
  ·exact h1.hole.pf 8 (by omega) b hp x
  ·rcases hN b x with y|y
   ·exact hPT b hp y
   ·have:=h1.ex.uP b hp;omega
 have uQ:Bo (fun b=>F 8 b∨T' b) w'.heap.size:=fun b hb=>hb.elim (fun x=>Nat.lt_of_lt_of_le (h1.hole.uF 8 (by omega) b x) o.size) (hu b)
 have hB:=h1.ex.hB
 have aQ:Cz (fun b=>F 8 b∨T' b) B:=fun b hb=>by
  rcases hb with x|x
  ·exact h1.hole.aF 8 (by omega) b x
  ·rcases hN b x with y|y
   ·exact h1.hole.aF 8 (by omega) b (h4 b y).1
   ·omega
 have hm:=(h1.hole.mk9 8).move (w':=w') (E':=E) (D':=D) (by omega) h1.ex.uP m ap uQ aQ rfl (fun _ _=>⟨rfl,rfl⟩) (fun _ _=>rfl) (fun e=>absurd rfl e)
 have hp8:=m.pass (Do F 8)
 have hm2:DD B w' P (Fr F 8 (fun b=>F 8 b∨T' b)) D E 9:=by
  refine⟨fun j x hj _ he=>hm.tx j x hj (by omega) he,fun j t c k hj _ he=>hm.cl j t c k hj (by omega) he,fun hn=>?_,fun hn=>?_,hm.pf,hm.ff,hm.uF,hm.aF⟩
  ·rw[A3,ES];exact(h1.hole.sw (by omega)).pass hp8 rfl
  ·rw[A3]
   rcases h1.hole.lim (by omega)with q|⟨g,off,cur,q1,q2,q3,q4,q5,q6,q7,q8⟩
   ·exact .inl q
   ·have hgT:¬T g:=fun ht=>(h4 g ht).2 ⟨_,q1,rfl⟩
    exact .inr ⟨g,off,cur,q1,o.blk q2 hgT,q3,.inl q4,q5,q6,q7,q8⟩
 have hx:EX B w' P (F 8) (Do F 8) D.A (Bk D E) E.sh:=(h1.exs 8 (by omega)).far o hPT (fun b hb=> .inl (h4 b hb).1)
 have hx2:EX B w' P (fun _=>False) (MS (Fr F 8 (fun b=>F 8 b∨T' b))) D.A (Bk D E) E.sh:=by
  refine⟨hx.sh,hx.uP,hx.aP,fun i hi=>?_⟩
  rcases(h1.exs 8 (by omega)).prs i hi with q|⟨b,off,cs,q1,q2,q3,q4,q5,q6⟩
  ·exact .inl q
  ·have hlt:=q5.lt
   have nT:¬T b:=fun ht=>q3 (h4 b ht).1
   have e:=o.block b hlt nT
   refine .inr ⟨b,off,cs,q1,q2,fun x=>x,fun⟨j,hj,x⟩=>?_,o.blk q5 nT,fun i hi=>⟨(World.cell?_of_block e).trans (q6 i hi).1,(World.cell?_of_block e).trans (q6 i hi).2⟩⟩
   by_cases e8:j=8
   ·subst e8
    rw[A3]at x
    rcases x with x|x
    ·exact q3 x
    ·rcases hN b x with y|y
     ·exact nT y
     ·omega
   ·rw[AX _ _ e8]at x
    exact q4 ⟨j,hj,e8,x⟩
 refine⟨P,Fr F 8 (fun b=>F 8 b∨T' b),D,⟨hx2,hm2⟩,h2,fun b=>?_,fun b hb=>?_⟩
 ·rw[h3]
  constructor
  ·rintro(x|⟨j,hj,x⟩|x)
   ·exact .inl x
   ·exact .inr (.inl ⟨j,hj,by rw[AX _ _ (by omega)];exact x⟩)
   ·exact .inr (.inr x)
  ·rintro(x|⟨j,hj,x⟩|x)
   ·exact .inl x
   ·rw[AX _ _ (by omega)]at x
    exact .inr (.inl ⟨j,hj,x⟩)
   ·exact .inr (.inr x)
 ·rw[A3]
  refine⟨.inr hb,fun x=>?_⟩
  rcases hN b hb with y|y
  ·exact(h4 b y).2 x
  ·have:=h1.hole.uF 8 (by omega) b (h1.limF x);omega
theorem DG.only0(h:DG B w U T e E)(o:Ac w w'):DG B w' U T e E:=h.turn (o.any _) (fun b hb=> .inl hb) (h.underT.mono o.size)
theorem DG.res2(hU:∀b,U b↔EI P F D.la b)(hT:∀b,T b→F 8 b∧¬AL D.la b)(h:A6 B w P F D E)(he:D.A.e=e){P1:Nat→Prop}{F1:Nat→Nat→Prop}{D1:DB}(h1:A6 B w' P1 F1 D1 E')(e1:D1.A.e=D.A.e)(o1:Ah (EI P F D.la) w w')(g1:AC w.heap.size (EI P F D.la) (EI P1 F1 D1.la))(f1:∀b,F 8 b→F1 8 b):
 DG B w' (EI P1 F1 D1.la) T e E'∧Ah U w w'∧AC w.heap.size U (EI P1 F1 D1.la):=by
 have ap:AR U T:=DG.apart ⟨P,F,D,h,he,hU,hT⟩
 have uT:Bo T w.heap.size:=DG.underT ⟨P,F,D,h,he,hU,hT⟩
 refine⟨⟨P1,F1,D1,h1,e1.trans he,fun b=>Iff.rfl,fun b hb=>⟨f1 b (hT b hb).1,fun x=>?_⟩⟩,o1.mono (fun b _ hb=>(hU b).2 hb),fun b hb=>(g1 b hb).imp (hU b).2 (fun x=>x)⟩
 rcases g1 b (.inr (.inr x))with y|y
 ·exact ap b ((hU b).2 y) hb
 ·have:=uT b hb;omega
theorem DG.res(hU:∀b,U b↔EI P F D.la b)(hT:∀b,T b→F 8 b∧¬AL D.la b)(h:A6 B w P F D E)(he:D.A.e=e)(r:Bg B w P F D E' w'):KQ B w U T e E' w':=by
 obtain⟨P1,F1,D1,h1,e1,o1,g1,f1⟩:=r
 exact⟨_,DG.res2 hU hT h he h1 e1 o1 g1 f1⟩
theorem OM{slots limit:Int}(hc:GI slots limit=true)(w:World){B:Nat}(hB:B≤w.heap.size):
 Calls Tryz.prog 18 #[.agg #[slots,.int .u64 limit]] w fun r w'=>∃e U,r= .returned (.tuple #[bp e,.int .i64 0])∧DG B w' U (fun _=>False) e (E9 slots limit)∧Ac w w'∧Cz U w.heap.size:=by
 refine(Re slots limit hc w).mono ?_
 rintro r w' ⟨n,rfl,hn,hz,o,h⟩
 refine⟨n+5,QL n,rfl,⟨_,_,_,h B (by omega),rfl,fun b=>⟨.inl,?_⟩,fun b hb=>hb.elim⟩,o,fun b hb=>Nat.le_trans hn hb.1⟩
 rintro(x|⟨j,hj,x⟩|⟨a,x,_⟩)
 ·exact x
 ·exact x.elim
 ·cases x
theorem Ht(h:DG B w U T e E)(hf:As N E)(hN2:N≤30000000)(s level:Int):
 Calls Tryz.prog 34 #[bp e,s,level] w fun r w'=>r= .returned (.tuple #[.int .i64 (E.begin s level).1,.int .i64 (E.begin s level).2.1])∧KQ B w U T e (E.begin s level).2.2 w':=by
 obtain⟨P,F,D,h1,rfl,h3,h4⟩:=h
 refine(NI h1 hf hN2 s level).mono ?_
 rintro r w' ⟨rfl,q⟩
 exact⟨rfl,DG.res h3 h4 h1 rfl q⟩
theorem DN(h:DG B w U T e E)(hf:As N E)(hN:256≤N)(hN2:N≤30000000)(s kind key hi value:Int):
 Calls Tryz.prog 37 #[bp e,.int .i64 s,.agg #[kind,key,hi,value]] w fun r w'=>r= .returned (.int .i64 (E.issue s ⟨kind,key,hi,value⟩).1)∧KQ B w U T e (E.issue s ⟨kind,key,hi,value⟩).2 w':=by
 obtain⟨P,F,D,h1,rfl,h3,h4⟩:=h
 refine(N7 h1 hf hN hN2 s kind key hi value).mono ?_
 rintro r w' ⟨rfl,q⟩
 exact⟨rfl,DG.res h3 h4 h1 rfl q⟩
def EY(B:Nat)(w:World)(U T:Nat→Prop)(e:Nat)(d:LH)(er:Int)(E':En)(r:Ending)(w':World):Prop:=
 ∃a c U',r= .returned (.tuple #[.agg #[.int .i64 d.kind,.int .i64 d.r.e,.int .i64 d.r.value,.slice a d.r.pairs.length c,.int .i64 d.r.over,.int .i64 d.r.reason],.int .i64 er])∧DG B w' U' T e E'∧Ah U w w'∧AC w.heap.size U U'∧AV w' a d.r.pairs∧∀x,a=some x→w.heap.size≤x.block∧x.block<w'.heap.size∧¬U' x.block
theorem Eu(h:DG B w U T e E)(hf:As N E)(hN:256≤N)(hN2:N≤30000000)(s:Int):
 Calls Tryz.prog 36 #[bp e,s] w (EY B w U T e (E.step s).1 (E.step s).2.1 (E.step s).2.2):=by
 obtain⟨P,F,D,h1,rfl,h3,h4⟩:=h
 refine(Qx h1 hf hN hN2 s).mono ?_
 rintro r w' ⟨a,c,rfl,⟨P1,F1,D1,q1,q2,q3,q4,q5,q6⟩,q7⟩
 obtain⟨k1,k2,k3⟩:=DG.res2 h3 h4 h1 rfl q1 q2 q3 q4 q5
 refine⟨a,c,_,rfl,k1,k2,k3,AV.of_own q7,fun x hx=>?_⟩
 have hrow:AA (.slice a (E.step s).1.r.pairs.length c) x.block:=by
  subst hx
  rcases q7.2 with⟨z,_⟩|⟨g,cap,cur,hv,_⟩
  ·cases z
  ·cases hv;exact AE.2 rfl
 refine⟨?_,?_,fun hu=>?_⟩
 ·subst hx
  rcases q7.2 with⟨z,_⟩|⟨g,cap,cur,hv,hb,_⟩
  ·cases z
  ·cases hv;exact hb
 ·subst hx
  rcases q7.2 with⟨z,_⟩|⟨g,cap,cur,hv,hb,hg,_⟩
  ·cases z
  ·cases hv;exact lt_of_block hg
 ·rcases hu with y|⟨j,hj,y⟩|y
  ·exact q6 _ (.inl y) hrow
  ·exact q6 _ (.inr ⟨j,by omega,y⟩) hrow
  ·exact q6 _ (.inr ⟨8,by omega,q1.limF y⟩) hrow
theorem AQ(h:DG B w U T e E)(s:Int):
 Calls Tryz.prog 15 #[bp e,s] w fun r w'=>r= .returned (.agg (E.status s).row)∧Ac w w':=by
 obtain⟨P,F,D,h1,rfl,h3,h4⟩:=h
 exact Mt h1 s
theorem Bf(h:DG B w U T e E):Calls Tryz.prog 27 #[bp e] w fun r w'=>r= .returned (.int .i64 E.looks)∧w=w':=by
 obtain⟨P,F,D,h1,rfl,h3,h4⟩:=h
 exact Pp h1
theorem I3(h:DG B w U T e E)(hf:As N E):Calls Tryz.prog 33 #[bp e] w fun r w'=>r= .returned (.int .u64 E.now)∧w=w':=by
 obtain⟨P,F,D,h1,rfl,h3,h4⟩:=h
 exact Ro h1 hf.sh
theorem P_(h:DG B w U T e E):Calls Tryz.prog 23 #[bp e] w fun r w'=>(∃a c,r= .returned (.slice a E.live.length c))∧Ac w w':=by
 obtain⟨P,F,D,h1,rfl,h3,h4⟩:=h
 exact QK h1
end
end
section
section
variable {E:En} {N M:Nat}
theorem Bt.sh{s s':Sh}{t:Dq}{c:Cw}{k:Da}(hs:s'.slots=s.slots)(h:Bt ⟨s,t,c⟩ k):Bt ⟨s',t,c⟩ k:=by
 cases k<;>first|exact h|(simp only[Bt,hs]at h ⊢;exact h)
theorem Fv.step{seq:Int}{s s':Sh}{t:Dq}{c:Cw}{k:Da}(h:Fv N seq s t c k)(hm:N≤M)(hs:s'.slots=s.slots){seq':Int}(hq:seq≤seq'):Fv M seq' s' t c k:=
 ⟨h.cl.mono hm,h.stp.sh hs,h.over,h.ro,h.seq.1,Int.le_trans h.seq.2 hq⟩
theorem As.mono(h:As N E)(hm:N≤M):As M E:=
 ⟨h.sh.mono hm,h.pm,h.made,⟨h.seq.1,by have:=h.seq.2;omega⟩,⟨h.looks.1,by have:=h.looks.2;omega⟩,h.none,fun s x hx=>⟨((h.tx s x hx).1).mono hm,(h.tx s x hx).2⟩,fun s t c k hx=>(h.cl s t c k hx).step hm rfl (Int.le_refl _),h.sw,h.low,h.lim,Nat.le_trans h.llen hm⟩
end
def FK(p p':AP):Prop:=p'=p∨p'=p.take.2.2∨∃l,p'=p.give l
theorem I7.rel{p p':AP}(h:I7 p)(r:FK p p'):I7 p':=by
 rcases r with r|r|⟨l,r⟩
 ·rw[r];exact h
 ·intro e
  exfalso
  rw[r]at e
  have m:p.ready.made=true:=by cases q:p.made<;>simp[AP.ready,q]
  unfold AP.take at e
  split at e
  ·rw[show((0:Int),(15:Int),p.ready).2.2.made=p.ready.made from rfl,m]at e;cases e
  ·have e':p.ready.made=false:=e
   rw[m]at e';cases e'
 ·cases q:p.made with
  |true=>
   intro e
   exfalso
   rw[r]at e
   unfold AP.give at e
   split at e
   ·split at e
    ·have e':p.made=false:=e
     rw[q]at e';cases e'
    ·have e':p.made=false:=e
     rw[q]at e';cases e'
   ·rw[q]at e;cases e
  |false=>
   have n:p.live l=false:=by
    unfold AP.live
    rw[(h q).2];simp
   have:p.give l=p:=by unfold AP.give;rw[n];simp
   rw[r,this];exact h
theorem Il(X:Cx)(x:Bool)(l hd:Int):FK X.sh.p (Di X x l hd).1.sh.p:=by
 unfold Di
 split
 ·split<;>exact .inr (.inl rfl)
 ·exact .inl rfl
theorem J8(X:Cx)(l:Int):FK X.sh.p (DA X l).1.sh.p:=by
 unfold DA
 simp only
 split
 ·exact .inr (.inr ⟨l,rfl⟩)
 ·exact .inl rfl
theorem Kk(X:Cx)(l hd a:Int):FK X.sh.p (DZ X l hd a).1.sh.p:=by
 unfold DZ
 split
 ·exact Il _ _ _ _
 ·exact .inl rfl
theorem Na(X:Cx)(x:Dh):FK X.sh.p (Cu X x).1.sh.p:=by
 unfold Cu
 split
 ·exact .inl rfl
 ·split
  ·exact .inl rfl
  ·split
   ·exact Il _ _ _ _
   ·exact .inl rfl
theorem JZ:∀n X key,(De X n key).1.sh.p=X.sh.p:=by
 intro n
 induction n with
 |zero=>intro X key;rfl
 |succ n ih=>
  intro X key
  unfold De
  split
  ·rfl
  ·split
   ·rw[ih];split<;>rfl
   ·rfl
theorem Jt(X:Cx)(u:Cd)(l:Int):(Ca X u l).1.sh.p=X.sh.p:=by
 unfold Ca
 split
 ·rfl
 ·unfold E8
  rw[JZ];split<;>rfl
 ·split
  ·rfl
  ·split
   ·rfl
   ·split<;>rfl
 ·rfl
theorem LF(X:Cx)(u:Cd)(l m:Int):(Cy X u l m).1.sh.p=X.sh.p:=by
 unfold Cy
 split
 ·exact Jt _ _ _
 ·rfl
theorem J3(X:Cx)(u:Cd)(l:Int):(CJ X u l).1.sh.p=X.sh.p:=by
 unfold CJ
 split
 ·exact Jt _ _ _
 ·rfl
theorem PC(X:Cx)(b:Int):(X.bind b).sh.p=X.sh.p:=by unfold Cx.bind;split<;>rfl
theorem MX(X:Cx):FK X.sh.p (Cb X).1.sh.p:=by
 unfold Cb
 split
 ·split<;>exact .inl rfl
 ·split
  ·left;unfold E8;exact JZ _ _ _
  ·split
   ·exact .inl rfl
   ·split
    ·exact .inl rfl
    ·split
     ·exact Na _ _
     ·exact .inl rfl
theorem Pb(X:Cx)(e:Ev):(X.over e).sh.p=X.sh.p:=by unfold Cx.over;split<;>rfl
theorem Qn(X:Cx)(k:Da):FK X.sh.p (Ay X k).1.sh.p:=by
 cases k with
 |turns l r=>cases l<;>exact .inl rfl
 |draw=>left;show(if _ then _ else _:Cx×Option Da).1.sh.p=_;split;rfl;split<;>rfl
 |turn w now=>left;show(if _ then _ else _:Cx×Option Da).1.sh.p=_;split<;>rfl
 |helped=>exact .inl rfl
 |help w now=>exact .inl rfl
 |start u=>exact .inl (J3 _ _ _)
 |visit u l=>left;show(if _ then _ else _:Cx×Option Da).1.sh.p=_;split;rfl;split<;>rfl
 |older u l=>exact .inl (J3 _ _ _)
 |maker u l id=>left;show(if _ then _ else _:Cx×Option Da).1.sh.p=_;split;rfl;split<;>rfl
 |ended u l m=>
  left;show(if _ then _ else _:Cx×Option Da).1.sh.p=_;split;rfl;split
  ·exact LF _ _ _ _
  ·rfl
 |ender u l m id=>
  left;show(if _ then _ else _:Cx×Option Da).1.sh.p=_;split
  ·exact LF _ _ _ _
  ·split
   ·exact PC _ _
   ·rfl
 |seen u l m=>
  left;show(if _ then _ else _:Cx×Option Da).1.sh.p=_;split
  ·rfl
  ·split
   ·rw[show ∀Z:Cx×Option Da,Z.1=Z.1 from fun _=>rfl];exact(Jt _ _ _).trans (PC _ _)
   ·exact Jt _ _ _
 |wait n=>left;show(if _ then _ else _:Cx×Option Da).1.sh.p=_;split;rfl;split<;>rfl
 |commit=>exact .inl (Pb _ _)
 |abort er re=>exact .inl (Pb _ _)
 |ends r=>exact .inl rfl
 |again z=>
  left;show(match X.t.cells X.key with|none=>_|some x=>_:Cx×Option Da).1.sh.p=_
  split
  ·rfl
  ·simp only;split<;>rfl
 |own l=>left;show(if _ then _ else _:Cx×Option Da).1.sh.p=_;split;rfl;split<;>rfl
 |own2 l w id=>left;show(if _ then _ else _:Cx×Option Da).1.sh.p=_;split<;>rfl
 |claim l w=>
  show FK _ (if _ then _ else _:Cx×Option Da).1.sh.p
  split
  ·split
   ·exact .inl rfl
   ·exact Il _ _ _ _
  ·exact .inl rfl
 |fresh l=>exact Kk _ _ _ _
 |free1 l hd a=>
  show FK _ (if _ then _ else _:Cx×Option Da).1.sh.p
  split
  ·exact .inl rfl
  ·split
   ·exact J8 _ _
   ·exact .inl rfl
 |free2 l hd a id=>
  show FK _ (if _ then _ else _:Cx×Option Da).1.sh.p
  split
  ·exact .inl rfl
  ·exact J8 _ _
 |freeN l hd a=>exact Kk _ _ _ _
 |slot1 x l hd=>exact .inl rfl
 |slot2 x l hd=>exact .inl rfl
 |push1 l hd=>exact .inl rfl
 |push2 l hd=>left;show(if _ then _ else _:Cx×Option Da).1.sh.p=_;split<;>rfl
 |over1 l=>exact .inl rfl
 |over2 l hd=>exact .inl rfl
 |over3 l hd=>
  left;show(if _ then(match X.t.cells X.key with|none=>_|some x=>_)else _:Cx×Option Da).1.sh.p=_
  split
  ·split<;>rfl
  ·rfl
theorem KS(c:Int):RowKit.wrap64 (RowKit.wrap64 (c+1)-c)=1:=by
 unfold RowKit.wrap64
 omega
theorem Ik{n:Int}(h0:0≤n)(h1:n<9223372036854775808):RowKit.wrap64 n=n:=by
 unfold RowKit.wrap64
 omega
theorem Hr{a a':AS}(h:AZ a a'){n:Int}(h0:0≤n)(h1:n<1000000000):RowKit.wrap64 (n+RowKit.wrap64 (a'.cnt-a.cnt))=n∨RowKit.wrap64 (n+RowKit.wrap64 (a'.cnt-a.cnt))=n+1:=by
 rcases h with e|e
 ·left;rw[e,Int.sub_self,show RowKit.wrap64 0=0 by unfold RowKit.wrap64;omega,Int.add_zero,Ik (by omega) (by omega)]
 ·right;rw[e,KS,Ik (by omega) (by omega)]
section
variable {E:En} {N:Nat}
theorem Hg(h:As N E)(hN:256≤N)(hN2:N≤30000000){s:Nat}{t:Dq}{c:Cw}{k:Da}(he:E.ses s=some ⟨t,some (c,k)⟩):
 As (N+81) (E.stepped s t (Ay ⟨E.sh,t,{c with waits:=false}⟩ k) (RowKit.wrap64 (E.looks+RowKit.wrap64 ((Ay ⟨E.sh,t,{c with waits:=false}⟩ k).1.sh.a.cnt-E.sh.a.cnt)))).2∧
  (RowKit.wrap64 (E.looks+RowKit.wrap64 ((Ay ⟨E.sh,t,{c with waits:=false}⟩ k).1.sh.a.cnt-E.sh.a.cnt))=E.looks∨RowKit.wrap64 (E.looks+RowKit.wrap64 ((Ay ⟨E.sh,t,{c with waits:=false}⟩ k).1.sh.a.cnt-E.sh.a.cnt))=E.looks+1)∧
  AB N ⟨E.sh,t,{c with waits:=false}⟩ (Ay ⟨E.sh,t,{c with waits:=false}⟩ k):=by
 have hcl:=h.cl s t c k he
 have htx:=h.tx s _ he
 have hX:Ax N ⟨E.sh,t,{c with waits:=false}⟩:=⟨h.sh,htx.1,⟨hcl.cl.key,hcl.cl.hi,hcl.cl.val,hcl.cl.plen⟩⟩
 have hk:Bt ⟨E.sh,t,{c with waits:=false}⟩ k:=by have:=hcl.stp;cases k<;>exact this
 have R:=Lw hX hN hN2 hcl.ro hk
 have P:=Qn ⟨E.sh,t,{c with waits:=false}⟩ k
 have hl:=h.looks
 have hlk:=Hr R.cnt hl.1 (by omega)
 refine⟨?_,hlk,R⟩
 generalize RowKit.wrap64 (E.looks+RowKit.wrap64 ((Ay ⟨E.sh,t,{c with waits:=false}⟩ k).1.sh.a.cnt-E.sh.a.cnt))=L at hlk ⊢
 generalize Ay ⟨E.sh,t,{c with waits:=false}⟩ k=r at R P ⊢
 obtain⟨X',o⟩:=r
 have s8:s<8:=by
  rcases Nat.lt_or_ge s 8 with q|q
  ·exact q
  ·rw[h.none s q]at he;cases he
 have F:=R.fine.mono (M:=N+81) (by omega)
 have sl:X'.sh.slots=E.sh.slots:=R.slots
 have hsw:Fl X'.sh.slots E.sw:=by rw[sl];exact h.sw
 have hlim:∀p,p∈E.lim→BN X'.sh.slots p.1∧0≤p.2∧p.2≤E.seq:=by rw[sl];exact h.lim
 have oth:∀j x,E.ses j=some x→Dy (N+81) X'.sh.slots x.t∧x.t.s=j∧0≤x.t.ops∧x.t.ops≤12:=fun j x hx=>by
  have:=h.tx j x hx
  rw[sl]
  exact⟨this.1.mono (by omega),this.2⟩
 have othc:∀(S':Sh) j tj cj kj,S'.slots=E.sh.slots→E.ses j=some ⟨tj,some (cj,kj)⟩→Fv (N+81) E.seq S' tj cj kj:=fun S' j tj cj kj hs hx=>(h.cl j tj cj kj hx).step (by omega) hs (Int.le_refl _)
 have me:Dy (N+81) X'.sh.slots X'.t∧X'.t.s=s∧0≤X'.t.ops∧X'.t.ops≤12:=by
  refine⟨F.tx,R.s.trans htx.2.1,?_⟩
  rw[show X'.t.ops=t.ops from R.ops];exact htx.2.2
 have pm:=h.pm.rel P
 cases o with
 |some k'=>
  have ov:=R.over2 (by simp)
  refine⟨F.sh,pm,h.made,⟨h.seq.1,by have:=h.seq.2;show E.seq≤_;omega⟩,⟨by show 0≤L;omega,by show L≤_;omega⟩,fun j hj=>?_,fun j x hx=>?_,fun j tj cj kj hx=>?_,hsw,h.low,hlim,by have:=h.llen;show E.lim.length≤_;omega⟩
  ·exact US
  ·have hx1:AT E.ses s (some ⟨X'.t,some (X'.c,k')⟩) j=some x:=hx
   exact Ta
  ·have hx1:AT E.ses s (some ⟨X'.t,some (X'.c,k')⟩) j=some ⟨tj,some (cj,kj)⟩:=hx
   by_cases e:j=s
   ·subst e;rw[Au]at hx1;cases hx1
    refine⟨F.cl,R.next k' rfl,ov.1.trans hcl.over,ov.2.trans hcl.ro,?_⟩
    show 0≤X'.c.seq∧X'.c.seq≤E.seq
    rw[show X'.c.seq=c.seq from R.seq];exact hcl.seq
   ·rw[Ap _ _ _ e]at hx1;exact othc X'.sh j tj cj kj sl hx1
 |none=>
  unfold En.stepped
  simp only
  split
  ·refine⟨F.sh,pm,h.made,⟨h.seq.1,by have:=h.seq.2;show E.seq≤_;omega⟩,⟨by show 0≤L;omega,by show L≤_;omega⟩,fun j hj=>?_,fun j x hx=>?_,fun j tj cj kj hx=>?_,hsw,h.low,hlim,by have:=h.llen;show E.lim.length≤_;omega⟩
   ·exact US
   ·have hx1:AT E.ses s none j=some x:=hx
    by_cases e:j=s
    ·subst e;rw[Au]at hx1;cases hx1
    ·rw[Ap _ _ _ e]at hx1;exact oth j x hx1
   ·have hx1:AT E.ses s none j=some ⟨tj,some (cj,kj)⟩:=hx
    by_cases e:j=s
    ·subst e;rw[Au]at hx1;cases hx1
    ·rw[Ap _ _ _ e]at hx1;exact othc X'.sh j tj cj kj sl hx1
  ·have H:=F.sh
   have H1:=R.fine.sh
   refine⟨⟨H.n1,H.n2,H.l1,H.l2,H.alen,H.word,H.vlen,H.plen,H.tags,H.free,H.flen,H.worn,?_,H.head,H.next⟩,pm,h.made,⟨h.seq.1,by have:=h.seq.2;show E.seq≤_;omega⟩,⟨by show 0≤L;omega,by show L≤_;omega⟩,fun j hj=>?_,fun j x hx=>?_,fun j tj cj kj hx=>?_,hsw,h.low,hlim,by have:=h.llen;show E.lim.length≤_;omega⟩
   ·show(X'.sh.tale++[_]).length≤N+81
    have:X'.sh.tale.length≤N+80:=H1.tlen
    rw[List.length_append,List.length_singleton];omega
   ·exact US
   ·have hx1:AT E.ses s (some ⟨X'.t,none⟩) j=some x:=hx
    exact Ta
   ·have hx1:AT E.ses s (some ⟨X'.t,none⟩) j=some ⟨tj,some (cj,kj)⟩:=hx
    by_cases e:j=s
    ·subst e;rw[Au]at hx1;cases hx1
    ·rw[Ap _ _ _ e]at hx1;exact othc _ j tj cj kj sl hx1
theorem IJ{op:DS}(h:AF op=true)(seq:Int):EG N (Bz op seq):=by
 exact T_
theorem Du(h:As N E)(hN:256≤N)(s:Int)(o:DS):As (N+80) (E.issue s o).2:=by
 unfold En.issue
 split
 ·exact h.mono (by omega)
 ·split
  ·exact h.mono (by omega)
  ·next x hx=>
   split
   ·exact h.mono (by omega)
   ·next hoc=>
    split
    ·exact h.mono (by omega)
    ·next hm=>
     obtain⟨t,xc⟩:=x
     have hop:AF o=true:=by
      cases q:AF o with
      |true=>rfl
      |false=>rw[q]at hoc;simp at hoc
     have htx:=h.tx _ _ hx
     have htm:Dy N E.sh.slots (t.more o)∧(t.more o).s=s.toNat∧0≤(t.more o).ops∧(t.more o).ops≤12:=by
      have q:=htx.1
      have q2:=htx.2.2
      have q2':0≤t.ops∧t.ops≤12:=q2
      unfold Dq.more
      split
      ·exact htx
      ·next e=>
       refine⟨⟨q.id1,q.id2,q.lv,q.s1,q.beg,q.fin,q.klen,q.rlen,q.blen,q.keys,q.cell,q.read,q.bond⟩,htx.2.1,?_⟩
       show 0≤t.ops+1∧t.ops+1≤12
       have:¬12≤t.ops:=fun e2=>hm ⟨e2,by simpa using e⟩
       omega
     have hX:Ax N ⟨E.sh,t.more o,Bz o (E.seq+1)⟩:=⟨h.sh,htm.1,IJ hop _⟩
     have R:=IU hX hN rfl
     have P:=MX ⟨E.sh,t.more o,Bz o (E.seq+1)⟩
     simp only
     generalize Cb ⟨E.sh,t.more o,Bz o (E.seq+1)⟩=r at R P ⊢
     have F:=R.fine.mono (M:=N+80) (by omega)
     have sl:r.1.sh.slots=E.sh.slots:=R.same.slots
     have s8:s.toNat<8:=by
      rcases Nat.lt_or_ge s.toNat 8 with q|q
      ·exact q
      ·rw[h.none _ q]at hx;cases hx
     refine⟨F.sh,h.pm.rel P,h.made,⟨by have:=h.seq.1;show 0≤E.seq+1;omega,by have:=h.seq.2;show E.seq+1≤_;omega⟩,⟨h.looks.1,by have:=h.looks.2;show E.looks≤_;omega⟩,fun j hj=>?_,fun j x hx1=>?_,fun j tj cj kj hx1=>?_,by show Fl r.1.sh.slots E.sw;rw[sl];exact h.sw,h.low,fun p hp=>?_,by have:=h.llen;show E.lim.length≤_;omega⟩
     ·exact Tw
     ·have hx2:AT E.ses s.toNat (some ⟨r.1.t,some (r.1.c,r.2)⟩) j=some x:=hx1
      by_cases e:j=s.toNat
      ·subst e;rw[Au]at hx2;cases hx2
       refine⟨F.tx,R.same.s.trans htm.2.1,?_⟩
       show 0≤r.1.t.ops∧r.1.t.ops≤12
       rw[show r.1.t.ops=(t.more o).ops from R.same.ops];exact htm.2.2
      ·rw[Ap _ _ _ e]at hx2
       have:=h.tx j x hx2
       exact⟨by show Dy _ r.1.sh.slots _;rw[sl];exact this.1.mono (by omega),this.2⟩
     ·have hx2:AT E.ses s.toNat (some ⟨r.1.t,some (r.1.c,r.2)⟩) j=some ⟨tj,some (cj,kj)⟩:=hx1
      by_cases e:j=s.toNat
      ·subst e;rw[Au]at hx2;cases hx2
       refine⟨F.cl,R.stp,R.same.over,R.same.ro,?_⟩
       show 0≤r.1.c.seq∧r.1.c.seq≤E.seq+1
       rw[show r.1.c.seq=E.seq+1 from R.same.seq];have:=h.seq;omega
      ·rw[Ap _ _ _ e]at hx2
       exact(h.cl j tj cj kj hx2).step (by omega) sl (by show E.seq≤E.seq+1;omega)
     ·obtain⟨p1,p2,p3⟩:=h.lim p hp
      exact⟨by show BN r.1.sh.slots _;rw[sl];exact p1,p2,by show p.2≤E.seq+1;omega⟩
theorem D7(h:As N E)(s level:Int):As (N+1) (E.begin s level).2.2:=by
 have hw:=AG h.sh.word 0
 have l2:=h.sh.l2
 unfold En.begin
 split
 ·exact h.mono (by omega)
 ·next hsl=>
  have hsl':Be s=true∧DV level=true:=by simpa using hsl
  obtain⟨s0,s8⟩:0≤s∧s<8:=by simpa[Be]using hsl'.1
  obtain⟨v0,v1⟩:1≤level∧level≤3:=by simpa[DV]using hsl'.2
  split
  ·exact h.mono (by omega)
  ·split
   ·exact h.mono (by omega)
   ·next hm=>
    simp only
    have tick:∀a:AS,a.ws=E.sh.a.ws→As (N+1) {E with sh:=E.sh.setA a}:=fun a ha=>by
     have H:=h.mono (M:=N+1) (by omega)
     have Hs:=H.sh
     exact⟨⟨Hs.n1,Hs.n2,Hs.l1,Hs.l2,by show(a.ws.length:Int)=_;rw[ha];exact Hs.alen,by show ∀i,0≤a.ws.getD i 0∧a.ws.getD i 0<_;rw[ha];exact Hs.word,Hs.vlen,Hs.plen,Hs.tags,Hs.free,Hs.flen,Hs.worn,Hs.tlen,by show ∀k,k<64→AM _ (a.ws.getD (9+k) 0);rw[ha];exact Hs.head,by show ∀i:Nat,i<E.sh.vals.length→AM _ (a.ws.getD (73+i*3+2) 0);rw[ha];exact Hs.next⟩,H.pm,H.made,H.seq,H.looks,H.none,H.tx,fun j t c k hx=>(H.cl j t c k hx).step (s':=E.sh.setA a) (Nat.le_refl _) rfl (Int.le_refl _),H.sw,H.low,H.lim,H.llen⟩
    split
    ·exact tick _ (AS.tick_ws _ _)
    ·next hlim=>
     have hnow:0≤E.sh.a.load 0/65536:=by omega
     have hmd:=h.made
     obtain⟨S1,hS1⟩:∃S1:Sh,S1=E.sh.setA (if 0<E.sh.a.load 0%65536 then(E.sh.a.tick 0).cas (E.sh.pl (E.sh.a.load 0%65536)) (Bc 1 0) (Bc 2 (E.sh.a.load 0/65536))else E.sh.a.tick 0):=⟨_,rfl⟩
     have n1:=h.sh.n1
     have F0:=(tick _ (AS.tick_ws E.sh.a 0)).sh
     have put:∀(S:Sh) (i v:Int),AW (N+1) S→S.slots=E.sh.slots→DR v→(i≤8∨73+E.sh.slots*3≤i)→AW (N+1) (S.setA (S.a.store i v)):=fun S i v hS hs hv hi=>
      hS.ws (AS.store_len _ _ _) ⟨hv,fun k hk e=>by omega,fun j hj e=>by rw[hs]at hj;omega⟩ (AS.store_get _ _ _)
     have F1:AW (N+1) S1:=by
      rw[hS1]
      split
      ·next hl=>
       have:=F0.ws (a:=(E.sh.a.tick 0).cas (E.sh.pl (E.sh.a.load 0%65536)) (Bc 1 0) (Bc 2 (E.sh.a.load 0/65536))) (AS.cas_len _ _ _ _) (i:=E.sh.pl (E.sh.a.load 0%65536)) (v:=Bc 2 (E.sh.a.load 0/65536)) ⟨DR.pack (by decide) (by decide) hnow (by omega),fun k hk e=>by unfold Sh.pl at e;omega,fun j hj e=>by have hj':(j:Int)<E.sh.slots:=hj;unfold Sh.pl at e;omega⟩ (AS.cas_get _ _ _ _)
       exact this
      ·exact F0
     have hs1:S1.slots=E.sh.slots:=by rw[hS1];rfl
     have F2:AW (N+1) (S1.setA (S1.a.cas 0 (E.sh.a.load 0) (Bp (E.sh.a.load 0/65536+1) 0))):=by
      refine F1.ws (AS.cas_len _ _ _ _) (i:=0) (v:=Bp (E.sh.a.load 0/65536+1) 0) ⟨?_,fun k hk e=>by omega,fun j hj e=>by omega⟩ (AS.cas_get _ _ _ _)
      unfold DR Bp;omega
     have F3:=put _ (E.sh.pl (E.made+1)) (Bc 1 0) F2 hs1 (by unfold DR Bc;omega) (.inr (by unfold Sh.pl;omega))
     have F4_:=put _ (1+s) (E.sh.a.load 0/65536+1) F3 hs1 (by unfold DR;omega) (.inl (by omega))
     obtain⟨S4,hS4⟩:=Ad (((S1.setA (S1.a.cas 0 (E.sh.a.load 0) (Bp (E.sh.a.load 0/65536+1) 0))).setA ((S1.setA (S1.a.cas 0 (E.sh.a.load 0) (Bp (E.sh.a.load 0/65536+1) 0))).a.store (E.sh.pl (E.made+1)) (Bc 1 0))).setA (((S1.setA (S1.a.cas 0 (E.sh.a.load 0) (Bp (E.sh.a.load 0/65536+1) 0))).setA ((S1.setA (S1.a.cas 0 (E.sh.a.load 0) (Bp (E.sh.a.load 0/65536+1) 0))).a.store (E.sh.pl (E.made+1)) (Bc 1 0))).a.store (1+s) (E.sh.a.load 0/65536+1)))
     have F4:AW (N+1) S4:=by rw[hS4];exact F4_
     have hs4:S4.slots=E.sh.slots:=by rw[hS4];exact hs1
     have ha4:((S1.a.cas 0 (E.sh.a.load 0) (Bp (E.sh.a.load 0/65536+1) 0)).store (E.sh.pl (E.made+1)) (Bc 1 0)).store (1+s) (E.sh.a.load 0/65536+1)=S4.a:=by rw[hS4];rfl
     have hv4:S4.vals=E.sh.vals:=by rw[hS4,hS1];rfl
     clear F4_ hS4
     have tl:=h.sh.tlen
     have eb:E.begun (if 0<E.sh.a.load 0%65536 then(E.sh.a.tick 0).cas (E.sh.pl (E.sh.a.load 0%65536)) (Bc 1 0) (Bc 2 (E.sh.a.load 0/65536))else E.sh.a.tick 0) s level (E.sh.a.load 0/65536) (E.sh.a.load 0)={E with made:=E.made+1,ses:=AT E.ses s.toNat (some ⟨Dd (E.made+1) level s (E.sh.a.load 0/65536+1),none⟩),sh:={E.sh with a:=((S1.a.cas 0 (E.sh.a.load 0) (Bp (E.sh.a.load 0/65536+1) 0)).store (E.sh.pl (E.made+1)) (Bc 1 0)).store (1+s) (E.sh.a.load 0/65536+1),tale:=E.sh.tale++[⟨1,E.made+1,E.sh.a.load 0/65536+1,⟨0,0,0,level⟩,.zero⟩]}}:=by rw[hS1];rfl
     rw[eb,ha4]
     have H:=h.mono (M:=N+1) (by omega)
     have Hs:=H.sh
     refine⟨⟨Hs.n1,Hs.n2,Hs.l1,Hs.l2,?_,F4.word,Hs.vlen,Hs.plen,Hs.tags,Hs.free,Hs.flen,Hs.worn,?_,fun k hk=>?_,fun i hi=>?_⟩,H.pm,⟨by show 0≤E.made+1;omega,by show E.made+1≤2000;omega⟩,H.seq,H.looks,fun j hj=>?_,fun j x hx=>?_,fun j tj cj kj hx=>?_,H.sw,H.low,H.lim,H.llen⟩
     ·have:=F4.alen
      rw[hs4]at this
      exact this
     ·show(E.sh.tale++[_]).length≤N+1
      rw[List.length_append,List.length_singleton];omega
     ·have:=F4.head k hk
      rw[hs4]at this
      exact this
     ·have:=F4.next i (by rw[hv4];exact hi)
      rw[hs4]at this
      exact this
     ·exact Tw
     ·have hx1:AT E.ses s.toNat (some ⟨Dd (E.made+1) level s (E.sh.a.load 0/65536+1),none⟩) j=some x:=hx
      by_cases e:j=s.toNat
      ·subst e;rw[Au]at hx1;cases hx1
       refine⟨⟨by show 1≤E.made+1;omega,by show E.made+1≤2000;omega,⟨v0,v1⟩,⟨s0,by show s≤7;omega⟩,⟨by show 0≤E.sh.a.load 0/65536+1;omega,by show E.sh.a.load 0/65536+1≤1099511627776;omega⟩,⟨Int.le_refl _,by show(0:Int)≤_;decide⟩,Nat.zero_le _,Nat.zero_le _,Nat.zero_le _,fun k hk=>(by cases hk),fun k x hk=>(by cases hk),fun r hr=>(by cases hr),fun b hb=>(by cases hb)⟩,?_,Int.le_refl _,by show(0:Int)≤12;decide⟩
       show s=((s.toNat:Nat):Int)
       omega
      ·rw[Ap _ _ _ e]at hx1;exact H.tx j x hx1
     ·have hx1:AT E.ses s.toNat (some ⟨Dd (E.made+1) level s (E.sh.a.load 0/65536+1),none⟩) j=some ⟨tj,some (cj,kj)⟩:=hx
      by_cases e:j=s.toNat
      ·subst e;rw[Au]at hx1;cases hx1
      ·rw[Ap _ _ _ e]at hx1
       exact(H.cl j tj cj kj hx1).step (s':={E.sh with a:=S4.a,tale:=E.sh.tale++[⟨1,E.made+1,E.sh.a.load 0/65536+1,⟨0,0,0,level⟩,.zero⟩]}) (Nat.le_refl _) rfl (Int.le_refl _)
end
end
end Go.Proofs.YtoakelhnhkilcaaGreat

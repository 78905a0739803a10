/-
  TopOne:what its proof rests on,part 3.
-/
import Derived.Deep.DeepCutAuto
import Derived.Laws.EntriesVeiled
import Derived.Test.YtoakelhnhkilcaaGreatZTopOne1
import Derived.Test.YtoakelhnhkilcaaGreatZTopOne2
set_option linter.unusedVariables false
set_option linter.unusedSimpArgs false
set_option maxRecDepth 100000
set_option maxHeartbeats 64000000
namespace Go.Proofs.YtoakelhnhkilcaaGreat
open Go.RowKit
section
attribute [local go_sem ↓] Go.wp_at_zero Go.wp_at_succ
theorem SQ{P:Prop}(h:P:=by
 try go_wp2_with fail
 refine AK hK (by exact⟨cb,ca,ch0,cA⟩) (h:=fun hHeld=>?_);clear hK K
 refine Ar (i:=9) (h:=fun K hK=>?_)
 try simp only[List.getElem_toArray,List.getElem_cons_zero,List.getElem_cons_succ]
 go_simp
 (refine(Bw HC.out _).mono ?_;rw[hx,hX1];rintro e1 w1 ⟨rfl,h1,m1⟩;have HC:=Aa h1;have M:=M.trans m1;clear h1;have fb:=hb.move M;have fa:=ha.move M;have fi:=hi.move M;have cb:=fb.c0;have ca:=fa.c0;have ci:=fi.c0;have cA:=HC.out.ca;have cN:=HC.out.cn;have fhu:=HFX.out.move M;have ch0:_=some (bp A.e):=fhu.1.cell 0;try(have fs:=fs.move m1;have zfs:=fs.zf;first|have cfs:=fs.c0|(have cfs:=fs.d0;have dfs:=fs.d1)))
 try go_wp2_with fail
 refine AK hK (by exact⟨cb,ca,ch0,cA⟩) (h:=fun hHeld=>?_);clear hK K
 refine Ar (i:=10) (h:=fun K hK=>?_)
 try simp only[List.getElem_toArray,List.getElem_cons_zero,List.getElem_cons_succ]
 go_simp
 (refine(BI x _).mono ?_;rintro e1 w1 ⟨rfl,o1⟩;have M:=M.trans (Ag.only0 P Q o1);have HC:=Aa (HC.out.only0 o1);have fb:=hb.move M;have fa:=ha.move M;have fi:=hi.move M;have cb:=fb.c0;have ca:=fa.c0;have ci:=fi.c0;have cA:=HC.out.ca;have cN:=HC.out.cn;have fhu:=HFX.out.move M;have ch0:_=some (bp A.e):=fhu.1.cell 0;try(have fs:=fs.move (Ag.only0 P Q o1);have zfs:=fs.zf;first|have cfs:=fs.c0|(have cfs:=fs.d0;have dfs:=fs.d1)))
 try go_wp2_with fail
 refine AK hK (by exact⟨cb,ca,ch0,cA⟩) (h:=fun hHeld=>?_);clear hK K
 refine Ar (i:=12) (h:=fun K hK=>?_)
 try simp only[List.getElem_toArray,List.getElem_cons_zero,List.getElem_cons_succ]
 go_simp
 (have HC:=Aa (HC.out.setNew fs (by decide) 0 (.int .i64 (BD x)));have M:=M.setNewF fs (by first|exact Nat.le_refl _|exact Mp.o.size) 0 (.int .i64 (BD x));have fs:=fs.setOwn 0 (.int .i64 (BD x));have HC:=Aa (HC.out.setNew fs (by decide) 1 (.int .u64 (Br x)));have M:=M.setNewF fs (by first|exact Nat.le_refl _|exact Mp.o.size) 1 (.int .u64 (Br x));have fs:=fs.setOwn 1 (.int .u64 (Br x));have fs:An _ P Q R _ 195 #[.int .i64 (BD x),.int .u64 (Br x)]:=fs;have fb:=hb.move M;have fa:=ha.move M;have fi:=hi.move M;have cb:=fb.c0;have ca:=fa.c0;have ci:=fi.c0;have cA:=HC.out.ca;have cN:=HC.out.cn;have fhu:=HFX.out.move M;have ch0:_=some (bp A.e):=fhu.1.cell 0)
 try go_wp2_with fail
 refine AK hK (by exact⟨cb,ca,ch0,cA⟩) (h:=fun hHeld=>?_);clear hK K
 refine wpAnyH_done (by kernel_rfl) ?_ _
 go_wp2_with fail
 go_meet
 case rel=>exact⟨_,rfl,Aa ⟨HC.out,M,fs⟩⟩):P:=h
theorem UN{P:Prop}(h:P:=by
 rintro e9 w9 r9
 obtain⟨v9,rfl⟩:=r9.ret
 have HS:=Aa (r9.comp M (At.refl A S))
 clear r9
 go_wp2_with fail
 go_ret
 rw[HR.out,if_pos (by first|exact .inr (.inr rfl)|exact .inr (.inr trivial))]
 exact HS.out):P:=h
theorem RE{P:Prop}(h:P:=by
 try go_wp2_with fail
 refine AK hK (by exact⟨cb,ca,ch0,cA⟩) (h:=fun hHeld=>?_);clear hK K
 refine wpAnyH_done (by kernel_rfl) ?_ _
 go_wp2_with fail
 go_meet
 case rel=>exact⟨_,rfl,Aa ⟨HC.out,M,fs⟩⟩):P:=h
theorem UQ{P:Prop}(h:P:=by
 rintro e9 w9 r9
 obtain⟨v9,rfl⟩:=r9.ret
 have HS:=Aa (r9.comp M (At.refl A S))
 clear r9
 go_wp2_with fail
 go_ret
 rw[HR.out,if_pos (by first|exact .inl rfl|exact .inl trivial)]
 exact HS.out):P:=h
theorem Sr{P:Prop}(h:P:=by
 rintro e9 w9 r9
 obtain⟨v9,rfl⟩:=r9.ret
 have HS:=Aa (r9.comp M (At.refl A S))
 clear r9
 go_wp2_with fail
 go_ret
 rw[HR.out,if_neg HE.out,if_neg HE2.out]
 exact HS.out):P:=h
theorem Ts{P:Prop}(h:P:=by
 rintro e9 w9 r9
 obtain⟨v9,rfl⟩:=r9.ret
 have HS:=Aa (r9.comp M (At.refl A S))
 clear r9
 go_wp2_with fail
 go_ret
 rw[HR.out,if_pos (.inr (.inl (by omega)))]
 exact HS.out):P:=h
theorem SE{P:Prop}(h:P:=by
 refine Af 0 (h:=Af 1 (h:=Af 3 (h:=Af 4 (h:=Af 5 (h:=Af 6 (h:=Af 7 (h:=Af 8 (h:=Af 9 (h:=Af 10 (h:=Af 11 (h:=Af 12 (h:=?_))))))))))))
 refine Af 13 (h:=Ar (i:=2) (h:=fun K hK=>?_))
 go_simp
 (refine D.mono ?_;rintro e1 w1 ⟨rfl,rfl⟩)
 try go_wp2_with fail
 refine AK hK (by first|exact⟨de,dl,dc,k1,k3⟩|exact⟨de9,dl9,dc9,k19,k39⟩) (h:=fun hHeld=>?_);clear hK K
 refine Af 14 (h:=Ar (i:=15) (h:=fun K hK=>?_))
 go_simp
 skip
 try go_wp2_with fail
 refine AK hK (by first|exact⟨de,dl,dc,k1,k3⟩|exact⟨de9,dl9,dc9,k19,k39⟩) (h:=fun hHeld=>?_);clear hK K
 refine wpAnyH_done (by kernel_rfl) ?_ _
 skip
 go_wp2_with fail
 go_ret
 rw[HR.out]
 exact HS.out):P:=h
theorem Tp{P:Prop}(h:P:=by
 rintro e9 w9 r9
 obtain⟨v9,rfl⟩:=r9.ret
 have HS:=Aa (r9.comp M (At.refl A S))
 clear r9
 go_wp2_with fail
 go_ret
 rw[HR.out,if_neg (by decide)]
 exact HS.out):P:=h
theorem Ti{P:Prop}(h:P:=by
 go_wp2_with fail
 go_ret
 rw[HR.out,if_neg HE.out,if_pos HE2.out]
 exact HS.out):P:=h
theorem UD{P:Prop}(h:P:=by
 go_wp2_with fail
 go_ret
 rw[HR.out,if_pos (by first|exact⟨rfl,hle⟩|exact⟨trivial,hle⟩)]
 exact HS.out):P:=h
theorem SP{P:Prop}(h:P:=by
 unfold AS.load
 split
 ·rw[show((9:Int)+(k:Int)).toNat=9+k by omega];exact h.sh.head k hk
 ·exact AM.zero _):P:=h
theorem Us{P:Prop}(h:P:=by
 refine .inl ⟨q1,?_⟩;have:=gh.move HV.out.2;rw[q2,q3,q4]at this;exact this):P:=h
theorem Tf{P:Prop}(h:P:=by
 have:=h.sh.eng.ty t (by decide)
 unfold Fd at *
 rw[ev,el]
 exact this):P:=h
theorem Ax.headOk{N:Nat}{X:Cx}(h:Ax N X){k:Nat}(hk:k<64):AM X.sh.slots (X.sh.a.load (9+k)):=by
 exact SP
theorem Ax.nextOk{N:Nat}{X:Cx}(h:Ax N X){l:Int}(hl:AM X.sh.slots l)(h0:l≠0):AM X.sh.slots (X.sh.a.load (Al l 2)):=by
 unfold AS.load
 obtain⟨i1,i2⟩:=h.ix hl h0
 split
 ·rw[show(Al l 2).toNat=73+(A5 l).toNat*3+2 by unfold Al;omega];exact h.sh.next _ i1
 ·exact AM.zero _
theorem NA{B N:Nat}{w:World}{P Q R:Nat→Prop}{A:EA}{Ke:EK}{S:SA}{nx:Value}{X:Cx}(h:CX B w P Q R A Ke S nx X)(hN:Ax N X)(hB9:N+70≤100000000){hu:Nat}{u:Cd}(hT:BG X u.key u.thn)(hk9:u.key<64)(H:CH w P Q R A S hu u):
 Calls Tryz.prog 161 #[bp hu] w (Ak B w P Q R A Ke S nx (Ay X (.start u)).1 (Ay X (.start u)).2):=by
 obtain⟨y,hy⟩:=Aq (X.sh.a.load (9+u.key))
 have hly:=hN.headOk hk9
 rw[hy]at hly
 obtain⟨X1,hX1⟩:=Aq (X.setA (X.sh.a.tick (9+u.key)))
 have HR:=Aa (show Ay X (.start u)=((CJ X1 u y).1,some (CJ X1 u y).2) by rw[←hX1,←hy];rfl)
 have HN1:=Aa (hN.tick (9+u.key))
 rw[hX1]at HN1
 have HSL:Hid (X1.sh.slots=X.sh.slots∧BG X1 u.key u.thn):=Aa (by rw[←hX1];exact⟨rfl,hT⟩)
 have m0:=Ag.only0 P Q ((Ac.refl w).drew)
 have H1:=H.mv m0 (At.refl A S)
 obtain⟨tv,hf,hth⟩:=H1
 have HC:=Aa h.drew
 have M:=m0
 have hf0:=hf
 have c0:=Ae w.drew hu 0 (bp A.e) (hf.1.cell 0)
 have c2:=Ae w.drew hu 2 (.int .i64 u.key) (hf.1.cell 2)
 have cA:=HC.out.ca
 have HH:=Aa H
 have ew:IntKind.i64.wrap (9+(u.key:Int))=9+(u.key:Int):=by rw[IntKind.wrap_i64];omega
 clear h hN H m0 hT
 go_enter Tryz.func161,Tryz.ntmps161
 go_upto_region 1 with(fail)
 refine wp_region_held_drew (S:=(fun w'=>Ab w' hu 0 (bp A.e)∧Ab w' hu 2 (.int .i64 u.key)∧Ab w' A.e 2 (bp A.a))) (by kernel_rfl) ?_ (fun hHeld=>?_)
 ·exact⟨c0,c2,cA⟩
 refine Af 0 (h:=Af 1 (h:=Af 2 (h:=Af 3 (h:=Af 4 (h:=Af 5 (h:=Af 6 (h:=Af 7 (h:=Af 8 (h:=Af 9 (h:=Af 10 (h:=Af 11 (h:=?_))))))))))))
 refine Af 12 (h:=Ar (i:=13) (h:=fun K hK=>?_))
 go_simp
 (refine(Bw HC.out _).mono ?_;rw[hy,hX1];rintro e1 w1 ⟨rfl,h1,m1⟩;have HC:=Aa h1;have M:=M.trans m1;have hf:=hf.move m1;have c0:=Ae w1 hu 0 (bp A.e) (hf.1.cell 0);have c2:=Ae w1 hu 2 (.int .i64 u.key) (hf.1.cell 2);have cA:=HC.out.ca;have CE:=JP HC.out HN1.out hB9 HSL.out.2 (HH.out.mv M (At.refl A S)) y (by rw[HSL.out.1];exact hly);clear h1)
 try go_wp2_with fail
 refine AK hK (by exact⟨c0,c2,cA⟩) (h:=fun hHeld=>?_);clear hK K
 refine Ar (i:=14) (h:=fun K hK=>?_)
 try simp only[List.getElem_toArray,List.getElem_cons_zero,List.getElem_cons_succ]
 go_simp
 (refine CE.mono ?_;rintro e9 w9 r9;have HS:=Aa (r9.comp M (At.refl A S));obtain⟨P9,Q9,A9,S9,v9,rfl,h9,n9,m9,k9⟩:=r9;have cA:=Ae w9 A.e 2 (bp A.a) ((by have q:=h9.ca;rw[k9.e,k9.a]at q;exact q));have c0:=Ae w9 hu 0 (bp A.e) ((hf.move m9).1.cell 0);have c2:=Ae w9 hu 2 (.int .i64 u.key) ((hf.move m9).1.cell 2);clear h9 n9 m9 k9)
 try go_wp2_with fail
 refine AK hK (by exact⟨c0,c2,cA⟩) (h:=fun hHeld=>?_);clear hK K
 refine Af 15 (h:=?_)
 refine wpAnyH_done (by kernel_rfl) ?_ _
 go_wp2_with fail
 go_ret
 rw[HR.out]
 exact HS.out
theorem NY{B N:Nat}{w:World}{P Q R:Nat→Prop}{A:EA}{Ke:EK}{S:SA}{nx:Value}{X:Cx}(h:CX B w P Q R A Ke S nx X)(hN:Ax N X)(hB9:N+70≤100000000){b a:Nat}{u:Cd}{l:Int}(hT:BG X u.key u.thn)(hl:AM X.sh.slots l)(hl0:l≠0)(hb:Lz w P Q R A S b u)(ha:An w P Q R a 31 #[.int .u64 l]):
 Calls Tryz.prog 256 #[bp b,bp a] w (Ak B w P Q R A Ke S nx (Ay X (.older u l)).1 (Ay X (.older u l)).2):=by
 obtain⟨y,hy⟩:=Aq (X.sh.a.load (Al l 2))
 have hly:=hN.nextOk hl hl0
 rw[hy]at hly
 obtain⟨X1,hX1⟩:=Aq (X.setA (X.sh.a.tick (Al l 2)))
 have HR:=Aa (show Ay X (.older u l)=((CJ X1 u y).1,some (CJ X1 u y).2) by rw[←hX1,←hy];rfl)
 have HN1:=Aa (hN.tick (Al l 2))
 rw[hX1]at HN1
 have HSL:Hid (X1.sh.slots=X.sh.slots∧BG X1 u.key u.thn):=Aa (by rw[←hX1];exact⟨rfl,hT⟩)
 obtain⟨hu,hb,H⟩:=hb
 have l0:=hl.1
 have m0:=Ag.only0 P Q ((Ac.refl w).drew)
 have H1:=H.mv m0 (At.refl A S)
 obtain⟨tv,hf,hth⟩:=H1
 have HC:=Aa h.drew
 have M:=m0
 have hb:=hb.move m0
 have ha:=ha.move m0
 have cb:=hb.c0
 have ca:=ha.c0
 have c0:=Ae w.drew hu 0 (bp A.e) (hf.1.cell 0)
 have cA:=HC.out.ca
 have HH:=Aa H
 clear h hN H m0 hT hl
 go_enter Tryz.func256,Tryz.ntmps256
 go_upto_region 1 with(fail)
 refine wp_region_held_drew (S:=(fun w'=>Ab w' b 0 (bp hu)∧Ab w' a 0 (.int .u64 l)∧Ab w' hu 0 (bp A.e)∧Ab w' A.e 2 (bp A.a))) (by kernel_rfl) ?_ (fun hHeld=>?_)
 ·exact⟨cb,ca,c0,cA⟩
 refine Af 0 (h:=Af 1 (h:=Af 2 (h:=Af 3 (h:=Af 4 (h:=Af 5 (h:=Af 6 (h:=Af 7 (h:=Af 8 (h:=Ar (i:=9) (h:=fun K hK=>?_))))))))))
 go_simp
 (refine(Bb l 2 _ l0 (by omega) (by omega)).mono ?_;rintro e1 w1 ⟨rfl,rfl⟩)
 try go_wp2_with fail
 refine AK hK (by exact⟨cb,ca,c0,cA⟩) (h:=fun hHeld=>?_);clear hK K
 refine Ar (i:=10) (h:=fun K hK=>?_)
 try simp only[List.getElem_toArray,List.getElem_cons_zero,List.getElem_cons_succ]
 go_simp
 (refine(Bw HC.out _).mono ?_;rw[hy,hX1];rintro e1 w1 ⟨rfl,h1,m1⟩;have HC:=Aa h1;have M:=M.trans m1;have hf:=hf.move m1;have hb:=hb.move m1;have ha:=ha.move m1;have cb:=hb.c0;have ca:=ha.c0;have c0:=Ae w1 hu 0 (bp A.e) (hf.1.cell 0);have cA:=HC.out.ca;have CE:=JP HC.out HN1.out hB9 HSL.out.2 (HH.out.mv M (At.refl A S)) y (by rw[HSL.out.1];exact hly);clear h1)
 try go_wp2_with fail
 refine AK hK (by exact⟨cb,ca,c0,cA⟩) (h:=fun hHeld=>?_);clear hK K
 refine Ar (i:=11) (h:=fun K hK=>?_)
 try simp only[List.getElem_toArray,List.getElem_cons_zero,List.getElem_cons_succ]
 go_simp
 (refine CE.mono ?_;rintro e9 w9 r9;have HS:=Aa (r9.comp M (At.refl A S));obtain⟨P9,Q9,A9,S9,v9,rfl,h9,n9,m9,k9⟩:=r9;have cA:=Ae w9 A.e 2 (bp A.a) ((by have q:=h9.ca;rw[k9.e,k9.a]at q;exact q));have c0:=Ae w9 hu 0 (bp A.e) ((hf.move m9).1.cell 0);have cb:=(hb.move m9).c0;have ca:=(ha.move m9).c0;clear h9 n9 m9 k9)
 try go_wp2_with fail
 refine AK hK (by exact⟨cb,ca,c0,cA⟩) (h:=fun hHeld=>?_);clear hK K
 refine Af 12 (h:=?_)
 refine wpAnyH_done (by kernel_rfl) ?_ _
 go_wp2_with fail
 go_ret
 rw[HR.out]
 exact HS.out
end
section
attribute [local go_sem ↓] Go.wp_at_zero Go.wp_at_succ
def Ig(X:Cx)(u:Cd)(l x:Int):Da:=if BD x=1∧Br x≤u.at_ then .ended u l 0 else if BD x≠2∨Br x=X.t.id then .older u l else .maker u l (Br x)
theorem Ps{B N:Nat}{w:World}{P Q R:Nat→Prop}{A:EA}{Ke:EK}{S:SA}{nx:Value}{X:Cx}(h:CX B w P Q R A Ke S nx X)(hN:Ax N X){hu:Nat}{u:Cd}(H:CH w P Q R A S hu u)(l x:Int)(hl0:0≤l)(x0:0≤x):
 Calls Tryz.prog 212 #[bp hu,.int .u64 l,.int .u64 x] w (Ak B w P Q R A Ke S nx X (some (Ig X u l x))):=by
 have f0:=An.new' h w.heap.size rfl 269 #[bp hu]
 have C0:=h.alloc (.cells #[bp hu] 269)
 have f1:=An.new' C0 (w.heap.size+1) (by simp) 31 #[.int .u64 l]
 have HC0:=Aa (C0.alloc (.cells #[.int .u64 l] 31))
 have f0:=f0.alloc (.cells #[.int .u64 l] 31)
 have M:=Ag.only0 P Q (((Ac.refl w).alloc (.cells #[bp hu] 269)).alloc (.cells #[.int .u64 l] 31))
 obtain⟨W,hW⟩:=Ad ((w.alloc (.cells #[bp hu] 269)).alloc (.cells #[.int .u64 l] 31))
 rw[←hW]at f0 f1 HC0 M
 obtain⟨n0,hn0⟩:=Ad w.heap.size
 have HN0:=Aa hn0
 rw[←hn0]at f0 f1
 clear hn0
 have HH:=Aa H
 have HB:=Aa (show Ig X u l x=(if BD x=1∧Br x≤u.at_ then .ended u l 0 else if BD x≠2∨Br x=X.t.id then .older u l else .maker u l (Br x)) from rfl)
 have CR:=BI x W
 have hid1:=hN.tx.id1
 have hid2:=hN.tx.id2
 have hrn:=FC x x0
 have hrt:=@FV x
 generalize BD x=kd at *
 generalize Br x=nd at *
 clear h hN H C0
 by_cases k1:kd=1
 ·subst k1
  by_cases hle:nd≤u.at_
  ·skip
   go_enter Tryz.func212,Tryz.ntmps212
   go_upto_region 1 with(fail)
   rw[←hW,←HN0.out]
   clear hW
   go_wp2_with fail
   refine CR.mono ?_
   rintro e2 w2 ⟨rfl,o2⟩
   clear CR
   have oV:=o2.alloc (.cells #[.int .i64 1,.int .u64 nd] 195)
   have fs:=An.new' (HC0.out.only0 o2) w2.heap.size rfl 195 #[.int .i64 1,.int .u64 nd]
   obtain⟨V,hV⟩:=Ad (w2.alloc (.cells #[.int .i64 1,.int .u64 nd] 195))
   obtain⟨sb,hsb⟩:=Ad w2.heap.size
   rw[←hV]at oV fs
   rw[←hsb]at fs
   have mV:=Ag.only0 P Q oV
   have HCV:=Aa (HC0.out.only0 oV)
   have M:=M.trans mV
   have f0:=f0.move mV
   have f1:=f1.move mV
   have HV:=Aa (HH.out.mv M (At.refl A S))
   go_upto_region 2 with(fail)
   rw[←hV,←hsb]
   clear hV hsb
   have oz:=(Ac.refl (V)).drew
   have mz:=Ag.only0 P Q oz
   have HCV:=Aa (HCV.out.only0 oz)
   have M:=M.trans mz
   have f0:=f0.move mz
   have f1:=f1.move mz
   have fs:=fs.move mz
   have HV:=Aa (HV.out.mv mz (At.refl A S))
   obtain⟨tv,hf,-⟩:=HV.out
   have s0:=fs.d0
   have s1:=fs.d1
   have c0:=f0.c0
   have c1:=f1.c0
   have h1:_=some (bp S.t):=hf.1.cell 1
   have h3:_=some (Value.int .u64 u.at_):=hf.1.cell 3
   have ti:=HCV.out.ti
   clear hf oz mz
   refine wp_region_held_drew (S:=(fun w'=>Ab w' sb 0 (.int .i64 1)∧Ab w' sb 1 (.int .u64 nd)∧Ab w' n0 0 (bp hu)∧Ab w' hu 3 (.int .u64 u.at_))) (by kernel_rfl) ?_ (fun hHeld=>?_)
   ·exact⟨s0,s1,c0,h3⟩
   refine Af 0 (h:=Af 1 (h:=Af 2 (h:=Af 3 (h:=?_))))
   first|refine Aj 4 (h:=?_)|refine Af 4 (h:=?_)
   first|refine Aj 5 (h:=?_)|refine Af 5 (h:=?_)
   first|refine Aj 6 (h:=?_)|refine Af 6 (h:=?_)
   first|refine Aj 7 (h:=?_)|refine Af 7 (h:=?_)
   first|refine Aj 8 (h:=?_)|refine Af 8 (h:=?_)
   first|refine Aj 9 (h:=?_)|refine Af 9 (h:=?_)
   first|refine Aj 10 (h:=?_)|refine Af 10 (h:=?_)
   refine Af 11 (h:=Af 12 (h:=?_))
   refine wpAnyH_done (by kernel_rfl) ?_ _
   go_wp2_with fail
   refine(Ha HCV.out HV.out l 0).mono ?_
   rintro e9 w9 r9
   obtain⟨v9,rfl⟩:=r9.ret
   have HS:=Aa (r9.comp M (At.refl A S))
   clear r9
   go_wp2_with fail
   go_ret
   rw[HB.out,if_pos (by first|exact⟨rfl,hle⟩|exact⟨trivial,hle⟩)]
   exact HS.out
  ·skip
   go_enter Tryz.func212,Tryz.ntmps212
   go_upto_region 1 with(fail)
   rw[←hW,←HN0.out]
   clear hW
   go_wp2_with fail
   refine CR.mono ?_
   rintro e2 w2 ⟨rfl,o2⟩
   clear CR
   have oV:=o2.alloc (.cells #[.int .i64 1,.int .u64 nd] 195)
   have fs:=An.new' (HC0.out.only0 o2) w2.heap.size rfl 195 #[.int .i64 1,.int .u64 nd]
   obtain⟨V,hV⟩:=Ad (w2.alloc (.cells #[.int .i64 1,.int .u64 nd] 195))
   obtain⟨sb,hsb⟩:=Ad w2.heap.size
   rw[←hV]at oV fs
   rw[←hsb]at fs
   have mV:=Ag.only0 P Q oV
   have HCV:=Aa (HC0.out.only0 oV)
   have M:=M.trans mV
   have f0:=f0.move mV
   have f1:=f1.move mV
   have HV:=Aa (HH.out.mv M (At.refl A S))
   go_upto_region 2 with(fail)
   rw[←hV,←hsb]
   clear hV hsb
   have oz:=(Ac.refl (V)).drew
   have mz:=Ag.only0 P Q oz
   have HCV:=Aa (HCV.out.only0 oz)
   have M:=M.trans mz
   have f0:=f0.move mz
   have f1:=f1.move mz
   have fs:=fs.move mz
   have HV:=Aa (HV.out.mv mz (At.refl A S))
   obtain⟨tv,hf,-⟩:=HV.out
   have s0:=fs.d0
   have s1:=fs.d1
   have c0:=f0.c0
   have c1:=f1.c0
   have h1:_=some (bp S.t):=hf.1.cell 1
   have h3:_=some (Value.int .u64 u.at_):=hf.1.cell 3
   have ti:=HCV.out.ti
   clear hf oz mz
   refine wp_region_held_drew (S:=(fun w'=>Ab w' sb 0 (.int .i64 1)∧Ab w' sb 1 (.int .u64 nd)∧Ab w' n0 0 (bp hu)∧Ab w' hu 3 (.int .u64 u.at_))) (by kernel_rfl) ?_ (fun hHeld=>?_)
   ·exact⟨s0,s1,c0,h3⟩
   refine Af 0 (h:=Af 1 (h:=Af 2 (h:=Af 3 (h:=?_))))
   first|refine Aj 4 (h:=?_)|refine Af 4 (h:=?_)
   first|refine Aj 5 (h:=?_)|refine Af 5 (h:=?_)
   first|refine Aj 6 (h:=?_)|refine Af 6 (h:=?_)
   first|refine Aj 7 (h:=?_)|refine Af 7 (h:=?_)
   first|refine Aj 8 (h:=?_)|refine Af 8 (h:=?_)
   first|refine Aj 9 (h:=?_)|refine Af 9 (h:=?_)
   first|refine Aj 10 (h:=?_)|refine Af 10 (h:=?_)
   refine Af 11 (h:=Af 12 (h:=?_))
   refine wpAnyH_done (by kernel_rfl) ?_ _
   go_upto_region 4 with(fail)
   have oz:=(Ac.refl (V.drew)).drew
   have mz:=Ag.only0 P Q oz
   have HCV:=Aa (HCV.out.only0 oz)
   have M:=M.trans mz
   have f0:=f0.move mz
   have f1:=f1.move mz
   have fs:=fs.move mz
   have HV:=Aa (HV.out.mv mz (At.refl A S))
   obtain⟨tv,hf,-⟩:=HV.out
   have s0:=fs.d0
   have s1:=fs.d1
   have c0:=f0.c0
   have c1:=f1.c0
   have h1:_=some (bp S.t):=hf.1.cell 1
   have h3:_=some (Value.int .u64 u.at_):=hf.1.cell 3
   have ti:=HCV.out.ti
   clear hf oz mz
   refine wp_region_held_drew (S:=(fun w'=>Ab w' sb 0 (.int .i64 1)∧Ab w' sb 1 (.int .u64 nd)∧Ab w' n0 0 (bp hu)∧Ab w' hu 1 (bp S.t)∧Ab w' S.t 0 (.int .i64 X.t.id))) (by kernel_rfl) ?_ (fun hHeld=>?_)
   ·exact⟨s0,s1,c0,h1,ti⟩
   refine Af 0 (h:=Af 1 (h:=Af 2 (h:=Af 3 (h:=?_))))
   first|refine Aj 4 (h:=?_)|refine Af 4 (h:=?_)
   first|refine Aj 5 (h:=?_)|refine Af 5 (h:=?_)
   first|refine Aj 6 (h:=?_)|refine Af 6 (h:=?_)
   first|refine Aj 7 (h:=?_)|refine Af 7 (h:=?_)
   first|refine Aj 8 (h:=?_)|refine Af 8 (h:=?_)
   first|refine Aj 9 (h:=?_)|refine Af 9 (h:=?_)
   first|refine Aj 10 (h:=?_)|refine Af 10 (h:=?_)
   first|refine Aj 11 (h:=?_)|refine Af 11 (h:=?_)
   first|refine Aj 12 (h:=?_)|refine Af 12 (h:=?_)
   first|refine Aj 13 (h:=?_)|refine Af 13 (h:=?_)
   first|refine Aj 14 (h:=?_)|refine Af 14 (h:=?_)
   refine Af 15 (h:=Af 16 (h:=?_))
   refine wpAnyH_done (by kernel_rfl) ?_ _
   go_wp2_with fail
   refine(Dv HCV.out HV.out l).mono ?_
   rintro e9 w9 r9
   obtain⟨v9,rfl⟩:=r9.ret
   have HS:=Aa (r9.comp M (At.refl A S))
   clear r9
   go_wp2_with fail
   go_ret
   rw[HB.out,if_neg (fun q=>by have:=q.2;omega),if_pos (.inl (by decide))]
   exact HS.out
 ·have b1:(kd==1)=false:=by simpa using k1
  by_cases k2:kd=2
  ·subst k2
   obtain⟨r1,r2⟩:=hrt rfl
   have ew:IntKind.i64.wrap nd=nd:=by rw[IntKind.wrap_i64];omega
   by_cases hid:nd=X.t.id
   ·have bi:(nd==X.t.id)=true:=by simpa using hid
    have HI:=Aa hid
    clear hid
    go_enter Tryz.func212,Tryz.ntmps212
    go_upto_region 1 with(fail)
    rw[←hW,←HN0.out]
    clear hW
    go_wp2_with fail
    refine CR.mono ?_
    rintro e2 w2 ⟨rfl,o2⟩
    clear CR
    have oV:=o2.alloc (.cells #[.int .i64 2,.int .u64 nd] 195)
    have fs:=An.new' (HC0.out.only0 o2) w2.heap.size rfl 195 #[.int .i64 2,.int .u64 nd]
    obtain⟨V,hV⟩:=Ad (w2.alloc (.cells #[.int .i64 2,.int .u64 nd] 195))
    obtain⟨sb,hsb⟩:=Ad w2.heap.size
    rw[←hV]at oV fs
    rw[←hsb]at fs
    have mV:=Ag.only0 P Q oV
    have HCV:=Aa (HC0.out.only0 oV)
    have M:=M.trans mV
    have f0:=f0.move mV
    have f1:=f1.move mV
    have HV:=Aa (HH.out.mv M (At.refl A S))
    go_upto_region 2 with(fail)
    rw[←hV,←hsb]
    clear hV hsb
    have oz:=(Ac.refl (V)).drew
    have mz:=Ag.only0 P Q oz
    have HCV:=Aa (HCV.out.only0 oz)
    have M:=M.trans mz
    have f0:=f0.move mz
    have f1:=f1.move mz
    have fs:=fs.move mz
    have HV:=Aa (HV.out.mv mz (At.refl A S))
    obtain⟨tv,hf,-⟩:=HV.out
    have s0:=fs.d0
    have s1:=fs.d1
    have c0:=f0.c0
    have c1:=f1.c0
    have h1:_=some (bp S.t):=hf.1.cell 1
    have h3:_=some (Value.int .u64 u.at_):=hf.1.cell 3
    have ti:=HCV.out.ti
    clear hf oz mz
    refine wp_region_held_drew (S:=(fun w'=>Ab w' sb 0 (.int .i64 2)∧Ab w' sb 1 (.int .u64 nd)∧Ab w' n0 0 (bp hu)∧Ab w' hu 3 (.int .u64 u.at_))) (by kernel_rfl) ?_ (fun hHeld=>?_)
    ·exact⟨s0,s1,c0,h3⟩
    refine Af 0 (h:=Af 1 (h:=Af 2 (h:=Af 3 (h:=?_))))
    first|refine Aj 4 (h:=?_)|refine Af 4 (h:=?_)
    first|refine Aj 5 (h:=?_)|refine Af 5 (h:=?_)
    first|refine Aj 6 (h:=?_)|refine Af 6 (h:=?_)
    first|refine Aj 7 (h:=?_)|refine Af 7 (h:=?_)
    first|refine Aj 8 (h:=?_)|refine Af 8 (h:=?_)
    first|refine Aj 9 (h:=?_)|refine Af 9 (h:=?_)
    first|refine Aj 10 (h:=?_)|refine Af 10 (h:=?_)
    refine Af 11 (h:=Af 12 (h:=?_))
    refine wpAnyH_done (by kernel_rfl) ?_ _
    go_upto_region 4 with(fail)
    have oz:=(Ac.refl (V.drew)).drew
    have mz:=Ag.only0 P Q oz
    have HCV:=Aa (HCV.out.only0 oz)
    have M:=M.trans mz
    have f0:=f0.move mz
    have f1:=f1.move mz
    have fs:=fs.move mz
    have HV:=Aa (HV.out.mv mz (At.refl A S))
    obtain⟨tv,hf,-⟩:=HV.out
    have s0:=fs.d0
    have s1:=fs.d1
    have c0:=f0.c0
    have c1:=f1.c0
    have h1:_=some (bp S.t):=hf.1.cell 1
    have h3:_=some (Value.int .u64 u.at_):=hf.1.cell 3
    have ti:=HCV.out.ti
    clear hf oz mz
    refine wp_region_held_drew (S:=(fun w'=>Ab w' sb 0 (.int .i64 2)∧Ab w' sb 1 (.int .u64 nd)∧Ab w' n0 0 (bp hu)∧Ab w' hu 1 (bp S.t)∧Ab w' S.t 0 (.int .i64 X.t.id))) (by kernel_rfl) ?_ (fun hHeld=>?_)
    ·exact⟨s0,s1,c0,h1,ti⟩
    refine Af 0 (h:=Af 1 (h:=Af 2 (h:=Af 3 (h:=?_))))
    first|refine Aj 4 (h:=?_)|refine Af 4 (h:=?_)
    first|refine Aj 5 (h:=?_)|refine Af 5 (h:=?_)
    first|refine Aj 6 (h:=?_)|refine Af 6 (h:=?_)
    first|refine Aj 7 (h:=?_)|refine Af 7 (h:=?_)
    first|refine Aj 8 (h:=?_)|refine Af 8 (h:=?_)
    first|refine Aj 9 (h:=?_)|refine Af 9 (h:=?_)
    first|refine Aj 10 (h:=?_)|refine Af 10 (h:=?_)
    first|refine Aj 11 (h:=?_)|refine Af 11 (h:=?_)
    first|refine Aj 12 (h:=?_)|refine Af 12 (h:=?_)
    first|refine Aj 13 (h:=?_)|refine Af 13 (h:=?_)
    first|refine Aj 14 (h:=?_)|refine Af 14 (h:=?_)
    refine Af 15 (h:=Af 16 (h:=?_))
    refine wpAnyH_done (by kernel_rfl) ?_ _
    go_wp2_with fail
    refine(Dv HCV.out HV.out l).mono ?_
    rintro e9 w9 r9
    obtain⟨v9,rfl⟩:=r9.ret
    have HS:=Aa (r9.comp M (At.refl A S))
    clear r9
    go_wp2_with fail
    go_ret
    rw[HB.out,if_neg (fun q=>by simp at q),if_pos (.inr HI.out)]
    exact HS.out
   ·have bi:(nd==X.t.id)=false:=by simpa using hid
    go_enter Tryz.func212,Tryz.ntmps212
    go_upto_region 1 with(fail)
    rw[←hW,←HN0.out]
    clear hW
    go_wp2_with fail
    refine CR.mono ?_
    rintro e2 w2 ⟨rfl,o2⟩
    clear CR
    have oV:=o2.alloc (.cells #[.int .i64 2,.int .u64 nd] 195)
    have fs:=An.new' (HC0.out.only0 o2) w2.heap.size rfl 195 #[.int .i64 2,.int .u64 nd]
    obtain⟨V,hV⟩:=Ad (w2.alloc (.cells #[.int .i64 2,.int .u64 nd] 195))
    obtain⟨sb,hsb⟩:=Ad w2.heap.size
    rw[←hV]at oV fs
    rw[←hsb]at fs
    have mV:=Ag.only0 P Q oV
    have HCV:=Aa (HC0.out.only0 oV)
    have M:=M.trans mV
    have f0:=f0.move mV
    have f1:=f1.move mV
    have HV:=Aa (HH.out.mv M (At.refl A S))
    go_upto_region 2 with(fail)
    rw[←hV,←hsb]
    clear hV hsb
    have oz:=(Ac.refl (V)).drew
    have mz:=Ag.only0 P Q oz
    have HCV:=Aa (HCV.out.only0 oz)
    have M:=M.trans mz
    have f0:=f0.move mz
    have f1:=f1.move mz
    have fs:=fs.move mz
    have HV:=Aa (HV.out.mv mz (At.refl A S))
    obtain⟨tv,hf,-⟩:=HV.out
    have s0:=fs.d0
    have s1:=fs.d1
    have c0:=f0.c0
    have c1:=f1.c0
    have h1:_=some (bp S.t):=hf.1.cell 1
    have h3:_=some (Value.int .u64 u.at_):=hf.1.cell 3
    have ti:=HCV.out.ti
    clear hf oz mz
    refine wp_region_held_drew (S:=(fun w'=>Ab w' sb 0 (.int .i64 2)∧Ab w' sb 1 (.int .u64 nd)∧Ab w' n0 0 (bp hu)∧Ab w' hu 3 (.int .u64 u.at_))) (by kernel_rfl) ?_ (fun hHeld=>?_)
    ·exact⟨s0,s1,c0,h3⟩
    refine Af 0 (h:=Af 1 (h:=Af 2 (h:=Af 3 (h:=?_))))
    first|refine Aj 4 (h:=?_)|refine Af 4 (h:=?_)
    first|refine Aj 5 (h:=?_)|refine Af 5 (h:=?_)
    first|refine Aj 6 (h:=?_)|refine Af 6 (h:=?_)
    first|refine Aj 7 (h:=?_)|refine Af 7 (h:=?_)
    first|refine Aj 8 (h:=?_)|refine Af 8 (h:=?_)
    first|refine Aj 9 (h:=?_)|refine Af 9 (h:=?_)
    first|refine Aj 10 (h:=?_)|refine Af 10 (h:=?_)
    refine Af 11 (h:=Af 12 (h:=?_))
    refine wpAnyH_done (by kernel_rfl) ?_ _
    go_upto_region 4 with(fail)
    have oz:=(Ac.refl (V.drew)).drew
    have mz:=Ag.only0 P Q oz
    have HCV:=Aa (HCV.out.only0 oz)
    have M:=M.trans mz
    have f0:=f0.move mz
    have f1:=f1.move mz
    have fs:=fs.move mz
    have HV:=Aa (HV.out.mv mz (At.refl A S))
    obtain⟨tv,hf,-⟩:=HV.out
    have s0:=fs.d0
    have s1:=fs.d1
    have c0:=f0.c0
    have c1:=f1.c0
    have h1:_=some (bp S.t):=hf.1.cell 1
    have h3:_=some (Value.int .u64 u.at_):=hf.1.cell 3
    have ti:=HCV.out.ti
    clear hf oz mz
    refine wp_region_held_drew (S:=(fun w'=>Ab w' sb 0 (.int .i64 2)∧Ab w' sb 1 (.int .u64 nd)∧Ab w' n0 0 (bp hu)∧Ab w' hu 1 (bp S.t)∧Ab w' S.t 0 (.int .i64 X.t.id))) (by kernel_rfl) ?_ (fun hHeld=>?_)
    ·exact⟨s0,s1,c0,h1,ti⟩
    refine Af 0 (h:=Af 1 (h:=Af 2 (h:=Af 3 (h:=?_))))
    first|refine Aj 4 (h:=?_)|refine Af 4 (h:=?_)
    first|refine Aj 5 (h:=?_)|refine Af 5 (h:=?_)
    first|refine Aj 6 (h:=?_)|refine Af 6 (h:=?_)
    first|refine Aj 7 (h:=?_)|refine Af 7 (h:=?_)
    first|refine Aj 8 (h:=?_)|refine Af 8 (h:=?_)
    first|refine Aj 9 (h:=?_)|refine Af 9 (h:=?_)
    first|refine Aj 10 (h:=?_)|refine Af 10 (h:=?_)
    first|refine Aj 11 (h:=?_)|refine Af 11 (h:=?_)
    first|refine Aj 12 (h:=?_)|refine Af 12 (h:=?_)
    first|refine Aj 13 (h:=?_)|refine Af 13 (h:=?_)
    first|refine Aj 14 (h:=?_)|refine Af 14 (h:=?_)
    refine Af 15 (h:=Af 16 (h:=?_))
    refine wpAnyH_done (by kernel_rfl) ?_ _
    have gi:=An.new' HCV.out V.heap.size rfl 3 #[nd]
    have oi:=(Ac.refl V.drew.drew).alloc (.cells #[nd] 3)
    have mi:=Ag.only0 P Q oi
    have HS:Hid (Ak B w P Q R A Ke S nx X (some (.maker u l nd)) (.returned (.func (.func 234) #[] #[bp n0,bp V.heap.size,bp (n0+1)])) (V.drew.drew.alloc (.cells #[nd] 3))):=Aa ⟨P,Q,A,S,_,rfl,HCV.out.only0 oi,⟨n0,V.heap.size,n0+1,rfl,⟨hu,f0.move mi,HV.out.mv mi (At.refl A S)⟩,gi,f1.move mi⟩,M.trans mi,At.refl A S⟩
    clear gi oi mi
    go_wp2_with fail
    go_ret
    rw[HB.out,if_neg (fun q=>by simp at q),if_neg (fun q=>q.elim (fun z=>z rfl) hid)]
    exact HS.out
  ·have b2:(kd != 2)=true:=by simpa using k2
   have b22:(kd==2)=false:=by simpa using k2
   go_enter Tryz.func212,Tryz.ntmps212
   go_upto_region 1 with(fail)
   rw[←hW,←HN0.out]
   clear hW
   go_wp2_with fail
   refine CR.mono ?_
   rintro e2 w2 ⟨rfl,o2⟩
   clear CR
   have oV:=o2.alloc (.cells #[kd,.int .u64 nd] 195)
   have fs:=An.new' (HC0.out.only0 o2) w2.heap.size rfl 195 #[kd,.int .u64 nd]
   obtain⟨V,hV⟩:=Ad (w2.alloc (.cells #[kd,.int .u64 nd] 195))
   obtain⟨sb,hsb⟩:=Ad w2.heap.size
   rw[←hV]at oV fs
   rw[←hsb]at fs
   have mV:=Ag.only0 P Q oV
   have HCV:=Aa (HC0.out.only0 oV)
   have M:=M.trans mV
   have f0:=f0.move mV
   have f1:=f1.move mV
   have HV:=Aa (HH.out.mv M (At.refl A S))
   go_upto_region 2 with(fail)
   rw[←hV,←hsb]
   clear hV hsb
   have oz:=(Ac.refl (V)).drew
   have mz:=Ag.only0 P Q oz
   have HCV:=Aa (HCV.out.only0 oz)
   have M:=M.trans mz
   have f0:=f0.move mz
   have f1:=f1.move mz
   have fs:=fs.move mz
   have HV:=Aa (HV.out.mv mz (At.refl A S))
   obtain⟨tv,hf,-⟩:=HV.out
   have s0:=fs.d0
   have s1:=fs.d1
   have c0:=f0.c0
   have c1:=f1.c0
   have h1:_=some (bp S.t):=hf.1.cell 1
   have h3:_=some (Value.int .u64 u.at_):=hf.1.cell 3
   have ti:=HCV.out.ti
   clear hf oz mz
   refine wp_region_held_drew (S:=(fun w'=>Ab w' sb 0 (.int .i64 kd)∧Ab w' sb 1 (.int .u64 nd)∧Ab w' n0 0 (bp hu)∧Ab w' hu 3 (.int .u64 u.at_))) (by kernel_rfl) ?_ (fun hHeld=>?_)
   ·exact⟨s0,s1,c0,h3⟩
   refine Af 0 (h:=Af 1 (h:=Af 2 (h:=Af 3 (h:=?_))))
   first|refine Aj 4 (h:=?_)|refine Af 4 (h:=?_)
   first|refine Aj 5 (h:=?_)|refine Af 5 (h:=?_)
   first|refine Aj 6 (h:=?_)|refine Af 6 (h:=?_)
   first|refine Aj 7 (h:=?_)|refine Af 7 (h:=?_)
   first|refine Aj 8 (h:=?_)|refine Af 8 (h:=?_)
   first|refine Aj 9 (h:=?_)|refine Af 9 (h:=?_)
   first|refine Aj 10 (h:=?_)|refine Af 10 (h:=?_)
   refine Af 11 (h:=Af 12 (h:=?_))
   refine wpAnyH_done (by kernel_rfl) ?_ _
   go_upto_region 4 with(fail)
   have oz:=(Ac.refl (V.drew)).drew
   have mz:=Ag.only0 P Q oz
   have HCV:=Aa (HCV.out.only0 oz)
   have M:=M.trans mz
   have f0:=f0.move mz
   have f1:=f1.move mz
   have fs:=fs.move mz
   have HV:=Aa (HV.out.mv mz (At.refl A S))
   obtain⟨tv,hf,-⟩:=HV.out
   have s0:=fs.d0
   have s1:=fs.d1
   have c0:=f0.c0
   have c1:=f1.c0
   have h1:_=some (bp S.t):=hf.1.cell 1
   have h3:_=some (Value.int .u64 u.at_):=hf.1.cell 3
   have ti:=HCV.out.ti
   clear hf oz mz
   refine wp_region_held_drew (S:=(fun w'=>Ab w' sb 0 (.int .i64 kd)∧Ab w' sb 1 (.int .u64 nd)∧Ab w' n0 0 (bp hu)∧Ab w' hu 1 (bp S.t)∧Ab w' S.t 0 (.int .i64 X.t.id))) (by kernel_rfl) ?_ (fun hHeld=>?_)
   ·exact⟨s0,s1,c0,h1,ti⟩
   refine Af 0 (h:=Af 1 (h:=Af 2 (h:=Af 3 (h:=?_))))
   first|refine Aj 4 (h:=?_)|refine Af 4 (h:=?_)
   first|refine Aj 5 (h:=?_)|refine Af 5 (h:=?_)
   first|refine Aj 6 (h:=?_)|refine Af 6 (h:=?_)
   first|refine Aj 7 (h:=?_)|refine Af 7 (h:=?_)
   first|refine Aj 8 (h:=?_)|refine Af 8 (h:=?_)
   first|refine Aj 9 (h:=?_)|refine Af 9 (h:=?_)
   first|refine Aj 10 (h:=?_)|refine Af 10 (h:=?_)
   first|refine Aj 11 (h:=?_)|refine Af 11 (h:=?_)
   first|refine Aj 12 (h:=?_)|refine Af 12 (h:=?_)
   first|refine Aj 13 (h:=?_)|refine Af 13 (h:=?_)
   first|refine Aj 14 (h:=?_)|refine Af 14 (h:=?_)
   refine Af 15 (h:=Af 16 (h:=?_))
   refine wpAnyH_done (by kernel_rfl) ?_ _
   go_wp2_with fail
   refine(Dv HCV.out HV.out l).mono ?_
   rintro e9 w9 r9
   obtain⟨v9,rfl⟩:=r9.ret
   have HS:=Aa (r9.comp M (At.refl A S))
   clear r9
   go_wp2_with fail
   go_ret
   rw[HB.out,if_neg (fun q=>k1 q.1),if_pos (.inl k2)]
   exact HS.out
end
section
attribute [local go_sem ↓] Go.wp_at_zero Go.wp_at_succ
theorem Mo(X:Cx)(u:Cd)(l:Int):Ay X (.visit u l)=(X.setA (X.sh.a.tick (Al l 0)),some (Ig X u l (X.sh.a.load (Al l 0)))):=by
 unfold Ig
 simp only[Ay]
 split
 ·rfl
 ·split
  ·rfl
  ·rfl
theorem Pd{B N:Nat}{w:World}{P Q R:Nat→Prop}{A:EA}{Ke:EK}{S:SA}{nx:Value}{X:Cx}(h:CX B w P Q R A Ke S nx X)(hN:Ax N X){b a:Nat}{u:Cd}{l:Int}(hl:AM X.sh.slots l)(hb:Lz w P Q R A S b u)(ha:An w P Q R a 31 #[.int .u64 l]):
 Calls Tryz.prog 211 #[bp b,bp a] w (Ak B w P Q R A Ke S nx (Ay X (.visit u l)).1 (Ay X (.visit u l)).2):=by
 obtain⟨y,hy⟩:=Aq (X.sh.a.load (Al l 0))
 obtain⟨y0,y1⟩:0≤y∧y<18446744073709551616:=by rw[←hy];exact AG hN.sh.word _
 obtain⟨X1,hX1⟩:=Aq (X.setA (X.sh.a.tick (Al l 0)))
 have HR:Hid (Ay X (.visit u l)=(X1,some (Ig X1 u l y))):=Aa (by rw[Mo,hy,←hX1];rfl)
 have HN1:=Aa (hN.tick (Al l 0))
 rw[hX1]at HN1
 obtain⟨hu,hb,H⟩:=hb
 have l0:=hl.1
 have m0:=Ag.only0 P Q ((Ac.refl w).drew)
 have H1:=H.mv m0 (At.refl A S)
 obtain⟨tv,hf,hth⟩:=H1
 have HC:=Aa h.drew
 have M:=m0
 have hb:=hb.move m0
 have ha:=ha.move m0
 have cb:=hb.c0
 have ca:=ha.c0
 have c0:=Ae w.drew hu 0 (bp A.e) (hf.1.cell 0)
 have cA:=HC.out.ca
 have HH:=Aa H
 clear h hN H m0 hl
 go_enter Tryz.func211,Tryz.ntmps211
 go_upto_region 1 with(fail)
 refine wp_region_held_drew (S:=(fun w'=>Ab w' b 0 (bp hu)∧Ab w' a 0 (.int .u64 l)∧Ab w' hu 0 (bp A.e)∧Ab w' A.e 2 (bp A.a))) (by kernel_rfl) ?_ (fun hHeld=>?_)
 ·exact⟨cb,ca,c0,cA⟩
 refine Af 0 (h:=Af 1 (h:=Af 2 (h:=Af 3 (h:=Af 4 (h:=Af 5 (h:=Af 6 (h:=Af 7 (h:=Af 8 (h:=Af 9 (h:=Ar (i:=10) (h:=fun K hK=>?_)))))))))))
 go_simp
 (refine(Bb l 0 _ l0 (by omega) (by omega)).mono ?_;rintro e1 w1 ⟨rfl,rfl⟩)
 try go_wp2_with fail
 refine AK hK (by exact⟨cb,ca,c0,cA⟩) (h:=fun hHeld=>?_);clear hK K
 refine Ar (i:=11) (h:=fun K hK=>?_)
 try simp only[List.getElem_toArray,List.getElem_cons_zero,List.getElem_cons_succ]
 go_simp
 (refine(Bw HC.out _).mono ?_;rw[hy,hX1];rintro e1 w1 ⟨rfl,h1,m1⟩;have HC:=Aa h1;have M:=M.trans m1;have hf:=hf.move m1;have hb:=hb.move m1;have ha:=ha.move m1;have cb:=hb.c0;have ca:=ha.c0;have c0:=Ae w1 hu 0 (bp A.e) (hf.1.cell 0);have cA:=HC.out.ca;have CE:=Ps HC.out HN1.out (HH.out.mv M (At.refl A S)) l y l0 y0;clear h1)
 try go_wp2_with fail
 refine AK hK (by exact⟨cb,ca,c0,cA⟩) (h:=fun hHeld=>?_);clear hK K
 refine Ar (i:=12) (h:=fun K hK=>?_)
 try simp only[List.getElem_toArray,List.getElem_cons_zero,List.getElem_cons_succ]
 go_simp
 (refine CE.mono ?_;rintro e9 w9 r9;have HS:=Aa (r9.comp M (At.refl A S));obtain⟨P9,Q9,A9,S9,v9,rfl,h9,n9,m9,k9⟩:=r9;have cA:=Ae w9 A.e 2 (bp A.a) ((by have q:=h9.ca;rw[k9.e,k9.a]at q;exact q));have c0:=Ae w9 hu 0 (bp A.e) ((hf.move m9).1.cell 0);have cb:=(hb.move m9).c0;have ca:=(ha.move m9).c0;clear h9 n9 m9 k9)
 try go_wp2_with fail
 refine AK hK (by exact⟨cb,ca,c0,cA⟩) (h:=fun hHeld=>?_);clear hK K
 refine Af 13 (h:=?_)
 refine wpAnyH_done (by kernel_rfl) ?_ _
 go_wp2_with fail
 go_ret
 rw[HR.out]
 exact HS.out
theorem NR{B N:Nat}{w:World}{P Q R:Nat→Prop}{A:EA}{Ke:EK}{S:SA}{nx:Value}{X:Cx}(h:CX B w P Q R A Ke S nx X)(hN:Ax N X){b i a:Nat}{u:Cd}{l id:Int}(i0:0≤id)(i1:id≤65535)(hb:Lz w P Q R A S b u)(hi:An w P Q R i 3 #[id])(ha:An w P Q R a 31 #[.int .u64 l]):
 Calls Tryz.prog 234 #[bp b,bp i,bp a] w (Ak B w P Q R A Ke S nx (Ay X (.maker u l id)).1 (Ay X (.maker u l id)).2):=by
 obtain⟨y,hy⟩:=Aq (X.sh.a.load (X.place id))
 obtain⟨y0,y1⟩:0≤y∧y<18446744073709551616:=by rw[←hy];exact AG hN.sh.word _
 obtain⟨X1,hX1⟩:=Aq (X.setA (X.sh.a.tick (X.place id)))
 have HR:Hid (Ay X (.maker u l id)=(if y/8=0∨u.at_<y/8∨y%8=4 then(X1,some (.older u l))else if y%8=2 then(X1,some (.ended u l id))else(X1,some (.ended u l 0)))):=Aa (by simp only[Ay,hy,hX1])
 have s1:0≤X.sh.slots:=by have:=hN.sh.n1;omega
 have s2:=hN.sh.n2
 have hpl:∀id:Int,73+X.sh.slots*3+id=X.place id:=fun _=>rfl
 obtain⟨hu,hb,H⟩:=hb
 have m0:=Ag.only0 P Q ((Ac.refl w).drew)
 have H1:=H.mv m0 (At.refl A S)
 obtain⟨tv,hf,hth⟩:=H1
 have HC:=Aa h.drew
 have M:=m0
 have hb:=hb.move m0
 have hi:=hi.move m0
 have ha:=ha.move m0
 have cb:=hb.c0
 have ci:=hi.c0
 have ca:=ha.c0
 have c0:=Ae w.drew hu 0 (bp A.e) (hf.1.cell 0)
 have c3:=Ae w.drew hu 3 (.int .u64 u.at_) (hf.1.cell 3)
 have cA:=HC.out.ca
 have cN:=HC.out.cn
 have HH:=Aa H
 clear h hN H m0
 go_enter Tryz.func234,Tryz.ntmps234
 go_upto_region 1 with(fail)
 refine wp_region_held_drew (S:=(fun w'=>Ab w' b 0 (bp hu)∧Ab w' i 0 (.int .i64 id)∧Ab w' hu 0 (bp A.e)∧Ab w' A.e 2 (bp A.a))) (by kernel_rfl) ?_ (fun hHeld=>?_)
 ·exact⟨cb,ci,c0,cA⟩
 refine Af 0 (h:=Af 1 (h:=Af 2 (h:=Af 3 (h:=Af 4 (h:=Af 5 (h:=Af 6 (h:=Af 7 (h:=Af 8 (h:=Af 9 (h:=Af 10 (h:=Af 11 (h:=Ar (i:=12) (h:=fun K hK=>?_)))))))))))))
 go_simp
 (refine(BS A.e X.sh.slots id _ cN s1 s2 i0 i1).mono ?_;rintro e1 w1 ⟨rfl,rfl⟩)
 try go_wp2_with fail
 refine AK hK (by exact⟨cb,ci,c0,cA⟩) (h:=fun hHeld=>?_);clear hK K
 refine Ar (i:=13) (h:=fun K hK=>?_)
 try simp only[List.getElem_toArray,List.getElem_cons_zero,List.getElem_cons_succ]
 go_simp
 (refine(Bw HC.out _).mono ?_;rw[hy,hX1];rintro e1 w1 ⟨rfl,h1,m1⟩;have HC:=Aa h1;have M:=M.trans m1;have hf:=hf.move m1;have hb:=hb.move m1;have hi:=hi.move m1;have ha:=ha.move m1;have cb:=hb.c0;have ci:=hi.c0;have ca:=ha.c0;have c0:=Ae w1 hu 0 (bp A.e) (hf.1.cell 0);have c3:=Ae w1 hu 3 (.int .u64 u.at_) (hf.1.cell 3);have cA:=HC.out.ca;clear h1)
 try go_wp2_with fail
 refine AK hK (by exact⟨cb,ci,c0,cA⟩) (h:=fun hHeld=>?_);clear hK K
 refine Ar (i:=14) (h:=fun K hK=>?_)
 try simp only[List.getElem_toArray,List.getElem_cons_zero,List.getElem_cons_succ]
 go_simp
 (refine(Dn y _ y0 y1).mono ?_;rintro e1 w1 ⟨rfl,rfl⟩)
 try go_wp2_with fail
 refine AK hK (by exact⟨cb,ci,c0,cA⟩) (h:=fun hHeld=>?_);clear hK K
 refine Af 15 (h:=Af 16 (h:=Af 17 (h:=Af 18 (h:=Af 19 (h:=?_)))))
 refine wpAnyH_done (by kernel_rfl) ?_ _
 skip
 have HV:=Aa (HH.out.mv M (At.refl A S))
 generalize y/8=en at *
 generalize y%8=st at *
 by_cases e0:en=0
 ·subst e0
  go_wp2_with fail
  refine(Dv HC.out HV.out l).mono ?_
  exact UQ
 ·have be:(en==0)=false:=by simpa using e0
  by_cases e1:u.at_<en
  ·have ge:en>u.at_:=e1
   go_wp2_with fail
   refine(Dv HC.out HV.out l).mono ?_
   exact Ts
  ·have ge:¬en>u.at_:=e1
   by_cases e4:st=4
   ·subst e4
    go_wp2_with fail
    refine(Dv HC.out HV.out l).mono ?_
    exact UN
   ·have b4:(st==4)=false:=by simpa using e4
    have HE:Hid (¬(en=0∨u.at_<en∨st=4)):=Aa (by rintro(x|x|x);exact e0 x;exact e1 x;exact e4 x)
    by_cases e2:st=2
    ·have b2:(st==2)=true:=by simpa using e2
     have HE2:=Aa e2
     clear e2 e4
     go_wp2_with fail
     refine(Ha HC.out HV.out l id).mono ?_
     rintro e9 w9 r9
     obtain⟨v9,rfl⟩:=r9.ret
     have HS:=Aa (r9.comp M (At.refl A S))
     clear r9
     exact Ti
    ·have b2:(st==2)=false:=by simpa using e2
     have HE2:=Aa e2
     go_wp2_with fail
     refine(Ha HC.out HV.out l 0).mono ?_
     exact Sr
end
section
attribute [local go_sem ↓] Go.wp_at_zero Go.wp_at_succ
theorem BG.bind{X:Cx}{key:Nat}{t:Rz}(h:BG X key t)(x:Int):BG (X.bind x) key t:=by
 cases t with
 |get=>exact h
 |scan ky=>exact h
 |change=>exact h
 |judge i l=>
  unfold Cx.bind
  split
  ·exact h
  ·exact h
theorem KX(X:Cx)(x:Int):(X.bind x).sh.slots=X.sh.slots:=by unfold Cx.bind;split<;>rfl
theorem Qa{B N:Nat}{w:World}{P Q R:Nat→Prop}{A:EA}{Ke:EK}{S:SA}{nx:Value}{X:Cx}(h:CX B w P Q R A Ke S nx X)(hN:Ax N X)(hB9:N+80≤100000000){b i a:Nat}{u:Cd}{l id:Int}(hT:BG X u.key u.thn)(hl:AM X.sh.slots l)(i0:0≤id)(i1:id≤65535)(hb:Lz w P Q R A S b u)(hi:An w P Q R i 3 #[id])(ha:An w P Q R a 31 #[.int .u64 l]):
 Calls Tryz.prog 271 #[bp b,bp i,bp a] w (Ak B w P Q R A Ke S nx (Ay X (.seen u l id)).1 (Ay X (.seen u l id)).2):=by
 obtain⟨y,hy⟩:=Aq (X.sh.a.load (X.place id))
 obtain⟨y0,y1⟩:0≤y∧y<18446744073709551616:=by rw[←hy];exact AG hN.sh.word _
 obtain⟨X1,hX1⟩:=Aq (X.setA (X.sh.a.tick (X.place id)))
 have HR:Hid (Ay X (.seen u l id)=(if y%8=4 then(X1,some (.start u))else if y%8=2 then((Ca (X1.bind id) u l).1,some (Ca (X1.bind id) u l).2)else((Ca X1 u l).1,some (Ca X1 u l).2))):=Aa (by simp only[Ay,hy,hX1])
 have HN1:=hN.tick (X.place id)
 rw[hX1]at HN1
 have HF:=Aa HN1
 have HL:Hid (AM X1.sh.slots l∧BG X1 u.key u.thn):=Aa (by rw[←hX1];exact⟨hl,hT⟩)
 have s1:0≤X.sh.slots:=by have:=hN.sh.n1;omega
 have s2:=hN.sh.n2
 have hpl:∀id:Int,73+X.sh.slots*3+id=X.place id:=fun _=>rfl
 have hbl:=HN1.tx.blen
 have htl:=HN1.sh.tlen
 obtain⟨hu,hb,H⟩:=hb
 have m0:=Ag.only0 P Q ((Ac.refl w).drew)
 have H1:=H.mv m0 (At.refl A S)
 obtain⟨tv,hf,hth⟩:=H1
 have HC:=Aa h.drew
 have M:=m0
 have hb:=hb.move m0
 have hi:=hi.move m0
 have ha:=ha.move m0
 have cb:=hb.c0
 have ci:=hi.c0
 have ca:=ha.c0
 have c0:=Ae w.drew hu 0 (bp A.e) (hf.1.cell 0)
 have cA:=HC.out.ca
 have cN:=HC.out.cn
 have HH:=Aa H
 clear h hN H m0 hT hl HN1
 go_enter Tryz.func271,Tryz.ntmps271
 go_upto_region 1 with(fail)
 refine wp_region_held_drew (S:=(fun w'=>Ab w' b 0 (bp hu)∧Ab w' i 0 (.int .i64 id)∧Ab w' hu 0 (bp A.e)∧Ab w' A.e 2 (bp A.a))) (by kernel_rfl) ?_ (fun hHeld=>?_)
 ·exact⟨cb,ci,c0,cA⟩
 refine Af 0 (h:=Af 1 (h:=Af 2 (h:=Af 3 (h:=Af 4 (h:=Af 5 (h:=Af 6 (h:=Af 7 (h:=Af 8 (h:=Af 9 (h:=Af 10 (h:=Af 11 (h:=Ar (i:=12) (h:=fun K hK=>?_)))))))))))))
 go_simp
 (refine(BS A.e X.sh.slots id _ cN s1 s2 i0 i1).mono ?_;rintro e1 w1 ⟨rfl,rfl⟩)
 try go_wp2_with fail
 refine AK hK (by exact⟨cb,ci,c0,cA⟩) (h:=fun hHeld=>?_);clear hK K
 refine Ar (i:=13) (h:=fun K hK=>?_)
 try simp only[List.getElem_toArray,List.getElem_cons_zero,List.getElem_cons_succ]
 go_simp
 (refine(Bw HC.out _).mono ?_;rw[hy,hX1];rintro e1 w1 ⟨rfl,h1,m1⟩;have HC:=Aa h1;have M:=M.trans m1;have hf:=hf.move m1;have hb:=hb.move m1;have hi:=hi.move m1;have ha:=ha.move m1;have cb:=hb.c0;have ci:=hi.c0;have ca:=ha.c0;have c0:=Ae w1 hu 0 (bp A.e) (hf.1.cell 0);have cA:=HC.out.ca;clear h1)
 try go_wp2_with fail
 refine AK hK (by exact⟨cb,ci,c0,cA⟩) (h:=fun hHeld=>?_);clear hK K
 refine Ar (i:=14) (h:=fun K hK=>?_)
 try simp only[List.getElem_toArray,List.getElem_cons_zero,List.getElem_cons_succ]
 go_simp
 (refine(Dn y _ y0 y1).mono ?_;rintro e1 w1 ⟨rfl,rfl⟩)
 try go_wp2_with fail
 refine AK hK (by exact⟨cb,ci,c0,cA⟩) (h:=fun hHeld=>?_);clear hK K
 refine Af 15 (h:=Af 16 (h:=Af 17 (h:=Af 18 (h:=Af 19 (h:=?_)))))
 refine wpAnyH_done (by kernel_rfl) ?_ _
 skip
 have HV:=Aa (HH.out.mv M (At.refl A S))
 generalize y/8=en at *
 generalize y%8=st at *
 by_cases e4:st=4
 ·have b4:(st==4)=true:=by simpa using e4
  have HS:Hid (Ak B w P Q R A Ke S nx X1 (some (.start u)) (.returned (.func (.func 161) #[bp hu] #[])) w1):=Aa ⟨P,Q,A,S,_,rfl,HC.out,⟨hu,rfl,HV.out⟩,M,At.refl A S⟩
  have HE:=Aa e4
  clear e4
  go_wp2_with fail
  go_ret
  rw[HR.out,if_pos HE.out]
  exact HS.out
 ·have b4:(st==4)=false:=by simpa using e4
  have HE:=Aa e4
  by_cases e2:st=2
  ·have b2:(st==2)=true:=by simpa using e2
   have HE2:=Aa e2
   clear e2 e4
   have mz:=Ag.only0 P Q ((Ac.refl w1).drew)
   have M:=M.trans mz
   have hb:=hb.move mz
   have hi:=hi.move mz
   have ha:=ha.move mz
   have hf:=hf.move mz
   have cb:=hb.c0
   have ci:=hi.c0
   have c0:=Ae w1.drew hu 0 (bp A.e) (hf.1.cell 0)
   have c1:=Ae w1.drew hu 1 (bp S.t) (hf.1.cell 1)
   have CB:=LD HC.out.drew (by omega) (by omega) id i0 i1
   clear mz
   go_upto_region 6 with(fail)
   refine wp_region_held_drew (S:=(fun w'=>Ab w' b 0 (bp hu)∧Ab w' i 0 (.int .i64 id)∧Ab w' hu 0 (bp A.e)∧Ab w' hu 1 (bp S.t))) (by kernel_rfl) ?_ (fun hHeld=>?_)
   ·exact⟨cb,ci,c0,c1⟩
   refine Af 0 (h:=Af 1 (h:=Af 2 (h:=Af 3 (h:=Af 4 (h:=Af 5 (h:=Af 6 (h:=Af 7 (h:=Af 8 (h:=Ar (i:=9) (h:=fun K hK=>?_))))))))))
   go_simp
   (refine CB.mono ?_;rintro e9 w9 ⟨rfl,P9,Q9,A9,S9,h9,m9,k9,x9,q9,c9⟩;have H9:=Aa h9;have M9:=M.trans m9;have K9:=Aa k9;have hb9:=hb.move m9;have ha9:=ha.move m9;have hf9:=hf.move m9;have cb:=hb9.c0;have ci:=(hi.move m9).c0;have c0:=Ae w9 hu 0 (bp A.e) (hf9.1.cell 0);have c1:=Ae w9 hu 1 (bp S.t) (hf9.1.cell 1);clear h9 m9 k9 x9 q9 c9)
   try go_wp2_with fail
   refine AK hK (by exact⟨cb,ci,c0,c1⟩) (h:=fun hHeld=>?_);clear hK K
   refine wpAnyH_done (by kernel_rfl) ?_ _
   skip
   have mz:=Ag.only0 P9 Q9 ((Ac.refl w9).drew)
   have HV9:=HH.out.mv (M9.trans mz) K9.out
   obtain⟨tv9,hfz,hthz⟩:=HV9
   obtain⟨F,cap,rfl,hcf,CT⟩:=GZ H9.out.drew (HF.out.bind i0 i1) (by omega) u (HL.out.2.bind id) hthz l (by rw[KX];exact HL.out.1)
   have hcf:=hcf l
   have hbz:=hb9.move mz
   have haz:=ha9.move mz
   have cb:=hbz.c0
   have ca:=haz.c0
   have c4:=Ae w9.drew hu 4 (Value.func (.func F) #[] cap) (hfz.1.cell 4)
   go_wp2_with fail
   go_upto_region 7 with(fail)
   refine wp_region_held_drew (S:=(fun w'=>Ab w' b 0 (bp hu)∧Ab w' a 0 (.int .u64 l)∧Ab w' hu 4 (.func (.func F) #[] cap))) (by kernel_rfl) ?_ (fun hHeld=>?_)
   ·exact⟨cb,ca,c4⟩
   refine Af 0 (h:=Af 1 (h:=Af 2 (h:=Af 3 (h:=Af 4 (h:=Ar (i:=5) (h:=fun K hK=>?_))))))
   go_simp
   (refine CT.mono ?_;rintro e8 w8 r8;have HS:=Aa (r8.comp (M9.trans mz) K9.out);obtain⟨P8,Q8,A8,S8,v8,rfl,h8,n8,m8,k8⟩:=r8;have cb:=(hbz.move m8).c0;have ca:=(haz.move m8).c0;have c4:=Ae w8 hu 4 (Value.func (.func F) #[] cap) ((hfz.move m8).1.cell 4);clear h8 n8 m8 k8)
   try go_wp2_with fail
   refine AK hK (by exact⟨cb,ca,c4⟩) (h:=fun hHeld=>?_);clear hK K
   refine Af 6 (h:=?_)
   refine wpAnyH_done (by kernel_rfl) ?_ _
   exact Ti
  ·have b2:(st==2)=false:=by simpa using e2
   have HE2:=Aa e2
   have mz:=Ag.only0 P Q ((Ac.refl w1).drew)
   have HV9:=HH.out.mv (M.trans mz) (At.refl A S)
   obtain⟨tv9,hfz,hthz⟩:=HV9
   obtain⟨F,cap,rfl,hcf,CT⟩:=GZ HC.out.drew HF.out (by omega) u HL.out.2 hthz l HL.out.1
   have hcf:=hcf l
   have hbz:=hb.move mz
   have haz:=ha.move mz
   have cb:=hbz.c0
   have ca:=haz.c0
   have c4:=Ae w1.drew hu 4 (Value.func (.func F) #[] cap) (hfz.1.cell 4)
   go_wp2_with fail
   go_upto_region 7 with(fail)
   refine wp_region_held_drew (S:=(fun w'=>Ab w' b 0 (bp hu)∧Ab w' a 0 (.int .u64 l)∧Ab w' hu 4 (.func (.func F) #[] cap))) (by kernel_rfl) ?_ (fun hHeld=>?_)
   ·exact⟨cb,ca,c4⟩
   refine Af 0 (h:=Af 1 (h:=Af 2 (h:=Af 3 (h:=Af 4 (h:=Ar (i:=5) (h:=fun K hK=>?_))))))
   go_simp
   (refine CT.mono ?_;rintro e8 w8 r8;have HS:=Aa (r8.comp (M.trans mz) (At.refl A S));obtain⟨P8,Q8,A8,S8,v8,rfl,h8,n8,m8,k8⟩:=r8;have cb:=(hbz.move m8).c0;have ca:=(haz.move m8).c0;have c4:=Ae w8 hu 4 (Value.func (.func F) #[] cap) ((hfz.move m8).1.cell 4);clear h8 n8 m8 k8)
   try go_wp2_with fail
   refine AK hK (by exact⟨cb,ca,c4⟩) (h:=fun hHeld=>?_);clear hK K
   refine Af 6 (h:=?_)
   refine wpAnyH_done (by kernel_rfl) ?_ _
   go_wp2_with fail
   go_ret
   rw[HR.out,if_neg HE.out,if_neg HE2.out]
   exact HS.out
end
section
attribute [local go_sem ↓] Go.wp_at_zero Go.wp_at_succ
theorem N_{B N:Nat}{w:World}{P Q R:Nat→Prop}{A:EA}{Ke:EK}{S:SA}{nx:Value}{X:Cx}(h:CX B w P Q R A Ke S nx X)(hN:Ax N X)(hB9:N+80≤100000000){b d a i:Nat}{u:Cd}{l id m:Int}(hT:BG X u.key u.thn)(hl:AM X.sh.slots l)(i0:0≤id)(i1:id≤65535)(hb:Lz w P Q R A S b u)(hd:An w P Q R d 3 #[id])(ha:An w P Q R a 31 #[.int .u64 l])(hi:An w P Q R i 3 #[m]):
 Calls Tryz.prog 273 #[bp b,bp d,bp a,bp i] w (Ak B w P Q R A Ke S nx (Ay X (.ender u l m id)).1 (Ay X (.ender u l m id)).2):=by
 obtain⟨y,hy⟩:=Aq (X.sh.a.load (X.place id))
 obtain⟨y0,y1⟩:0≤y∧y<18446744073709551616:=by rw[←hy];exact AG hN.sh.word _
 obtain⟨X1,hX1⟩:=Aq (X.setA (X.sh.a.tick (X.place id)))
 have HR:Hid (Ay X (.ender u l m id)=(if y/8=0∨u.at_<y/8∨y%8=4 then((Cy X1 u l m).1,some (Cy X1 u l m).2)else if y%8=2 then(X1.bind id,some (.older u l))else(X1,some (.older u l)))):=Aa (by simp only[Ay,hy,hX1])
 have HN1:=hN.tick (X.place id)
 rw[hX1]at HN1
 have HF:=Aa HN1
 have HL:Hid (AM X1.sh.slots l∧BG X1 u.key u.thn):=Aa (by rw[←hX1];exact⟨hl,hT⟩)
 have s1:0≤X.sh.slots:=by have:=hN.sh.n1;omega
 have s2:=hN.sh.n2
 have hpl:∀id:Int,73+X.sh.slots*3+id=X.place id:=fun _=>rfl
 have hbl:=HN1.tx.blen
 have htl:=HN1.sh.tlen
 obtain⟨hu,hb,H⟩:=hb
 have m0:=Ag.only0 P Q ((Ac.refl w).drew)
 have H1:=H.mv m0 (At.refl A S)
 obtain⟨tv,hf,hth⟩:=H1
 have HC:=Aa h.drew
 have M:=m0
 have hb:=hb.move m0
 have hd:=hd.move m0
 have hi:=hi.move m0
 have ha:=ha.move m0
 have cb:=hb.c0
 have cd:=hd.c0
 have c0:=Ae w.drew hu 0 (bp A.e) (hf.1.cell 0)
 have cA:=HC.out.ca
 have cN:=HC.out.cn
 have HH:=Aa H
 clear h hN H m0 hT hl HN1
 go_enter Tryz.func273,Tryz.ntmps273
 go_upto_region 1 with(fail)
 refine wp_region_held_drew (S:=(fun w'=>Ab w' b 0 (bp hu)∧Ab w' d 0 (.int .i64 id)∧Ab w' hu 0 (bp A.e)∧Ab w' A.e 2 (bp A.a))) (by kernel_rfl) ?_ (fun hHeld=>?_)
 ·exact⟨cb,cd,c0,cA⟩
 refine Af 0 (h:=Af 1 (h:=Af 2 (h:=Af 3 (h:=Af 4 (h:=Af 5 (h:=Af 6 (h:=Af 7 (h:=Af 8 (h:=Af 9 (h:=Af 10 (h:=Af 11 (h:=Ar (i:=12) (h:=fun K hK=>?_)))))))))))))
 go_simp
 (refine(BS A.e X.sh.slots id _ cN s1 s2 i0 i1).mono ?_;rintro e1 w1 ⟨rfl,rfl⟩)
 try go_wp2_with fail
 refine AK hK (by exact⟨cb,cd,c0,cA⟩) (h:=fun hHeld=>?_);clear hK K
 refine Ar (i:=13) (h:=fun K hK=>?_)
 try simp only[List.getElem_toArray,List.getElem_cons_zero,List.getElem_cons_succ]
 go_simp
 (refine(Bw HC.out _).mono ?_;rw[hy,hX1];rintro e1 w1 ⟨rfl,h1,m1⟩;have HC:=Aa h1;have M:=M.trans m1;have hf:=hf.move m1;have hb:=hb.move m1;have hd:=hd.move m1;have hi:=hi.move m1;have ha:=ha.move m1;have cb:=hb.c0;have cd:=hd.c0;have ci:=hi.c0;have ca:=ha.c0;have c0:=Ae w1 hu 0 (bp A.e) (hf.1.cell 0);have c3:=Ae w1 hu 3 (.int .u64 u.at_) (hf.1.cell 3);have cA:=HC.out.ca;clear h1)
 try go_wp2_with fail
 refine AK hK (by exact⟨cb,cd,c0,cA⟩) (h:=fun hHeld=>?_);clear hK K
 refine Ar (i:=14) (h:=fun K hK=>?_)
 try simp only[List.getElem_toArray,List.getElem_cons_zero,List.getElem_cons_succ]
 go_simp
 (refine(Dn y _ y0 y1).mono ?_;rintro e1 w1 ⟨rfl,rfl⟩)
 try go_wp2_with fail
 refine AK hK (by exact⟨cb,cd,c0,cA⟩) (h:=fun hHeld=>?_);clear hK K
 refine Af 15 (h:=Af 16 (h:=Af 17 (h:=Af 18 (h:=Af 19 (h:=?_)))))
 refine wpAnyH_done (by kernel_rfl) ?_ _
 skip
 have HV:=Aa (HH.out.mv M (At.refl A S))
 have CS:=GX HC.out HF.out (by omega) HL.out.2 HV.out l m HL.out.1
 generalize y/8=en at *
 generalize y%8=st at *
 by_cases e0:en=0
 ·subst e0
  go_wp2_with fail
  refine(CS).mono ?_
  exact UQ
 ·have be:(en==0)=false:=by simpa using e0
  by_cases e1:u.at_<en
  ·have ge:en>u.at_:=e1
   go_wp2_with fail
   refine(CS).mono ?_
   exact Ts
  ·have ge:¬en>u.at_:=e1
   by_cases e4:st=4
   ·subst e4
    go_wp2_with fail
    refine(CS).mono ?_
    exact UN
   ·have b4:(st==4)=false:=by simpa using e4
    have HE:Hid (¬(en=0∨u.at_<en∨st=4)):=Aa (by rintro(x|x|x);exact e0 x;exact e1 x;exact e4 x)
    by_cases e2:st=2
    ·have b2:(st==2)=true:=by simpa using e2
     have HE2:=Aa e2
     clear e2 e4 CS
     have mz:=Ag.only0 P Q ((Ac.refl w1).drew)
     have hbz:=hb.move mz
     have hdz:=hd.move mz
     have haz:=ha.move mz
     have hfz:=hf.move mz
     have Mz:=M.trans mz
     have cbz:=Ae w1.drew b 0 (bp hu) hbz.c0
     have cdz:=Ae w1.drew d 0 (.int .i64 id) hdz.c0
     have c0z:=Ae w1.drew hu 0 (bp A.e) (hfz.1.cell 0)
     have c1z:=Ae w1.drew hu 1 (bp S.t) (hfz.1.cell 1)
     have CB:=LD HC.out.drew (by omega) (by omega) id i0 i1
     clear mz
     go_wp2_with fail
     go_upto_region 5 with(fail)
     refine wp_region_held_drew (S:=(fun w'=>Ab w' b 0 (bp hu)∧Ab w' d 0 (.int .i64 id)∧Ab w' hu 0 (bp A.e)∧Ab w' hu 1 (bp S.t))) (by kernel_rfl) ?_ (fun hHeld=>?_)
     ·exact⟨cbz,cdz,c0z,c1z⟩
     refine Af 0 (h:=Af 1 (h:=Af 2 (h:=Af 3 (h:=Af 4 (h:=Af 5 (h:=Af 6 (h:=Af 7 (h:=Af 8 (h:=Ar (i:=9) (h:=fun K hK=>?_))))))))))
     go_simp
     (refine CB.mono ?_;rintro e9 w9 ⟨rfl,P9,Q9,A9,S9,h9,m9,k9,x9,q9,c9⟩;have H9:=Aa h9;have M9:=Mz.trans m9;have K9:=Aa k9;have hb9:=hbz.move m9;have ha9:=haz.move m9;have hf9:=hfz.move m9;have cbz:=hb9.c0;have ca9:=ha9.c0;have cdz:=(hdz.move m9).c0;have c0z:=Ae w9 hu 0 (bp A.e) (hf9.1.cell 0);have c1z:=Ae w9 hu 1 (bp S.t) (hf9.1.cell 1);clear h9 m9 k9 x9 q9 c9)
     try go_wp2_with fail
     refine AK hK (by exact⟨cbz,cdz,c0z,c1z⟩) (h:=fun hHeld=>?_);clear hK K
     refine wpAnyH_done (by kernel_rfl) ?_ _
     skip
     have HV9:=HH.out.mv M9 K9.out
     have CO:=Dv H9.out HV9 l
     go_wp2_with fail
     refine CO.mono ?_
     rintro e8 w8 r8
     obtain⟨v8,rfl⟩:=r8.ret
     have HS:=Aa (r8.comp M9 K9.out)
     clear r8
     exact Ti
    ·have b2:(st==2)=false:=by simpa using e2
     have HE2:=Aa e2
     go_wp2_with fail
     refine(Dv HC.out HV.out l).mono ?_
     exact Sr
end
section
attribute [local go_sem ↓] Go.wp_at_zero Go.wp_at_succ
theorem Ag.setNewF{w0 w:World}{P Q R P' Q':Nat→Prop}(m:Ag w0 w P Q P' Q'){b:Nat}{t:TypeId}{cs:Array Value}(hf:An w P' Q' R b t cs)(hb:w0.heap.size≤b)(o:Nat)(v:Value):Ag w0 (w.setCell ⟨b,o,none⟩ v) P Q P' Q':=m.setNew hb o v
theorem Ox{B N:Nat}{w:World}{P Q R:Nat→Prop}{A:EA}{Ke:EK}{S:SA}{nx:Value}{X:Cx}(h:CX B w P Q R A Ke S nx X)(hN:Ax N X)(hB9:N+80≤100000000){hu:Nat}{u:Cd}{l m:Int}(hT:BG X u.key u.thn)(hl:AM X.sh.slots l)(H:CH w P Q R A S hu u){b a i:Nat}(hb:An w P Q R b 269 #[bp hu])(ha:An w P Q R a 31 #[.int .u64 (l)])(hi:An w P Q R i 3 #[.int .i64 (m)]):
 Calls Tryz.prog 253 #[bp b,bp a,bp i] w (Ak B w P Q R A Ke S nx (Ay X (.ended u l m)).1 (Ay X (.ended u l m)).2):=by
 have HC0:=Aa h
 have HN:=Aa hN
 have l0:=hl.1
 obtain⟨x,hx⟩:=Aq (X.sh.a.load (Al l 1))
 obtain⟨x0,x1⟩:0≤x∧x<18446744073709551616:=by rw[←hx];exact AG hN.sh.word _
 obtain⟨X1,hX1⟩:=Aq (X.setA (X.sh.a.tick (Al l 1)))
 have HR:Hid (Ay X (.ended u l m)=(if BD x=1∧Br x≤u.at_ then(X1,some (.older u l))else if BD x≠2∨Br x=X.t.id then((Cy X1 u l m).1,some (Cy X1 u l m).2)else(X1,some (.ender u l m (Br x))))):=Aa (by simp only[Ay,hx,hX1])
 have HF:=Aa (hN.tick (Al l 1))
 rw[hX1]at HF
 have HL:Hid (AM X1.sh.slots l∧BG X1 u.key u.thn∧X1.t.id=X.t.id):=Aa (by rw[←hX1];exact⟨hl,hT,rfl⟩)
 have hrn:=FC x x0
 have hrt:=@FV x
 have HH:=Aa H
 obtain⟨tv,hfx,-⟩:=H
 have HFX:=Aa hfx
 clear h hN hl hT hfx
 go_enter Tryz.func253,Tryz.ntmps253
 go_upto_region 1 with(fail)
 go_cut [4] (fun s4 wx=>∃s,s4=bp s∧Hid (CX B wx P Q R A Ke S nx X1∧Ag w wx P Q P Q∧An wx P Q R s 195 #[.int .i64 (BD x),.int .u64 (Br x)]))
 case first=>
  have HC:=Aa HC0.out.drew
  have M:=Ag.only0 P Q ((Ac.refl w).drew)
  have fb:=hb.move M
  have fa:=ha.move M
  have fi:=hi.move M
  have cb:=fb.c0
  have ca:=fa.c0
  have ci:=fi.c0
  have cA:=HC.out.ca
  have cN:=HC.out.cn
  have fhu:=HFX.out.move M
  have ch0:_=some (bp A.e):=fhu.1.cell 0
  refine wp_region_held_drew (S:=(fun w'=>Ab w' b 0 (bp hu)∧Ab w' a 0 (.int .u64 (l))∧Ab w' hu 0 (bp A.e)∧Ab w' A.e 2 (bp A.a))) (by kernel_rfl) ?_ (fun hHeld=>?_)
  ·exact⟨cb,ca,ch0,cA⟩
  refine Af 0 (h:=Af 1 (h:=Af 2 (h:=Af 3 (h:=Af 4 (h:=Af 5 (h:=Af 6 (h:=Af 7 (h:=?_))))))))
  refine wpAnyH_ready (rs:=[8,11]) (by kernel_rfl) (by simp) ?_
  refine AllReadyH.cons rfl (fun K hK=>?_) (AllReadyH.cons rfl (fun K hK=>?_) (AllReadyH.nil))
  ·try simp only[List.getElem_toArray,List.getElem_cons_zero,List.getElem_cons_succ]
   go_simp
   (refine(Bb l 1 _ l0 (by omega) (by omega)).mono ?_;rintro e1 w1 ⟨rfl,rfl⟩)
   try go_wp2_with fail
   refine AK hK (by exact⟨cb,ca,ch0,cA⟩) (h:=fun hHeld=>?_);clear hK K
   refine wpAnyH_ready (rs:=[9,11]) (by kernel_rfl) (by simp) ?_
   refine AllReadyH.cons rfl (fun K hK=>?_) (AllReadyH.cons rfl (fun K hK=>?_) (AllReadyH.nil))
   ·try simp only[List.getElem_toArray,List.getElem_cons_zero,List.getElem_cons_succ]
    go_simp
    (refine(Bw HC.out _).mono ?_;rw[hx,hX1];rintro e1 w1 ⟨rfl,h1,m1⟩;have HC:=Aa h1;have M:=M.trans m1;clear h1;have fb:=hb.move M;have fa:=ha.move M;have fi:=hi.move M;have cb:=fb.c0;have ca:=fa.c0;have ci:=fi.c0;have cA:=HC.out.ca;have cN:=HC.out.cn;have fhu:=HFX.out.move M;have ch0:_=some (bp A.e):=fhu.1.cell 0;try(have fs:=fs.move m1;have zfs:=fs.zf;first|have cfs:=fs.c0|(have cfs:=fs.d0;have dfs:=fs.d1)))
    try go_wp2_with fail
    refine AK hK (by exact⟨cb,ca,ch0,cA⟩) (h:=fun hHeld=>?_);clear hK K
    refine wpAnyH_ready (rs:=[10,11]) (by kernel_rfl) (by simp) ?_
    refine AllReadyH.cons rfl (fun K hK=>?_) (AllReadyH.cons rfl (fun K hK=>?_) (AllReadyH.nil))
    ·try simp only[List.getElem_toArray,List.getElem_cons_zero,List.getElem_cons_succ]
     go_simp
     (refine(BI x _).mono ?_;rintro e1 w1 ⟨rfl,o1⟩;have M:=M.trans (Ag.only0 P Q o1);have HC:=Aa (HC.out.only0 o1);have fb:=hb.move M;have fa:=ha.move M;have fi:=hi.move M;have cb:=fb.c0;have ca:=fa.c0;have ci:=fi.c0;have cA:=HC.out.ca;have cN:=HC.out.cn;have fhu:=HFX.out.move M;have ch0:_=some (bp A.e):=fhu.1.cell 0;try(have fs:=fs.move (Ag.only0 P Q o1);have zfs:=fs.zf;first|have cfs:=fs.c0|(have cfs:=fs.d0;have dfs:=fs.d1)))
     try go_wp2_with fail
     refine AK hK (by exact⟨cb,ca,ch0,cA⟩) (h:=fun hHeld=>?_);clear hK K
     refine Ar (i:=11) (h:=fun K hK=>?_)
     try simp only[List.getElem_toArray,List.getElem_cons_zero,List.getElem_cons_succ]
     go_simp
     (have HCp:=HC;have Mp:=M;(first|have fs:=An.new' HC.out w.heap.size rfl 195 #[.int .i64 0,.int .u64 0]|have fs:=An.new' HC.out _ rfl 195 #[.int .i64 0,.int .u64 0]);have M:=M.trans (Ag.only0 P Q ((Ac.refl _).alloc (.cells #[.int .i64 0,.int .u64 0] 195)));have HC:=Aa (HC.out.alloc (.cells #[.int .i64 0,.int .u64 0] 195));have fb:=hb.move M;have fa:=ha.move M;have fi:=hi.move M;have cb:=fb.c0;have ca:=fa.c0;have ci:=fi.c0;have cA:=HC.out.ca;have cN:=HC.out.cn;have fhu:=HFX.out.move M;have ch0:_=some (bp A.e):=fhu.1.cell 0)
     try go_wp2_with fail
     refine AK hK (by exact⟨cb,ca,ch0,cA⟩) (h:=fun hHeld=>?_);clear hK K
     refine Ar (i:=12) (h:=fun K hK=>?_)
     try simp only[List.getElem_toArray,List.getElem_cons_zero,List.getElem_cons_succ]
     go_simp
     (have fs:=An.new' HCp.out _ rfl 195 #[.int .i64 (BD x),.int .u64 (Br x)];have M:=Mp.trans (Ag.only0 P Q ((Ac.refl _).alloc (.cells #[.int .i64 (BD x),.int .u64 (Br x)] 195)));have HC:=Aa (HCp.out.alloc (.cells #[.int .i64 (BD x),.int .u64 (Br x)] 195));have fb:=hb.move M;have fa:=ha.move M;have fi:=hi.move M;have cb:=fb.c0;have ca:=fa.c0;have ci:=fi.c0;have cA:=HC.out.ca;have cN:=HC.out.cn;have fhu:=HFX.out.move M;have ch0:_=some (bp A.e):=fhu.1.cell 0)
     exact RE
    ·try simp only[List.getElem_toArray,List.getElem_cons_zero,List.getElem_cons_succ]
     go_simp
     (have HCp:=HC;have Mp:=M;(first|have fs:=An.new' HC.out w.heap.size rfl 195 #[.int .i64 0,.int .u64 0]|have fs:=An.new' HC.out _ rfl 195 #[.int .i64 0,.int .u64 0]);have M:=M.trans (Ag.only0 P Q ((Ac.refl _).alloc (.cells #[.int .i64 0,.int .u64 0] 195)));have HC:=Aa (HC.out.alloc (.cells #[.int .i64 0,.int .u64 0] 195));have fb:=hb.move M;have fa:=ha.move M;have fi:=hi.move M;have cb:=fb.c0;have ca:=fa.c0;have ci:=fi.c0;have cA:=HC.out.ca;have cN:=HC.out.cn;have fhu:=HFX.out.move M;have ch0:_=some (bp A.e):=fhu.1.cell 0)
     try go_wp2_with fail
     refine AK hK (by exact⟨cb,ca,ch0,cA⟩) (h:=fun hHeld=>?_);clear hK K
     refine Ar (i:=10) (h:=fun K hK=>?_)
     try simp only[List.getElem_toArray,List.getElem_cons_zero,List.getElem_cons_succ]
     go_simp
     (refine(BI x _).mono ?_;rintro e1 w1 ⟨rfl,o1⟩;have M:=M.trans (Ag.only0 P Q o1);have HC:=Aa (HC.out.only0 o1);have fb:=hb.move M;have fa:=ha.move M;have fi:=hi.move M;have cb:=fb.c0;have ca:=fa.c0;have ci:=fi.c0;have cA:=HC.out.ca;have cN:=HC.out.cn;have fhu:=HFX.out.move M;have ch0:_=some (bp A.e):=fhu.1.cell 0;try(have fs:=fs.move (Ag.only0 P Q o1);have zfs:=fs.zf;first|have cfs:=fs.c0|(have cfs:=fs.d0;have dfs:=fs.d1)))
     try go_wp2_with fail
     refine AK hK (by exact⟨cb,ca,ch0,cA⟩) (h:=fun hHeld=>?_);clear hK K
     refine Ar (i:=12) (h:=fun K hK=>?_)
     try simp only[List.getElem_toArray,List.getElem_cons_zero,List.getElem_cons_succ]
     go_simp
     (have HC:=Aa (HC.out.setNew fs (by decide) 0 (.int .i64 (BD x)));have M:=M.setNewF fs (by first|exact Nat.le_refl _|exact Mp.o.size) 0 (.int .i64 (BD x));have fs:=fs.setOwn 0 (.int .i64 (BD x));have HC:=Aa (HC.out.setNew fs (by decide) 1 (.int .u64 (Br x)));have M:=M.setNewF fs (by first|exact Nat.le_refl _|exact Mp.o.size) 1 (.int .u64 (Br x));have fs:=fs.setOwn 1 (.int .u64 (Br x));have fs:An _ P Q R _ 195 #[.int .i64 (BD x),.int .u64 (Br x)]:=fs;have fb:=hb.move M;have fa:=ha.move M;have fi:=hi.move M;have cb:=fb.c0;have ca:=fa.c0;have ci:=fi.c0;have cA:=HC.out.ca;have cN:=HC.out.cn;have fhu:=HFX.out.move M;have ch0:_=some (bp A.e):=fhu.1.cell 0)
     exact RE
   ·try simp only[List.getElem_toArray,List.getElem_cons_zero,List.getElem_cons_succ]
    go_simp
    (have HCp:=HC;have Mp:=M;(first|have fs:=An.new' HC.out w.heap.size rfl 195 #[.int .i64 0,.int .u64 0]|have fs:=An.new' HC.out _ rfl 195 #[.int .i64 0,.int .u64 0]);have M:=M.trans (Ag.only0 P Q ((Ac.refl _).alloc (.cells #[.int .i64 0,.int .u64 0] 195)));have HC:=Aa (HC.out.alloc (.cells #[.int .i64 0,.int .u64 0] 195));have fb:=hb.move M;have fa:=ha.move M;have fi:=hi.move M;have cb:=fb.c0;have ca:=fa.c0;have ci:=fi.c0;have cA:=HC.out.ca;have cN:=HC.out.cn;have fhu:=HFX.out.move M;have ch0:_=some (bp A.e):=fhu.1.cell 0)
    exact SQ
  ·try simp only[List.getElem_toArray,List.getElem_cons_zero,List.getElem_cons_succ]
   go_simp
   (have HCp:=HC;have Mp:=M;(first|have fs:=An.new' HC.out w.heap.size rfl 195 #[.int .i64 0,.int .u64 0]|have fs:=An.new' HC.out _ rfl 195 #[.int .i64 0,.int .u64 0]);have M:=M.trans (Ag.only0 P Q ((Ac.refl _).alloc (.cells #[.int .i64 0,.int .u64 0] 195)));have HC:=Aa (HC.out.alloc (.cells #[.int .i64 0,.int .u64 0] 195));have fb:=hb.move M;have fa:=ha.move M;have fi:=hi.move M;have cb:=fb.c0;have ca:=fa.c0;have ci:=fi.c0;have cA:=HC.out.ca;have cN:=HC.out.cn;have fhu:=HFX.out.move M;have ch0:_=some (bp A.e):=fhu.1.cell 0)
   try go_wp2_with fail
   refine AK hK (by exact⟨cb,ca,ch0,cA⟩) (h:=fun hHeld=>?_);clear hK K
   refine Ar (i:=8) (h:=fun K hK=>?_)
   try simp only[List.getElem_toArray,List.getElem_cons_zero,List.getElem_cons_succ]
   go_simp
   (refine(Bb l 1 _ l0 (by omega) (by omega)).mono ?_;rintro e1 w1 ⟨rfl,rfl⟩)
   exact SQ
 case rest=>
  obtain⟨sb,rfl,HW⟩:=hcut
  obtain⟨hcw,M,fs⟩:=HW.out
  have HCV:=Aa hcw
  have f0:=hb.move M
  have f1:=ha.move M
  have f2:=hi.move M
  have HV:=Aa (HH.out.mv M (At.refl A S))
  clear HW hcw HC0 HFX
  generalize BD x=kd at *
  generalize Br x=nd at *
  by_cases k1:kd=1
  ·subst k1
   by_cases hle:nd≤u.at_
   ·skip
    go_upto_region 2 with(fail)
    have oz:=(Ac.refl (wc)).drew
    have mz:=Ag.only0 P Q oz
    have HCV:=Aa (HCV.out.only0 oz)
    have M:=M.trans mz
    have f0:=f0.move mz
    have f1:=f1.move mz
    have f2:=f2.move mz
    have fs:=fs.move mz
    have HV:=Aa (HV.out.mv mz (At.refl A S))
    obtain⟨tv2,hf,-⟩:=HV.out
    have s0:=fs.d0
    have s1:=fs.d1
    have c0:=f0.c0
    have c1:=f1.c0
    have c2:=f2.c0
    have h1:_=some (bp S.t):=hf.1.cell 1
    have h3:_=some (Value.int .u64 u.at_):=hf.1.cell 3
    have ti:=HCV.out.ti
    clear hf oz mz
    refine wp_region_held_drew (S:=(fun w'=>Ab w' sb 0 (.int .i64 1)∧Ab w' sb 1 (.int .u64 nd)∧Ab w' b 0 (bp hu)∧Ab w' hu 3 (.int .u64 u.at_))) (by kernel_rfl) ?_ (fun hHeld=>?_)
    ·exact⟨s0,s1,c0,h3⟩
    refine Af 0 (h:=Af 1 (h:=Af 2 (h:=Af 3 (h:=?_))))
    first|refine Aj 4 (h:=?_)|refine Af 4 (h:=?_)
    first|refine Aj 5 (h:=?_)|refine Af 5 (h:=?_)
    first|refine Aj 6 (h:=?_)|refine Af 6 (h:=?_)
    first|refine Aj 7 (h:=?_)|refine Af 7 (h:=?_)
    first|refine Aj 8 (h:=?_)|refine Af 8 (h:=?_)
    first|refine Aj 9 (h:=?_)|refine Af 9 (h:=?_)
    first|refine Aj 10 (h:=?_)|refine Af 10 (h:=?_)
    refine Af 11 (h:=Af 12 (h:=?_))
    refine wpAnyH_done (by kernel_rfl) ?_ _
    go_wp2_with fail
    refine(Dv HCV.out HV.out l).mono ?_
    rintro e9 w9 r9
    obtain⟨v9,rfl⟩:=r9.ret
    have HS:=Aa (r9.comp M (At.refl A S))
    clear r9
    exact UD
   ·skip
    go_upto_region 2 with(fail)
    have oz:=(Ac.refl (wc)).drew
    have mz:=Ag.only0 P Q oz
    have HCV:=Aa (HCV.out.only0 oz)
    have M:=M.trans mz
    have f0:=f0.move mz
    have f1:=f1.move mz
    have f2:=f2.move mz
    have fs:=fs.move mz
    have HV:=Aa (HV.out.mv mz (At.refl A S))
    obtain⟨tv2,hf,-⟩:=HV.out
    have s0:=fs.d0
    have s1:=fs.d1
    have c0:=f0.c0
    have c1:=f1.c0
    have c2:=f2.c0
    have h1:_=some (bp S.t):=hf.1.cell 1
    have h3:_=some (Value.int .u64 u.at_):=hf.1.cell 3
    have ti:=HCV.out.ti
    clear hf oz mz
    refine wp_region_held_drew (S:=(fun w'=>Ab w' sb 0 (.int .i64 1)∧Ab w' sb 1 (.int .u64 nd)∧Ab w' b 0 (bp hu)∧Ab w' hu 3 (.int .u64 u.at_))) (by kernel_rfl) ?_ (fun hHeld=>?_)
    ·exact⟨s0,s1,c0,h3⟩
    refine Af 0 (h:=Af 1 (h:=Af 2 (h:=Af 3 (h:=?_))))
    first|refine Aj 4 (h:=?_)|refine Af 4 (h:=?_)
    first|refine Aj 5 (h:=?_)|refine Af 5 (h:=?_)
    first|refine Aj 6 (h:=?_)|refine Af 6 (h:=?_)
    first|refine Aj 7 (h:=?_)|refine Af 7 (h:=?_)
    first|refine Aj 8 (h:=?_)|refine Af 8 (h:=?_)
    first|refine Aj 9 (h:=?_)|refine Af 9 (h:=?_)
    first|refine Aj 10 (h:=?_)|refine Af 10 (h:=?_)
    refine Af 11 (h:=Af 12 (h:=?_))
    refine wpAnyH_done (by kernel_rfl) ?_ _
    skip
    go_upto_region 4 with(fail)
    have oz:=(Ac.refl (wc.drew)).drew
    have mz:=Ag.only0 P Q oz
    have HCV:=Aa (HCV.out.only0 oz)
    have M:=M.trans mz
    have f0:=f0.move mz
    have f1:=f1.move mz
    have f2:=f2.move mz
    have fs:=fs.move mz
    have HV:=Aa (HV.out.mv mz (At.refl A S))
    obtain⟨tv2,hf,-⟩:=HV.out
    have s0:=fs.d0
    have s1:=fs.d1
    have c0:=f0.c0
    have c1:=f1.c0
    have c2:=f2.c0
    have h1:_=some (bp S.t):=hf.1.cell 1
    have h3:_=some (Value.int .u64 u.at_):=hf.1.cell 3
    have ti:=HCV.out.ti
    clear hf oz mz
    rw[HL.out.2.2]at ti
    refine wp_region_held_drew (S:=(fun w'=>Ab w' sb 0 (.int .i64 1)∧Ab w' sb 1 (.int .u64 nd)∧Ab w' b 0 (bp hu)∧Ab w' hu 1 (bp S.t)∧Ab w' S.t 0 (.int .i64 X.t.id))) (by kernel_rfl) ?_ (fun hHeld=>?_)
    ·exact⟨s0,s1,c0,h1,ti⟩
    refine Af 0 (h:=Af 1 (h:=Af 2 (h:=Af 3 (h:=?_))))
    first|refine Aj 4 (h:=?_)|refine Af 4 (h:=?_)
    first|refine Aj 5 (h:=?_)|refine Af 5 (h:=?_)
    first|refine Aj 6 (h:=?_)|refine Af 6 (h:=?_)
    first|refine Aj 7 (h:=?_)|refine Af 7 (h:=?_)
    first|refine Aj 8 (h:=?_)|refine Af 8 (h:=?_)
    first|refine Aj 9 (h:=?_)|refine Af 9 (h:=?_)
    first|refine Aj 10 (h:=?_)|refine Af 10 (h:=?_)
    first|refine Aj 11 (h:=?_)|refine Af 11 (h:=?_)
    first|refine Aj 12 (h:=?_)|refine Af 12 (h:=?_)
    first|refine Aj 13 (h:=?_)|refine Af 13 (h:=?_)
    first|refine Aj 14 (h:=?_)|refine Af 14 (h:=?_)
    refine Af 15 (h:=Af 16 (h:=?_))
    refine wpAnyH_done (by kernel_rfl) ?_ _
    go_wp2_with fail
    refine(GX HCV.out HF.out (by omega) HL.out.2.1 HV.out l m HL.out.1).mono ?_
    rintro e9 w9 r9
    obtain⟨v9,rfl⟩:=r9.ret
    have HS:=Aa (r9.comp M (At.refl A S))
    clear r9
    go_wp2_with fail
    go_ret
    rw[HR.out,if_neg (fun q=>by have:=q.2;omega),if_pos (.inl (by decide))]
    exact HS.out
  ·have b1:(kd==1)=false:=by simpa using k1
   by_cases k2:kd=2
   ·subst k2
    obtain⟨r1,r2⟩:=hrt rfl
    have ew:IntKind.i64.wrap nd=nd:=by rw[IntKind.wrap_i64];omega
    by_cases hid:nd=X.t.id
    ·have bi:(nd==X.t.id)=true:=by simpa using hid
     have HI:=Aa hid
     clear hid
     go_upto_region 2 with(fail)
     have oz:=(Ac.refl (wc)).drew
     have mz:=Ag.only0 P Q oz
     have HCV:=Aa (HCV.out.only0 oz)
     have M:=M.trans mz
     have f0:=f0.move mz
     have f1:=f1.move mz
     have f2:=f2.move mz
     have fs:=fs.move mz
     have HV:=Aa (HV.out.mv mz (At.refl A S))
     obtain⟨tv2,hf,-⟩:=HV.out
     have s0:=fs.d0
     have s1:=fs.d1
     have c0:=f0.c0
     have c1:=f1.c0
     have c2:=f2.c0
     have h1:_=some (bp S.t):=hf.1.cell 1
     have h3:_=some (Value.int .u64 u.at_):=hf.1.cell 3
     have ti:=HCV.out.ti
     clear hf oz mz
     refine wp_region_held_drew (S:=(fun w'=>Ab w' sb 0 (.int .i64 2)∧Ab w' sb 1 (.int .u64 nd)∧Ab w' b 0 (bp hu)∧Ab w' hu 3 (.int .u64 u.at_))) (by kernel_rfl) ?_ (fun hHeld=>?_)
     ·exact⟨s0,s1,c0,h3⟩
     refine Af 0 (h:=Af 1 (h:=Af 2 (h:=Af 3 (h:=?_))))
     first|refine Aj 4 (h:=?_)|refine Af 4 (h:=?_)
     first|refine Aj 5 (h:=?_)|refine Af 5 (h:=?_)
     first|refine Aj 6 (h:=?_)|refine Af 6 (h:=?_)
     first|refine Aj 7 (h:=?_)|refine Af 7 (h:=?_)
     first|refine Aj 8 (h:=?_)|refine Af 8 (h:=?_)
     first|refine Aj 9 (h:=?_)|refine Af 9 (h:=?_)
     first|refine Aj 10 (h:=?_)|refine Af 10 (h:=?_)
     refine Af 11 (h:=Af 12 (h:=?_))
     refine wpAnyH_done (by kernel_rfl) ?_ _
     skip
     go_upto_region 4 with(fail)
     have oz:=(Ac.refl (wc.drew)).drew
     have mz:=Ag.only0 P Q oz
     have HCV:=Aa (HCV.out.only0 oz)
     have M:=M.trans mz
     have f0:=f0.move mz
     have f1:=f1.move mz
     have f2:=f2.move mz
     have fs:=fs.move mz
     have HV:=Aa (HV.out.mv mz (At.refl A S))
     obtain⟨tv2,hf,-⟩:=HV.out
     have s0:=fs.d0
     have s1:=fs.d1
     have c0:=f0.c0
     have c1:=f1.c0
     have c2:=f2.c0
     have h1:_=some (bp S.t):=hf.1.cell 1
     have h3:_=some (Value.int .u64 u.at_):=hf.1.cell 3
     have ti:=HCV.out.ti
     clear hf oz mz
     rw[HL.out.2.2]at ti
     refine wp_region_held_drew (S:=(fun w'=>Ab w' sb 0 (.int .i64 2)∧Ab w' sb 1 (.int .u64 nd)∧Ab w' b 0 (bp hu)∧Ab w' hu 1 (bp S.t)∧Ab w' S.t 0 (.int .i64 X.t.id))) (by kernel_rfl) ?_ (fun hHeld=>?_)
     ·exact⟨s0,s1,c0,h1,ti⟩
     refine Af 0 (h:=Af 1 (h:=Af 2 (h:=Af 3 (h:=?_))))
     first|refine Aj 4 (h:=?_)|refine Af 4 (h:=?_)
     first|refine Aj 5 (h:=?_)|refine Af 5 (h:=?_)
     first|refine Aj 6 (h:=?_)|refine Af 6 (h:=?_)
     first|refine Aj 7 (h:=?_)|refine Af 7 (h:=?_)
     first|refine Aj 8 (h:=?_)|refine Af 8 (h:=?_)
     first|refine Aj 9 (h:=?_)|refine Af 9 (h:=?_)
     first|refine Aj 10 (h:=?_)|refine Af 10 (h:=?_)
     first|refine Aj 11 (h:=?_)|refine Af 11 (h:=?_)
     first|refine Aj 12 (h:=?_)|refine Af 12 (h:=?_)
     first|refine Aj 13 (h:=?_)|refine Af 13 (h:=?_)
     first|refine Aj 14 (h:=?_)|refine Af 14 (h:=?_)
     refine Af 15 (h:=Af 16 (h:=?_))
     refine wpAnyH_done (by kernel_rfl) ?_ _
     go_wp2_with fail
     refine(GX HCV.out HF.out (by omega) HL.out.2.1 HV.out l m HL.out.1).mono ?_
     rintro e9 w9 r9
     obtain⟨v9,rfl⟩:=r9.ret
     have HS:=Aa (r9.comp M (At.refl A S))
     clear r9
     go_wp2_with fail
     go_ret
     rw[HR.out,if_neg (fun q=>by simp at q),if_pos (.inr HI.out)]
     exact HS.out
    ·have bi:(nd==X.t.id)=false:=by simpa using hid
     go_upto_region 2 with(fail)
     have oz:=(Ac.refl (wc)).drew
     have mz:=Ag.only0 P Q oz
     have HCV:=Aa (HCV.out.only0 oz)
     have M:=M.trans mz
     have f0:=f0.move mz
     have f1:=f1.move mz
     have f2:=f2.move mz
     have fs:=fs.move mz
     have HV:=Aa (HV.out.mv mz (At.refl A S))
     obtain⟨tv2,hf,-⟩:=HV.out
     have s0:=fs.d0
     have s1:=fs.d1
     have c0:=f0.c0
     have c1:=f1.c0
     have c2:=f2.c0
     have h1:_=some (bp S.t):=hf.1.cell 1
     have h3:_=some (Value.int .u64 u.at_):=hf.1.cell 3
     have ti:=HCV.out.ti
     clear hf oz mz
     refine wp_region_held_drew (S:=(fun w'=>Ab w' sb 0 (.int .i64 2)∧Ab w' sb 1 (.int .u64 nd)∧Ab w' b 0 (bp hu)∧Ab w' hu 3 (.int .u64 u.at_))) (by kernel_rfl) ?_ (fun hHeld=>?_)
     ·exact⟨s0,s1,c0,h3⟩
     refine Af 0 (h:=Af 1 (h:=Af 2 (h:=Af 3 (h:=?_))))
     first|refine Aj 4 (h:=?_)|refine Af 4 (h:=?_)
     first|refine Aj 5 (h:=?_)|refine Af 5 (h:=?_)
     first|refine Aj 6 (h:=?_)|refine Af 6 (h:=?_)
     first|refine Aj 7 (h:=?_)|refine Af 7 (h:=?_)
     first|refine Aj 8 (h:=?_)|refine Af 8 (h:=?_)
     first|refine Aj 9 (h:=?_)|refine Af 9 (h:=?_)
     first|refine Aj 10 (h:=?_)|refine Af 10 (h:=?_)
     refine Af 11 (h:=Af 12 (h:=?_))
     refine wpAnyH_done (by kernel_rfl) ?_ _
     skip
     go_upto_region 4 with(fail)
     have oz:=(Ac.refl (wc.drew)).drew
     have mz:=Ag.only0 P Q oz
     have HCV:=Aa (HCV.out.only0 oz)
     have M:=M.trans mz
     have f0:=f0.move mz
     have f1:=f1.move mz
     have f2:=f2.move mz
     have fs:=fs.move mz
     have HV:=Aa (HV.out.mv mz (At.refl A S))
     obtain⟨tv2,hf,-⟩:=HV.out
     have s0:=fs.d0
     have s1:=fs.d1
     have c0:=f0.c0
     have c1:=f1.c0
     have c2:=f2.c0
     have h1:_=some (bp S.t):=hf.1.cell 1
     have h3:_=some (Value.int .u64 u.at_):=hf.1.cell 3
     have ti:=HCV.out.ti
     clear hf oz mz
     rw[HL.out.2.2]at ti
     refine wp_region_held_drew (S:=(fun w'=>Ab w' sb 0 (.int .i64 2)∧Ab w' sb 1 (.int .u64 nd)∧Ab w' b 0 (bp hu)∧Ab w' hu 1 (bp S.t)∧Ab w' S.t 0 (.int .i64 X.t.id))) (by kernel_rfl) ?_ (fun hHeld=>?_)
     ·exact⟨s0,s1,c0,h1,ti⟩
     refine Af 0 (h:=Af 1 (h:=Af 2 (h:=Af 3 (h:=?_))))
     first|refine Aj 4 (h:=?_)|refine Af 4 (h:=?_)
     first|refine Aj 5 (h:=?_)|refine Af 5 (h:=?_)
     first|refine Aj 6 (h:=?_)|refine Af 6 (h:=?_)
     first|refine Aj 7 (h:=?_)|refine Af 7 (h:=?_)
     first|refine Aj 8 (h:=?_)|refine Af 8 (h:=?_)
     first|refine Aj 9 (h:=?_)|refine Af 9 (h:=?_)
     first|refine Aj 10 (h:=?_)|refine Af 10 (h:=?_)
     first|refine Aj 11 (h:=?_)|refine Af 11 (h:=?_)
     first|refine Aj 12 (h:=?_)|refine Af 12 (h:=?_)
     first|refine Aj 13 (h:=?_)|refine Af 13 (h:=?_)
     first|refine Aj 14 (h:=?_)|refine Af 14 (h:=?_)
     refine Af 15 (h:=Af 16 (h:=?_))
     refine wpAnyH_done (by kernel_rfl) ?_ _
     go_wp2_with fail
     refine(N0 HCV.out HV.out l m nd).mono ?_
     rintro e9 w9 r9
     obtain⟨v9,rfl⟩:=r9.ret
     have HS:=Aa (r9.comp M (At.refl A S))
     clear r9
     go_wp2_with fail
     go_ret
     rw[HR.out,if_neg (fun q=>by simp at q),if_neg (fun q=>q.elim (fun z=>z rfl) hid)]
     exact HS.out
   ·have b2:(kd != 2)=true:=by simpa using k2
    have b22:(kd==2)=false:=by simpa using k2
    go_upto_region 2 with(fail)
    have oz:=(Ac.refl (wc)).drew
    have mz:=Ag.only0 P Q oz
    have HCV:=Aa (HCV.out.only0 oz)
    have M:=M.trans mz
    have f0:=f0.move mz
    have f1:=f1.move mz
    have f2:=f2.move mz
    have fs:=fs.move mz
    have HV:=Aa (HV.out.mv mz (At.refl A S))
    obtain⟨tv2,hf,-⟩:=HV.out
    have s0:=fs.d0
    have s1:=fs.d1
    have c0:=f0.c0
    have c1:=f1.c0
    have c2:=f2.c0
    have h1:_=some (bp S.t):=hf.1.cell 1
    have h3:_=some (Value.int .u64 u.at_):=hf.1.cell 3
    have ti:=HCV.out.ti
    clear hf oz mz
    refine wp_region_held_drew (S:=(fun w'=>Ab w' sb 0 (.int .i64 kd)∧Ab w' sb 1 (.int .u64 nd)∧Ab w' b 0 (bp hu)∧Ab w' hu 3 (.int .u64 u.at_))) (by kernel_rfl) ?_ (fun hHeld=>?_)
    ·exact⟨s0,s1,c0,h3⟩
    refine Af 0 (h:=Af 1 (h:=Af 2 (h:=Af 3 (h:=?_))))
    first|refine Aj 4 (h:=?_)|refine Af 4 (h:=?_)
    first|refine Aj 5 (h:=?_)|refine Af 5 (h:=?_)
    first|refine Aj 6 (h:=?_)|refine Af 6 (h:=?_)
    first|refine Aj 7 (h:=?_)|refine Af 7 (h:=?_)
    first|refine Aj 8 (h:=?_)|refine Af 8 (h:=?_)
    first|refine Aj 9 (h:=?_)|refine Af 9 (h:=?_)
    first|refine Aj 10 (h:=?_)|refine Af 10 (h:=?_)
    refine Af 11 (h:=Af 12 (h:=?_))
    refine wpAnyH_done (by kernel_rfl) ?_ _
    skip
    go_upto_region 4 with(fail)
    have oz:=(Ac.refl (wc.drew)).drew
    have mz:=Ag.only0 P Q oz
    have HCV:=Aa (HCV.out.only0 oz)
    have M:=M.trans mz
    have f0:=f0.move mz
    have f1:=f1.move mz
    have f2:=f2.move mz
    have fs:=fs.move mz
    have HV:=Aa (HV.out.mv mz (At.refl A S))
    obtain⟨tv2,hf,-⟩:=HV.out
    have s0:=fs.d0
    have s1:=fs.d1
    have c0:=f0.c0
    have c1:=f1.c0
    have c2:=f2.c0
    have h1:_=some (bp S.t):=hf.1.cell 1
    have h3:_=some (Value.int .u64 u.at_):=hf.1.cell 3
    have ti:=HCV.out.ti
    clear hf oz mz
    rw[HL.out.2.2]at ti
    refine wp_region_held_drew (S:=(fun w'=>Ab w' sb 0 (.int .i64 kd)∧Ab w' sb 1 (.int .u64 nd)∧Ab w' b 0 (bp hu)∧Ab w' hu 1 (bp S.t)∧Ab w' S.t 0 (.int .i64 X.t.id))) (by kernel_rfl) ?_ (fun hHeld=>?_)
    ·exact⟨s0,s1,c0,h1,ti⟩
    refine Af 0 (h:=Af 1 (h:=Af 2 (h:=Af 3 (h:=?_))))
    first|refine Aj 4 (h:=?_)|refine Af 4 (h:=?_)
    first|refine Aj 5 (h:=?_)|refine Af 5 (h:=?_)
    first|refine Aj 6 (h:=?_)|refine Af 6 (h:=?_)
    first|refine Aj 7 (h:=?_)|refine Af 7 (h:=?_)
    first|refine Aj 8 (h:=?_)|refine Af 8 (h:=?_)
    first|refine Aj 9 (h:=?_)|refine Af 9 (h:=?_)
    first|refine Aj 10 (h:=?_)|refine Af 10 (h:=?_)
    first|refine Aj 11 (h:=?_)|refine Af 11 (h:=?_)
    first|refine Aj 12 (h:=?_)|refine Af 12 (h:=?_)
    first|refine Aj 13 (h:=?_)|refine Af 13 (h:=?_)
    first|refine Aj 14 (h:=?_)|refine Af 14 (h:=?_)
    refine Af 15 (h:=Af 16 (h:=?_))
    refine wpAnyH_done (by kernel_rfl) ?_ _
    go_wp2_with fail
    refine(GX HCV.out HF.out (by omega) HL.out.2.1 HV.out l m HL.out.1).mono ?_
    rintro e9 w9 r9
    obtain⟨v9,rfl⟩:=r9.ret
    have HS:=Aa (r9.comp M (At.refl A S))
    clear r9
    go_wp2_with fail
    go_ret
    rw[HR.out,if_neg (fun q=>k1 q.1),if_pos (.inl k2)]
    exact HS.out
end
section
attribute [local go_sem ↓] Go.wp_at_zero Go.wp_at_succ
theorem Pv(l:List (Nat×Int)){i:Nat}(hi:i<l.length)(k:Nat)(n:Int):((DQ l).set (i*2) (.int .i64 k)).set (i*2+1) (.int .i64 n)=DQ (l.set i (k,n)):=by
 have e1:(DQ l).set (i*2) (.int .i64 k)=DQ (l.set i (k,(l.getD i (0,0)).2)):=by
  unfold DQ
  rw[List.length_set]
  exact Eh (w:=2) (c:=fun i=>[Value.int .i64 (l.getD i (0,0)).1,.int .i64 (l.getD i (0,0)).2]) (c':=fun j=>[Value.int .i64 ((l.set i (k,(l.getD i (0,0)).2)).getD j (0,0)).1,.int .i64 ((l.set i (k,(l.getD i (0,0)).2)).getD j (0,0)).2]) (n:=l.length) (i:=i) (f:=0) (fun i=>rfl) hi (by decide) (fun j hj e=>by simp only[B_ l i j _ _ e]) (by simp only[Bm l i _ _ hi];rfl) (fun i=>rfl)
 rw[e1]
 have hi':i<(l.set i (k,(l.getD i (0,0)).2)).length:=by rw[List.length_set];exact hi
 have e2:∀l2:List (Nat×Int),i<l2.length→(DQ l2).set (i*2+1) (.int .i64 n)=DQ (l2.set i ((l2.getD i (0,0)).1,n)):=fun l2 hi2=>by
  unfold DQ
  rw[List.length_set]
  exact Eh (w:=2) (c:=fun i=>[Value.int .i64 (l2.getD i (0,0)).1,.int .i64 (l2.getD i (0,0)).2]) (c':=fun j=>[Value.int .i64 ((l2.set i ((l2.getD i (0,0)).1,n)).getD j (0,0)).1,.int .i64 ((l2.set i ((l2.getD i (0,0)).1,n)).getD j (0,0)).2]) (n:=l2.length) (i:=i) (f:=1) (fun i=>rfl) hi2 (by decide) (fun j hj e=>by simp only[B_ l2 i j _ _ e]) (by simp only[Bm l2 i _ _ hi2];rfl) (fun i=>rfl)
 rw[e2 _ hi',Bm l i _ _ hi,List.set_set]
section
variable {B N:Nat} {w w':World} {P Q R:Nat→Prop} {A:EA} {Ke:EK} {S:SA} {nx:Value} {X:Cx}
theorem CX.setV(h:CX B w P Q R A Ke S nx X){l:Int}{i:Nat}(hi:(A5 l).toNat=i)(hin:i<X.sh.vals.length)(k:Nat)(n:Int):
 CX B ((w.setCell ⟨A.v,i*2,none⟩ (.int .i64 k)).setCell ⟨A.v,i*2+1,none⟩ (.int .i64 n)) P Q R A Ke S nx (X.setVal l (k,n))∧Ag w ((w.setCell ⟨A.v,i*2,none⟩ (.int .i64 k)).setCell ⟨A.v,i*2+1,none⟩ (.int .i64 n)) P Q P Q:=by
 have o:Ah (fun b=>b=A.v) w ((w.setCell ⟨A.v,i*2,none⟩ (.int .i64 k)).setCell ⟨A.v,i*2+1,none⟩ (.int .i64 n)):=(Ah.set1 w A.v (i*2) _).trans (Ah.set1 _ A.v (i*2+1) _)
 have t:Aw [148] w _:=Aw.of o h.sh.vals
 have B2:=(h.sh.vals.set (i*2) (.int .i64 k)).set (i*2+1) (.int .i64 n)
 generalize(w.setCell ⟨A.v,i*2,none⟩ (.int .i64 k)).setCell ⟨A.v,i*2+1,none⟩ (.int .i64 n)=w2 at *
 have m:Ag w w2 P Q P Q:=h.small o (fun b hb=> .inl (by rw[hb];exact h.sh.pv))
 have el:(X.sh.vals.set i (k,n)).length=X.sh.vals.length:=List.length_set ..
 have ev:(X.setVal l (k,n)).sh.vals=X.sh.vals.set i (k,n):=by show X.sh.vals.set (A5 l).toNat (k,n)=_;rw[hi]
 refine⟨⟨⟨?_,h.sh.ar.ty t (by decide) (by decide),h.sh.pool.ty t (by decide) (by decide) (by decide),?_,AO h.sh.tale t (by decide),h.sh.pe,h.sh.pa,h.sh.pp,h.sh.pf,h.sh.pv,h.sh.pt⟩,h.tx.ty t (by decide) (by decide) (by decide) (by decide),h.cl.ty t (by decide) (by decide),h.ap,h.uP.mono o.size,h.uQ.mono o.size,h.aP,h.aQ,h.uR.mono o.size,fun j hj=>(h.prs j hj).move m⟩,m⟩
 ·exact Tf
 ·rw[ev,←Pv X.sh.vals hin k n]
  simpa using B2
theorem CX.setV1(h:CX B w P Q R A Ke S nx X){i:Nat}(hin:i<X.sh.vals.length)(v:Value):∃u,(w.setCell ⟨A.v,i*2,none⟩ v).drew.cell? ⟨A.v,i*2+1,none⟩=some u∧(w.setCell ⟨A.v,i*2,none⟩ v).drew.frozen? ⟨A.v,i*2+1,none⟩=false:=by
 have BV:=h.sh.vals.set (i*2) v
 have hs:i*2+1<((DQ X.sh.vals).toArray.setIfInBounds (i*2) v).size:=by rw[Array.size_setIfInBounds,List.size_toArray,Pk];omega
 exact⟨_,(BV.cell (i*2+1)).trans (Array.getElem?_eq_getElem hs),BV.free (i*2+1)⟩
theorem Ax.pool(h:Ax N X):X.sh.p.slots.length≤256∧(∀i,i∈X.sh.p.ready.free→i<X.sh.p.slots.length)∧(X.sh.p.ready.free.length≤max N 256):=by
 have h1:=h.sh.vlen
 have h2:=h.sh.n2
 have h3:=h.sh.plen
 have h4:X.sh.p.slots.length≤256:=by omega
 have hr:=(h.sh.pl.mono (M:=max N 256) (by omega)).ready (by omega)
 exact⟨h4,fun i hi=>by rw[h3];exact hr.free i hi,hr.flen⟩
end
theorem Hn{B N:Nat}{w:World}{P Q R:Nat→Prop}{A:EA}{Ke:EK}{S:SA}{nx:Value}{X:Cx}(h:CX B w P Q R A Ke S nx X)(hN:Ax N X)(hB9:N≤100000000)(hm:X.sh.p.made=false→X.sh.p.free=[])(x:Bool)(l hd:Int)(hl:AM X.sh.slots l){xq ha:Option Addr}{hn hc:Nat}(hx:xq=(if x then some X.key else none).map fun k=>DP (S.x k))
 (hh:(x=true∧ha=none∧hn=0∧hc=0)∨(x=false∧∃g,ha=some (DP g)∧hn=1∧hc=1∧bU w P Q R g hd)):
 Calls Tryz.prog 170 #[bp A.e,bp S.t,bp S.c,.pointer xq,.int .u64 l,.slice ha hn hc] w (Ak B w P Q R A Ke S nx (Di X x l hd).1 (some (Di X x l hd).2)):=by
 have hkey:(X.key:Int)=X.c.op.key:=by have:=hN.cl.key;unfold Cx.key;omega
 have HX:=Aa hx
 have HHH:=Aa hh
 have HF:=Aa hN
 by_cases h0:l=0
 ·skip
  subst h0
  have ge:=An.new' (h) (w.heap.size) (by simp) 39 #[bp A.e]
  have C0:=(h).alloc (.cells #[bp A.e] 39)
  have gt:=An.new' (C0) (w.heap.size+1) (by simp) 96 #[bp S.t]
  have C1:=(C0).alloc (.cells #[bp S.t] 96)
  have gc:=An.new' (C1) (w.heap.size+1+1) (by simp) 101 #[bp S.c]
  have C2:=(C1).alloc (.cells #[bp S.c] 101)
  have gx:=An.new' (C2) (w.heap.size+1+1+1) (by simp) 248 #[.pointer xq]
  have C3:=(C2).alloc (.cells #[.pointer xq] 248)
  have gl:=An.new' (C3) (w.heap.size+1+1+1+1) (by simp) 31 #[.int .u64 (0)]
  have C4:=(C3).alloc (.cells #[.int .u64 (0)] 31)
  have gh:=An.new' (C4) (w.heap.size+1+1+1+1+1) (by simp) 291 #[.slice ha hn hc]
  have C5:=(C4).alloc (.cells #[.slice ha hn hc] 291)
  have ge:=ge.alloc (.cells #[bp S.t] 96)
  have ge:=ge.alloc (.cells #[bp S.c] 101)
  have ge:=ge.alloc (.cells #[.pointer xq] 248)
  have ge:=ge.alloc (.cells #[.int .u64 (0)] 31)
  have ge:=ge.alloc (.cells #[.slice ha hn hc] 291)
  have gt:=gt.alloc (.cells #[bp S.c] 101)
  have gt:=gt.alloc (.cells #[.pointer xq] 248)
  have gt:=gt.alloc (.cells #[.int .u64 (0)] 31)
  have gt:=gt.alloc (.cells #[.slice ha hn hc] 291)
  have gc:=gc.alloc (.cells #[.pointer xq] 248)
  have gc:=gc.alloc (.cells #[.int .u64 (0)] 31)
  have gc:=gc.alloc (.cells #[.slice ha hn hc] 291)
  have gx:=gx.alloc (.cells #[.int .u64 (0)] 31)
  have gx:=gx.alloc (.cells #[.slice ha hn hc] 291)
  have gl:=gl.alloc (.cells #[.slice ha hn hc] 291)
  have MW:Ag w ((((((w.alloc (.cells #[bp A.e] 39)).alloc (.cells #[bp S.t] 96)).alloc (.cells #[bp S.c] 101)).alloc (.cells #[.pointer xq] 248)).alloc (.cells #[.int .u64 (0)] 31)).alloc (.cells #[.slice ha hn hc] 291)) P Q P Q:=Ag.only0 P Q (((((((Ac.refl w).alloc _).alloc _).alloc _).alloc _).alloc _).alloc _)
  obtain⟨W,hW⟩:=Ad ((((((w.alloc (.cells #[bp A.e] 39)).alloc (.cells #[bp S.t] 96)).alloc (.cells #[bp S.c] 101)).alloc (.cells #[.pointer xq] 248)).alloc (.cells #[.int .u64 (0)] 31)).alloc (.cells #[.slice ha hn hc] 291))
  rw[←hW]at MW C5 ge gt gc gx gl gh
  have HCW:=Aa C5
  clear C0 C1 C2 C3 C4 C5
  obtain⟨be,hbe⟩:=Ad w.heap.size
  obtain⟨bt,hbt⟩:=Ad (w.heap.size+1)
  obtain⟨bc,hbc⟩:=Ad (w.heap.size+1+1)
  obtain⟨bx,hbx⟩:=Ad (w.heap.size+1+1+1)
  obtain⟨bl,hbl⟩:=Ad (w.heap.size+1+1+1+1)
  obtain⟨bh,hbh⟩:=Ad (w.heap.size+1+1+1+1+1)
  rw[←hbe]at ge
  rw[←hbt]at gt
  rw[←hbc]at gc
  rw[←hbx]at gx
  rw[←hbl]at gl
  rw[←hbh]at gh
  have HBe:=Aa hbe
  have HBt:=Aa hbt
  have HBc:=Aa hbc
  have HBx:=Aa hbx
  have HBl:=Aa hbl
  have HBh:=Aa hbh
  clear hbe hbt hbc hbx hbl hbh
  have ce:=Ae W be 0 (bp A.e) ge.c0
  have ct:=Ae W bt 0 (bp S.t) gt.c0
  have cc:=Ae W bc 0 (bp S.c) gc.c0
  have cx:=Ae W bx 0 (.pointer xq) gx.c0
  have cl:=Ae W bl 0 (.int .u64 (0)) gl.c0
  have ch:=Ae W bh 0 (.slice ha hn hc) gh.c0
  have HR:Hid (Di X x 0 hd=(if X.sh.p.take.2.1≠0 then(X.setP X.sh.p.take.2.2,.abort 14 5)else((X.setP X.sh.p.take.2.2).setVal X.sh.p.take.1 (X.key,X.c.op.value),.slot1 x X.sh.p.take.1 hd))):=Aa (by unfold Di;rw[if_pos rfl])
  obtain⟨p1,p2,p3⟩:=hN.pool
  have c3:=Ae W A.e 3 (bp A.p) (HCW.out.sh.eng.cell 3)
  have CT:=Qq HCW.out.sh.pool p2 hN.sh.tags p1 (by omega) HCW.out.hB hm
  have HTK:=Aa ((hN.sh.pl.mono (M:=max N 256) (by omega)).take (by have:=hN.sh.plen;omega) (by have:=hN.sh.plen;omega))
  have HVL:=Aa hN.sh.vlen
  have HFP:=Aa ((hN.mono (M:=max N 256) (by omega)).setP ((hN.sh.pl.mono (M:=max N 256) (by omega)).take (by have:=hN.sh.plen;omega) (by have:=hN.sh.plen;omega)).1)
  have hbl:w.heap.size≤bl:=by have:=HBl.out;omega
  clear h hN hl hh hx hm
  go_enter Tryz.func170,Tryz.ntmps170
  go_upto_region 1 with(fail)
  rw[←hW,←HBh.out,←HBl.out,←HBx.out,←HBc.out,←HBt.out,←HBe.out]
  clear hW
  go_wp2_with fail
  refine CT.mono ?_
  rintro e1 w1 ⟨rfl,fa,fc,q⟩
  clear CT
  obtain⟨P1,A1,hC1,m1,kk1⟩:=HCW.out.pool q
  clear q
  have ge:=ge.move m1
  have ce:=ge.c0
  have gt:=gt.move m1
  have ct:=gt.c0
  have gc:=gc.move m1
  have cc:=gc.c0
  have gx:=gx.move m1
  have cx:=gx.c0
  have gl:=gl.move m1
  have cl:=gl.c0
  have gh:=gh.move m1
  have ch:=gh.c0
  have zl0:=gl.zf 0
  have HK1:=Aa kk1
  have M1:=MW.trans m1
  clear m1 kk1 c3
  obtain⟨lk,hlk⟩:=Aq (X.sh.p.take.1)
  obtain⟨er,her⟩:=Aq (X.sh.p.take.2.1)
  rw[hlk,her]at HR
  rw[hlk,her]at HTK
  rw[hlk,her]
  have HC2:=Aa (hC1.setNew gl (by decide) 0 (.int .u64 lk))
  have M2:=M1.setNewF gl hbl 0 (.int .u64 lk)
  obtain⟨W2,hW2⟩:=Ad (w1.setCell ⟨bl,0,none⟩ (.int .u64 lk))
  have mm:∀(b:Nat) (t:TypeId) (cs:Array Value),b≠bl→An w1 P1 Q R b t cs→An W2 P1 Q R b t cs:=fun b t cs hb hf=>by rw[hW2];exact⟨hf.1.other _ _ hb,hf.2⟩
  have gl2:An W2 P1 Q R bl 31 #[.int .u64 lk]:=by rw[hW2];exact gl.setOwn 0 (.int .u64 lk)
  rw[←hW2]at HC2 M2
  have nn_e:be≠bl:=by have:=HBl.out;have:=HBe.out;omega
  have ge:=mm _ _ _ nn_e ge
  have ce:=ge.c0
  have nn_t:bt≠bl:=by have:=HBl.out;have:=HBt.out;omega
  have gt:=mm _ _ _ nn_t gt
  have ct:=gt.c0
  have nn_c:bc≠bl:=by have:=HBl.out;have:=HBc.out;omega
  have gc:=mm _ _ _ nn_c gc
  have cc:=gc.c0
  have nn_x:bx≠bl:=by have:=HBl.out;have:=HBx.out;omega
  have gx:=mm _ _ _ nn_x gx
  have cx:=gx.c0
  have nn_h:bh≠bl:=by have:=HBl.out;have:=HBh.out;omega
  have gh:=mm _ _ _ nn_h gh
  have ch:=gh.c0
  have clw:=cl
  clear gl cl
  have gl:=gl2
  have cl:=gl.c0
  clear gl2 mm hC1 M1
  by_cases he:er=0
  ·skip
   subst he
   have HLK:=(HTK.out.2.1 rfl)
   have hlk1:AM X.sh.slots lk:=by have:=HLK.1;rw[HVL.out]at this;exact this
   have hlk2:lk≠0:=HLK.2
   have HFS:=HFP
   rw[if_neg (by simp)]at HR
   obtain⟨i1,i2⟩:=Ax.ix (N:=max N 256) (X:=X.setP X.sh.p.take.2.2) HFS.out hlk1 hlk2
   obtain⟨iv,hiv⟩:=Aq ((A5 (lk)).toNat)
   rw[hiv]at i1 i2
   have HZ:=Aa (HC2.out.drew)
   have MZ:=M2.trans (Ag.only0 P1 Q ((Ac.refl (W2)).drew))
   have mz:=Ag.only0 P1 Q ((Ac.refl (W2)).drew)
   have ze:=ge.move mz
   have de:=ze.c0
   have zt:=gt.move mz
   have dt:=zt.c0
   have zc:=gc.move mz
   have dc:=zc.c0
   have zx:=gx.move mz
   have dx:=zx.c0
   have zl:=gl.move mz
   have dl:=zl.c0
   have zh:=gh.move mz
   have dh:=zh.c0
   have k1:=Ae (W2).drew S.c 1 (.int .i64 X.c.op.key) (HZ.out.cl.blk.cell 1)
   have k3:=Ae (W2).drew S.c 3 (.int .i64 X.c.op.value) (HZ.out.cl.blk.cell 3)
   have v0:=HZ.out.val0 i1
   have v1:=HZ.out.val1 i1
   have y0:=HZ.out.sh.vals.free (iv*2)
   have y1:=HZ.out.sh.vals.free (iv*2+1)
   obtain⟨u2,v2,y2⟩:=HC2.out.setV1 i1 (.int .i64 X.c.op.key)
   have D:=Fz HZ.out HFS.out (lk) hlk1 hlk2
   rw[hiv,HK1.out.e]at D
   have HV0:=Aa (HC2.out.setV hiv i1 X.key X.c.op.value)
   rw[hkey]at HV0
   have HV:=Aa (And.intro HV0.out.1.drew (HV0.out.2.trans (Ag.only0 P1 Q ((Ac.refl _).drew))))
   have MV:=M2.trans HV.out.2
   have HS:Hid (Ak B w P Q R A Ke S nx ((X.setP X.sh.p.take.2.2).setVal (lk) (X.key,X.c.op.value)) (some (.slot1 x (lk) hd)) (.returned (.func (.func 191) #[] #[bp be,bp bl,bp bt,bp bx,bp bc,bp bh])) _):=Aa ⟨P1,Q,A1,S,_,rfl,HV.out.1,⟨be,bl,bt,bx,bc,bh,rfl,by unfold bE;rw[HK1.out.e];exact ge.move HV.out.2,gl.move HV.out.2,gt.move HV.out.2,by unfold bX;have qx:=gx.move HV.out.2;rw[HX.out]at qx;exact qx,gc.move HV.out.2,by
    rcases HHH.out with⟨q1,q2,q3,q4⟩|⟨q1,gg,q2,q3,q4,q5⟩
    ·exact Us
    ·refine .inr ⟨q1,gg,?_,An.move q5 MV⟩;have:=gh.move HV.out.2;rw[q2,q3,q4]at this;exact this⟩,MV,HK1.out⟩
   have N1:=MV.o.size
   have de9:=(ge.move HV.out.2).c0
   have dl9:=(gl.move HV.out.2).c0
   have dc9:=(gc.move HV.out.2).c0
   have k19:_=some (Value.int .i64 X.c.op.key):=HV.out.1.cl.blk.cell 1
   have k39:_=some (Value.int .i64 X.c.op.value):=HV.out.1.cl.blk.cell 3
   clear i2 N1
   go_upto_region 6 with(fail)
   rw[←hW2]
   clear hW2 hlk her nn_e nn_t nn_c nn_x nn_h zl0 HFP HVL p1 p2 p3 HTK HLK clw
   refine wp_region_held_drew (S:=(fun w'=>Ab w' be 0 (bp A.e)∧Ab w' bl 0 (.int .u64 (lk))∧Ab w' bc 0 (bp S.c)∧Ab w' S.c 1 (.int .i64 X.c.op.key)∧Ab w' S.c 3 (.int .i64 X.c.op.value))) (by kernel_rfl) ?_ (fun hHeld=>?_)
   ·first|exact⟨de,dl,dc,k1,k3⟩|exact⟨de9,dl9,dc9,k19,k39⟩
   exact SE
  ·have be1:(er==0)=false:=by simpa using he
   have be2:(er != 0)=true:=by simpa using he
   rw[if_pos he]at HR
   have CE:=Dr HC2.out 14 5
   rw[HK1.out.e]at CE
   clear HTK
   go_upto_region 4 with(fail)
   rw[←hW2]
   clear hW2
   clear hlk her nn_e nn_t nn_c nn_x nn_h zl0 HFP HVL p1 p2 p3 clw
   go_wp2_with fail
   refine CE.mono ?_
   rintro e9 w9 r9
   obtain⟨v9,rfl⟩:=r9.ret
   have HS:=Aa (r9.comp M2 HK1.out)
   exact Ud
 ·have b0:(l==0)=false:=by simpa using h0
  have ge:=An.new' (h) (w.heap.size) (by simp) 39 #[bp A.e]
  have C0:=(h).alloc (.cells #[bp A.e] 39)
  have gt:=An.new' (C0) (w.heap.size+1) (by simp) 96 #[bp S.t]
  have C1:=(C0).alloc (.cells #[bp S.t] 96)
  have gc:=An.new' (C1) (w.heap.size+1+1) (by simp) 101 #[bp S.c]
  have C2:=(C1).alloc (.cells #[bp S.c] 101)
  have gx:=An.new' (C2) (w.heap.size+1+1+1) (by simp) 248 #[.pointer xq]
  have C3:=(C2).alloc (.cells #[.pointer xq] 248)
  have gl:=An.new' (C3) (w.heap.size+1+1+1+1) (by simp) 31 #[.int .u64 (l)]
  have C4:=(C3).alloc (.cells #[.int .u64 (l)] 31)
  have gh:=An.new' (C4) (w.heap.size+1+1+1+1+1) (by simp) 291 #[.slice ha hn hc]
  have C5:=(C4).alloc (.cells #[.slice ha hn hc] 291)
  have ge:=ge.alloc (.cells #[bp S.t] 96)
  have ge:=ge.alloc (.cells #[bp S.c] 101)
  have ge:=ge.alloc (.cells #[.pointer xq] 248)
  have ge:=ge.alloc (.cells #[.int .u64 (l)] 31)
  have ge:=ge.alloc (.cells #[.slice ha hn hc] 291)
  have gt:=gt.alloc (.cells #[bp S.c] 101)
  have gt:=gt.alloc (.cells #[.pointer xq] 248)
  have gt:=gt.alloc (.cells #[.int .u64 (l)] 31)
  have gt:=gt.alloc (.cells #[.slice ha hn hc] 291)
  have gc:=gc.alloc (.cells #[.pointer xq] 248)
  have gc:=gc.alloc (.cells #[.int .u64 (l)] 31)
  have gc:=gc.alloc (.cells #[.slice ha hn hc] 291)
  have gx:=gx.alloc (.cells #[.int .u64 (l)] 31)
  have gx:=gx.alloc (.cells #[.slice ha hn hc] 291)
  have gl:=gl.alloc (.cells #[.slice ha hn hc] 291)
  have MW:Ag w ((((((w.alloc (.cells #[bp A.e] 39)).alloc (.cells #[bp S.t] 96)).alloc (.cells #[bp S.c] 101)).alloc (.cells #[.pointer xq] 248)).alloc (.cells #[.int .u64 (l)] 31)).alloc (.cells #[.slice ha hn hc] 291)) P Q P Q:=Ag.only0 P Q (((((((Ac.refl w).alloc _).alloc _).alloc _).alloc _).alloc _).alloc _)
  obtain⟨W,hW⟩:=Ad ((((((w.alloc (.cells #[bp A.e] 39)).alloc (.cells #[bp S.t] 96)).alloc (.cells #[bp S.c] 101)).alloc (.cells #[.pointer xq] 248)).alloc (.cells #[.int .u64 (l)] 31)).alloc (.cells #[.slice ha hn hc] 291))
  rw[←hW]at MW C5 ge gt gc gx gl gh
  have HCW:=Aa C5
  clear C0 C1 C2 C3 C4 C5
  obtain⟨be,hbe⟩:=Ad w.heap.size
  obtain⟨bt,hbt⟩:=Ad (w.heap.size+1)
  obtain⟨bc,hbc⟩:=Ad (w.heap.size+1+1)
  obtain⟨bx,hbx⟩:=Ad (w.heap.size+1+1+1)
  obtain⟨bl,hbl⟩:=Ad (w.heap.size+1+1+1+1)
  obtain⟨bh,hbh⟩:=Ad (w.heap.size+1+1+1+1+1)
  rw[←hbe]at ge
  rw[←hbt]at gt
  rw[←hbc]at gc
  rw[←hbx]at gx
  rw[←hbl]at gl
  rw[←hbh]at gh
  have HBe:=Aa hbe
  have HBt:=Aa hbt
  have HBc:=Aa hbc
  have HBx:=Aa hbx
  have HBl:=Aa hbl
  have HBh:=Aa hbh
  clear hbe hbt hbc hbx hbl hbh
  have ce:=Ae W be 0 (bp A.e) ge.c0
  have ct:=Ae W bt 0 (bp S.t) gt.c0
  have cc:=Ae W bc 0 (bp S.c) gc.c0
  have cx:=Ae W bx 0 (.pointer xq) gx.c0
  have cl:=Ae W bl 0 (.int .u64 (l)) gl.c0
  have ch:=Ae W bh 0 (.slice ha hn hc) gh.c0
  have HR:Hid (Di X x l hd=(X.setVal l (X.key,X.c.op.value),.slot1 x l hd)):=Aa (by unfold Di;rw[if_neg h0])
  have HK0:=Aa (At.refl A S)
  have hlk1:=hl
  clear h hh hx hm
  go_enter Tryz.func170,Tryz.ntmps170
  go_upto_region 1 with(fail)
  rw[←hW,←HBh.out,←HBl.out,←HBx.out,←HBc.out,←HBt.out,←HBe.out]
  clear hW
  obtain⟨i1,i2⟩:=Ax.ix (N:=N) (X:=X) hN hlk1 h0
  obtain⟨iv,hiv⟩:=Aq ((A5 (l)).toNat)
  rw[hiv]at i1 i2
  have HZ:=Aa (HCW.out.drew)
  have MZ:=MW.trans (Ag.only0 P Q ((Ac.refl (W)).drew))
  have mz:=Ag.only0 P Q ((Ac.refl (W)).drew)
  have ze:=ge.move mz
  have de:=ze.c0
  have zt:=gt.move mz
  have dt:=zt.c0
  have zc:=gc.move mz
  have dc:=zc.c0
  have zx:=gx.move mz
  have dx:=zx.c0
  have zl:=gl.move mz
  have dl:=zl.c0
  have zh:=gh.move mz
  have dh:=zh.c0
  have k1:=Ae (W).drew S.c 1 (.int .i64 X.c.op.key) (HZ.out.cl.blk.cell 1)
  have k3:=Ae (W).drew S.c 3 (.int .i64 X.c.op.value) (HZ.out.cl.blk.cell 3)
  have v0:=HZ.out.val0 i1
  have v1:=HZ.out.val1 i1
  have y0:=HZ.out.sh.vals.free (iv*2)
  have y1:=HZ.out.sh.vals.free (iv*2+1)
  obtain⟨u2,v2,y2⟩:=HCW.out.setV1 i1 (.int .i64 X.c.op.key)
  have D:=Fz HZ.out hN (l) hlk1 h0
  rw[hiv,HK0.out.e]at D
  have HV0:=Aa (HCW.out.setV hiv i1 X.key X.c.op.value)
  rw[hkey]at HV0
  have HV:=Aa (And.intro HV0.out.1.drew (HV0.out.2.trans (Ag.only0 P Q ((Ac.refl _).drew))))
  have MV:=MW.trans HV.out.2
  have HS:Hid (Ak B w P Q R A Ke S nx ((X).setVal (l) (X.key,X.c.op.value)) (some (.slot1 x (l) hd)) (.returned (.func (.func 191) #[] #[bp be,bp bl,bp bt,bp bx,bp bc,bp bh])) _):=Aa ⟨P,Q,A,S,_,rfl,HV.out.1,⟨be,bl,bt,bx,bc,bh,rfl,by unfold bE;rw[HK0.out.e];exact ge.move HV.out.2,gl.move HV.out.2,gt.move HV.out.2,by unfold bX;have qx:=gx.move HV.out.2;rw[HX.out]at qx;exact qx,gc.move HV.out.2,by
   rcases HHH.out with⟨q1,q2,q3,q4⟩|⟨q1,gg,q2,q3,q4,q5⟩
   ·exact Us
   ·refine .inr ⟨q1,gg,?_,An.move q5 MV⟩;have:=gh.move HV.out.2;rw[q2,q3,q4]at this;exact this⟩,MV,HK0.out⟩
  have N1:=MV.o.size
  have de9:=(ge.move HV.out.2).c0
  have dl9:=(gl.move HV.out.2).c0
  have dc9:=(gc.move HV.out.2).c0
  have k19:_=some (Value.int .i64 X.c.op.key):=HV.out.1.cl.blk.cell 1
  have k39:_=some (Value.int .i64 X.c.op.value):=HV.out.1.cl.blk.cell 3
  clear i2 N1
  go_upto_region 6 with(fail)
  refine wp_region_held_drew (S:=(fun w'=>Ab w' be 0 (bp A.e)∧Ab w' bl 0 (.int .u64 (l))∧Ab w' bc 0 (bp S.c)∧Ab w' S.c 1 (.int .i64 X.c.op.key)∧Ab w' S.c 3 (.int .i64 X.c.op.value))) (by kernel_rfl) ?_ (fun hHeld=>?_)
  ·first|exact⟨de,dl,dc,k1,k3⟩|exact⟨de9,dl9,dc9,k19,k39⟩
  exact SE
end
section
open Go.Maps (Keyed)
attribute [local go_sem ↓] Go.wp_at_zero Go.wp_at_succ
section
variable {B N:Nat} {w w':World} {P Q R:Nat→Prop} {A:EA} {K:EK} {S:SA} {nx:Value} {X:Cx}
theorem CX.newQ(h:CX B w P Q R A K S nx X)(o:Obj):CX B (w.alloc o) P (fun b=>Q b∨b=w.heap.size) R A K S nx X∧Ag w (w.alloc o) P Q P (fun b=>Q b∨b=w.heap.size):=by
 have o0:Ac w (w.alloc o):=(Ac.refl w).alloc o
 have h1:=h.only0 o0
 have hsz:(w.alloc o).heap.size=w.heap.size+1:=by simp
 have gq:AC w.heap.size Q (fun b=>Q b∨b=w.heap.size):=by
  rintro b (hb|rfl)
  ·exact .inl hb
  ·exact .inr (Nat.le_refl _)
 have m:Ag w (w.alloc o) P Q P (fun b=>Q b∨b=w.heap.size):=⟨o0.any _,AC.refl _ _,gq⟩
 refine⟨⟨h1.sh,⟨h1.tx.blk,h1.tx.map,fun k x hk=>⟨(h1.tx.cel k x hk).1,(h1.tx.cel k x hk).2.1,.inl (h1.tx.cel k x hk).2.2⟩,h1.tx.xinj,h1.tx.keys,h1.tx.reads,h1.tx.bonds,h1.tx.kb,.inl h1.tx.qt,.inl h1.tx.qm,fun b hb=> .inl (h1.tx.qk b hb),fun b hb=> .inl (h1.tx.qr b hb),fun b hb=> .inl (h1.tx.qb b hb)⟩,
  ⟨h1.cl.blk,h1.cl.prs,.inl h1.cl.qc,fun b hb=> .inl (h1.cl.qp b hb)⟩,?_,h1.uP,?_,h1.aP,?_,h1.uR,fun i hi=>(h.prs i hi).move m⟩,m⟩
 ·rintro b hp (hq|rfl)
  ·exact h.ap b hp hq
  ·have:=h.uP _ hp;omega
 ·rintro b (hq|rfl)
  ·have:=h.uQ b hq;omega
  ·omega
 ·rintro b (hq|rfl)
  ·exact h.aQ b hq
  ·exact h.hB
theorem CX.mapped(h:CX B w P Q R A K S nx X)(o:Ah (fun b=>b=S.m) w w'){S1:SA}{t':Dq}(T:Dc B w' Q S1 t')(hS:S1.c=S.c∧S1.qa=S.qa∧S1.qc=S.qc):
 CX B w' P Q R A K S1 nx (X.setT t')∧Ag w w' P Q P Q:=by
 have m:Ag w w' P Q P Q:=h.small o (fun b hb=> .inr (by rw[hb];exact h.tx.qm))
 have oQ:Ah Q w w':=o.mono (fun b _ hb=>by rw[hb];exact h.tx.qm)
 obtain⟨e1,e2,e3⟩:=hS
 refine⟨⟨h.sh.far oQ h.ap,T,⟨?_,?_,?_,?_⟩,h.ap,h.uP.mono o.size,h.uQ.mono o.size,h.aP,h.aQ,h.uR.mono o.size,fun i hi=>(h.prs i hi).move m⟩,m⟩
 ·rw[e1]
  show Am w' S.c _ (BW S1 X.c nx)
  unfold BW
  rw[e2,e3]
  exact o.blk h.cl.blk (fun e=>h.tx.map.ne h.cl.blk e.symm)
 ·rw[e2,e3]
  exact AD h.cl.prs o (fun b hb e=>by
   obtain⟨cur,hc⟩:=Er h.cl.prs hb
   exact h.tx.map.ne hc e.symm)
 ·rw[e1];exact h.cl.qc
 ·rw[e2,e3];exact h.cl.qp
theorem CX.mapPut(h:CX B w P Q R A K S nx X){k:Nat}(hk:k<64)(x:Dh){b:Nat}(hb:Am w b 250 (Gb x))(hq:Q b)(hn:∀j y,X.t.cells j=some y→S.x j≠b):
 ∃w',(Instr.mapUpdate 108 (.map (some S.m)) (.int .i64 k) (bp b)).run Tryz.prog w= .ok () w'∧CX B w' P Q R A K {S with x:=AT S.x k b} nx (X.setCell k x)∧Ag w w' P Q P Q∧Ah (fun b=>b=S.m) w w':=by
 obtain⟨D,hm⟩:=h.tx.map
 obtain⟨w',D',hrun,hm',o⟩:=hm.store JA Tryz.underlying3 Tryz.underlying108 k hk (v:=bp b) (d:= .lit (.int .i64 b)) (ps:=[]) rfl
 have nm:∀{c:Nat} {t:TypeId} {cs:Array Value},Am w c t cs→¬c=S.m:=fun hc e=>h.tx.map.ne hc e.symm
 have nr:∀{e:TypeId} {sz:Nat} {v:Value} {n:Nat} {xs:List Value},w.ownsRow B e sz v n xs→w'.ownsRow B e sz v n xs:=fun hr=>AD hr o (fun b hb e=>by
  obtain⟨cur,hc⟩:=Er hr hb
  exact h.tx.map.ne hc e.symm)
 have T:Dc B w' Q {S with x:=AT S.x k b} {X.t with cells:=AT X.t.cells k (some x)}:=by
  refine⟨o.blk h.tx.blk (nm h.tx.blk),⟨D',?_⟩,fun j y hj=>?_,fun i j y z hi hj e=>?_,nr h.tx.keys,nr h.tx.reads,nr h.tx.bonds,h.tx.kb,h.tx.qt,h.tx.qm,h.tx.qk,h.tx.qr,h.tx.qb⟩
  ·have e:ID (AT S.x k b) (AT X.t.cells k (some x))=fun j=>if j=k then some (.lit (.int .i64 b))else ID S.x X.t.cells j:=by
    funext j
    unfold ID
    by_cases e:j=k
    ·subst e;rw[Au,Au,if_pos rfl];rfl
    ·rw[Ap _ _ _ e,Ap _ _ _ e,if_neg e]
   show Eg Tryz.prog Jh D8 w' S.m (ID (AT S.x k b) (AT X.t.cells k (some x))) D'
   rw[e];exact hm'
  ·have hj':AT X.t.cells k (some x) j=some y:=hj
   by_cases e:j=k
   ·subst e
    rw[Au]at hj';cases hj'
    refine⟨hk,?_,?_⟩
    ·show Am w' (AT S.x j b j) _ _
     rw[Au];exact o.blk hb (nm hb)
    ·show Q (AT S.x j b j)
     rw[Au];exact hq
   ·rw[Ap _ _ _ e]at hj'
    have:=h.tx.cel j y hj'
    refine⟨this.1,?_,?_⟩
    ·show Am w' (AT S.x k b j) _ _
     rw[Ap _ _ _ e];exact o.blk this.2.1 (nm this.2.1)
    ·show Q (AT S.x k b j)
     rw[Ap _ _ _ e];exact this.2.2
  ·have hi':AT X.t.cells k (some x) i=some y:=hi
   have hj':AT X.t.cells k (some x) j=some z:=hj
   have e':AT S.x k b i=AT S.x k b j:=e
   by_cases e1:i=k
   ·by_cases e2:j=k
    ·rw[e1,e2]
    ·subst e1
     rw[Au,Ap _ _ _ e2]at e'
     rw[Ap _ _ _ e2]at hj'
     exact absurd e'.symm (hn j z hj')
   ·by_cases e2:j=k
    ·subst e2
     rw[Au,Ap _ _ _ e1]at e'
     rw[Ap _ _ _ e1]at hi'
     exact absurd e' (hn i y hi')
    ·rw[Ap _ _ _ e1,Ap _ _ _ e2]at e'
     rw[Ap _ _ _ e1]at hi'
     rw[Ap _ _ _ e2]at hj'
     exact h.tx.xinj i j y z hi' hj' e'
 obtain⟨c1,m⟩:=h.mapped o T ⟨rfl,rfl,rfl⟩
 exact⟨w',hrun,c1,m,o⟩
theorem CX.keyd(h:CX B w P Q R A K S nx X)(k:Nat){gg cap:Nat}{w1:World}
 (hown:w1.ownsRow B 3 1 (.slice (some ⟨gg,0,none⟩) (X.t.keys.length+1) cap) (X.t.keys.length+1) (Dz X.t.keys++[.int .i64 (k:Int)])) (hg:w.grownBy w1 (Value.slice S.ka X.t.keys.length S.kc).ownBlock)
 (hat:(Value.slice S.ka X.t.keys.length S.kc).ownBlock=some gg∨w.heap.size≤gg) (hlt:gg<w1.heap.size):
 ∃Q' S',CX B (w1.setCell ⟨S.t,6,none⟩ (.slice (some ⟨gg,0,none⟩) (X.t.keys.length+1) cap)) P Q' R A K S' nx (X.setT {X.t with keys:=X.t.keys++[k]})∧Ag w (w1.setCell ⟨S.t,6,none⟩ (.slice (some ⟨gg,0,none⟩) (X.t.keys.length+1) cap)) P Q P Q'∧At A A S S'∧S'.x=S.x∧S'.qa=S.qa∧S'.qc=S.qc:=by
 obtain⟨m,oQ,oT,B2,own2,ap,uq,aq⟩:=h.rowGrow h.tx.keys h.tx.qk (by decide) 6 (.slice (some ⟨gg,0,none⟩) (X.t.keys.length+1) cap) hown hg hat hlt
 have o1:=Ah.grownRow hg
 have bt:=h.tx.blk.ty (Aw.row h.tx.keys o1) (by decide)
 have hk1:=AD h.tx.bonds o1 (fun b hb hb2=>h.tx.kb b hb2 hb)
 have hk2:(w1.setCell ⟨S.t,6,none⟩ (.slice (some ⟨gg,0,none⟩) (X.t.keys.length+1) cap)).ownsRow B 3 1 (.slice S.ba X.t.bonds.length S.bc) X.t.bonds.length (GM X.t.bonds):=
  AD hk1 (Ah.setCell (S:=fun b=>b=S.t) (Ah.refl _ w1) (fun _=>rfl) _) (fun b hb e=>by subst e;exact Bn hk1 bt (by decide) hb)
 generalize w1.setCell ⟨S.t,6,none⟩ (.slice (some ⟨gg,0,none⟩) (X.t.keys.length+1) cap)=w2 at *
 have hn:(X.t.keys++[k]).length=X.t.keys.length+1:=by simp
 refine⟨fun b=>Q b∨b=gg,{S with ka:=some ⟨gg,0,none⟩,kc:=cap},h.txn m oQ oT (by decide) (by decide) ⟨?_,?_,?_,h.tx.xinj,?_,?_,hk2,?_,.inl h.tx.qt,.inl h.tx.qm,fun b hb=> .inr (AE.1 hb),fun b hb=> .inl (h.tx.qr b hb),fun b hb=> .inl (h.tx.qb b hb)⟩ ⟨rfl,rfl,rfl⟩ (fun _ hb=> .inl hb) ap uq aq,m,⟨rfl,rfl,rfl,rfl,rfl⟩,rfl,rfl,rfl⟩
 ·show Am w2 S.t _ (Ep _ {X.t with keys:=X.t.keys++[k]})
  unfold Ep
  rw[hn]
  exact B2
 ·exact h.tx.map.ty oT
 ·exact Tu
 ·show w2.ownsRow B _ 1 (.slice (some ⟨gg,0,none⟩) (X.t.keys++[k]).length cap) (X.t.keys++[k]).length (Dz (X.t.keys++[k]))
  rw[hn,Fx];exact own2
 ·exact AO h.tx.reads oT (by decide)
 ·intro b hb hg'
  have e:b=gg:=AE.1 hb
  subst e
  rcases hat with e|e
  ·exact h.tx.kb b e hg'
  ·have:=h.uQ b (h.tx.qb b hg');omega
end
theorem LN{B:Nat}{w:World}{P Q R:Nat→Prop}{A:EA}{Ke:EK}{S:SA}{nx:Value}{X:Cx}(h:CX B w P Q R A Ke S nx X)(hl:X.t.keys.length≤1000000000)(k:Nat)(hk:k<64)(l:Int):
 Calls Tryz.prog 200 #[bp S.t,k,.int .u64 l] w fun e w'=>∃Q' S',e= .returned (bp (S'.x k))∧CX B w' P Q' R A Ke S' nx (X.take k ⟨0,l,false⟩)∧Ag w w' P Q P Q'∧At A A S S':=by
 obtain⟨h1,m1⟩:=h.newQ (.cells #[.int .u64 0,.int .u64 l,.bool false] 250)
 obtain⟨W1,hW1⟩:=Ad (w.alloc (.cells #[.int .u64 0,.int .u64 l,.bool false] 250))
 have bb:Am W1 w.heap.size 250 (Gb ⟨0,l,false⟩):=by rw[hW1];exact Am.new _ _ _
 rw[←hW1]at h1 m1
 obtain⟨w2,hrun,h2,m2,o2⟩:=h1.mapPut hk ⟨0,l,false⟩ bb (.inr rfl) (fun j y hj=>by have:=h.uQ _ (h.tx.cel j y hj).2.2;omega)
 have c7:=Ae W1 S.t 7 (.map (some S.m)) (h1.tx.blk.cell 7)
 have HX2:=Aa (show CX B w2 P (fun b=>Q b∨b=w.heap.size) R A Ke {S with x:=AT S.x k w.heap.size} nx (X.setCell k ⟨0,l,false⟩)∧Ag w w2 P Q P (fun b=>Q b∨b=w.heap.size) from⟨h2,m1.trans m2⟩)
 obtain⟨W6,hW6⟩:=Ad (w2.alloc (.cells #[.int .i64 (k:Int)] 3))
 have oW:Ac w2 W6:=by rw[hW6];exact(Ac.refl w2).alloc _
 have h6:=h2.only0 oW
 have e6:=Ae w2 S.t 6 (.slice S.ka X.t.keys.length S.kc) (h2.tx.blk.cell 6)
 have e66:=Ae W6 S.t 6 (.slice S.ka X.t.keys.length S.kc) (h6.tx.blk.cell 6)
 have f66:W6.frozen? ⟨S.t,6,none⟩=false:=h6.tx.blk.free 6
 have lt6:S.t<W6.heap.size:=h6.tx.blk.lt
 have R6:W6.ownsRow B 3 1 (.slice S.ka X.t.keys.length S.kc) X.t.keys.length (Dz X.t.keys):=h6.tx.keys
 have ne6:¬AA (.slice S.ka X.t.keys.length S.kc) S.t:=Bn R6 h6.tx.blk (by decide)
 have hB6:=h6.hB
 have HE:=Aa (fun(gg cap:Nat) (w1:World) (h1:w1.ownsRow B 3 1 (.slice (some ⟨gg,0,none⟩) (X.t.keys.length+1) cap) (X.t.keys.length+1) (Dz X.t.keys++[.int .i64 (k:Int)])) (h2:W6.grownBy w1 (Value.slice S.ka X.t.keys.length S.kc).ownBlock) (h3:(Value.slice S.ka X.t.keys.length S.kc).ownBlock=some gg∨gg=w2.heap.size+1) (h4:gg<w1.heap.size)=>
  h6.keyd k h1 h2 (h3.imp (fun x=>x) (fun e=>by rw[e,hW6];simp)) h4)
 have HM:=Aa (Ag.only0 P (fun b=>Q b∨b=w.heap.size) oW)
 obtain⟨i0,hi0,hz0,hz1,hz2⟩:=info_parts EP
 rw[hW6]at e66 f66 lt6 R6 hB6 HE HM
 rw[hW1]at hrun c7
 clear h h1 m1 bb h2 m2 o2 h6 oW hW6 hW1
 go_enter Tryz.func200,Tryz.ntmps200
 go_wp2_with (at_builtin;refine wpList_append_lies _ rfl _ _ 22 rfl B 3 i0 _ 1 8 Tryz.underlying22 hi0 hz0 hz1 hz2 rfl (by omega) (.slice S.ka X.t.keys.length S.kc) X.t.keys.length (Dz X.t.keys) rfl R6 ⟨w2.heap.size,0,none⟩ 1 1 [.int .i64 (k:Int)] rfl rfl (World.news_of_block (cs:=#[.int .i64 (k:Int)]) (t:=3) (fr:=(0,0)) (heap_alloc_new w2 _)) (by simp[Value.oneCell']) (by omega) (by unfold maxLen;omega) (by omega) hB6 (w2.heap.size+1) (by simp) ?_)
 intro gg cap w1 hown hgrow hat hlt
 have e9:=Ae w1 S.t 6 (.slice S.ka X.t.keys.length S.kc) ((hgrow.cell_far ⟨S.t,6,none⟩ lt6 (fun e=>ne6 e.symm)).trans e66)
 have f9:w1.frozen? ⟨S.t,6,none⟩=false:=(hgrow.frozen_far ⟨S.t,6,none⟩ lt6 (fun e=>ne6 e.symm)).trans f66
 obtain⟨Q',S',h7,m7,k7,x7,q7,c7'⟩:=HE.out gg cap w1 hown hgrow hat hlt
 have HS:Hid (∃Q' S',bp w.heap.size=bp (S'.x k)∧CX B (w1.setCell ⟨S.t,6,none⟩ (.slice (some ⟨gg,0,none⟩) (X.t.keys.length+1) cap)) P Q' R A Ke S' nx (X.take k ⟨0,l,false⟩)∧Ag w (w1.setCell ⟨S.t,6,none⟩ (.slice (some ⟨gg,0,none⟩) (X.t.keys.length+1) cap)) P Q P Q'∧At A A S S'):=
  Aa ⟨Q',S',by rw[x7];show bp w.heap.size=bp (AT S.x k w.heap.size k);rw[Au],h7,(HX2.out.2.trans HM.out).trans m7,⟨k7.e,k7.a,k7.v,k7.t,k7.c⟩⟩
 clear h7 m7 k7 x7 q7 c7' hown hgrow hat hlt e66 f66 R6
 go_wp2_with fail
 go_ret
 obtain⟨Q',S',g1,g2,g3,g4⟩:=HS.out
 exact⟨Q',S',by rw[←g1];rfl,g2,g3,g4⟩
theorem GV{B N:Nat}{w:World}{P Q R:Nat→Prop}{A:EA}{Ke:EK}{S:SA}{nx:Value}{X:Cx}(h:CX B w P Q R A Ke S nx X)(hN:Ax N X)(hB9:N≤100000000)(l:Int)(hl:AM X.sh.slots l):
 Calls Tryz.prog 197 #[bp A.e,bp S.t,bp S.c,.int .u64 l] w (Ak B w P Q R A Ke S nx (DA X l).1 (some (DA X l).2)):=by
 by_cases h0:l=0
 ·subst h0
  have HR:Hid (DA X 0=(X,.abort 14 2)):=Aa (by simp[DA])
  have CE:=Dr h 14 2
  clear h hN hl
  go_enter Tryz.func197,Tryz.ntmps197
  go_wp2_with fail
  refine CE.mono ?_
  rintro e9 w9 r9
  obtain⟨v9,rfl⟩:=r9.ret
  have HS:=Aa r9
  exact Ud
 ·have HR:Hid (DA X l=(X.setP (X.sh.p.give l),.abort 14 2)):=Aa (by simp[DA,h0])
  have b0:(l==0)=false:=by simpa using h0
  have b1:(l != 0)=true:=by simpa using h0
  have c3:=Ae w A.e 3 (bp A.p) (h.sh.eng.cell 3)
  obtain⟨i1,i2⟩:=hN.ix hl h0
  obtain⟨p1,p2,p3⟩:=hN.pool
  have CG:=Lk h.sh.pool hl.1 i2 (by rw[hN.sh.plen];exact i1) p1 (hN.sh.tags _) (by have:=hN.sh.worn;omega) (by have:=hN.sh.flen;omega) h.hB
  have HH:=Aa h
  clear h hN hl i2 i1
  go_enter Tryz.func197,Tryz.ntmps197
  go_wp2_with fail
  refine CG.mono ?_
  rintro e1 w1 ⟨⟨x1,rfl⟩,fa,fc,q⟩
  clear CG
  obtain⟨P1,A1,hC1,m1,k1⟩:=HH.out.pool q
  have CE:=Dr hC1 14 2
  rw[k1.e]at CE
  have HK:=Aa k1
  have M1:=m1
  clear q k1 m1 hC1
  go_wp2_with fail
  refine CE.mono ?_
  rintro e9 w9 r9
  obtain⟨v9,rfl⟩:=r9.ret
  have HS:=Aa (r9.comp M1 HK.out)
  exact Ud
end
section
attribute [local go_sem ↓] Go.wp_at_zero Go.wp_at_succ
theorem Lr{B N:Nat}{w:World}{P Q R:Nat→Prop}{A:EA}{Ke:EK}{S:SA}{nx:Value}{X:Cx}(h:CX B w P Q R A Ke S nx X)(hN:Ax N X)(x:Int)(x0:0≤x)(x1:x<18446744073709551616):
 Calls Tryz.prog 71 #[bp A.e,.int .u64 x] w fun e w'=>e= .returned (.tuple #[])∧CX B w' P Q R A Ke S nx (X.helpW x)∧Ag w w' P Q P Q:=by
 have CD:=EO x w x0 x1
 have hi0:0≤x%65536:=by omega
 have hi1:x%65536≤65535:=by omega
 have ht0:0≤x/65536:=by omega
 have ht1:x/65536<2305843009213693952:=by omega
 have s1:0≤X.sh.slots:=by have:=hN.sh.n1;omega
 have s2:=hN.sh.n2
 have hpl:∀id:Int,73+X.sh.slots*3+id=X.place id:=fun _=>rfl
 have HX:Hid (X.helpW x=X.setA (X.sh.a.cas (X.place (x%65536)) (Bc 1 0) (Bc 2 (x/65536)))):=Aa rfl
 generalize x%65536=id at *
 generalize x/65536=tt at *
 have HC:=Aa h.drew
 have cA:=HC.out.ca
 have cN:=HC.out.cn
 clear h hN
 go_enter Tryz.func71,Tryz.ntmps71
 go_wp2_with fail
 refine CD.mono ?_
 rintro e1 w1 ⟨rfl,rfl⟩
 clear CD
 go_upto_region 1 with(fail)
 refine wp_region_held_drew (S:=(fun w'=>Ab w' A.e 2 (bp A.a)∧Ab w' A.e 0 (.int .i64 X.sh.slots))) (by kernel_rfl) ?_ (fun hHeld=>?_)
 ·exact⟨cA,cN⟩
 refine Af 0 (h:=Af 1 (h:=Af 2 (h:=Af 3 (h:=Af 4 (h:=Af 5 (h:=Af 8 (h:=Ar (i:=6) (h:=fun K hK=>?_))))))))
 go_simp
 (refine(BS A.e X.sh.slots id _ cN s1 s2 hi0 hi1).mono ?_;rintro e1 w1 ⟨rfl,rfl⟩)
 try go_wp2_with fail
 refine AK hK (by exact⟨cA,cN⟩) (h:=fun hHeld=>?_);clear hK K
 refine Ar (i:=7) (h:=fun K hK=>?_)
 try simp only[List.getElem_toArray,List.getElem_cons_zero,List.getElem_cons_succ]
 go_simp
 (refine(EW 1 0 _ (by omega) (by omega) (by omega) (by omega)).mono ?_;rintro e1 w1 ⟨rfl,rfl⟩)
 try go_wp2_with fail
 refine AK hK (by exact⟨cA,cN⟩) (h:=fun hHeld=>?_);clear hK K
 refine Ar (i:=9) (h:=fun K hK=>?_)
 try simp only[List.getElem_toArray,List.getElem_cons_zero,List.getElem_cons_succ]
 go_simp
 (refine(EW 2 tt _ (by omega) (by omega) ht0 ht1).mono ?_;rintro e1 w1 ⟨rfl,rfl⟩)
 try go_wp2_with fail
 refine AK hK (by exact⟨cA,cN⟩) (h:=fun hHeld=>?_);clear hK K
 refine Ar (i:=10) (h:=fun K hK=>?_)
 try simp only[List.getElem_toArray,List.getElem_cons_zero,List.getElem_cons_succ]
 go_simp
 (refine(Gr HC.out _ _ _).mono ?_;rintro e1 w2 ⟨rfl,h2,m2⟩;have HZ:=Aa h2;have MZ:=(Ag.only0 P Q ((Ac.refl w).drew)).trans m2;have cA:=h2.ca;have cN:=Ae w2 A.e 0 (.int .i64 X.sh.slots) h2.cn;clear h2 m2)
 try go_wp2_with fail
 refine AK hK (by exact⟨cA,cN⟩) (h:=fun hHeld=>?_);clear hK K
 refine wpAnyH_done (by kernel_rfl) ?_ _
 go_end0
 rw[HX.out]
 exact⟨rfl,HZ.out,MZ⟩
end
section
attribute [local go_sem ↓] Go.wp_at_zero Go.wp_at_succ
theorem PW{B N:Nat}{w:World}{P Q R:Nat→Prop}{A:EA}{Ke:EK}{S:SA}{nx:Value}{X:Cx}(h:CX B w P Q R A Ke S nx X)(hN:Ax N X){e t c:Nat}(he:An w P Q R e 39 #[bp A.e])(ht:An w P Q R t 96 #[bp S.t])(hc:An w P Q R c 101 #[bp S.c]):
 Calls Tryz.prog 134 #[bp e,bp t,bp c] w (Ak B w P Q R A Ke S nx (Ay X (.draw)).1 (Ay X (.draw)).2):=by
 have HC0:=Aa h
 have HN:=Aa hN
 obtain⟨y,hy⟩:=Aq (X.sh.a.load (0))
 obtain⟨y0,y1⟩:0≤y∧y<18446744073709551616:=by rw[←hy];exact AG hN.sh.word _
 obtain⟨X1,hX1⟩:=Aq (X.setA (X.sh.a.tick (0)))
 have HR:Hid (Ay X .draw=(if X.sh.limit≤y/65536 then(X1,some (.abort 14 6))else if y%65536=0 then(X1,some (.turn y (y/65536)))else(X1,some (.help y (y/65536))))):=Aa (by simp only[Ay,hy,hX1])
 have hLim:X1.sh.limit=X.sh.limit:=by rw[←hX1];rfl
 clear h hN
 have HC:=HC0
 have M:=Ag.refl w P Q
 have fe:=he.move M
 have ft:=ht.move M
 have fc:=hc.move M
 have ce:=fe.c0
 have ct:=ft.c0
 have cc:=fc.c0
 have cA:=HC.out.ca
 have cN:=HC.out.cn
 go_enter Tryz.func134,Tryz.ntmps134
 go_wp2_with fail
 refine(Bw HC.out _).mono ?_
 rw[hy,hX1]
 rintro e1 w1 ⟨rfl,h1,m1⟩
 have HC:=Aa h1
 have M:=M.trans m1
 clear h1 m1
 have fe:=he.move M
 have ft:=ht.move M
 have fc:=hc.move M
 have ce:=fe.c0
 have ct:=ft.c0
 have cc:=fc.c0
 have cA:=HC.out.ca
 have cN:=HC.out.cn
 have fw:=An.new' HC.out (w1.heap.size) (by simp) 31 #[.int .u64 y]
 have o9:=(Ac.refl (w1)).alloc (.cells #[.int .u64 y] 31)
 have m9:=(Ag.only0 P Q o9)
 have M:=M.trans m9
 have HC:=Aa (HC.out.only0 o9)
 have fe:=he.move M
 have ft:=ht.move M
 have fc:=hc.move M
 have ce:=fe.c0
 have ct:=ft.c0
 have cc:=fc.c0
 have cA:=HC.out.ca
 have cN:=HC.out.cn
 clear m9
 first|have cw:=fw.c0|(have cw:=fw.d0;have dw:=fw.d1)
 clear o9
 go_wp2_with fail
 refine(EO y _ y0 y1).mono ?_
 rintro e2 w2 ⟨rfl,rfl⟩
 have fn:=An.new' HC.out (w1.heap.size+1) (by simp) 31 #[.int .u64 (y/65536)]
 have o9:=(Ac.refl (w1.alloc (.cells #[.int .u64 y] 31))).alloc (.cells #[.int .u64 (y/65536)] 31)
 have m9:=(Ag.only0 P Q o9)
 have M:=M.trans m9
 have HC:=Aa (HC.out.only0 o9)
 have fe:=he.move M
 have ft:=ht.move M
 have fc:=hc.move M
 have ce:=fe.c0
 have ct:=ft.c0
 have cc:=fc.c0
 have cA:=HC.out.ca
 have cN:=HC.out.cn
 have fw:=fw.move m9
 first|have cw:=fw.c0|(have cw:=fw.d0;have dw:=fw.d1)
 clear m9
 first|have cn:=fn.c0|(have cn:=fn.d0;have dn:=fn.d1)
 clear o9
 go_upto_region 3 with(fail)
 have m9:=(Ag.only0 P Q ((Ac.refl ((w1.alloc (.cells #[.int .u64 y] 31)).alloc (.cells #[.int .u64 (y/65536)] 31))).drew))
 have M:=M.trans m9
 have HC:=Aa (HC.out.drew)
 have fe:=he.move M
 have ft:=ht.move M
 have fc:=hc.move M
 have ce:=fe.c0
 have ct:=ft.c0
 have cc:=fc.c0
 have cA:=HC.out.ca
 have cN:=HC.out.cn
 have fw:=fw.move m9
 first|have cw:=fw.c0|(have cw:=fw.d0;have dw:=fw.d1)
 have fn:=fn.move m9
 first|have cn:=fn.c0|(have cn:=fn.d0;have dn:=fn.d1)
 clear m9
 have cL:_=some (Value.int .u64 X1.sh.limit):=HC.out.sh.eng.cell 1
 rw[hLim]at cL
 refine wp_region_held_drew (S:=(fun w'=>Ab w' (w1.heap.size+1) 0 (.int .u64 (y/65536))∧Ab w' e 0 (bp A.e)∧Ab w' A.e 1 (.int .u64 X.sh.limit))) (by kernel_rfl) ?_ (fun hHeld=>?_)
 ·exact⟨cn,ce,cL⟩
 refine Af 0 (h:=Af 1 (h:=Af 2 (h:=Af 3 (h:=Af 4 (h:=Af 5 (h:=Af 6 (h:=?_)))))))
 refine wpAnyH_done (by kernel_rfl) ?_ _
 by_cases hl:X.sh.limit≤y/65536
 ·skip
  go_wp2_with fail
  refine(Dr HC.out 14 6).mono ?_
  rintro e9 w9 r9
  obtain⟨v9,rfl⟩:=r9.ret
  have HS:=Aa (r9.comp M (At.refl A S))
  clear r9
  go_wp2_with fail
  go_ret
  rw[HR.out,if_pos hl]
  exact HS.out
 ·by_cases hq:y%65536=0
  ·have bq:(y%65536==0)=true:=by simpa using hq
   have ff:=An.new' HC.out (w1.heap.size+1+1) (by simp) 124 #[.func (.func 135) #[] #[bp e,bp w1.heap.size,bp (w1.heap.size+1),bp t,bp c]]
   have o9:=(Ac.refl (((w1.alloc (.cells #[.int .u64 y] 31)).alloc (.cells #[.int .u64 (y/65536)] 31)).drew)).alloc (.cells #[.func (.func 135) #[] #[bp e,bp w1.heap.size,bp (w1.heap.size+1),bp t,bp c]] 124)
   have m9:=(Ag.only0 P Q o9)
   have M:=M.trans m9
   have HC:=Aa (HC.out.only0 o9)
   have fe:=he.move M
   have ft:=ht.move M
   have fc:=hc.move M
   have ce:=fe.c0
   have ct:=ft.c0
   have cc:=fc.c0
   have cA:=HC.out.ca
   have cN:=HC.out.cn
   have fw:=fw.move m9
   first|have cw:=fw.c0|(have cw:=fw.d0;have dw:=fw.d1)
   have fn:=fn.move m9
   first|have cn:=fn.c0|(have cn:=fn.d0;have dn:=fn.d1)
   clear m9
   first|have cf:=ff.c0|(have cf:=ff.d0;have df:=ff.d1)
   clear o9
   have HS:Hid (Ak B w P Q R A Ke S nx X1 (some (.turn y (y/65536))) (.returned (.func (.func 135) #[] #[bp e,bp w1.heap.size,bp (w1.heap.size+1),bp t,bp c])) ((((w1.alloc (.cells #[.int .u64 y] 31)).alloc (.cells #[.int .u64 (y/65536)] 31)).drew).alloc (.cells #[.func (.func 135) #[] #[bp e,bp w1.heap.size,bp (w1.heap.size+1),bp t,bp c]] 124))):=Aa ⟨P,Q,A,S,_,rfl,HC.out,⟨e,w1.heap.size,w1.heap.size+1,t,c,rfl,fe,fw,fn,ft,fc⟩,M,At.refl A S⟩
   go_wp2_with fail
   go_ret
   rw[HR.out,if_neg (by omega),if_pos hq]
   exact HS.out
  ·have bq:(y%65536==0)=false:=by simpa using hq
   have ff:=An.new' HC.out (w1.heap.size+1+1) (by simp) 124 #[.func (.func 135) #[] #[bp e,bp w1.heap.size,bp (w1.heap.size+1),bp t,bp c]]
   have o9:=(Ac.refl (((w1.alloc (.cells #[.int .u64 y] 31)).alloc (.cells #[.int .u64 (y/65536)] 31)).drew)).alloc (.cells #[.func (.func 135) #[] #[bp e,bp w1.heap.size,bp (w1.heap.size+1),bp t,bp c]] 124)
   have m9:=(Ag.only0 P Q o9)
   have M:=M.trans m9
   have HC:=Aa (HC.out.only0 o9)
   have fe:=he.move M
   have ft:=ht.move M
   have fc:=hc.move M
   have ce:=fe.c0
   have ct:=ft.c0
   have cc:=fc.c0
   have cA:=HC.out.ca
   have cN:=HC.out.cn
   have fw:=fw.move m9
   first|have cw:=fw.c0|(have cw:=fw.d0;have dw:=fw.d1)
   have fn:=fn.move m9
   first|have cn:=fn.c0|(have cn:=fn.d0;have dn:=fn.d1)
   clear m9
   first|have cf:=ff.c0|(have cf:=ff.d0;have df:=ff.d1)
   clear o9
   have HS:Hid (Ak B w P Q R A Ke S nx X1 (some (.help y (y/65536))) (.returned (.func (.func 138) #[] #[bp e,bp w1.heap.size,bp (w1.heap.size+1+1)])) ((((w1.alloc (.cells #[.int .u64 y] 31)).alloc (.cells #[.int .u64 (y/65536)] 31)).drew).alloc (.cells #[.func (.func 135) #[] #[bp e,bp w1.heap.size,bp (w1.heap.size+1),bp t,bp c]] 124))):=Aa ⟨P,Q,A,S,_,rfl,HC.out,⟨e,w1.heap.size,w1.heap.size+1+1,e,w1.heap.size,w1.heap.size+1,t,c,rfl,fe,fw,ff,fe,fw,fn,ft,fc⟩,M,At.refl A S⟩
   go_wp2_with fail
   go_ret
   rw[HR.out,if_neg (by omega),if_neg hq]
   exact HS.out
theorem PR{B N:Nat}{w:World}{P Q R:Nat→Prop}{A:EA}{Ke:EK}{S:SA}{nx:Value}{X:Cx}(h:CX B w P Q R A Ke S nx X)(hN:Ax N X)(x now:Int)(x0:0≤x)(x1:x<18446744073709551616){e2 a2 b2 t c:Nat}{e a f:Nat}(he:An w P Q R e 39 #[bp A.e])(ha:An w P Q R a 31 #[.int .u64 (x)])(hf:An w P Q R f 124 #[.func (.func 135) #[] #[bp e2,bp a2,bp b2,bp t,bp c]])(hE:bE w P Q R A e2)(hA:bU w P Q R a2 x)(hB:bU w P Q R b2 now)(hT:bT w P Q R S t)(hC:bC w P Q R S c):
 Calls Tryz.prog 138 #[bp e,bp a,bp f] w (Ak B w P Q R A Ke S nx (Ay X (.help x now)).1 (Ay X (.help x now)).2):=by
 have HC0:=Aa h
 have HN:=Aa hN
 have HR:Hid (Ay X (.help x now)=(X.helpW x,some (.turn x now))):=Aa rfl
 have HE:=Aa (And.intro hE (And.intro hA (And.intro hB (And.intro hT hC))))
 have HF:=Aa hN
 clear h hN hE hA hB hT hC
 have HC:=HC0
 have M:=Ag.refl w P Q
 have fe:=he.move M
 have fa:=ha.move M
 have ff:=hf.move M
 have ce:=fe.c0
 have ca:=fa.c0
 have cf:=ff.c0
 have cA:=HC.out.ca
 have cN:=HC.out.cn
 go_enter Tryz.func138,Tryz.ntmps138
 go_wp2_with fail
 refine(Lr HC.out HF.out x x0 x1).mono ?_
 rintro e1 w1 ⟨rfl,h1,m1⟩
 have HC:=Aa h1
 have M:=M.trans m1
 clear h1 m1
 have fe:=he.move M
 have fa:=ha.move M
 have ff:=hf.move M
 have ce:=fe.c0
 have ca:=fa.c0
 have cf:=ff.c0
 have cA:=HC.out.ca
 have cN:=HC.out.cn
 obtain⟨q1,q2,q3,q4,q5⟩:=HE.out
 have HS:Hid (Ak B w P Q R A Ke S nx (X.helpW x) (some (.turn x now)) (.returned (.func (.func 135) #[] #[bp e2,bp a2,bp b2,bp t,bp c])) w1):=Aa ⟨P,Q,A,S,_,rfl,HC.out,⟨e2,a2,b2,t,c,rfl,q1.mv M (At.refl A S),q2.mv M,q3.mv M,q4.mv M (At.refl A S),q5.mv M (At.refl A S)⟩,M,At.refl A S⟩
 clear q1 q2 q3 q4 q5
 go_wp2_with fail
 go_ret
 rw[HR.out]
 exact HS.out
theorem MQ{B N:Nat}{w:World}{P Q R:Nat→Prop}{A:EA}{Ke:EK}{S:SA}{nx:Value}{X:Cx}(h:CX B w P Q R A Ke S nx X)(hN:Ax N X)(hB9:N≤100000000){e t c:Nat}(he:An w P Q R e 39 #[bp A.e])(ht:An w P Q R t 96 #[bp S.t])(hc:An w P Q R c 101 #[bp S.c]):
 Calls Tryz.prog 136 #[bp e,bp t,bp c] w (Ak B w P Q R A Ke S nx (Ay X (.helped)).1 (Ay X (.helped)).2):=by
 have HC0:=Aa h
 have HN:=Aa hN
 have i1:=hN.tx.id1
 have i2:=hN.tx.id2
 have e1:=hN.tx.fin.1
 have e2:=hN.tx.fin.2
 obtain⟨x,hx⟩:=Aq (Bp X.t.fin X.t.id)
 obtain⟨x0,x1⟩:0≤x∧x<18446744073709551616:=by rw[←hx];unfold Bp;omega
 have CK:=fun wz=>Hi X.t.fin X.t.id wz (by omega) (by omega) e1 (by omega)
 rw[hx]at CK
 have HR:Hid (Ay X .helped=(X.helpW x,some (Cc X.t 0))):=Aa (by rw[←hx];rfl)
 have HF0:=Aa hN
 have HF:=Aa (show Ax N (X.helpW x) by
  unfold Cx.helpW;refine hN.cas (Bv.place (by have:=hN.sh.n1;omega) (by omega) (DR.pack (by omega) (by omega) (by omega) (by omega))))
 clear h hN hx
 go_enter Tryz.func136,Tryz.ntmps136
 go_upto_region 1 with(fail)
 have HC:=Aa HC0.out.drew
 have M:=Ag.only0 P Q ((Ac.refl w).drew)
 have fe:=he.move M
 have ft:=ht.move M
 have fc:=hc.move M
 have ce:=fe.c0
 have ct:=ft.c0
 have cc:=fc.c0
 have cA:=HC.out.ca
 have cN:=HC.out.cn
 have cF:_=some (Value.int .u64 X.t.fin):=HC.out.tx.blk.cell 4
 have cI:_=some (Value.int .i64 X.t.id):=HC.out.tx.blk.cell 0
 refine wp_region_held_drew (S:=(fun w'=>Ab w' e 0 (bp A.e)∧Ab w' t 0 (bp S.t)∧Ab w' S.t 4 (.int .u64 X.t.fin)∧Ab w' S.t 0 (.int .i64 X.t.id))) (by kernel_rfl) ?_ (fun hHeld=>?_)
 ·exact⟨ce,ct,cF,cI⟩
 refine Af 0 (h:=Af 1 (h:=Af 2 (h:=Af 3 (h:=Af 4 (h:=Af 5 (h:=Af 6 (h:=Af 7 (h:=Af 8 (h:=Ar (i:=9) (h:=fun K hK=>?_))))))))))
 go_simp
 (refine(CK _).mono ?_;rintro e1 w1 ⟨rfl,rfl⟩)
 try go_wp2_with fail
 refine AK hK (by exact⟨ce,ct,cF,cI⟩) (h:=fun hHeld=>?_);clear hK K
 refine Ar (i:=10) (h:=fun K hK=>?_)
 try simp only[List.getElem_toArray,List.getElem_cons_zero,List.getElem_cons_succ]
 go_simp
 (refine(Lr HC.out HF0.out x x0 x1).mono ?_;rintro e1 w1 ⟨rfl,h1,m1⟩;have HC:=Aa h1;have M:=M.trans m1;clear h1;have fe:=he.move M;have ft:=ht.move M;have fc:=hc.move M;have ce:=fe.c0;have ct:=ft.c0;have cc:=fc.c0;have cA:=HC.out.ca;have cN:=HC.out.cn;have cF:_=some (Value.int .u64 X.t.fin):=HC.out.tx.blk.cell 4;have cI:_=some (Value.int .i64 X.t.id):=HC.out.tx.blk.cell 0;skip)
 try go_wp2_with fail
 refine AK hK (by exact⟨ce,ct,cF,cI⟩) (h:=fun hHeld=>?_);clear hK K
 refine wpAnyH_done (by kernel_rfl) ?_ _
 skip
 go_wp2_with fail
 refine(J6 HC.out HF.out hB9 0 (Nat.zero_le _)).mono ?_
 rintro e9 w9 r9
 obtain⟨v9,rfl⟩:=r9.ret
 have HS:=Aa (r9.comp M (At.refl A S))
 clear r9
 go_wp2_with fail
 go_ret
 rw[HR.out]
 exact HS.out
theorem P0{B N:Nat}{w:World}{P Q R:Nat→Prop}{A:EA}{Ke:EK}{S:SA}{nx:Value}{X:Cx}(h:CX B w P Q R A Ke S nx X)(hN:Ax N X)(hB9:N≤100000000)(x now:Int)(n0:0≤now)(n1:now<1099511627776){e a b t c:Nat}(he:An w P Q R e 39 #[bp A.e])(ha:An w P Q R a 31 #[.int .u64 (x)])(hb:An w P Q R b 31 #[.int .u64 (now)])(ht:An w P Q R t 96 #[bp S.t])(hc:An w P Q R c 101 #[bp S.c]):
 Calls Tryz.prog 135 #[bp e,bp a,bp b,bp t,bp c] w (Ak B w P Q R A Ke S nx (Ay X (.turn x now)).1 (Ay X (.turn x now)).2):=by
 have HC0:=Aa h
 have HN:=Aa hN
 have i1:=hN.tx.id1
 have i2:=hN.tx.id2
 have ew:IntKind.u64.wrap (now+1)=now+1:=by rw[IntKind.wrap_u64];omega
 obtain⟨ok,hok⟩:=Aq (X.sh.a.casOk 0 x)
 obtain⟨X1,hX1⟩:=Aq (X.setA (X.sh.a.cas 0 x (Bp (now+1) X.t.id)))
 have HR:Hid (Ay X (.turn x now)=(if ok=true then((X1.setT {X.t with fin:=now+1}).ev (.mk3 3 X.t.id (now+1)),some .helped)else(X1,some .draw))):=Aa (by rw[←hX1,←hok];rfl)
 have HT:Hid (X1.t=X.t∧X1.sh.tale.length≤1000000000):=Aa ⟨by rw[←hX1];rfl,by rw[←hX1];have:=hN.sh.tlen;show X.sh.tale.length≤_;omega⟩
 have CK:=fun wz=>Hi (now+1) X.t.id wz (by omega) (by omega) (by omega) (by omega)
 clear h hN
 go_enter Tryz.func135,Tryz.ntmps135
 go_upto_region 1 with(fail)
 have hX1t:X1.t=X.t:=HT.out.1
 have HC:=Aa HC0.out.drew
 have M:=Ag.only0 P Q ((Ac.refl w).drew)
 have fe:=he.move M
 have fa:=ha.move M
 have fb:=hb.move M
 have ft:=ht.move M
 have fc:=hc.move M
 have ce:=fe.c0
 have ca:=fa.c0
 have cb:=fb.c0
 have ct:=ft.c0
 have cc:=fc.c0
 have cA:=HC.out.ca
 have cN:=HC.out.cn
 first|have cI:=(show _=some (Value.int .i64 X.t.id) from HC.out.ti)|have cI:=(show _=some (Value.int .i64 X.t.id) from hX1t▸HC.out.ti)
 refine wp_region_held_drew (S:=(fun w'=>Ab w' e 0 (bp A.e)∧Ab w' a 0 (.int .u64 (x))∧Ab w' b 0 (.int .u64 (now))∧Ab w' t 0 (bp S.t)∧Ab w' A.e 2 (bp A.a)∧Ab w' S.t 0 (.int .i64 X.t.id))) (by kernel_rfl) ?_ (fun hHeld=>?_)
 ·exact⟨ce,ca,cb,ct,cA,cI⟩
 refine Af 0 (h:=Af 1 (h:=Af 2 (h:=Af 3 (h:=Af 4 (h:=Af 5 (h:=Af 6 (h:=Af 7 (h:=Af 8 (h:=Af 9 (h:=Af 10 (h:=Ar (i:=11) (h:=fun K hK=>?_))))))))))))
 go_simp
 (refine(CK _).mono ?_;rintro e1 w1 ⟨rfl,rfl⟩)
 try go_wp2_with fail
 refine AK hK (by exact⟨ce,ca,cb,ct,cA,cI⟩) (h:=fun hHeld=>?_);clear hK K
 refine Ar (i:=12) (h:=fun K hK=>?_)
 try simp only[List.getElem_toArray,List.getElem_cons_zero,List.getElem_cons_succ]
 go_simp
 (refine(Gr HC.out _ _ _).mono ?_;rw[hok,hX1];rintro e1 w1 ⟨rfl,h1,m1⟩;have HC:=Aa h1;have M:=M.trans m1;clear h1;have fe:=he.move M;have fa:=ha.move M;have fb:=hb.move M;have ft:=ht.move M;have fc:=hc.move M;have ce:=fe.c0;have ca:=fa.c0;have cb:=fb.c0;have ct:=ft.c0;have cc:=fc.c0;have cA:=HC.out.ca;have cN:=HC.out.cn;first|have cI:=(show _=some (Value.int .i64 X.t.id) from HC.out.ti)|have cI:=(show _=some (Value.int .i64 X.t.id) from hX1t▸HC.out.ti);skip)
 try go_wp2_with fail
 refine AK hK (by exact⟨ce,ca,cb,ct,cA,cI⟩) (h:=fun hHeld=>?_);clear hK K
 refine Af 13 (h:=?_)
 refine wpAnyH_done (by kernel_rfl) ?_ _
 skip
 clear CK
 cases ok with
 |false=>
  go_wp2_with fail
  refine(Lv HC.out).mono ?_
  exact Tp
 |true=>
  have cFn:_=some (Value.int .u64 X1.t.fin):=HC.out.tx.blk.cell 4
  have zF:=HC.out.tx.blk.free 4
  have hf:=HC.out.tfield (t':={X.t with fin:=now+1}) (i:=4) (u:= .int .u64 (now+1)) (by rw[hX1t];rfl) (by rw[hX1t]) (by rw[hX1t]) (by rw[hX1t]) (by rw[hX1t])
  have HC:=Aa hf.1
  have M:=M.trans hf.2
  clear hf
  have fe:=he.move M
  have ce:=fe.c0
  have fa:=ha.move M
  have ca:=fa.c0
  have fb:=hb.move M
  have cb:=fb.c0
  have ft:=ht.move M
  have ct:=ft.c0
  have fc:=hc.move M
  have cc:=fc.c0
  have cI:_=some (Value.int .i64 X.t.id):=HC.out.tx.blk.cell 0
  have cF:_=some (Value.int .u64 (now+1)):=HC.out.tx.blk.cell 4
  go_upto_region 4 with(fail)
  have m9:=Ag.only0 P Q ((Ac.refl (w1.setCell ⟨S.t,4,none⟩ (.int .u64 (now+1)))).drew)
  have M:=M.trans m9
  have HC:=Aa HC.out.drew
  clear m9
  have fe:=he.move M
  have ce:=fe.c0
  have fa:=ha.move M
  have ca:=fa.c0
  have fb:=hb.move M
  have cb:=fb.c0
  have ft:=ht.move M
  have ct:=ft.c0
  have fc:=hc.move M
  have cc:=fc.c0
  have cI:_=some (Value.int .i64 X.t.id):=HC.out.tx.blk.cell 0
  have cF:_=some (Value.int .u64 (now+1)):=HC.out.tx.blk.cell 4
  refine wp_region_held_drew (S:=(fun w'=>Ab w' e 0 (bp A.e)∧Ab w' t 0 (bp S.t)∧Ab w' S.t 0 (.int .i64 X.t.id)∧Ab w' S.t 4 (.int .u64 (now+1)))) (by kernel_rfl) ?_ (fun hHeld=>?_)
  ·exact⟨ce,ct,cI,cF⟩
  refine Af 0 (h:=Af 1 (h:=Af 2 (h:=Af 3 (h:=Af 4 (h:=Af 5 (h:=Af 6 (h:=Af 7 (h:=Af 8 (h:=Af 9 (h:=Ar (i:=10) (h:=fun K hK=>?_)))))))))))
  go_simp
  (refine(Ib HC.out HT.out.2 HC.out.hB (.mk3 3 X.t.id (now+1)) none 0 (.inl rfl)).mono ?_;rintro e9 w9 ⟨rfl,P9,A9,h9,m9,k9⟩;have M9:=M.trans m9;have ce:=(fe.move m9).c0;have ct:=(ft.move m9).c0;have cI:=Ae w9 S.t 0 (Value.int .i64 X.t.id) (h9.tx.blk.cell 0);have cF:=Ae w9 S.t 4 (Value.int .u64 (now+1)) (h9.tx.blk.cell 4);have HS:Hid (Ak B w P Q R A Ke S nx ((X1.setT {X.t with fin:=now+1}).ev (.mk3 3 X.t.id (now+1))) (some .helped) (.returned (.func (.func 136) #[] #[bp e,bp t,bp c])) w9):=Aa ⟨P9,Q,A9,S,_,rfl,h9,⟨e,t,c,rfl,(show bE w P Q R A e from he).mv M9 k9,(show bT w P Q R S t from ht).mv M9 k9,(show bC w P Q R S c from hc).mv M9 k9⟩,M9,k9⟩;clear h9 m9 k9 M9)
  try go_wp2_with fail
  refine AK hK (by exact⟨ce,ct,cI,cF⟩) (h:=fun hHeld=>?_);clear hK K
  refine wpAnyH_done (by kernel_rfl) ?_ _
  go_wp2_with fail
  go_ret
  rw[HR.out,if_pos (by trivial)]
  exact HS.out
end
end Go.Proofs.YtoakelhnhkilcaaGreat

/-
  TopOne:what its proof rests on,part 5.
-/
import Derived.Deep.CutBlock
import Derived.Deep.DeepCutAuto
import Derived.Deep.Cut
import Derived.Laws.AppendOwnNone
import Derived.Laws.AppendOwn
import Derived.Deep.RegionHeld3
import Derived.Deep.DrawnRows
import Derived.Test.YtoakelhnhkilcaaGreatZTopOne1
import Derived.Test.YtoakelhnhkilcaaGreatZTopOne2
import Derived.Test.YtoakelhnhkilcaaGreatZTopOne4
set_option linter.unusedVariables false
set_option linter.unusedSimpArgs false
set_option maxRecDepth 100000
set_option maxHeartbeats 64000000
namespace Go.Proofs.YtoakelhnhkilcaaGreat
open Go.RowKit
section
attribute [local go_sem ↓] Go.wp_at_zero Go.wp_at_succ
theorem UM{P:Prop}(h:P:=by
 try go_wp2_with fail
 refine AK hK (by exact⟨ce,ca,cA⟩) (h:=fun hHeld=>?_);clear hK K
 refine Ar (i:=6) (h:=fun K hK=>?_)
 try simp only[List.getElem_toArray,List.getElem_cons_zero,List.getElem_cons_succ]
 go_simp
 (refine(Bw HC.out _).mono ?_;rw[hx,hX1];rintro e1 w1 ⟨rfl,h1,m1⟩;have HC:=Aa h1;have M:=M.trans m1;clear h1;have fe:=he.move M;have fa:=ha.move M;have ft:=ht.move M;have fc:=hc.move M;have ce:=fe.c0;have ca:=fa.c0;have ct:=ft.c0;have cc:=fc.c0;have cA:=HC.out.ca;have cN:=HC.out.cn;try(have fb:=fb.move m1;have zfb:=fb.zf;first|have cfb:=fb.c0|(have cfb:=fb.d0;have dfb:=fb.d1)))
 try go_wp2_with fail
 refine AK hK (by exact⟨ce,ca,cA⟩) (h:=fun hHeld=>?_);clear hK K
 refine Ar (i:=8) (h:=fun K hK=>?_)
 try simp only[List.getElem_toArray,List.getElem_cons_zero,List.getElem_cons_succ]
 go_simp
 (have HC:=Aa (HC.out.setNew fb (by decide) 0 (.int .u64 x));have M:=M.setNew (b:=w.heap.size) (Nat.le_refl _) 0 (.int .u64 x);have fb:=fb.setOwn 0 (.int .u64 x);have fb:An _ P Q R _ 31 #[.int .u64 x]:=fb;have fe:=he.move M;have fa:=ha.move M;have ft:=ht.move M;have fc:=hc.move M;have ce:=fe.c0;have ca:=fa.c0;have ct:=ft.c0;have cc:=fc.c0;have cA:=HC.out.ca;have cN:=HC.out.cn)
 try go_wp2_with fail
 refine AK hK (by exact⟨ce,ca,cA⟩) (h:=fun hHeld=>?_);clear hK K
 refine wpAnyH_done (by kernel_rfl) ?_ _
 go_wp2_with fail
 go_meet
 case rel=>exact⟨_,rfl,Aa ⟨HC.out,M,fb⟩⟩):P:=h
theorem Tk{P:Prop}(h:P:=by
 go_enter Tryz.func15,Tryz.ntmps15
 go_upto_region 1 with(fail)
 rw[←hW,←HN.out]
 clear hW
 go_wp2_with fail
 refine CS.mono ?_
 rintro e w1 ⟨rfl,rfl⟩
 go_wp2_with fail
 obtain⟨B9,o9⟩:=PM HBX.out (.bool false) (.bool false) (.bool false) (.int .i64 0) (.int .i64 0) (.int .i64 0) (.int .u64 0) (.int .u64 0) (.int .i64 0)
 exact bodyPost_ret (v:= .agg Cv.zero.row) (results_cell_row Tryz.results15 _ _ n0 _ _ _ _ rfl B9 Tryz.underlying46 rfl EL) rfl ⟨rfl,HO.out.box (by rw[HN.out];exact Nat.le_refl _) o9⟩):P:=h
theorem Tl{P:Prop}(h:P:=by
 go_enter Tryz.func78,Tryz.ntmps78
 go_wp2_with fail
 go_ret;first|exact⟨rfl,(Ac.refl w).alloc _⟩|exact⟨BL (by simp;omega),(Ac.refl w).alloc _⟩):P:=h
theorem Ri{P:Prop}(h:P:=by
 go_enter Tryz.func46,Tryz.ntmps46
 go_wp2_with fail
 go_ret
 exact⟨rfl,rfl⟩):P:=h
theorem UO{P:Prop}(h:P:=by
 exact⟨(h.read hk _ _).mono (by omega),⟨rfl,.inl rfl⟩,Bi.read X _ _ _⟩):P:=h
theorem Tx{P:Prop}(h:P:=by
 go_enter Tryz.func79,Tryz.ntmps79
 go_wp2_with fail
 go_ret;exact⟨BL (by simp[DY]),(Ac.refl w).alloc _⟩):P:=h
theorem UY{P:Prop}(h:P:=by
 exact AB.out (r:=(_,_)) (M:=N+1) (AZ.cas _ _ _ _) ⟨htk,⟨rfl,.inl rfl⟩,Bi.take _ _ _⟩ (by omega)):P:=h
theorem Sy{P:Prop}(h:P:=by
 exact((HV.out.2.2.1.box HV.out.2.2.2.2 HU.out.2)).box HV.out.2.2.2.1 o9):P:=h
theorem So{P:Prop}(h:P:=by
 unfold Cx.over;split<;>exact⟨rfl,rfl,rfl,rfl,rfl,rfl,rfl,rfl,rfl⟩):P:=h
theorem Uc{P:Prop}(h:P:=by
 show AZ X.sh.a (Cx.over _ _).sh.a
 rw[s4];exact AZ.store _ _ _):P:=h
theorem Tg{P:Prop}(h:P:=by
 exact AB.out (AZ.tick _ _) (Nn (tk _) l) (by omega)):P:=h
theorem OJ{B N:Nat}{w:World}{P Q R:Nat→Prop}{A:EA}{Ke:EK}{S:SA}{nx:Value}{X:Cx}(h:CX B w P Q R A Ke S nx X)(hN:Ax N X)(hB9:N≤100000000)(er re:Int){e t i c n:Nat}(he:An w P Q R e 39 #[bp A.e])(ht:An w P Q R t 96 #[bp S.t])(hi:An w P Q R i 3 #[.int .i64 (re)])(hc:An w P Q R c 101 #[bp S.c])(hn:An w P Q R n 50 #[.int .i64 (er)]):
 Calls Tryz.prog 139 #[bp e,bp t,bp i,bp c,bp n] w (Ak B w P Q R A Ke S nx (Ay X (.abort er re)).1 (Ay X (.abort er re)).2):=by
 have HC0:=Aa h
 have HN:=Aa hN
 have i1:=hN.tx.id1
 have i2:=hN.tx.id2
 have e1:=hN.tx.fin.1
 have e2:=hN.tx.fin.2
 have hkl:=hN.tx.klen
 have s1:0≤X.sh.slots:=by have:=hN.sh.n1;omega
 have s2:=hN.sh.n2
 have hpl:∀id:Int,73+X.sh.slots*3+id=X.place id:=fun _=>rfl
 obtain⟨X1,hX1⟩:=Aq (X.setA (X.sh.a.store (X.place X.t.id) (Bc 4 X.t.fin)))
 have hX1t:X1.t=X.t:=by rw[←hX1];rfl
 have hX1c:X1.c=X.c:=by rw[←hX1];rfl
 have hX1l:X1.sh.tale.length≤1000000000:=by rw[←hX1];have:=hN.sh.tlen;show X.sh.tale.length≤_;omega
 obtain⟨X2,hX2⟩:=Aq (X1.over ⟨6,X.t.id,0,⟨0,0,0,0⟩,⟨0,0,[],0,re⟩⟩)
 have hX2c:X2.c=X.c:=by rw[←hX2];unfold Cx.over;split<;>exact hX1c
 have hX2t:X2.t.keys=X.t.keys∧X2.t.cells=X.t.cells∧X2.t.fin=X.t.fin∧X2.t.id=X.t.id:=by rw[←hX2];unfold Cx.over;split<;>(rw[←hX1t];exact⟨rfl,rfl,rfl,rfl⟩)
 obtain⟨t1_,t2_,t3_,t4_⟩:=hX2t
 have HKY:=Aa hN.tx.keys
 have HCE:=Aa hN.tx.cell
 have HR:Hid (Ay X (.abort er re)=(X2,some (.turns (BM X.t X.t.keys) ⟨er,0,[],4,re⟩))):=Aa (by rw[←hX2,←hX1];rfl)
 clear h hN
 go_enter Tryz.func139,Tryz.ntmps139
 go_upto_region 1 with(fail)
 have HC:=Aa HC0.out.drew
 have M:=Ag.only0 P Q ((Ac.refl w).drew)
 have fe:=he.move M
 have ft:=ht.move M
 have fi:=hi.move M
 have fc:=hc.move M
 have fn:=hn.move M
 have ce:=fe.c0
 have ct:=ft.c0
 have ci:=fi.c0
 have cc:=fc.c0
 have cn:=fn.c0
 have cA:=HC.out.ca
 have cN:=HC.out.cn
 first|have cI:=(show _=some (Value.int .i64 X.t.id) from HC.out.ti)|have cI:=(show _=some (Value.int .i64 X.t.id) from hX1t▸HC.out.ti)
 first|have cF:=(show _=some (Value.int .u64 X.t.fin) from HC.out.tfn)|have cF:=(show _=some (Value.int .u64 X.t.fin) from hX1t▸HC.out.tfn)
 refine wp_region_held_drew (S:=(fun w'=>Ab w' e 0 (bp A.e)∧Ab w' t 0 (bp S.t)∧Ab w' A.e 2 (bp A.a)∧Ab w' S.t 0 (.int .i64 X.t.id)∧Ab w' S.t 4 (.int .u64 X.t.fin))) (by kernel_rfl) ?_ (fun hHeld=>?_)
 ·exact⟨ce,ct,cA,cI,cF⟩
 refine Af 0 (h:=Af 1 (h:=Af 2 (h:=Af 3 (h:=Af 4 (h:=Af 5 (h:=Af 6 (h:=Af 7 (h:=Af 8 (h:=Af 10 (h:=Af 11 (h:=Af 12 (h:=?_))))))))))))
 refine Af 13 (h:=Ar (i:=9) (h:=fun K hK=>?_))
 go_simp
 (refine(BS A.e X.sh.slots X.t.id _ cN s1 s2 (by omega) (by omega)).mono ?_;rintro e1 w1 ⟨rfl,rfl⟩)
 try go_wp2_with fail
 refine AK hK (by exact⟨ce,ct,cA,cI,cF⟩) (h:=fun hHeld=>?_);clear hK K
 refine Ar (i:=14) (h:=fun K hK=>?_)
 try simp only[List.getElem_toArray,List.getElem_cons_zero,List.getElem_cons_succ]
 go_simp
 (refine(EW 4 X.t.fin _ (by omega) (by omega) e1 (by omega)).mono ?_;rintro e1 w1 ⟨rfl,rfl⟩)
 try go_wp2_with fail
 refine AK hK (by exact⟨ce,ct,cA,cI,cF⟩) (h:=fun hHeld=>?_);clear hK K
 refine Ar (i:=15) (h:=fun K hK=>?_)
 try simp only[List.getElem_toArray,List.getElem_cons_zero,List.getElem_cons_succ]
 go_simp
 (refine(CY HC.out _ _).mono ?_;rw[hX1];rintro e1 w1 ⟨rfl,h1,m1⟩;have HC:=Aa h1;have M:=M.trans m1;clear h1;have fe:=he.move M;have ft:=ht.move M;have fi:=hi.move M;have fc:=hc.move M;have fn:=hn.move M;have ce:=fe.c0;have ct:=ft.c0;have ci:=fi.c0;have cc:=fc.c0;have cn:=fn.c0;have cA:=HC.out.ca;have cN:=HC.out.cn;first|have cI:=(show _=some (Value.int .i64 X.t.id) from HC.out.ti)|have cI:=(show _=some (Value.int .i64 X.t.id) from hX1t▸HC.out.ti);first|have cF:=(show _=some (Value.int .u64 X.t.fin) from HC.out.tfn)|have cF:=(show _=some (Value.int .u64 X.t.fin) from hX1t▸HC.out.tfn);skip)
 try go_wp2_with fail
 refine AK hK (by exact⟨ce,ct,cA,cI,cF⟩) (h:=fun hHeld=>?_);clear hK K
 refine wpAnyH_done (by kernel_rfl) ?_ _
 skip
 go_upto_region 2 with(fail)
 have m9:=Ag.only0 P Q ((Ac.refl w1).drew)
 have M:=M.trans m9
 have HC:=Aa HC.out.drew
 clear m9
 have fe:=he.move M
 have ft:=ht.move M
 have fi:=hi.move M
 have fc:=hc.move M
 have fn:=hn.move M
 have ce:=fe.c0
 have ct:=ft.c0
 have ci:=fi.c0
 have cc:=fc.c0
 have cn:=fn.c0
 have cA:=HC.out.ca
 have cN:=HC.out.cn
 first|have cI:=(show _=some (Value.int .i64 X.t.id) from HC.out.ti)|have cI:=(show _=some (Value.int .i64 X.t.id) from hX1t▸HC.out.ti)
 first|have cF:=(show _=some (Value.int .u64 X.t.fin) from HC.out.tfn)|have cF:=(show _=some (Value.int .u64 X.t.fin) from hX1t▸HC.out.tfn)
 refine wp_region_held_drew (S:=(fun w'=>Ab w' e 0 (bp A.e)∧Ab w' t 0 (bp S.t)∧Ab w' i 0 (.int .i64 (re))∧Ab w' S.t 0 (.int .i64 X.t.id))) (by kernel_rfl) ?_ (fun hHeld=>?_)
 ·exact⟨ce,ct,ci,cI⟩
 refine Af 0 (h:=Af 1 (h:=Af 2 (h:=Af 3 (h:=Af 4 (h:=Af 5 (h:=Af 6 (h:=Af 7 (h:=Af 8 (h:=Ar (i:=9) (h:=fun K hK=>?_))))))))))
 go_simp
 (refine(JD HC.out hX1l ⟨6,X.t.id,0,⟨0,0,0,0⟩,⟨0,0,[],0,re⟩⟩ rfl).mono ?_;rintro e9 w9 ⟨rfl,P9,A9,h9,m9,k9⟩;rw[hX2]at h9;have HC9:=Aa h9;have M9:=M.trans m9;have K9:=Aa k9;have fe:=fe.move m9;have ft:=ft.move m9;have fc:=fc.move m9;have fi:=fi.move m9;have fn:=fn.move m9;have ce:=fe.c0;have ct:=ft.c0;have cc:=fc.c0;have ci:=fi.c0;have cn:=fn.c0;have cI:=Ae w9 S.t 0 (.int .i64 X.t.id) ((by have q:=h9.ti;rw[t4_]at q;exact q));clear h9 m9 k9)
 try go_wp2_with fail
 refine AK hK (by exact⟨ce,ct,ci,cI⟩) (h:=fun hHeld=>?_);clear hK K
 refine wpAnyH_done (by kernel_rfl) ?_ _
 skip
 have c6:=HC9.out.tk6
 rw[t1_]at c6
 obtain⟨i0,hi0,hz0,hz1,hz2⟩:=info_parts IV
 have HR0:=Aa (Eo.nil HC9.out.hB)
 obtain⟨n_,hn⟩:=Aq (X.t.keys.length)
 rw[hn]at c6 hkl
 have HNN:=Aa hn
 have hUP:=HC9.out.uP
 have hUQ:=HC9.out.uQ
 have hUR:=HC9.out.uR
 have HU:=Aa (And.intro hUP (And.intro hUQ hUR))
 clear hUP hUQ hUR hn
 go_wp2_with fail
 go_loopw [6,41] (fun s6 s41 wr=>∃(q m:Nat) (a:Option Addr) (c:Nat),q≤n_∧m≤q∧s6= .slice a m c∧s41= .int .i64 q∧Hid (Eo B w9 wr (BM X.t (X.t.keys.take q)) m a c)) (fun _ i _=>n_-(intOf i).toNat)
 case atStart=>exact⟨0,0,none,0,by omega,by omega,rfl,rfl,by rw[List.take_zero];exact HR0⟩
 case round=>
  obtain⟨q,m,a,cp,hq,hm,rfl,rfl,HRr⟩:=hrel
  by_cases hlt:q<n_
  ·skip
   have hqk:q<X.t.keys.length:=by rw[HNN.out];exact hlt
   have hCr:=HC9.out.only0 HRr.out.o
   obtain⟨kg,hkg⟩:=hCr.key0 (i:=q) (by rw[t1_];exact hqk)
   have ckq:=hCr.keyc hkg (by rw[t1_];exact hqk)
   rw[t1_]at ckq
   have hmem:X.t.keys.getD q 0∈X.t.keys:=by rw[List.getD_eq_getElem?_getD,List.getElem?_eq_getElem hqk];exact List.getElem_mem _
   obtain⟨x,hx⟩:=Option.isSome_iff_exists.1 (HKY.out _ hmem)
   have HTT:=Aa (JO hqk hx)
   obtain⟨k,hk⟩:=Aq (X.t.keys.getD q 0)
   rw[hk]at ckq hx
   have hce:=HCE.out k x hx
   have LK:=hCr.lk k (by omega)
   unfold H_ at LK
   rw[t2_,hx]at LK
   simp only[Option.map_some]at LK
   obtain⟨y0,y1,y2⟩:=hCr.celc (k:=k) (by rw[t2_];exact hx)
   have cTr:=Ae wr S.t 7 (.map (some S.m)) hCr.tm
   have ctr:=Ae wr t 0 (bp S.t) ((Ai HRr.out.o ct))
   have l1:=hce.2.2.1.1
   rw[hkg]
   obtain⟨acc,hacc⟩:=Aq (BM X.t (X.t.keys.take q))
   rw[hacc]at HRr HTT
   clear hacc hce hCr hqk hk hkg hmem
   obtain⟨own,old,th⟩:=x
   dsimp only at y0 y1 y2 l1
   clear hx
   by_cases h0:old=0
   ·subst h0
    have HZ:Hid (Eo B w9 wr (BM X.t (X.t.keys.take (q+1))) m a cp):=Aa (by rw[HTT.out,show Fm ⟨own,0,th⟩ X.t.id=[] from by simp[Fm],List.append_nil];exact HRr.out)
    go_wp2_with fail
    go_roundw
    case rel=>exact⟨q+1,m,a,cp,by omega,by omega,rfl,by go_num,HZ⟩
    case measure=>simp[intOf];omega
   ·have b0:(old==0)=false:=by simpa using h0
    have b1:(old != 0)=true:=by simpa using h0
    have H0:=Aa h0
    clear h0
    have HRd:=Aa HRr.out.draw
    have o6:=(Ac.refl (wr.drew)).alloc (.cells #[.int .i64 (Al old 1),.int .u64 (BA X.t.id),.int .u64 (Bj)] 259)
    have R6:=AO HRd.out.row (Aw.zero o6 []) (by simp)
    have hB6:B≤((wr.drew).alloc (.cells #[.int .i64 (Al old 1),.int .u64 (BA X.t.id),.int .u64 (Bj)] 259)).heap.size:=Nat.le_trans HRd.out.hB o6.size
    have HE:=Aa (fun(ggn capn:Nat) (w1:World) (h1:w1.ownsRow B 259 3 (.slice (some ⟨ggn,0,none⟩) (m+1) capn) (m+1) (El (acc)++[.int .i64 (Al old 1),.int .u64 (BA X.t.id),.int .u64 (Bj)])) (h2:((wr.drew).alloc (.cells #[.int .i64 (Al old 1),.int .u64 (BA X.t.id),.int .u64 (Bj)] 259)).grownBy w1 (Value.slice a m cp).ownBlock) (h3:(Value.slice a m cp).ownBlock=some ggn∨ggn=(wr.drew).heap.size+1)=>HRd.out.app o6 ⟨Al old 1,BA X.t.id,Bj⟩ h1 h2 (h3.imp (fun x=>x) (fun e=>by rw[e];simp)))
    clear o6
    have ct5:=Ai HRd.out.o ct
    have cI5:=Ai HRd.out.o cI
    have o66:=HRd.out.o.alloc (.cells #[.int .i64 (Al old 1),.int .u64 (BA X.t.id),.int .u64 Bj] 259)
    have ct6:=Ai o66 ct
    have cI6:=Ai o66 cI
    clear o66
    go_upto_region 9 with(fail)
    refine wp_region_held_drew (S:=(fun w'=>Ab w' t 0 (bp S.t)∧Ab w' S.t 0 (.int .i64 X.t.id))) (by kernel_rfl) ?_ (fun hHeld=>?_)
    ·first|exact⟨ct5,cI5⟩|exact⟨ct6,cI6⟩|exact⟨ct7,cI7⟩
    refine Af 0 (h:=Af 1 (h:=Af 3 (h:=Ar (i:=2) (h:=fun K hK=>?_))))
    go_simp
    (refine(Bb old 1 _ l1 (by omega) (by omega)).mono ?_;rintro e1 w1 ⟨rfl,rfl⟩)
    try go_wp2_with fail
    refine AK hK (by first|exact⟨ct5,cI5⟩|exact⟨ct6,cI6⟩|exact⟨ct7,cI7⟩) (h:=fun hHeld=>?_);clear hK K
    refine Ar (i:=4) (h:=fun K hK=>?_)
    try simp only[List.getElem_toArray,List.getElem_cons_zero,List.getElem_cons_succ]
    go_simp
    (refine(GY S.t X.t.id _ (by assumption) i1 (by omega)).mono ?_;rintro e1 w1 ⟨rfl,rfl⟩)
    try go_wp2_with fail
    refine AK hK (by first|exact⟨ct5,cI5⟩|exact⟨ct6,cI6⟩|exact⟨ct7,cI7⟩) (h:=fun hHeld=>?_);clear hK K
    refine Ar (i:=5) (h:=fun K hK=>?_)
    try simp only[List.getElem_toArray,List.getElem_cons_zero,List.getElem_cons_succ]
    go_simp
    (refine(Dw _).mono ?_;rintro e1 w1 ⟨rfl,rfl⟩)
    try go_wp2_with fail
    refine AK hK (by first|exact⟨ct5,cI5⟩|exact⟨ct6,cI6⟩|exact⟨ct7,cI7⟩) (h:=fun hHeld=>?_);clear hK K
    refine Af 6 (h:=Ar (i:=7) (h:=fun K hK=>?_))
    go_simp
    skip
    try go_wp2_with fail
    refine AK hK (by first|exact⟨ct5,cI5⟩|exact⟨ct6,cI6⟩|exact⟨ct7,cI7⟩) (h:=fun hHeld=>?_);clear hK K
    refine Ar (i:=8) (h:=fun K hK=>?_)
    try simp only[List.getElem_toArray,List.getElem_cons_zero,List.getElem_cons_succ]
    (rw[if_pos (by simp[Region.wanted])];refine wp_append_lies _ _ _ _ (by rfl) B 259 i0 _ 3 24 Tryz.underlying257 hi0 hz0 hz1 hz2 rfl (by omega) (.slice a m cp) m (El (acc)) (by rfl) R6 ⟨(wr.drew).heap.size,0,none⟩ 1 1 [.int .i64 (Al old 1),.int .u64 (BA X.t.id),.int .u64 Bj] (by rfl) (by rfl) (World.news_of_block (cs:=#[.int .i64 (Al old 1),.int .u64 (BA X.t.id),.int .u64 Bj]) (t:=259) (fr:=(0,0)) (heap_alloc_new (wr.drew) _)) (by simp[Value.oneCell']) (by omega) (by unfold maxLen;omega) (by omega) hB6 ((wr.drew).heap.size+1) (by simp) ?_;intro gg cap w4 hown hgrow hat hlt4;have HR4:=Aa (HE.out gg cap w4 hown hgrow hat);have ct7:=Ai HR4.out.o ct;have cI7:=Ai HR4.out.o cI;clear hown hgrow hat hlt4 R6 hB6 HE)
    refine AK hK (by first|exact⟨ct5,cI5⟩|exact⟨ct6,cI6⟩|exact⟨ct7,cI7⟩) (h:=fun hHeld=>?_);clear hK K
    refine Af 9 (h:=?_)
    refine wpAnyH_done (by kernel_rfl) ?_ _
    skip
    have HZ:Hid (Eo B w9 w4 (BM X.t (X.t.keys.take (q+1))) (m+1) (some ⟨gg,0,none⟩) cap):=Aa (by rw[HTT.out,show Fm ⟨own,old,th⟩ X.t.id=[⟨Al old 1,BA X.t.id,Bj⟩] from by simp[Fm,H0.out]];exact HR4.out)
    go_wp2_with fail
    go_roundw
    case rel=>exact⟨q+1,m+1,_,_,by omega,by omega,rfl,by go_num,HZ⟩
    case measure=>simp[intOf];omega
  ·have hqn:q=n_:=by omega
   obtain⟨g1,g2,g3⟩:=HRr.out.turns HU.out.1 HU.out.2.1 HU.out.2.2
   have HZ:=HC9.out.only0 HRr.out.o
   have mz:=Ag.only0 P9 Q HRr.out.o
   have MZ:=M9.trans mz
   have he9:=(fe.move mz).c0
   have ht9:=(ft.move mz).c0
   have hc9:=(fc.move mz).c0
   have CE:=FA HZ (BM X.t (X.t.keys.take q)) (n:=m) HRr.out.len g1 g2 g3 ⟨er,0,[],4,re⟩ none 0 (EC.nil S X2 _ _ _ _)
   rw[K9.out.e]at CE
   rw[show X.t.keys.take q=X.t.keys from by rw[hqn,←HNN.out,List.take_length]]at CE
   clear HZ mz g1 g2 g3
   have hqn2:(q:Int)=n_:=by omega
   have hnlt:¬(q:Int)<n_:=by omega
   have hi9:=(fi.move (Ag.only0 P9 Q HRr.out.o)).c0
   have hn9:=(fn.move (Ag.only0 P9 Q HRr.out.o)).c0
   exact SZ
end
section
attribute [local go_sem ↓] Go.wp_at_zero Go.wp_at_succ
theorem Rw{B N:Nat}{w:World}{P Q R:Nat→Prop}{A:EA}{Ke:EK}{S:SA}{nx:Value}{X:Cx}(h:CX B w P Q R A Ke S nx X)(hN:Ax N X)(l:Int)(hl:AM X.sh.slots l){e a t c:Nat}(he:An w P Q R e 39 #[bp A.e])(ha:An w P Q R a 31 #[.int .u64 (l)])(ht:An w P Q R t 96 #[bp S.t])(hc:An w P Q R c 101 #[bp S.c]):
 Calls Tryz.prog 174 #[bp e,bp a,bp t,bp c] w (Ak B w P Q R A Ke S nx (Ay X (.own l)).1 (Ay X (.own l)).2):=by
 have HC0:=Aa h
 have HN:=Aa hN
 have l0:=hl.1
 obtain⟨x,hx⟩:=Aq (X.sh.a.load (Al l 1))
 obtain⟨x0,x1⟩:0≤x∧x<18446744073709551616:=by rw[←hx];exact AG hN.sh.word _
 obtain⟨X1,hX1⟩:=Aq (X.setA (X.sh.a.tick (Al l 1)))
 have HR:Hid (Ay X (.own l)=(if BD x=3 then(X1,some (.claim l x))else if BD x=2 then(X1,some (.own2 l x (Br x)))else(X1,some (.abort 14 2)))):=Aa (by simp only[Ay,hx,hX1])
 clear h hN hl
 go_enter Tryz.func174,Tryz.ntmps174
 go_upto_region 1 with(fail)
 go_cut [5] (fun s5 wx=>∃b,s5=bp b∧Hid (CX B wx P Q R A Ke S nx X1∧Ag w wx P Q P Q∧An wx P Q R b 31 #[.int .u64 x]))
 case first=>
  have HC:=Aa HC0.out.drew
  have M:=Ag.only0 P Q ((Ac.refl w).drew)
  have fe:=he.move M
  have fa:=ha.move M
  have ft:=ht.move M
  have fc:=hc.move M
  have ce:=fe.c0
  have ca:=fa.c0
  have ct:=ft.c0
  have cc:=fc.c0
  have cA:=HC.out.ca
  have cN:=HC.out.cn
  refine wp_region_held_drew (S:=(fun w'=>Ab w' e 0 (bp A.e)∧Ab w' a 0 (.int .u64 (l))∧Ab w' A.e 2 (bp A.a))) (by kernel_rfl) ?_ (fun hHeld=>?_)
  ·exact⟨ce,ca,cA⟩
  refine Af 0 (h:=Af 1 (h:=Af 2 (h:=Af 3 (h:=Af 4 (h:=?_)))))
  refine wpAnyH_ready (rs:=[5,7]) (by kernel_rfl) (by simp) ?_
  refine AllReadyH.cons rfl (fun K hK=>?_) (AllReadyH.cons rfl (fun K hK=>?_) (AllReadyH.nil))
  ·try simp only[List.getElem_toArray,List.getElem_cons_zero,List.getElem_cons_succ]
   go_simp
   (refine(Bb l 1 _ l0 (by omega) (by omega)).mono ?_;rintro e1 w1 ⟨rfl,rfl⟩)
   try go_wp2_with fail
   refine AK hK (by exact⟨ce,ca,cA⟩) (h:=fun hHeld=>?_);clear hK K
   refine wpAnyH_ready (rs:=[6,7]) (by kernel_rfl) (by simp) ?_
   refine AllReadyH.cons rfl (fun K hK=>?_) (AllReadyH.cons rfl (fun K hK=>?_) (AllReadyH.nil))
   ·try simp only[List.getElem_toArray,List.getElem_cons_zero,List.getElem_cons_succ]
    go_simp
    (refine(Bw HC.out _).mono ?_;rw[hx,hX1];rintro e1 w1 ⟨rfl,h1,m1⟩;have HC:=Aa h1;have M:=M.trans m1;clear h1;have fe:=he.move M;have fa:=ha.move M;have ft:=ht.move M;have fc:=hc.move M;have ce:=fe.c0;have ca:=fa.c0;have ct:=ft.c0;have cc:=fc.c0;have cA:=HC.out.ca;have cN:=HC.out.cn;try(have fb:=fb.move m1;have zfb:=fb.zf;first|have cfb:=fb.c0|(have cfb:=fb.d0;have dfb:=fb.d1)))
    try go_wp2_with fail
    refine AK hK (by exact⟨ce,ca,cA⟩) (h:=fun hHeld=>?_);clear hK K
    refine Ar (i:=7) (h:=fun K hK=>?_)
    try simp only[List.getElem_toArray,List.getElem_cons_zero,List.getElem_cons_succ]
    go_simp
    (have HCp:=HC;have Mp:=M;(first|have fb:=An.new' HC.out w.heap.size rfl 31 #[.int .u64 0]|have fb:=An.new' HC.out _ rfl 31 #[.int .u64 0]);have M:=M.trans (Ag.only0 P Q ((Ac.refl _).alloc (.cells #[.int .u64 0] 31)));have HC:=Aa (HC.out.alloc (.cells #[.int .u64 0] 31));have fe:=he.move M;have fa:=ha.move M;have ft:=ht.move M;have fc:=hc.move M;have ce:=fe.c0;have ca:=fa.c0;have ct:=ft.c0;have cc:=fc.c0;have cA:=HC.out.ca;have cN:=HC.out.cn)
    try go_wp2_with fail
    refine AK hK (by exact⟨ce,ca,cA⟩) (h:=fun hHeld=>?_);clear hK K
    refine Ar (i:=8) (h:=fun K hK=>?_)
    try simp only[List.getElem_toArray,List.getElem_cons_zero,List.getElem_cons_succ]
    go_simp
    (have fb:=An.new' HCp.out _ rfl 31 #[.int .u64 x];have M:=Mp.trans (Ag.only0 P Q ((Ac.refl _).alloc (.cells #[.int .u64 x] 31)));have HC:=Aa (HCp.out.alloc (.cells #[.int .u64 x] 31));have fe:=he.move M;have fa:=ha.move M;have ft:=ht.move M;have fc:=hc.move M;have ce:=fe.c0;have ca:=fa.c0;have ct:=ft.c0;have cc:=fc.c0;have cA:=HC.out.ca;have cN:=HC.out.cn)
    try go_wp2_with fail
    refine AK hK (by exact⟨ce,ca,cA⟩) (h:=fun hHeld=>?_);clear hK K
    refine wpAnyH_done (by kernel_rfl) ?_ _
    go_wp2_with fail
    go_meet
    case rel=>exact⟨_,rfl,Aa ⟨HC.out,M,fb⟩⟩
   ·try simp only[List.getElem_toArray,List.getElem_cons_zero,List.getElem_cons_succ]
    go_simp
    (have HCp:=HC;have Mp:=M;(first|have fb:=An.new' HC.out w.heap.size rfl 31 #[.int .u64 0]|have fb:=An.new' HC.out _ rfl 31 #[.int .u64 0]);have M:=M.trans (Ag.only0 P Q ((Ac.refl _).alloc (.cells #[.int .u64 0] 31)));have HC:=Aa (HC.out.alloc (.cells #[.int .u64 0] 31));have fe:=he.move M;have fa:=ha.move M;have ft:=ht.move M;have fc:=hc.move M;have ce:=fe.c0;have ca:=fa.c0;have ct:=ft.c0;have cc:=fc.c0;have cA:=HC.out.ca;have cN:=HC.out.cn)
    exact UM
  ·try simp only[List.getElem_toArray,List.getElem_cons_zero,List.getElem_cons_succ]
   go_simp
   (have HCp:=HC;have Mp:=M;(first|have fb:=An.new' HC.out w.heap.size rfl 31 #[.int .u64 0]|have fb:=An.new' HC.out _ rfl 31 #[.int .u64 0]);have M:=M.trans (Ag.only0 P Q ((Ac.refl _).alloc (.cells #[.int .u64 0] 31)));have HC:=Aa (HC.out.alloc (.cells #[.int .u64 0] 31));have fe:=he.move M;have fa:=ha.move M;have ft:=ht.move M;have fc:=hc.move M;have ce:=fe.c0;have ca:=fa.c0;have ct:=ft.c0;have cc:=fc.c0;have cA:=HC.out.ca;have cN:=HC.out.cn)
   try go_wp2_with fail
   refine AK hK (by exact⟨ce,ca,cA⟩) (h:=fun hHeld=>?_);clear hK K
   refine Ar (i:=5) (h:=fun K hK=>?_)
   try simp only[List.getElem_toArray,List.getElem_cons_zero,List.getElem_cons_succ]
   go_simp
   (refine(Bb l 1 _ l0 (by omega) (by omega)).mono ?_;rintro e1 w1 ⟨rfl,rfl⟩)
   exact UM
 case rest=>
  obtain⟨b,rfl,H⟩:=hcut
  obtain⟨HC,M,fb⟩:=H.out
  have HC:=Aa HC
  have fe:=he.move M
  have fa:=ha.move M
  have ft:=ht.move M
  have fc:=hc.move M
  have ce:=fe.c0
  have ca:=fa.c0
  have ct:=ft.c0
  have cc:=fc.c0
  have cA:=HC.out.ca
  have cN:=HC.out.cn
  have cb:=fb.c0
  clear H
  by_cases hk:BD x=3
  ·skip
   have CR:=BI x wc
   rw[hk]at CR
   go_wp2_with fail
   refine(CR).mono ?_
   rintro e2 v1 ⟨rfl,o2⟩
   have m9:=(Ag.only0 P Q o2)
   have M:=M.trans m9
   have HC:=Aa (HC.out.only0 o2)
   have fe:=he.move M
   have fa:=ha.move M
   have ft:=ht.move M
   have fc:=hc.move M
   have ce:=fe.c0
   have ca:=fa.c0
   have ct:=ft.c0
   have cc:=fc.c0
   have cA:=HC.out.ca
   have cN:=HC.out.cn
   have fb:=fb.move m9
   first|have cb:=fb.c0|(have cb:=fb.d0;have db:=fb.d1)
   clear m9
   clear o2
   clear CR
   have fs:=An.new' HC.out (v1.heap.size) (by simp) 195 #[.int .i64 (3),.int .u64 (Br x)]
   have o9:=(Ac.refl (v1)).alloc (.cells #[.int .i64 (3),.int .u64 (Br x)] 195)
   have m9:=(Ag.only0 P Q o9)
   have M:=M.trans m9
   have HC:=Aa (HC.out.only0 o9)
   have fe:=he.move M
   have fa:=ha.move M
   have ft:=ht.move M
   have fc:=hc.move M
   have ce:=fe.c0
   have ca:=fa.c0
   have ct:=ft.c0
   have cc:=fc.c0
   have cA:=HC.out.ca
   have cN:=HC.out.cn
   have fb:=fb.move m9
   first|have cb:=fb.c0|(have cb:=fb.d0;have db:=fb.d1)
   clear m9
   first|have cs:=fs.c0|(have cs:=fs.d0;have ds:=fs.d1)
   clear o9
   go_wp2_with fail
   refine(JK HC.out l x).mono ?_
   rintro e9 w9 r9
   obtain⟨v9,rfl⟩:=r9.ret
   have HS:=Aa (r9.comp M (At.refl A S))
   clear r9
   go_wp2_with fail
   go_ret
   rw[HR.out,if_pos hk]
   exact HS.out
  ·by_cases hk2:BD x=2
   ·skip
    have CR:=BI x wc
    rw[hk2]at CR
    go_wp2_with fail
    refine(CR).mono ?_
    rintro e2 v2 ⟨rfl,o2⟩
    have m9:=(Ag.only0 P Q o2)
    have M:=M.trans m9
    have HC:=Aa (HC.out.only0 o2)
    have fe:=he.move M
    have fa:=ha.move M
    have ft:=ht.move M
    have fc:=hc.move M
    have ce:=fe.c0
    have ca:=fa.c0
    have ct:=ft.c0
    have cc:=fc.c0
    have cA:=HC.out.ca
    have cN:=HC.out.cn
    have fb:=fb.move m9
    first|have cb:=fb.c0|(have cb:=fb.d0;have db:=fb.d1)
    clear m9
    clear o2
    clear CR
    have fs:=An.new' HC.out (v2.heap.size) (by simp) 195 #[.int .i64 (2),.int .u64 (Br x)]
    have o9:=(Ac.refl (v2)).alloc (.cells #[.int .i64 (2),.int .u64 (Br x)] 195)
    have m9:=(Ag.only0 P Q o9)
    have M:=M.trans m9
    have HC:=Aa (HC.out.only0 o9)
    have fe:=he.move M
    have fa:=ha.move M
    have ft:=ht.move M
    have fc:=hc.move M
    have ce:=fe.c0
    have ca:=fa.c0
    have ct:=ft.c0
    have cc:=fc.c0
    have cA:=HC.out.ca
    have cN:=HC.out.cn
    have fb:=fb.move m9
    first|have cb:=fb.c0|(have cb:=fb.d0;have db:=fb.d1)
    clear m9
    first|have cs:=fs.c0|(have cs:=fs.d0;have ds:=fs.d1)
    clear o9
    have hrn:1≤Br x∧Br x≤65535:=FV hk2
    have ew:IntKind.i64.wrap (Br x)=Br x:=by rw[IntKind.wrap_i64];omega
    have fi:=An.new' HC.out (v2.heap.size+1) (by simp) 3 #[.int .i64 (Br x)]
    have o9:=(Ac.refl (v2.alloc (.cells #[.int .i64 (2),.int .u64 (Br x)] 195))).alloc (.cells #[.int .i64 (Br x)] 3)
    have m9:=(Ag.only0 P Q o9)
    have M:=M.trans m9
    have HC:=Aa (HC.out.only0 o9)
    have fe:=he.move M
    have fa:=ha.move M
    have ft:=ht.move M
    have fc:=hc.move M
    have ce:=fe.c0
    have ca:=fa.c0
    have ct:=ft.c0
    have cc:=fc.c0
    have cA:=HC.out.ca
    have cN:=HC.out.cn
    have fb:=fb.move m9
    first|have cb:=fb.c0|(have cb:=fb.d0;have db:=fb.d1)
    have fs:=fs.move m9
    first|have cs:=fs.c0|(have cs:=fs.d0;have ds:=fs.d1)
    clear m9
    first|have ci:=fi.c0|(have ci:=fi.d0;have di:=fi.d1)
    clear o9
    have HS:Hid (Ak B w P Q R A Ke S nx X1 (some (.own2 l x (Br x))) (.returned (.func (.func 176) #[] #[bp e,bp (v2.heap.size+1),bp t,bp c,bp a,bp b])) ((v2.alloc (.cells #[.int .i64 (2),.int .u64 (Br x)] 195)).alloc (.cells #[.int .i64 (Br x)] 3))):=Aa ⟨P,Q,A,S,_,rfl,HC.out,⟨e,v2.heap.size+1,t,c,a,b,rfl,fe,fi,ft,fc,fa,fb⟩,M,At.refl A S⟩
    go_wp2_with fail
    go_ret
    rw[HR.out,if_neg hk,if_pos hk2]
    exact HS.out
   ·have hk3:BD x=0∨BD x=1:=NV hk hk2
    have b3:(BD x==3)=false:=by simpa using hk
    have b2:(BD x==2)=false:=by simpa using hk2
    have CR:=BI x wc
    rw[show BD x=BD x from rfl]at CR
    go_wp2_with fail
    refine(CR).mono ?_
    rintro e2 v3 ⟨rfl,o2⟩
    have m9:=(Ag.only0 P Q o2)
    have M:=M.trans m9
    have HC:=Aa (HC.out.only0 o2)
    have fe:=he.move M
    have fa:=ha.move M
    have ft:=ht.move M
    have fc:=hc.move M
    have ce:=fe.c0
    have ca:=fa.c0
    have ct:=ft.c0
    have cc:=fc.c0
    have cA:=HC.out.ca
    have cN:=HC.out.cn
    have fb:=fb.move m9
    first|have cb:=fb.c0|(have cb:=fb.d0;have db:=fb.d1)
    clear m9
    clear o2
    clear CR
    have fs:=An.new' HC.out (v3.heap.size) (by simp) 195 #[.int .i64 (BD x),.int .u64 (Br x)]
    have o9:=(Ac.refl (v3)).alloc (.cells #[.int .i64 (BD x),.int .u64 (Br x)] 195)
    have m9:=(Ag.only0 P Q o9)
    have M:=M.trans m9
    have HC:=Aa (HC.out.only0 o9)
    have fe:=he.move M
    have fa:=ha.move M
    have ft:=ht.move M
    have fc:=hc.move M
    have ce:=fe.c0
    have ca:=fa.c0
    have ct:=ft.c0
    have cc:=fc.c0
    have cA:=HC.out.ca
    have cN:=HC.out.cn
    have fb:=fb.move m9
    first|have cb:=fb.c0|(have cb:=fb.d0;have db:=fb.d1)
    clear m9
    first|have cs:=fs.c0|(have cs:=fs.d0;have ds:=fs.d1)
    clear o9
    go_wp2_with fail
    refine(Dr HC.out 14 2).mono ?_
    rintro e9 w9 r9
    obtain⟨v9,rfl⟩:=r9.ret
    have HS:=Aa (r9.comp M (At.refl A S))
    clear r9
    go_wp2_with fail
    go_ret
    rw[HR.out,if_neg hk,if_neg hk2]
    exact HS.out
theorem Qi{B N:Nat}{w:World}{P Q R:Nat→Prop}{A:EA}{Ke:EK}{S:SA}{nx:Value}{X:Cx}(h:CX B w P Q R A Ke S nx X)(hN:Ax N X)(l x id:Int)(i0:0≤id)(i1:id≤65535){e i t c a b:Nat}(he:An w P Q R e 39 #[bp A.e])(hi:An w P Q R i 3 #[.int .i64 (id)])(ht:An w P Q R t 96 #[bp S.t])(hc:An w P Q R c 101 #[bp S.c])(ha:An w P Q R a 31 #[.int .u64 (l)])(hb:An w P Q R b 31 #[.int .u64 (x)]):
 Calls Tryz.prog 176 #[bp e,bp i,bp t,bp c,bp a,bp b] w (Ak B w P Q R A Ke S nx (Ay X (.own2 l x id)).1 (Ay X (.own2 l x id)).2):=by
 have HC0:=Aa h
 have HN:=Aa hN
 obtain⟨y,hy⟩:=Aq (X.sh.a.load (X.place id))
 obtain⟨y0,y1⟩:0≤y∧y<18446744073709551616:=by rw[←hy];exact AG hN.sh.word _
 obtain⟨X1,hX1⟩:=Aq (X.setA (X.sh.a.tick (X.place id)))
 have HR:Hid (Ay X (.own2 l x id)=(if y%8≠4 then(X1,some (.abort 14 2))else(X1,some (.claim l x)))):=Aa (by simp only[Ay,hy,hX1])
 have s1:0≤X.sh.slots:=by have:=hN.sh.n1;omega
 have s2:=hN.sh.n2
 have hpl:73+X.sh.slots*3+id=X.place id:=rfl
 clear h hN
 go_enter Tryz.func176,Tryz.ntmps176
 go_upto_region 1 with(fail)
 have HC:=Aa HC0.out.drew
 have M:=Ag.only0 P Q ((Ac.refl w).drew)
 have fe:=he.move M
 have fi:=hi.move M
 have ft:=ht.move M
 have fc:=hc.move M
 have fa:=ha.move M
 have fb:=hb.move M
 have ce:=fe.c0
 have ci:=fi.c0
 have ct:=ft.c0
 have cc:=fc.c0
 have ca:=fa.c0
 have cb:=fb.c0
 have cA:=HC.out.ca
 have cN:=HC.out.cn
 refine wp_region_held_drew (S:=(fun w'=>Ab w' e 0 (bp A.e)∧Ab w' i 0 (.int .i64 (id))∧Ab w' A.e 2 (bp A.a))) (by kernel_rfl) ?_ (fun hHeld=>?_)
 ·exact⟨ce,ci,cA⟩
 refine Af 0 (h:=Af 1 (h:=Af 2 (h:=Af 3 (h:=Af 4 (h:=Af 5 (h:=Ar (i:=6) (h:=fun K hK=>?_)))))))
 go_simp
 (refine(BS A.e X.sh.slots id _ cN s1 s2 i0 i1).mono ?_;rintro e1 w1 ⟨rfl,rfl⟩)
 try go_wp2_with fail
 refine AK hK (by exact⟨ce,ci,cA⟩) (h:=fun hHeld=>?_);clear hK K
 refine Ar (i:=7) (h:=fun K hK=>?_)
 try simp only[List.getElem_toArray,List.getElem_cons_zero,List.getElem_cons_succ]
 go_simp
 (refine(Bw HC.out _).mono ?_;rw[hy,hX1];rintro e1 w1 ⟨rfl,h1,m1⟩;have HC:=Aa h1;have M:=M.trans m1;clear h1;have fe:=he.move M;have fi:=hi.move M;have ft:=ht.move M;have fc:=hc.move M;have fa:=ha.move M;have fb:=hb.move M;have ce:=fe.c0;have ci:=fi.c0;have ct:=ft.c0;have cc:=fc.c0;have ca:=fa.c0;have cb:=fb.c0;have cA:=HC.out.ca;have cN:=HC.out.cn;skip)
 try go_wp2_with fail
 refine AK hK (by exact⟨ce,ci,cA⟩) (h:=fun hHeld=>?_);clear hK K
 refine Ar (i:=8) (h:=fun K hK=>?_)
 try simp only[List.getElem_toArray,List.getElem_cons_zero,List.getElem_cons_succ]
 go_simp
 (refine(Dn y _ y0 y1).mono ?_;rintro e1 w1 ⟨rfl,rfl⟩)
 try go_wp2_with fail
 refine AK hK (by exact⟨ce,ci,cA⟩) (h:=fun hHeld=>?_);clear hK K
 refine Af 9 (h:=Af 10 (h:=Af 11 (h:=Af 12 (h:=Af 13 (h:=?_)))))
 refine wpAnyH_done (by kernel_rfl) ?_ _
 skip
 by_cases hk:y%8=4
 ·skip
  go_wp2_with fail
  refine(JK HC.out l x).mono ?_
  rintro e9 w9 r9
  obtain⟨v9,rfl⟩:=r9.ret
  have HS:=Aa (r9.comp M (At.refl A S))
  clear r9
  go_wp2_with fail
  go_ret
  rw[HR.out,if_neg (by omega)]
  exact HS.out
 ·have b4:(y%8==4)=false:=by simpa using hk
  go_wp2_with fail
  refine(Dr HC.out 14 2).mono ?_
  rintro e9 w9 r9
  obtain⟨v9,rfl⟩:=r9.ret
  have HS:=Aa (r9.comp M (At.refl A S))
  clear r9
  go_wp2_with fail
  go_ret
  rw[HR.out,if_pos (by omega)]
  exact HS.out
end
section
structure Bi(X X':Cx):Prop where
 op:X'.c.op=X.c.op
 waits:X'.c.waits=X.c.waits
 over:X'.c.over=X.c.over
 ro:X'.c.r.over=X.c.r.over
 seq:X'.c.seq=X.c.seq
 slots:X'.sh.slots=X.sh.slots
 limit:X'.sh.limit=X.sh.limit
 a:X'.sh.a=X.sh.a
 id:X'.t.id=X.t.id
 level:X'.t.level=X.t.level
 s:X'.t.s=X.t.s
 beg:X'.t.beg=X.t.beg
 fin:X'.t.fin=X.t.fin
 ops:X'.t.ops=X.t.ops
theorem Bi.refl(X:Cx):Bi X X:=⟨rfl,rfl,rfl,rfl,rfl,rfl,rfl,rfl,rfl,rfl,rfl,rfl,rfl,rfl⟩
theorem Bi.trans{X Y Z:Cx}(h:Bi X Y)(k:Bi Y Z):Bi X Z:=
 ⟨k.op.trans h.op,k.waits.trans h.waits,k.over.trans h.over,k.ro.trans h.ro,k.seq.trans h.seq,k.slots.trans h.slots,k.limit.trans h.limit,k.a.trans h.a,k.id.trans h.id,k.level.trans h.level,k.s.trans h.s,k.beg.trans h.beg,k.fin.trans h.fin,k.ops.trans h.ops⟩
theorem Bi.read(X:Cx)(k:Nat)(l:Int)(g:Bool):Bi X (X.read k l g):=⟨rfl,rfl,rfl,rfl,rfl,rfl,rfl,rfl,rfl,rfl,rfl,rfl,rfl,rfl⟩
theorem Bi.tell(X:Cx)(n:Int)(k:Nat):Bi X (X.tell n k):=⟨rfl,rfl,rfl,rfl,rfl,rfl,rfl,rfl,rfl,rfl,rfl,rfl,rfl,rfl⟩
theorem Bi.setP(X:Cx)(p:AP):Bi X (X.setP p):=⟨rfl,rfl,rfl,rfl,rfl,rfl,rfl,rfl,rfl,rfl,rfl,rfl,rfl,rfl⟩
theorem Bi.setVal(X:Cx)(l:Int)(v:Nat×Int):Bi X (X.setVal l v):=⟨rfl,rfl,rfl,rfl,rfl,rfl,rfl,rfl,rfl,rfl,rfl,rfl,rfl,rfl⟩
theorem Bi.take(X:Cx)(k:Nat)(x:Dh):Bi X (X.take k x):=⟨rfl,rfl,rfl,rfl,rfl,rfl,rfl,rfl,rfl,rfl,rfl,rfl,rfl,rfl⟩
theorem Bi.setCell(X:Cx)(k:Nat)(x:Dh):Bi X (X.setCell k x):=⟨rfl,rfl,rfl,rfl,rfl,rfl,rfl,rfl,rfl,rfl,rfl,rfl,rfl,rfl⟩
theorem Bi.bind(X:Cx)(x:Int):Bi X (X.bind x):=by
 unfold Cx.bind;split
 ·exact Bi.refl X
 ·exact⟨rfl,rfl,rfl,rfl,rfl,rfl,rfl,rfl,rfl,rfl,rfl,rfl,rfl,rfl⟩
structure Dk(N:Nat)(X:Cx)(r:Cx×Da):Prop where
 fine:Ax N r.1
 stp:Bt r.1 r.2
 same:Bi X r.1
theorem Dk.trans{N:Nat}{X Y:Cx}{r:Cx×Da}(s:Bi X Y)(h:Dk N Y r):Dk N X r:=⟨h.fine,h.stp,s.trans h.same⟩
theorem Dk.mono{N M:Nat}{X:Cx}{r:Cx×Da}(h:Dk N X r)(hm:N≤M):Dk M X r:=⟨h.fine.mono hm,h.stp,h.same⟩
theorem JY{X:Cx}{i:Nat}(hi:i≤X.t.bonds.length):Bt X (Ga X.t i):=by
 unfold Ga
 split
 ·trivial
 ·next h=>exact Nat.lt_of_le_of_ne hi h
theorem Hl{N:Nat}{X:Cx}(h:Ax N X):∀n i,i+n=X.t.reads.length→Bt X (F7 X.t n i)
 |0,i,hi=>JY (Nat.zero_le _)
 |n+1,i,hi=>by
  unfold F7
  split
  ·refine⟨(show i<X.t.reads.length by omega),?_⟩
   refine h.tx.read _ ?_
   rw[List.getD_eq_getElem?_getD,List.getElem?_eq_getElem (by omega)]
   exact List.getElem_mem _
  ·exact Hl h n (i+1) (by omega)
theorem IG{N:Nat}{X:Cx}(h:Ax N X)(i:Nat)(hi:i≤X.t.reads.length):Bt X (Cc X.t i):=Hl h _ _ (by omega)
theorem Gs:∀(n N:Nat) (X:Cx) (key:Nat),Ax N X→X.c.r.over=0→Dk (N+n) X (De X n key)
 |0,N,X,key,h,ho=>⟨h,⟨ho,.inr rfl⟩,Bi.refl X⟩
 |n+1,N,X,key,h,ho=>by
  unfold De
  split
  ·exact⟨h.mono (by omega),⟨ho,.inr rfl⟩,Bi.refl X⟩
  ·next hk=>
   have hk2:key<64:=by have:=h.cl.hi;omega
   split
   ·split
    ·exact((Gs n (N+1) _ (key+1) (h.tell _ key) ho).mono (by omega)).trans (Bi.tell X _ _)
    ·exact(Gs n N X (key+1) h ho).mono (by omega)
   ·exact⟨h.mono (by omega),⟨hk2,hk2⟩,Bi.refl X⟩
theorem Io{N:Nat}{X:Cx}(h:Ax N X)(key:Nat)(ho:X.c.r.over=0):Dk (N+65) X (E8 X key):=(Gs (65-key) N X key h ho).mono (by omega)
theorem Im{N:Nat}{X:Cx}(h:Ax N X)(hN:256≤N)(x:Bool){l hd:Int}(hl:AM X.sh.slots l)(hh:AM X.sh.slots hd)(hx:x=true→(X.t.cells X.key).isSome):Dk N X (Di X x l hd):=by
 have hv:X.sh.vals.length≤256:=by have:=h.sh.vlen;have:=h.sh.n2;omega
 have hp:=h.sh.pl.take (by omega) hv
 unfold Di
 split
 ·split
  ·exact⟨h.setP hp.1,trivial,Bi.setP X _⟩
  ·next e=>
   have e0:X.sh.p.take.2.1=0:=by simpa using e
   refine⟨(h.setP hp.1).setVal _ _,⟨?_,hh,hx⟩,(Bi.setP X _).trans (Bi.setVal _ _ _)⟩
   have:=hp.2.1 e0
   rw[h.sh.vlen]at this
   exact this
 ·next e=>exact⟨h.setVal _ _,⟨⟨hl,e⟩,hh,hx⟩,Bi.setVal _ _ _⟩
theorem Nn{N:Nat}{X:Cx}(h:Ax N X)(l:Int):Dk (N+1) X (DA X l):=by
 unfold DA
 split
 ·exact⟨(h.mono (by omega)).setP (h.sh.pl.give l),trivial,Bi.setP X _⟩
 ·exact⟨h.mono (by omega),trivial,Bi.refl X⟩
theorem Ko{N:Nat}{X:Cx}(h:Ax N X)(hN:256≤N){l hd at_:Int}(hl:AM X.sh.slots l)(hh:AM X.sh.slots hd)(ha:AM X.sh.slots at_):Dk N X (DZ X l hd at_):=by
 unfold DZ
 split
 ·exact Im h hN false hl hh (fun e=>by cases e)
 ·next e=>exact⟨h,⟨hl,hh,ha,e⟩,Bi.refl X⟩
theorem MH{N:Nat}{X:Cx}(h:Ax N X)(hN:256≤N){x:Dh}(hx:X.t.cells X.key=some x):Dk N X (Cu X x):=by
 unfold Cu
 split
 ·exact⟨h,⟨rfl,.inl rfl⟩,Bi.refl X⟩
 ·split
  ·exact⟨h,⟨rfl,.inl rfl⟩,Bi.refl X⟩
  ·split
   ·exact Im h hN true (AM.zero _) (AM.zero _) (fun _=>by rw[hx];rfl)
   ·next e=>
    refine⟨h,⟨?_,x,hx,e⟩,Bi.refl X⟩
    split
    ·exact DR.mine (by have:=h.tx.id2;omega)
    ·exact DR.ever
theorem GS{N:Nat}{X:Cx}(h:Ax N X)(hN:256≤N)(ho:X.c.r.over=0){u:Cd}(hu:BE X u){l:Int}(hl:AM X.sh.slots l):Dk (N+70) X (Ca X u l):=by
 obtain⟨key,at_,thn⟩:=u
 obtain⟨ht,hk⟩:=hu
 unfold Ca
 cases thn with
 |get=>
  refine⟨(h.read hk _ _).mono (by omega),?_,Bi.read X _ _ _⟩
  show Bt _ (if l=0 then _ else _)
  by_cases e:l=0
  ·rw[if_pos e];exact⟨rfl,.inl rfl⟩
  ·rw[if_neg e];exact⟨rfl,.inl rfl⟩
 |scan ky=>
  have hky:ky<64:=ht
  show Dk _ X (E8 (if l≠0 then _ else _) (ky+1))
  split
  ·exact((Io ((h.read hky l false).tell (X.val l).2 ky) (ky+1) ho).mono (by omega)).trans ((Bi.read X _ _ _).trans (Bi.tell _ _ _))
  ·exact((Io (h.read hky l false) (ky+1) ho).mono (by omega)).trans (Bi.read X _ _ _)
 |change=>
  show Dk _ X (if _ then _ else _)
  split
  ·exact UO
  ·split
   ·exact UO
   ·split
    ·exact⟨h.mono (by omega),AM.zero _,Bi.refl X⟩
    ·next e=>exact⟨h.mono (by omega),⟨hl,e⟩,Bi.refl X⟩
 |judge i lk=>
  have hi:i<X.t.reads.length:=ht
  refine⟨h.mono (by omega),?_,Bi.refl X⟩
  show Bt X (if l≠lk then _ else _)
  by_cases e:l≠lk
  ·rw[if_pos e];trivial
  ·rw[if_neg e];exact IG h _ (by omega)
theorem Kg{N:Nat}{X:Cx}(h:Ax N X)(hN:256≤N)(ho:X.c.r.over=0){u:Cd}(hu:BE X u){l m:Int}(hl:BN X.sh.slots l)(hm:Ef m):Dk (N+70) X (Cy X u l m):=by
 unfold Cy
 split
 ·exact GS h hN ho hu hl.1
 ·exact⟨h.mono (by omega),⟨hu,hl,hm⟩,Bi.refl X⟩
theorem IM{N:Nat}{X:Cx}(h:Ax N X)(hN:256≤N)(ho:X.c.r.over=0){u:Cd}(hu:BE X u){l:Int}(hl:AM X.sh.slots l):Dk (N+70) X (CJ X u l):=by
 unfold CJ
 split
 ·exact GS h hN ho hu (AM.zero _)
 ·next e=>exact⟨h.mono (by omega),⟨hu,hl,e⟩,Bi.refl X⟩
theorem IU{N:Nat}{X:Cx}(h:Ax N X)(hN:256≤N)(ho:X.c.r.over=0):Dk (N+70) X (Cb X):=by
 have hk:=h.key
 unfold Cb
 split
 ·split
  ·next x hx=>
   refine⟨h.mono (by omega),?_,Bi.refl X⟩
   show Bt X (if x.there=true then _ else _)
   by_cases e:x.there=true
   ·rw[if_pos e];exact⟨rfl,.inl rfl⟩
   ·rw[if_neg e];exact⟨rfl,.inl rfl⟩
  ·exact⟨h.mono (by omega),⟨hk,hk⟩,Bi.refl X⟩
 ·split
  ·exact(Io h _ ho).mono (by omega)
  ·split
   ·exact⟨h.mono (by omega),trivial,Bi.refl X⟩
   ·split
    ·exact⟨h.mono (by omega),trivial,Bi.refl X⟩
    ·split
     ·next x hx=>exact(MH h hN hx).mono (by omega)
     ·exact⟨h.mono (by omega),⟨hk,hk⟩,Bi.refl X⟩
theorem Hy{N:Nat}{n:Int}{t:Dq}(h:Dy N n t):∀l:List Nat,(∀x,x∈Bs t l→Hq n x)∧(Bs t l).length≤3*l.length
 |[]=>⟨fun x hx=>(by cases hx),by simp[Bs]⟩
 |k::l=>by
  obtain⟨h1,h2⟩:=Hy h l
  have tm:DR (Es t.fin):=DR.time h.fin.1
  have z:DR 0:=⟨by omega,by omega⟩
  have sl:∀(y f:Int),BN n y→(f=0∨f=1)→Hq n ⟨Al y f,0,Es t.fin⟩:=fun y f hy hf=>by
   have:=hy.ix
   refine⟨⟨(A5 y).toNat,by omega,?_⟩,z,tm⟩
   show Al y f=_∨Al y f=_
   unfold Al
   omega
  unfold Bs
  refine⟨fun x hx=>?_,?_⟩
  ·rcases List.mem_append.1 hx with hx|hx
   ·cases hc:t.cells k with
    |none=>rw[hc]at hx;cases hx
    |some y=>
     rw[hc]at hx
     have hy:=h.cell k y hc
     rcases List.mem_append.1 hx with hx|hx
     ·split at hx
      ·next e=>
       rcases List.mem_cons.1 hx with e2|hx
       ·rw[e2];exact sl _ _ ⟨hy.2.1,e⟩ (.inl rfl)
       ·split at hx
        ·cases hx
        ·simp at hx;rw[hx];exact sl _ _ ⟨hy.2.1,e⟩ (.inr rfl)
      ·cases hx
     ·split at hx
      ·next e=>simp at hx;rw[hx];exact sl _ _ ⟨hy.2.2.1,e⟩ (.inr rfl)
      ·cases hx
   ·exact h1 x hx
  ·rw[List.length_append,List.length_cons]
   cases t.cells k with
   |none=>show([]:List Cs).length+_≤_;simp;omega
   |some y=>
    show(_++_:List Cs).length+_≤_
    rw[List.length_append]
    have a1:(if y.own≠0 then(⟨Al y.own 0,0,Es t.fin⟩:Cs)::(if y.there then[]else[⟨Al y.own 1,0,Es t.fin⟩])else[]).length≤2:=by
     split
     ·split<;>simp
     ·simp
    have a2:(if y.old≠0 then[(⟨Al y.old 1,0,Es t.fin⟩:Cs)]else[]).length≤1:=by split<;>simp
    omega
theorem IN{N:Nat}{n:Int}{t:Dq}(h:Dy N n t):∀l:List Nat,(∀x,x∈BM t l→Hq n x)∧(BM t l).length≤l.length
 |[]=>⟨fun x hx=>(by cases hx),by simp[BM]⟩
 |k::l=>by
  obtain⟨h1,h2⟩:=IN h l
  have sl:∀(y:Int),BN n y→Hq n ⟨Al y 1,BA t.id,Bj⟩:=fun y hy=>by
   have:=hy.ix
   refine⟨⟨(A5 y).toNat,by omega,?_⟩,DR.mine (by have:=h.id2;omega),DR.ever⟩
   show Al y 1=_∨Al y 1=_
   unfold Al
   omega
  unfold BM
  refine⟨fun x hx=>?_,?_⟩
  ·rcases List.mem_append.1 hx with hx|hx
   ·cases hc:t.cells k with
    |none=>rw[hc]at hx;cases hx
    |some y=>
     rw[hc]at hx
     have hy:=h.cell k y hc
     have hx:x∈(if y.old≠0 then[(⟨Al y.old 1,BA t.id,Bj⟩:Cs)]else[]):=hx
     split at hx
     ·next e=>simp at hx;rw[hx];exact sl _ ⟨hy.2.2.1,e⟩
     ·cases hx
   ·exact h1 x hx
  ·rw[List.length_append,List.length_cons]
   cases t.cells k with
   |none=>show([]:List Cs).length+_≤_;simp;omega
   |some y=>
    have a2:(if y.old≠0 then[(⟨Al y.old 1,BA t.id,Bj⟩:Cs)]else[]).length≤1:=by split<;>simp
    show(if y.old≠0 then[(⟨Al y.old 1,BA t.id,Bj⟩:Cs)]else[]).length+_≤_
    omega
end
section
structure AB(N:Nat)(X:Cx)(r:Cx×Option Da):Prop where
 fine:Ax (N+80) r.1
 next:∀k,r.2=some k→Bt r.1 k
 cnt:AZ X.sh.a r.1.sh.a
 op:r.1.c.op=X.c.op
 seq:r.1.c.seq=X.c.seq
 over1:r.2=none→r.1.c.over=true∧r.1.c.waits=X.c.waits∧(r.1.c.r.over=0∨r.1.c.r.over=3∨r.1.c.r.over=4)
 over2:r.2≠none→r.1.c.over=X.c.over∧r.1.c.r.over=X.c.r.over
 slots:r.1.sh.slots=X.sh.slots
 limit:r.1.sh.limit=X.sh.limit
 id:r.1.t.id=X.t.id
 level:r.1.t.level=X.t.level
 s:r.1.t.s=X.t.s
 beg:r.1.t.beg=X.t.beg
 ops:r.1.t.ops=X.t.ops
theorem AB.out{N M:Nat}{X:Cx}{a:AS}{r:Cx×Da}(hc:AZ X.sh.a a)(h:Dk M (X.setA a) r)(hM:M≤N+80):AB N X (r.1,some r.2):=by
 have s:=h.same
 refine⟨h.fine.mono hM,fun k e=>?_,?_,s.op,s.seq,fun e=>(by cases e),fun _=>⟨s.over,s.ro⟩,s.slots,s.limit,s.id,s.level,s.s,s.beg,s.ops⟩
 ·cases e;exact h.stp
 ·show AZ X.sh.a r.1.sh.a
  rw[s.a];exact hc
theorem AB.one{N:Nat}{X:Cx}{a:AS}{k:Da}(hc:AZ X.sh.a a)(h:Ax N (X.setA a))(hk:Bt (X.setA a) k):AB N X (X.setA a,some k):=
 AB.out (r:=(X.setA a,k)) hc ⟨h,hk,Bi.refl _⟩ (by omega)
theorem BE.bind{X:Cx}{u:Cd}(h:BE X u)(x:Int):BE (X.bind x) u:=by
 refine⟨?_,h.2⟩
 have h1:=h.1
 unfold BG at *
 split at h1
 all_goals first|exact h1|skip
 unfold Cx.bind
 split<;>exact h1
theorem Ax.hd{N:Nat}{X:Cx}(h:Ax N X){k:Nat}(hk:k<64):AM X.sh.slots (X.sh.a.load (9+k)):=by
 exact SP
theorem Ax.hd'{N:Nat}{X:Cx}(h:Ax N X):AM X.sh.slots (X.sh.a.load (9+X.c.op.key)):=by
 have:=h.cl.key
 have e:X.c.op.key=((X.c.op.key.toNat:Nat):Int):=by omega
 rw[e]
 exact h.hd (by omega)
theorem Ax.nx{N:Nat}{X:Cx}(h:Ax N X){l:Int}(hl:BN X.sh.slots l):AM X.sh.slots (X.sh.a.load (Al l 2)):=by
 have h1:=hl.ix
 have h2:=h.sh.vlen
 unfold AS.load
 split
 ·rw[show(Al l 2).toNat=73+(A5 l).toNat*3+2 by unfold Al;omega];exact h.sh.next _ (by omega)
 ·exact AM.zero _
theorem Ef.rd{w:Int}(h:BD w=2):Ef (Br w):=by have:=FV h;exact⟨by omega,this.2⟩
theorem Ef.zero:Ef 0:=⟨by omega,by omega⟩
theorem Ax.setT{N:Nat}{X:Cx}(h:Ax N X){t:Dq}(ht:Dy N X.sh.slots t):Ax N (X.setT t):=⟨h.sh,ht,h.cl⟩
theorem Ax.setC{N:Nat}{X:Cx}(h:Ax N X){c:Cw}(hc:EG N c):Ax N (X.setC c):=⟨h.sh,h.tx,hc⟩
theorem Lw{N:Nat}{X:Cx}(h:Ax N X)(hN:256≤N)(hN2:N≤30000000)(ho:X.c.r.over=0){k:Da}(hk:Bt X k):AB N X (Ay X k):=by
 have n0:0≤X.sh.slots:=by have:=h.sh.n1;omega
 have tk:=fun i=>h.tick i
 have hid:Ef X.t.id:=⟨by have:=h.tx.id1;omega,by have:=h.tx.id2;omega⟩
 cases k with
 |draw=>
  have w:=h.load 0
  have l2:=h.sh.l2
  show AB N X (let w:=X.sh.a.load 0;let X1:=X.setA (X.sh.a.tick 0);if X.sh.limit≤w/65536 then(X1,some (.abort 14 6))else if w%65536=0 then(X1,some (.turn w (w/65536)))else(X1,some (.help w (w/65536))))
  dsimp only
  split
  ·exact AB.one (AZ.tick _ _) (tk _) trivial
  ·have ht:Gp (X.sh.a.load 0/65536):=by unfold Gp;unfold DR at w;omega
   split
   ·exact AB.one (AZ.tick _ _) (tk _) ⟨w,ht⟩
   ·exact AB.one (AZ.tick _ _) (tk _) ⟨w,ht⟩
 |help w now=>exact AB.one (AZ.cas _ _ _ _) (h.helpW hk.1) hk
 |turn w now=>
  have hc:Bv X.sh.slots 0 (Bp (now+1) X.t.id):=Bv.low (by omega) (by
   have h2:=hk.2
   unfold Gp at h2;unfold Ef at hid;unfold DR Bp;omega)
  show AB N X (if X.sh.a.casOk 0 w then(((X.setA (X.sh.a.cas 0 w (Bp (now+1) X.t.id))).setT {X.t with fin:=now+1}).ev (.mk3 3 X.t.id (now+1)),some .helped)else(X.setA (X.sh.a.cas 0 w (Bp (now+1) X.t.id)),some .draw))
  have hcas:=h.cas (o:=w) hc
  split
  ·have T:=h.tx
   have hf:=(hcas.setT (t:={X.t with fin:=now+1}) ⟨T.id1,T.id2,T.lv,T.s1,T.beg,by have h2:=hk.2;unfold Gp at h2;show 0≤now+1∧now+1≤_;omega,T.klen,T.rlen,T.blen,T.keys,T.cell,T.read,T.bond⟩).ev (.mk3 3 X.t.id (now+1))
   exact⟨hf.mono (by omega),fun k e=>(by cases e;trivial),AZ.cas _ _ _ _,rfl,rfl,fun e=>(by cases e),fun _=>⟨rfl,rfl⟩,rfl,rfl,rfl,rfl,rfl,rfl,rfl⟩
  ·exact AB.one (AZ.cas _ _ _ _) hcas trivial
 |helped=>
  have hw:DR (Bp X.t.fin X.t.id):=by
   have h2:=h.tx.fin
   unfold Ef at hid;unfold DR Bp;omega
  have hf:=h.helpW hw
  exact AB.one (AZ.cas _ _ _ _) hf (IG hf 0 (Nat.zero_le _))
 |start u=>exact AB.out (AZ.tick _ _) (IM (tk _) hN ho hk (h.hd hk.2)) (by omega)
 |visit u l=>
  have hw:=h.load (Al l 0)
  show AB N X (let w:=X.sh.a.load (Al l 0);let X1:=X.setA (X.sh.a.tick (Al l 0));if BD w=1∧Br w≤u.at_ then(X1,some (.ended u l 0))else if BD w≠2∨Br w=X.t.id then(X1,some (.older u l))else(X1,some (.maker u l (Br w))))
  dsimp only
  split
  ·exact AB.one (AZ.tick _ _) (tk _) ⟨hk.1,hk.2,Ef.zero⟩
  ·split
   ·exact AB.one (AZ.tick _ _) (tk _) hk
   ·next e=>
    have e2:BD (X.sh.a.load (Al l 0))=2:=by
     by_cases e3:BD (X.sh.a.load (Al l 0))=2
     ·exact e3
     ·exact absurd (.inl e3) e
    exact AB.one (AZ.tick _ _) (tk _) ⟨hk.1,hk.2,Ef.rd e2⟩
 |older u l=>exact AB.out (AZ.tick _ _) (IM (tk _) hN ho hk.1 (h.nx hk.2)) (by omega)
 |maker u l id=>
  show AB N X (let w:=X.sh.a.load (X.place id);let X1:=X.setA (X.sh.a.tick (X.place id));if w/8=0∨u.at_<w/8∨w%8=4 then(X1,some (.older u l))else if w%8=2 then(X1,some (.ended u l id))else(X1,some (.ended u l 0)))
  dsimp only
  split
  ·exact AB.one (AZ.tick _ _) (tk _) ⟨hk.1,hk.2.1⟩
  ·split
   ·exact AB.one (AZ.tick _ _) (tk _) ⟨hk.1,hk.2.1,hk.2.2⟩
   ·exact AB.one (AZ.tick _ _) (tk _) ⟨hk.1,hk.2.1,Ef.zero⟩
 |ended u l m=>
  show AB N X (let w:=X.sh.a.load (Al l 1);let X1:=X.setA (X.sh.a.tick (Al l 1));if BD w=1∧Br w≤u.at_ then(X1,some (.older u l))else if BD w≠2∨Br w=X.t.id then((Cy X1 u l m).1,some (Cy X1 u l m).2)else(X1,some (.ender u l m (Br w))))
  dsimp only
  split
  ·exact AB.one (AZ.tick _ _) (tk _) ⟨hk.1,hk.2.1⟩
  ·split
   ·exact AB.out (AZ.tick _ _) (Kg (tk _) hN ho hk.1 hk.2.1 hk.2.2) (by omega)
   ·next e=>
    have e2:BD (X.sh.a.load (Al l 1))=2:=by
     by_cases e3:BD (X.sh.a.load (Al l 1))=2
     ·exact e3
     ·exact absurd (.inl e3) e
    exact AB.one (AZ.tick _ _) (tk _) ⟨hk.1,hk.2.1,hk.2.2,Ef.rd e2⟩
 |ender u l m id=>
  show AB N X (let w:=X.sh.a.load (X.place id);let X1:=X.setA (X.sh.a.tick (X.place id));if w/8=0∨u.at_<w/8∨w%8=4 then((Cy X1 u l m).1,some (Cy X1 u l m).2)else if w%8=2 then(X1.bind id,some (.older u l))else(X1,some (.older u l)))
  dsimp only
  split
  ·exact AB.out (AZ.tick _ _) (Kg (tk _) hN ho hk.1 hk.2.1 hk.2.2.1) (by omega)
  ·split
   ·have hb:=(tk (X.place id)).bind hk.2.2.2.1 hk.2.2.2.2
    have hu1:BE (X.setA (X.sh.a.tick (X.place id))) u:=hk.1
    have hl1:BN ((X.setA (X.sh.a.tick (X.place id))).bind id).sh.slots l:=by rw[(Bi.bind _ id).slots];exact hk.2.1
    have ho1:Dk (N+1) (X.setA (X.sh.a.tick (X.place id))) ((X.setA (X.sh.a.tick (X.place id))).bind id,.older u l):=⟨hb,⟨hu1.bind id,hl1⟩,Bi.bind _ _⟩
    exact AB.out (AZ.tick _ _) ho1 (by omega)
   ·exact AB.one (AZ.tick _ _) (tk _) ⟨hk.1,hk.2.1⟩
 |seen u l m=>
  show AB N X (let w:=X.sh.a.load (X.place m);let X1:=X.setA (X.sh.a.tick (X.place m));if w%8=4 then(X1,some (.start u))else if w%8=2 then((Ca (X1.bind m) u l).1,some (Ca (X1.bind m) u l).2)else((Ca X1 u l).1,some (Ca X1 u l).2))
  dsimp only
  split
  ·exact AB.one (AZ.tick _ _) (tk _) hk.1
  ·split
   ·have hb:=(tk (X.place m)).bind hk.2.2.1 hk.2.2.2
    have hs:=Bi.bind (X.setA (X.sh.a.tick (X.place m))) m
    have hu1:BE (X.setA (X.sh.a.tick (X.place m))) u:=hk.1
    exact AB.out (AZ.tick _ _) ((GS hb (by omega) (hs.ro.trans ho) (hu1.bind m) (by rw[hs.slots];exact hk.2.1.1)).trans hs) (by omega)
   ·exact AB.out (AZ.tick _ _) (GS (tk _) hN ho hk.1 hk.2.1.1) (by omega)
 |wait i=>
  have hi:i<X.t.bonds.length:=hk
  show AB N X (let w:=X.sh.a.load (X.place (X.t.bonds.getD i 0));let X1:=X.setA (X.sh.a.tick (X.place (X.t.bonds.getD i 0)));if w%8=3 then(X1,some (Ga X.t (i+1)))else if w%8=4 then(X1,some (.abort 14 4))else(X1.setC {X.c with waits:=true},some (.wait i)))
  dsimp only
  split
  ·exact AB.one (AZ.tick _ _) (tk _) (JY (X:=X.setA _) (show i+1≤X.t.bonds.length by omega))
  ·split
   ·exact AB.one (AZ.tick _ _) (tk _) trivial
   ·have C:=h.cl
    have hf:=(tk (X.place (X.t.bonds.getD i 0))).setC (c:={X.c with waits:=true}) ⟨C.key,C.hi,C.val,C.plen⟩
    exact⟨hf.mono (by omega),fun k e=>(by cases e;exact hi),AZ.tick _ _,rfl,rfl,fun e=>(by cases e),fun _=>⟨rfl,rfl⟩,rfl,rfl,rfl,rfl,rfl,rfl,rfl⟩
 |commit=>
  have hp:=h.store (i:=X.place X.t.id) (v:=Bc 3 X.t.fin) (Bv.place n0 hid.1 (DR.pack (by omega) (by omega) h.tx.fin.1 (by have:=h.tx.fin.2;omega)))
  have ht:=Hy h.tx X.t.keys
  have hl:=h.tx.klen
  have hf:=hp.over (.mk3 5 X.t.id 0)
  have hs:∀Y:Cx,∀e,(Y.over e).c=Y.c∧(Y.over e).sh.slots=Y.sh.slots∧(Y.over e).sh.limit=Y.sh.limit∧(Y.over e).sh.a=Y.sh.a∧(Y.over e).t.id=Y.t.id∧(Y.over e).t.level=Y.t.level∧(Y.over e).t.s=Y.t.s∧(Y.over e).t.beg=Y.t.beg∧(Y.over e).t.ops=Y.t.ops:=fun Y e=>by
   exact So
  obtain⟨s1,s2,s3,s4,s5,s6,s7,s8,s9⟩:=hs (X.setA (X.sh.a.store (X.place X.t.id) (Bc 3 X.t.fin))) (.mk3 5 X.t.id 0)
  refine⟨hf.mono (by omega),fun k e=>?_,?_,?_,?_,fun e=>(by cases e),fun _=>⟨?_,?_⟩,s2,s3,s5,s6,s7,s8,s9⟩
  ·cases e
   refine⟨fun x hx=>?_,by omega,.inl rfl,rfl⟩
   rw[show(Ay X .commit).1.sh.slots=X.sh.slots from s2]
   exact ht.1 x hx
  ·exact Uc
  ·show(Cx.over _ _).c.op=_
   rw[s1];rfl
  ·show(Cx.over _ _).c.seq=_
   rw[s1];rfl
  ·show(Cx.over _ _).c.over=_
   rw[s1];rfl
  ·show(Cx.over _ _).c.r.over=_
   rw[s1];rfl
 |abort er re=>
  have hp:=h.store (i:=X.place X.t.id) (v:=Bc 4 X.t.fin) (Bv.place n0 hid.1 (DR.pack (by omega) (by omega) h.tx.fin.1 (by have:=h.tx.fin.2;omega)))
  have ht:=IN h.tx X.t.keys
  have hl:=h.tx.klen
  have hf:=hp.over ⟨6,X.t.id,0,⟨0,0,0,0⟩,⟨0,0,[],0,re⟩⟩
  have hs:∀Y:Cx,∀e,(Y.over e).c=Y.c∧(Y.over e).sh.slots=Y.sh.slots∧(Y.over e).sh.limit=Y.sh.limit∧(Y.over e).sh.a=Y.sh.a∧(Y.over e).t.id=Y.t.id∧(Y.over e).t.level=Y.t.level∧(Y.over e).t.s=Y.t.s∧(Y.over e).t.beg=Y.t.beg∧(Y.over e).t.ops=Y.t.ops:=fun Y e=>by
   exact So
  obtain⟨s1,s2,s3,s4,s5,s6,s7,s8,s9⟩:=hs (X.setA (X.sh.a.store (X.place X.t.id) (Bc 4 X.t.fin))) ⟨6,X.t.id,0,⟨0,0,0,0⟩,⟨0,0,[],0,re⟩⟩
  refine⟨hf.mono (by omega),fun k e=>?_,?_,?_,?_,fun e=>(by cases e),fun _=>⟨?_,?_⟩,s2,s3,s5,s6,s7,s8,s9⟩
  ·cases e
   refine⟨fun x hx=>?_,by omega,.inr rfl,rfl⟩
   rw[show(Ay X (.abort er re)).1.sh.slots=X.sh.slots from s2]
   exact ht.1 x hx
  ·exact Uc
  ·show(Cx.over _ _).c.op=_
   rw[s1];rfl
  ·show(Cx.over _ _).c.seq=_
   rw[s1];rfl
  ·show(Cx.over _ _).c.over=_
   rw[s1];rfl
  ·show(Cx.over _ _).c.r.over=_
   rw[s1];rfl
 |turns l r=>
  obtain⟨h1,h2,h3,h4⟩:=hk
  cases l with
  |nil=>
   have hp:=h.store (i:=1+X.t.s) (v:=0) (Bv.low (by have:=h.tx.s1;omega) ⟨by omega,by omega⟩)
   exact⟨(hp.finish r (.inl h4)).mono (by omega),fun k e=>(by cases e),AZ.store _ _ _,rfl,rfl,fun _=>⟨rfl,rfl,.inr h3⟩,fun e=>absurd rfl e,rfl,rfl,rfl,rfl,rfl,rfl,rfl⟩
  |cons x l=>
   have hx:=h1 x (List.mem_cons_self ..)
   have hpt:Bv X.sh.slots x.at_ x.new:=by
    obtain⟨⟨i,hi,e⟩,_,hn⟩:=hx
    exact⟨hn,fun k hk e2=>by omega,fun j hj e2=>by omega⟩
   have hst:Bt X (.turns l r):=⟨fun y hy=>h1 y (List.mem_cons_of_mem _ hy),by rw[List.length_cons]at h2;omega,h3,h4⟩
   show AB N X (X.setA (if x.old=0 then X.sh.a.store x.at_ x.new else X.sh.a.cas x.at_ x.old x.new),some (.turns l r))
   split
   ·exact AB.one (AZ.store _ _ _) (h.store hpt) hst
   ·exact AB.one (AZ.cas _ _ _ _) (h.cas hpt) hst
 |ends r=>
  exact⟨(h.finish r hk.2).mono (by omega),fun k e=>(by cases e),.inl rfl,rfl,rfl,fun _=>⟨rfl,rfl,.inl hk.1⟩,fun e=>absurd rfl e,rfl,rfl,rfl,rfl,rfl,rfl,rfl⟩
 |again fin=>
  obtain⟨hw,x,hx,hx0⟩:=hk
  have hcl:=h.tx.cell _ _ hx
  have hln:BN X.sh.slots x.own:=⟨hcl.2.1,hx0⟩
  have hp:=h.store (Bv.slot hln (.inr rfl) hw)
  have hc:=hp.setCell (x:={x with there:=decide (X.c.op.kind≠4)}) hcl.2.1 hcl.2.2.1 (fun _=>hx0) X.key h.key
  have e:Ay X (.again fin)=(if X.c.op.kind≠4 then((X.setA (X.sh.a.store (Al x.own 1) fin)).setCell X.key {x with there:=decide (X.c.op.kind≠4)}).setVal x.own ((X.val x.own).1,X.c.op.value)else(X.setA (X.sh.a.store (Al x.own 1) fin)).setCell X.key {x with there:=decide (X.c.op.kind≠4)},some (.ends .zero)):=by
   simp only[Ay,hx]
  rw[e]
  split
  ·exact AB.out (r:=(_,_)) (a:=X.sh.a.store (Al x.own 1) fin) (AZ.store _ _ _) ⟨hc.setVal _ _,⟨rfl,.inl rfl⟩,(Bi.setCell _ _ _).trans (Bi.setVal _ _ _)⟩ (by omega)
  ·exact AB.out (r:=(_,_)) (a:=X.sh.a.store (Al x.own 1) fin) (AZ.store _ _ _) ⟨hc,⟨rfl,.inl rfl⟩,Bi.setCell _ _ _⟩ (by omega)
 |own l=>
  have hw:=h.load (Al l 1)
  show AB N X (let w:=X.sh.a.load (Al l 1);let X1:=X.setA (X.sh.a.tick (Al l 1));if BD w=3 then(X1,some (.claim l w))else if BD w=2 then(X1,some (.own2 l w (Br w)))else(X1,some (.abort 14 2)))
  dsimp only
  split
  ·exact AB.one (AZ.tick _ _) (tk _) ⟨hk,hw⟩
  ·split
   ·next e=>exact AB.one (AZ.tick _ _) (tk _) ⟨hk,hw,Ef.rd e⟩
   ·exact AB.one (AZ.tick _ _) (tk _) trivial
 |own2 l w id=>
  show AB N X (let x:=X.sh.a.load (X.place id);let X1:=X.setA (X.sh.a.tick (X.place id));if x%8≠4 then(X1,some (.abort 14 2))else(X1,some (.claim l w)))
  dsimp only
  split
  ·exact AB.one (AZ.tick _ _) (tk _) trivial
  ·exact AB.one (AZ.tick _ _) (tk _) ⟨hk.1,hk.2.1⟩
 |claim l w=>
  have hcas:=h.cas (o:=w) (Bv.slot hk.1 (.inr rfl) (DR.mine hid.2))
  have htk:=hcas.take (x:=⟨0,l,false⟩) (AM.zero _) hk.1.1 (fun e=>by cases e) X.key h.key
  show AB N X (let X1:=X.setA (X.sh.a.cas (Al l 1) w (BA X.t.id));if X.sh.a.casOk (Al l 1) w then(if X.c.op.kind=4 then(X1.take X.key ⟨0,l,false⟩,some (.ends .zero))else let r:=Di (X1.take X.key ⟨0,l,false⟩) true 0 0;(r.1,some r.2))else(X1,some (.own l)))
  dsimp only
  split
  ·split
   ·exact UY
   ·refine AB.out (M:=N+1) (AZ.cas _ _ _ _) ((Im htk (by omega) true (AM.zero _) (AM.zero _) (fun _=>?_)).trans (Bi.take _ _ _)) (by omega)
    show(AT X.t.cells X.key _ X.key).isSome
    rw[Au];rfl
  ·exact AB.one (AZ.cas _ _ _ _) hcas hk.1
 |fresh l=>exact AB.out (AZ.tick _ _) (Ko (tk _) hN hk h.hd' h.hd') (by omega)
 |free1 l hd at_=>
  show AB N X (let w:=X.sh.a.load (Al at_ 0);let X1:=X.setA (X.sh.a.tick (Al at_ 0));if BD w=1∧Br w≤X.t.beg then(X1,some (.freeN l hd at_))else if BD w≠2 then let r:=DA X1 l;(r.1,some r.2)else(X1,some (.free2 l hd at_ (Br w))))
  dsimp only
  split
  ·exact AB.one (AZ.tick _ _) (tk _) hk
  ·split
   ·exact Tg
   ·next e=>exact AB.one (AZ.tick _ _) (tk _) ⟨hk.1,hk.2.1,hk.2.2,Ef.rd (by simpa using e)⟩
 |free2 l hd at_ id=>
  show AB N X (let w:=X.sh.a.load (X.place id);let X1:=X.setA (X.sh.a.tick (X.place id));if w%8=4∨0<w/8∧w/8≤X.t.beg then(X1,some (.freeN l hd at_))else let r:=DA X1 l;(r.1,some r.2))
  dsimp only
  split
  ·exact AB.one (AZ.tick _ _) (tk _) ⟨hk.1,hk.2.1,hk.2.2.1⟩
  ·exact Tg
 |freeN l hd at_=>exact AB.out (AZ.tick _ _) (Ko (tk _) hN hk.1 hk.2.1 (h.nx hk.2.2)) (by omega)
 |slot1 x l hd=>exact AB.one (AZ.store _ _ _) (h.store (Bv.slot hk.1 (.inl rfl) (DR.mine hid.2))) hk
 |slot2 x l hd=>
  refine AB.one (AZ.store _ _ _) (h.store (Bv.slot hk.1 (.inr rfl) DR.ever)) ?_
  cases x
  ·exact⟨hk.1,hk.2.1⟩
  ·exact⟨hk.1,hk.2.2 rfl⟩
 |push1 l hd=>exact AB.one (AZ.store _ _ _) (h.store (Bv.slot2 hk.1 hk.2)) hk
 |push2 l hd=>
  have hcas:=h.cas (o:=hd) (Bv.hd9 (k:=X.c.op.key) hk.1.1)
  have htk:=hcas.take (x:=⟨l,0,true⟩) hk.1.1 (AM.zero _) (fun _=>hk.1.2) X.key h.key
  show AB N X (let X1:=X.setA (X.sh.a.cas (9+X.c.op.key) hd l);if X.sh.a.casOk (9+X.c.op.key) hd then(X1.take X.key ⟨l,0,true⟩,some (.ends .zero))else(X1,some (.fresh l)))
  dsimp only
  split
  ·exact UY
  ·exact AB.one (AZ.cas _ _ _ _) hcas hk.1.1
 |over1 l=>exact AB.one (AZ.tick _ _) (tk _) ⟨hk.1,h.hd',hk.2⟩
 |over2 l hd=>exact AB.one (AZ.store _ _ _) (h.store (Bv.slot2 hk.1 hk.2.1)) hk
 |over3 l hd=>
  obtain⟨hl,hh,hs⟩:=hk
  obtain⟨x,hx⟩:=Option.isSome_iff_exists.1 hs
  have hcas:=h.cas (o:=hd) (Bv.hd9 (k:=X.c.op.key) hl.1)
  have hcl:=h.tx.cell _ _ hx
  have e:Ay X (.over3 l hd)=(if X.sh.a.casOk (9+X.c.op.key) hd then((X.setA (X.sh.a.cas (9+X.c.op.key) hd l)).setCell X.key ⟨l,x.old,true⟩,some (.ends .zero))else(X.setA (X.sh.a.cas (9+X.c.op.key) hd l),some (.over1 l))):=by
   simp only[Ay,hx]
  rw[e]
  split
  ·exact AB.out (r:=(_,_)) (M:=N) (a:=X.sh.a.cas (9+X.c.op.key) hd l) (AZ.cas _ _ _ _) ⟨hcas.setCell (x:=⟨l,x.old,true⟩) hl.1 hcl.2.2.1 (fun _=>hl.2) X.key h.key,⟨rfl,.inl rfl⟩,Bi.setCell _ _ _⟩ (by omega)
  ·exact AB.one (AZ.cas _ _ _ _) hcas ⟨hl,hs⟩
end
section
structure EF(w w':World)(P Q R P' Q' R':Nat→Prop):Prop where
 size:w.heap.size≤w'.heap.size
 far:∀g,g<w.heap.size→¬P g→¬Q g→¬R g→(¬P' g∧¬Q' g∧¬R' g)∧w'.heap[g]? =w.heap[g]?
section
variable {w w':World} {P Q R P' Q' R':Nat→Prop} {A A':EA} {S:SA} {X X':Cx}
theorem An.pass{b:Nat}{t:TypeId}{cs:Array Value}(h:An w P Q R b t cs)(p:EF w w' P Q R P' Q' R'):An w' P' Q' R' b t cs:=by
 obtain⟨⟨a1,a2,a3⟩,a4⟩:=p.far b h.1.lt h.2.1 h.2.2.1 h.2.2.2
 exact⟨(show w'.heap[b]? =_ from a4.trans h.1),a1,a2,a3⟩
theorem bE.pass{b:Nat}(h:bE w P Q R A b)(p:EF w w' P Q R P' Q' R')(e:A'.e=A.e):bE w' P' Q' R' A' b:=by unfold bE at *;rw[e];exact h.pass p
theorem bT.pass{b:Nat}(h:bT w P Q R S b)(p:EF w w' P Q R P' Q' R'):bT w' P' Q' R' S b:=An.pass h p
theorem bC.pass{b:Nat}(h:bC w P Q R S b)(p:EF w w' P Q R P' Q' R'):bC w' P' Q' R' S b:=An.pass h p
theorem bU.pass{b:Nat}{v:Int}(h:bU w P Q R b v)(p:EF w w' P Q R P' Q' R'):bU w' P' Q' R' b v:=An.pass h p
theorem bI.pass{b:Nat}{v:Int}(h:bI w P Q R b v)(p:EF w w' P Q R P' Q' R'):bI w' P' Q' R' b v:=An.pass h p
theorem bN.pass{b:Nat}{v:Int}(h:bN w P Q R b v)(p:EF w w' P Q R P' Q' R'):bN w' P' Q' R' b v:=An.pass h p
theorem bX.pass{b:Nat}{k:Option Nat}(h:bX w P Q R S b k)(p:EF w w' P Q R P' Q' R'):bX w' P' Q' R' S b k:=An.pass h p
theorem bR.pass{b:Nat}{r:Dt}(h:bR w P Q R S X b r)(p:EF w w' P Q R P' Q' R')(hX:X'.c=X.c):bR w' P' Q' R' S X' b r:=by
 obtain⟨pa,pc,h1,h2⟩:=h
 exact⟨pa,pc,h1.pass p,by rw[hX];exact h2⟩
theorem bH.pass{b:Nat}{x:Bool}{hd:Int}(h:bH w P Q R b x hd)(p:EF w w' P Q R P' Q' R'):bH w' P' Q' R' b x hd:=by
 rcases h with⟨h1,h2⟩|⟨h1,g,h2,h3⟩
 ·exact .inl ⟨h1,h2.pass p⟩
 ·exact .inr ⟨h1,g,h2.pass p,h3.pass p⟩
theorem Co.pass{a:Option Addr}{l:List Cs}(h:Co w P Q R a l)(p:EF w w' P Q R P' Q' R'):Co w' P' Q' R' a l:=by
 rcases h with h|⟨g,off,h1,h2,h3,h4,h5,h6⟩
 ·exact .inl h
 ·obtain⟨⟨a1,a2,a3⟩,a4⟩:=p.far g h5 h2 h3 h4
  exact .inr ⟨g,off,h1,a1,a2,a3,Nat.lt_of_lt_of_le h5 p.size,fun i hi=>⟨(World.cell?_of_block a4).trans (h6 i hi).1,(World.cell?_of_block a4).trans (h6 i hi).2.1,(World.cell?_of_block a4).trans (h6 i hi).2.2⟩⟩
theorem bL.pass{b:Nat}{l:List Cs}(h:bL w P Q R b l)(p:EF w w' P Q R P' Q' R'):bL w' P' Q' R' b l:=by
 obtain⟨a,c,h1,h2,h3,h4⟩:=h
 exact⟨a,c,h1.pass p,h2,h3,h4.pass p⟩
theorem FY.pass{key:Nat}{t:Rz}{v:Value}(h:FY w P Q R A S key t v)(p:EF w w' P Q R P' Q' R')(e:A'.e=A.e):FY w' P' Q' R' A' S key t v:=by
 cases t with
 |get=>obtain⟨t,ky,ee,c,h1,h2,h3,h4,h5⟩:=h;exact⟨t,ky,ee,c,h1,h2.pass p,h3.pass p,h4.pass p e,h5.pass p⟩
 |scan ky=>obtain⟨t,y,f,ee,c,tc,tk,h1,h2,h3,h4,h5,h6,h7,h8⟩:=h;exact⟨t,y,f,ee,c,tc,tk,h1,h2.pass p,h3.pass p,h4.pass p,h5.pass p,h6.pass p,h7.pass p e,h8.pass p⟩
 |change=>obtain⟨c,t,y,ee,h1,h2,h3,h4,h5⟩:=h;exact⟨c,t,y,ee,h1,h2.pass p,h3.pass p,h4.pass p,h5.pass p e⟩
 |judge i l=>obtain⟨r,ee,t,c,ky,y,g,h1,h2,h3,h4,h5,h6⟩:=h;exact⟨r,ee,t,c,ky,y,g,h1,h2.pass p,h3.pass p e,h4.pass p,h5.pass p,h6.pass p⟩
theorem CH.pass{h:Nat}{u:Cd}(H:CH w P Q R A S h u)(p:EF w w' P Q R P' Q' R')(e:A'.e=A.e):CH w' P' Q' R' A' S h u:=by
 obtain⟨v,h1,h2⟩:=H
 refine⟨v,?_,h2.pass p e⟩
 rw[e];exact h1.pass p
theorem Lz.pass{b:Nat}{u:Cd}(H:Lz w P Q R A S b u)(p:EF w w' P Q R P' Q' R')(e:A'.e=A.e):Lz w' P' Q' R' A' S b u:=by
 obtain⟨h,h1,h2⟩:=H
 exact⟨h,h1.pass p,h2.pass p e⟩
theorem BP.pass{k:Da}{v:Value}(h:BP w P Q R A S X k v)(p:EF w w' P Q R P' Q' R')(e:A'.e=A.e)(hX:X'.c=X.c):BP w' P' Q' R' A' S X' k v:=by
 have hk:X'.key=X.key:=by unfold Cx.key;rw[hX]
 cases k with
 |draw=>obtain⟨y0,y1,y2,q0,q1,q2,q3⟩:=h;exact⟨y0,y1,y2,q0,q1.pass p e,q2.pass p,q3.pass p⟩
 |turn z0 z1=>obtain⟨y0,y1,y2,y3,y4,q0,q1,q2,q3,q4,q5⟩:=h;exact⟨y0,y1,y2,y3,y4,q0,q1.pass p e,q2.pass p,q3.pass p,q4.pass p,q5.pass p⟩
 |helped=>obtain⟨y0,y1,y2,q0,q1,q2,q3⟩:=h;exact⟨y0,y1,y2,q0,q1.pass p e,q2.pass p,q3.pass p⟩
 |help z0 z1=>obtain⟨y0,y1,y2,y3,y4,y5,y6,y7,q0,q1,q2,q3,q4,q5,q6,q7,q8⟩:=h;exact⟨y0,y1,y2,y3,y4,y5,y6,y7,q0,q1.pass p e,q2.pass p,q3.pass p,q4.pass p e,q5.pass p,q6.pass p,q7.pass p,q8.pass p⟩
 |start z0=>obtain⟨y0,q0,q1⟩:=h;exact⟨y0,q0,q1.pass p e⟩
 |visit z0 z1=>obtain⟨y0,y1,q0,q1,q2⟩:=h;exact⟨y0,y1,q0,q1.pass p e,q2.pass p⟩
 |older z0 z1=>obtain⟨y0,y1,q0,q1,q2⟩:=h;exact⟨y0,y1,q0,q1.pass p e,q2.pass p⟩
 |maker z0 z1 z2=>obtain⟨y0,y1,y2,q0,q1,q2,q3⟩:=h;exact⟨y0,y1,y2,q0,q1.pass p e,q2.pass p,q3.pass p⟩
 |ended z0 z1 z2=>obtain⟨y0,y1,y2,q0,q1,q2,q3⟩:=h;exact⟨y0,y1,y2,q0,q1.pass p e,q2.pass p,q3.pass p⟩
 |ender z0 z1 z2 z3=>obtain⟨y0,y1,y2,y3,q0,q1,q2,q3,q4⟩:=h;exact⟨y0,y1,y2,y3,q0,q1.pass p e,q2.pass p,q3.pass p,q4.pass p⟩
 |seen z0 z1 z2=>obtain⟨y0,y1,y2,q0,q1,q2,q3⟩:=h;exact⟨y0,y1,y2,q0,q1.pass p e,q2.pass p,q3.pass p⟩
 |wait z0=>obtain⟨y0,y1,y2,y3,y4,q0,q1,q2,q3,q4,q5⟩:=h;exact⟨y0,y1,y2,y3,y4,q0,q1.pass p e,q2.pass p,q3.pass p,q4.pass p,q5.pass p⟩
 |commit=>obtain⟨y0,y1,y2,q0,q1,q2,q3⟩:=h;exact⟨y0,y1,y2,q0,q1.pass p e,q2.pass p,q3.pass p⟩
 |abort z0 z1=>obtain⟨y0,y1,y2,y3,y4,q0,q1,q2,q3,q4,q5⟩:=h;exact⟨y0,y1,y2,y3,y4,q0,q1.pass p e,q2.pass p,q3.pass p,q4.pass p,q5.pass p⟩
 |ends z0=>obtain⟨y0,y1,y2,q0,q1,q2,q3⟩:=h;exact⟨y0,y1,y2,q0,q1.pass p e,q2.pass p,q3.pass p hX⟩
 |again z0=>obtain⟨y0,y1,y2,y3,q0,q1,q2,q3,q4⟩:=h;exact⟨y0,y1,y2,y3,q0,q1.pass p e,by first|exact q2.pass p|(rw[hk];exact q2.pass p),q3.pass p,q4.pass p⟩
 |own z0=>obtain⟨y0,y1,y2,y3,q0,q1,q2,q3,q4⟩:=h;exact⟨y0,y1,y2,y3,q0,q1.pass p e,q2.pass p,q3.pass p,q4.pass p⟩
 |own2 z0 z1 z2=>obtain⟨y0,y1,y2,y3,y4,y5,q0,q1,q2,q3,q4,q5,q6⟩:=h;exact⟨y0,y1,y2,y3,y4,y5,q0,q1.pass p e,q2.pass p,q3.pass p,q4.pass p,q5.pass p,q6.pass p⟩
 |claim z0 z1=>obtain⟨y0,y1,y2,y3,y4,q0,q1,q2,q3,q4,q5⟩:=h;exact⟨y0,y1,y2,y3,y4,q0,q1.pass p e,q2.pass p,q3.pass p,q4.pass p,q5.pass p⟩
 |fresh z0=>obtain⟨y0,y1,y2,y3,q0,q1,q2,q3,q4⟩:=h;exact⟨y0,y1,y2,y3,q0,q1.pass p e,q2.pass p,q3.pass p,q4.pass p⟩
 |free1 z0 z1 z2=>obtain⟨y0,y1,y2,y3,y4,y5,y6,y7,y8,y9,y10,y11,q0,q1,q2,q3,q4,q5,q6,q7,q8,q9,q10,q11,q12⟩:=h;exact⟨y0,y1,y2,y3,y4,y5,y6,y7,y8,y9,y10,y11,q0,q1.pass p e,q2.pass p,q3.pass p,q4.pass p,q5.pass p,q6.pass p,q7.pass p e,q8.pass p,q9.pass p,q10.pass p,q11.pass p,q12.pass p⟩
 |free2 z0 z1 z2 z3=>obtain⟨y0,y1,y2,y3,y4,y5,y6,y7,y8,y9,y10,y11,q0,q1,q2,q3,q4,q5,q6,q7,q8,q9,q10,q11,q12⟩:=h;exact⟨y0,y1,y2,y3,y4,y5,y6,y7,y8,y9,y10,y11,q0,q1.pass p e,q2.pass p,q3.pass p,q4.pass p,q5.pass p,q6.pass p,q7.pass p e,q8.pass p,q9.pass p,q10.pass p,q11.pass p,q12.pass p⟩
 |freeN z0 z1 z2=>obtain⟨y0,y1,y2,y3,y4,y5,q0,q1,q2,q3,q4,q5,q6⟩:=h;exact⟨y0,y1,y2,y3,y4,y5,q0,q1.pass p e,q2.pass p,q3.pass p,q4.pass p,q5.pass p,q6.pass p⟩
 |slot1 z0 z1 z2=>obtain⟨y0,y1,y2,y3,y4,y5,q0,q1,q2,q3,q4,q5,q6⟩:=h;exact⟨y0,y1,y2,y3,y4,y5,q0,q1.pass p e,q2.pass p,q3.pass p,by first|exact q4.pass p|(rw[hk];exact q4.pass p),q5.pass p,q6.pass p⟩
 |slot2 z0 z1 z2=>obtain⟨y0,y1,y2,y3,y4,y5,q0,q1,q2,q3,q4,q5,q6⟩:=h;exact⟨y0,y1,y2,y3,y4,y5,q0,q1.pass p e,q2.pass p,by first|exact q3.pass p|(rw[hk];exact q3.pass p),q4.pass p,q5.pass p,q6.pass p⟩
 |push1 z0 z1=>obtain⟨y0,y1,y2,y3,y4,q0,q1,q2,q3,q4,q5⟩:=h;exact⟨y0,y1,y2,y3,y4,q0,q1.pass p e,q2.pass p,q3.pass p,q4.pass p,q5.pass p⟩
 |push2 z0 z1=>obtain⟨y0,y1,y2,y3,y4,q0,q1,q2,q3,q4,q5⟩:=h;exact⟨y0,y1,y2,y3,y4,q0,q1.pass p e,q2.pass p,q3.pass p,q4.pass p,q5.pass p⟩
 |over1 z0=>obtain⟨y0,y1,y2,y3,y4,q0,q1,q2,q3,q4,q5⟩:=h;exact⟨y0,y1,y2,y3,y4,q0,q1.pass p e,q2.pass p,q3.pass p,q4.pass p,by first|exact q5.pass p|(rw[hk];exact q5.pass p)⟩
 |over2 z0 z1=>obtain⟨y0,y1,y2,y3,y4,y5,q0,q1,q2,q3,q4,q5,q6⟩:=h;exact⟨y0,y1,y2,y3,y4,y5,q0,q1.pass p e,q2.pass p,q3.pass p,q4.pass p,q5.pass p,by first|exact q6.pass p|(rw[hk];exact q6.pass p)⟩
 |over3 z0 z1=>obtain⟨y0,y1,y2,y3,y4,y5,q0,q1,q2,q3,q4,q5,q6⟩:=h;exact⟨y0,y1,y2,y3,y4,y5,q0,q1.pass p e,q2.pass p,q3.pass p,q4.pass p,q5.pass p,by first|exact q6.pass p|(rw[hk];exact q6.pass p)⟩
 |turns l r=>
  cases l with
  |nil=>obtain⟨y0,y1,y2,y3,q0,q1,q2,q3,q4⟩:=h;exact⟨y0,y1,y2,y3,q0,q1.pass p e,q2.pass p,q3.pass p,q4.pass p hX⟩
  |cons x l=>obtain⟨y0,y1,y2,y3,y4,q0,q1,q2,q3,q4,q5⟩:=h;exact⟨y0,y1,y2,y3,y4,q0,q1.pass p,q2.pass p e,q3.pass p,q4.pass p,q5.pass p hX⟩
end
end
section
def EN(v:Value)(w:World)(K:Ending→World→Prop):Prop:=∃F bnd cap,v= .func (.func F) bnd cap∧(bnd=#[]∨cap=#[])∧(∀wz:World,(callFunc F (bnd++cap)).run Tryz.prog wz= .ok (.enter F (bnd++cap)) wz)∧Calls Tryz.prog F (bnd++cap) w K
theorem EN.of{F:FuncId}{cap:Array Value}{w:World}{K:Ending→World→Prop}(hc:∀wz:World,(callFunc F cap).run Tryz.prog wz= .ok (.enter F cap) wz)(h:Calls Tryz.prog F cap w K):EN (.func (.func F) #[] cap) w K:=
 ⟨F,#[],cap,rfl,.inl rfl,by simpa using hc,by simpa using h⟩
theorem EN.of1{F:FuncId}{bnd:Array Value}{w:World}{K:Ending→World→Prop}(hc:∀wz:World,(callFunc F bnd).run Tryz.prog wz= .ok (.enter F bnd) wz)(h:Calls Tryz.prog F bnd w K):EN (.func (.func F) bnd #[]) w K:=
 ⟨F,bnd,#[],rfl,.inr rfl,by simpa using hc,by simpa using h⟩
theorem RG{B N:Nat}{w:World}{P Q R:Nat→Prop}{A:EA}{Ke:EK}{S:SA}{nx:Value}{X:Cx}(h:CX B w P Q R A Ke S nx X)(hN:Ax N X)(hB9:N+80≤100000000)(hm:X.sh.p.made=false→X.sh.p.free=[]){k:Da}(hk:Bt X k){v:Value}(hv:BP w P Q R A S X k v):
 EN v w (Ak B w P Q R A Ke S nx (Ay X k).1 (Ay X k).2):=by
 cases k with
 |draw=>obtain⟨e,t,c,rfl,q1,q2,q3⟩:=hv;exact .of (fun wz=>by kernel_rfl) (PW h hN q1 q2 q3)
 |turn x now=>obtain⟨e,a,b,t,c,rfl,q1,q2,q3,q4,q5⟩:=hv;exact .of (fun wz=>by kernel_rfl) (P0 h hN (by omega) x now hk.2.1 hk.2.2 q1 q2 q3 q4 q5)
 |helped=>obtain⟨e,t,c,rfl,q1,q2,q3⟩:=hv;exact .of (fun wz=>by kernel_rfl) (MQ h hN (by omega) q1 q2 q3)
 |help x now=>obtain⟨e,a,f,e2,a2,b2,t,c,rfl,q1,q2,q3,q4,q5,q6,q7,q8⟩:=hv;exact .of (fun wz=>by kernel_rfl) (PR h hN x now hk.1.1 hk.1.2 q1 q2 q3 q4 q5 q6 q7 q8)
 |start u=>obtain⟨hu,rfl,q1⟩:=hv;exact .of1 (fun wz=>by kernel_rfl) (NA h hN (by omega) hk.1 hk.2 q1)
 |visit u l=>obtain⟨b,a,rfl,q1,q2⟩:=hv;exact .of (fun wz=>by kernel_rfl) (Pd h hN hk.2.1 q1 q2)
 |older u l=>obtain⟨b,a,rfl,q1,q2⟩:=hv;exact .of (fun wz=>by kernel_rfl) (NY h hN (by omega) hk.1.1 hk.2.1 hk.2.2 q1 q2)
 |maker u l id=>obtain⟨b,i,a,rfl,q1,q2,q3⟩:=hv;exact .of (fun wz=>by kernel_rfl) (NR h hN hk.2.2.1 hk.2.2.2 q1 q2 q3)
 |ended u l m=>obtain⟨b,a,i,rfl,⟨hu,q0,q1⟩,q2,q3⟩:=hv;exact .of (fun wz=>by kernel_rfl) (Ox h hN hB9 hk.1.1 hk.2.1.1 q1 q0 q2 q3)
 |ender u l m id=>obtain⟨b,d,a,i,rfl,q1,q2,q3,q4⟩:=hv;exact .of (fun wz=>by kernel_rfl) (N_ h hN hB9 hk.1.1 hk.2.1.1 hk.2.2.2.1 hk.2.2.2.2 q1 q2 q3 q4)
 |seen u l m=>obtain⟨b,i,a,rfl,q1,q2,q3⟩:=hv;exact .of (fun wz=>by kernel_rfl) (Qa h hN hB9 hk.1.1 hk.2.1.1 hk.2.2.1 hk.2.2.2 q1 q2 q3)
 |wait i=>obtain⟨e,t,k,c,g,rfl,q1,q2,q3,q4,q5⟩:=hv;exact .of (fun wz=>by kernel_rfl) (QM h hN (by omega) i hk q1 q2 q3 q4 q5)
 |commit=>obtain⟨e,t,c,rfl,q1,q2,q3⟩:=hv;exact .of (fun wz=>by kernel_rfl) (MF h hN (by omega) q1 q2 q3)
 |abort er re=>obtain⟨e,t,i,c,n,rfl,q1,q2,q3,q4,q5⟩:=hv;exact .of (fun wz=>by kernel_rfl) (OJ h hN (by omega) er re q1 q2 q3 q4 q5)
 |turns l r=>
  cases l with
  |nil=>obtain⟨e,t,c,y,rfl,q1,q2,q3,q4⟩:=hv;exact .of (fun wz=>by kernel_rfl) (Md h hN r q1 q2 q3 q4)
  |cons x l=>obtain⟨a,e,t,c,y,rfl,q1,q2,q3,q4,q5⟩:=hv;exact .of (fun wz=>by kernel_rfl) (Ng h hN x l r q2 q3 q4 q1 q5)
 |ends r=>obtain⟨e,c,y,rfl,q1,q2,q3⟩:=hv;exact .of (fun wz=>by kernel_rfl) (Qy h r q1 q2 q3)
 |again z=>
  obtain⟨e,x,a,c,rfl,q1,q2,q3,q4⟩:=hv
  obtain⟨_,y,hy,hy0⟩:=hk
  exact .of (fun wz=>by kernel_rfl) (Ot h hN z hy hy0 q1 q3 q4 q2)
 |own l=>obtain⟨e,a,t,c,rfl,q1,q2,q3,q4⟩:=hv;exact .of (fun wz=>by kernel_rfl) (Rw h hN l hk.1 q1 q2 q3 q4)
 |own2 l x id=>obtain⟨e,i,t,c,a,b,rfl,q1,q2,q3,q4,q5,q6⟩:=hv;exact .of (fun wz=>by kernel_rfl) (Qi h hN l x id hk.2.2.1 hk.2.2.2 q1 q2 q3 q4 q5 q6)
 |claim l x=>obtain⟨e,a,b,t,c,rfl,q1,q2,q3,q4,q5⟩:=hv;exact .of (fun wz=>by kernel_rfl) (Pa h hN (by omega) hm l x hk.1 q1 q2 q3 q4 q5)
 |fresh l=>obtain⟨e,c,t,a,rfl,q1,q2,q3,q4⟩:=hv;exact .of (fun wz=>by kernel_rfl) (Or h hN (by omega) hm l hk q1 q2 q3 q4)
 |free1 l hd at_=>
  obtain⟨e,p,t,f,c,a,e2,t2,c2,a2,b2,p2,rfl,q1,q2,q3,q4,q5,q6,q7,q8,q9,q10,q11,q12⟩:=hv
  exact .of (fun wz=>by kernel_rfl) (Oy h hN (by omega) l hd at_ hk.1 hk.2.2.1.1 q1 q2 q3 q4 q5 q6 q7 q8 q9 q10 q11 q12)
 |free2 l hd at_ id=>
  obtain⟨e,s,t,f,c,a,e2,t2,c2,a2,b2,p2,rfl,q1,q2,q3,q4,q5,q6,q7,q8,q9,q10,q11,q12⟩:=hv
  exact .of (fun wz=>by kernel_rfl) (Ob h hN (by omega) l hd at_ id hk.1 hk.2.2.2.1 hk.2.2.2.2 q1 q3 q4 q5 q6 q2 q7 q8 q9 q10 q11 q12)
 |freeN l hd at_=>obtain⟨e,t,c,a,b,p,rfl,q1,q2,q3,q4,q5,q6⟩:=hv;exact .of (fun wz=>by kernel_rfl) (PJ h hN (by omega) hm l hd at_ hk.1 hk.2.2.1.1 q1 q2 q3 q4 q5 q6)
 |slot1 x l hd=>obtain⟨e,a,t,y,c,f,rfl,q1,q2,q3,q4,q5,q6⟩:=hv;exact .of (fun wz=>by kernel_rfl) (PH h hN x l hd hk.1.1 q1 q2 q3 q5 q4 q6)
 |slot2 x l hd=>obtain⟨e,a,y,t,c,f,rfl,q1,q2,q3,q4,q5,q6⟩:=hv;exact .of (fun wz=>by kernel_rfl) (NN h hN x l hd hk.1.1 q1 q2 q4 q5 q3 q6)
 |push1 l hd=>obtain⟨e,a,b,c,t,rfl,q1,q2,q3,q4,q5⟩:=hv;exact .of (fun wz=>by kernel_rfl) (OK h hN l hd hk.1.1 q1 q2 q3 q4 q5)
 |push2 l hd=>obtain⟨e,c,b,a,t,rfl,q1,q2,q3,q4,q5⟩:=hv;exact .of (fun wz=>by kernel_rfl) (Oc h hN (by omega) l hd q1 q2 q3 q4 q5)
 |over1 l=>obtain⟨e,c,a,t,x,rfl,q1,q2,q3,q4,q5⟩:=hv;exact .of (fun wz=>by kernel_rfl) (OT h hN l q1 q2 q3 q4 q5)
 |over2 l hd=>obtain⟨e,a,b,c,t,x,rfl,q1,q2,q3,q4,q5,q6⟩:=hv;exact .of (fun wz=>by kernel_rfl) (N3 h hN l hd hk.1.1 q1 q2 q3 q4 q5 q6)
 |over3 l hd=>
  obtain⟨e,c,b,a,t,x,rfl,q1,q2,q3,q4,q5,q6⟩:=hv
  obtain⟨y,hy⟩:=Option.isSome_iff_exists.1 hk.2.2
  exact .of (fun wz=>by kernel_rfl) (NE h hN l hd hy q1 q2 q3 q4 q5 q6)
end
section
structure Kx where
 t:Dq
 c:Option (Cw×Da)
inductive Sw where
 |idle
 |now
 |live (s:Nat)
 |head (key:Nat)
 |visit (key:Nat) (ahead link:Int)
 |maker (key:Nat) (ahead link id:Int)
 |garbage (key:Nat) (ahead link beg:Int)
 |on (key:Nat) (link:Int)
 |unlink (key:Nat) (ahead link:Int)
 |cut (key:Nat) (ahead link next:Int)
structure En where
 sh:Sh
 ses:Nat→Option Kx
 made:Int
 seq:Int
 looks:Int
 sw:Sw
 low:Int
 lim:List (Int×Int)
 turned:Bool
structure Cv where
 live:Bool
 busy:Bool
 waits:Bool
 id:Int
 level:Int
 state:Int
 beg:Int
 fin:Int
 ops:Int
deriving DecidableEq
def Cv.zero:Cv:=⟨false,false,false,0,0,0,0,0,0⟩
structure LH where
 kind:Int
 r:Dt
def LH.zero:LH:=⟨0,.zero⟩
def Kx.stat(x:Kx):Cv:=⟨true,x.c.isSome,match x.c with|some (c,_)=>c.waits|none=>false,x.t.id,x.t.level,if 0<x.t.fin then 2 else 1,x.t.beg,x.t.fin,x.t.ops⟩
def En.status(E:En)(s:Int):Cv:=if Be s then match E.ses s.toNat with|none=> .zero|some x=>x.stat else .zero
def En.now(E:En):Int:=E.sh.a.load 0/65536
def En.liveAt(E:En)(j:Nat):Option Int:=(E.ses j).map fun _=>(j:Int)
def En.live(E:En):List Int:=(List.range 8).filterMap E.liveAt
def Dd(id level s beg:Int):Dq:=⟨id,level,s,beg,0,0,[],fun _=>none,[],[],false⟩
def Sh.pl(S:Sh)(id:Int):Int:=73+S.slots*3+id
def Sh.setA(S:Sh)(a:AS):Sh:={S with a:=a}
def En.begun(E:En)(a:AS)(s level now:Int)(w:Int):En:=
 {E with made:=E.made+1,ses:=AT E.ses s.toNat (some ⟨Dd (E.made+1) level s (now+1),none⟩),sh:={E.sh with a:=((a.cas 0 w (Bp (now+1) 0)).store (E.sh.pl (E.made+1)) (Bc 1 0)).store (1+s) (now+1),tale:=E.sh.tale++[⟨1,E.made+1,now+1,⟨0,0,0,level⟩,.zero⟩]}}
def En.begin(E:En)(s level:Int):Int×Int×En:=
 if !(Be s&&DV level)then(0,1,E)
 else if(E.ses s.toNat).isSome then(0,9,E)
 else if 2000≤E.made then(0,65,E)
 else
  let w:=E.sh.a.load 0
  let a:=E.sh.a.tick 0
  if E.sh.limit≤w/65536 then(0,16,{E with sh:=E.sh.setA a})
  else(E.made+1,0,E.begun (if 0<w%65536 then a.cas (E.sh.pl (w%65536)) (Bc 1 0) (Bc 2 (w/65536))else a) s level (w/65536) w)
def Dq.more(t:Dq)(o:DS):Dq:=if DY o then t else{t with ops:=t.ops+1}
def Bz(o:DS)(seq:Int):Cw:=⟨o,.zero,false,false,seq⟩
def En.issue(E:En)(s:Int)(o:DS):Int×En:=
 if !Be s then(1,E)
 else match E.ses s.toNat with
 |none=>(9,E)
 |some x=>
  if !AF o||x.c.isSome then(9,E)
  else if 12≤x.t.ops∧DY o=false then(65,E)
  else
   let r:=Cb ⟨E.sh,x.t.more o,Bz o (E.seq+1)⟩
   (0,{E with sh:=r.1.sh,seq:=E.seq+1,ses:=AT E.ses s.toNat (some ⟨r.1.t,some (r.1.c,r.2)⟩)})
def En.stepped(E:En)(s:Nat)(t:Dq)(r:Cx×Option Da)(looks:Int):LH×En:=
 let E1:={E with sh:=r.1.sh,looks:=looks}
 match r.2 with
 |some k=>(⟨if r.1.c.waits then 2 else 1,.zero⟩,{E1 with ses:=AT E.ses s (some ⟨r.1.t,some (r.1.c,k)⟩)})
 |none=>
  if r.1.c.r.over≠0 then(⟨3,r.1.c.r⟩,{E1 with ses:=AT E.ses s none})
  else(⟨3,r.1.c.r⟩,{E1 with ses:=AT E.ses s (some ⟨r.1.t,none⟩),sh:={r.1.sh with tale:=r.1.sh.tale++[⟨2,t.id,0,r.1.c.op,r.1.c.r⟩]}})
def En.step(E:En)(s:Int):LH×Int×En:=
 if !Be s then(.zero,1,E)
 else match E.ses s.toNat with
 |none=>(.zero,9,E)
 |some ⟨_,none⟩=>(.zero,9,E)
 |some ⟨t,some (c,k)⟩=>
  let r:=Ay ⟨E.sh,t,{c with waits:=false}⟩ k
  let d:=E.stepped s.toNat t r (RowKit.wrap64 (E.looks+RowKit.wrap64 (r.1.sh.a.cnt-E.sh.a.cnt)))
  (d.1,0,d.2)
def Fl(n:Int):Sw→Prop
 | .idle=>True
 | .now=>True
 | .live s=>s<8
 | .head k=>k<64
 | .visit k a l=>k<64∧AM n a∧BN n l
 | .maker k a l id=>k<64∧AM n a∧BN n l∧Ef id
 | .garbage k a l b=>k<64∧AM n a∧BN n l∧DR b
 | .on k l=>k<64∧BN n l
 | .unlink k a l=>k<64∧AM n a∧BN n l
 | .cut k a l x=>k<64∧AM n a∧BN n l∧AM n x
def I7(p:AP):Prop:=p.made=false→p.free=[]∧∀i,(p.slots.getD i (0,false)).2=false
structure Fv(N:Nat)(seq:Int)(s:Sh)(t:Dq)(c:Cw)(k:Da):Prop where
 cl:EG N c
 stp:Bt ⟨s,t,c⟩ k
 over:c.over=false
 ro:c.r.over=0
 seq:0≤c.seq∧c.seq≤seq
structure As(N:Nat)(E:En):Prop where
 sh:AW N E.sh
 pm:I7 E.sh.p
 made:0≤E.made∧E.made≤2000
 seq:0≤E.seq∧E.seq≤N
 looks:0≤E.looks∧E.looks≤N
 none:∀s,8≤s→E.ses s=none
 tx:∀s x,E.ses s=some x→Dy N E.sh.slots x.t∧x.t.s=s∧0≤x.t.ops∧x.t.ops≤12
 cl:∀s t c k,E.ses s=some ⟨t,some (c,k)⟩→Fv N E.seq E.sh t c k
 sw:Fl E.sh.slots E.sw
 low:0≤E.low∧E.low<281474976710656
 lim:∀p,p∈E.lim→BN E.sh.slots p.1∧0≤p.2∧p.2≤E.seq
 llen:E.lim.length≤N
end
section
section
variable (w:World) (P Q R:Nat→Prop) (A:EA)
def FL:Sw→Value→Prop
 | .idle,v=>v= .nilFunc
 | .now,v=>v= .func (.func 56) #[bp A.e] #[]
 | .live s,v=>∃e i,v= .func (.func 113) #[] #[bp e,bp i]∧bE w P Q R A e∧bI w P Q R i s
 | .head k,v=>∃e i,v= .func (.func 149) #[] #[bp e,bp i]∧bE w P Q R A e∧bI w P Q R i k
 | .visit k a l,v=>∃e i j x,v= .func (.func 178) #[] #[bp e,bp x,bp i,bp j]∧bE w P Q R A e∧bI w P Q R i k∧bU w P Q R j a∧bU w P Q R x l
 | .maker k a l id,v=>∃e i j x d,v= .func (.func 201) #[] #[bp e,bp d,bp i,bp j,bp x]∧bE w P Q R A e∧bI w P Q R i k∧bU w P Q R j a∧bU w P Q R x l∧bI w P Q R d id
 | .garbage k a l b,v=>∃e i j x d,v= .func (.func 204) #[] #[bp d,bp e,bp x,bp i,bp j]∧bE w P Q R A e∧bI w P Q R i k∧bU w P Q R j a∧bU w P Q R x l∧bU w P Q R d b
 | .on k l,v=>∃e i x,v= .func (.func 227) #[] #[bp e,bp i,bp x]∧bE w P Q R A e∧bI w P Q R i k∧bU w P Q R x l
 | .unlink k a l,v=>∃e i j x,v= .func (.func 225) #[] #[bp e,bp x,bp i,bp j]∧bE w P Q R A e∧bI w P Q R i k∧bU w P Q R j a∧bU w P Q R x l
 | .cut k a l n,v=>∃e i j x d,v= .func (.func 240) #[] #[bp j,bp e,bp d,bp i,bp x]∧bE w P Q R A e∧bI w P Q R i k∧bU w P Q R j a∧bU w P Q R x l∧bU w P Q R d n
end
theorem FL.pass{w w':World}{P Q R P' Q' R':Nat→Prop}{A A':EA}{k:Sw}{v:Value}(h:FL w P Q R A k v)(p:EF w w' P Q R P' Q' R')(e:A'.e=A.e):FL w' P' Q' R' A' k v:=by
 cases k with
 |idle=>exact h
 |now=>show v=_;rw[e];exact h
 |live s=>obtain⟨x,i,h1,h2,h3⟩:=h;exact⟨x,i,h1,h2.pass p e,h3.pass p⟩
 |head s=>obtain⟨x,i,h1,h2,h3⟩:=h;exact⟨x,i,h1,h2.pass p e,h3.pass p⟩
 |visit k a l=>obtain⟨x,i,j,y,h1,h2,h3,h4,h5⟩:=h;exact⟨x,i,j,y,h1,h2.pass p e,h3.pass p,h4.pass p,h5.pass p⟩
 |maker k a l id=>obtain⟨x,i,j,y,d,h1,h2,h3,h4,h5,h6⟩:=h;exact⟨x,i,j,y,d,h1,h2.pass p e,h3.pass p,h4.pass p,h5.pass p,h6.pass p⟩
 |garbage k a l b=>obtain⟨x,i,j,y,d,h1,h2,h3,h4,h5,h6⟩:=h;exact⟨x,i,j,y,d,h1,h2.pass p e,h3.pass p,h4.pass p,h5.pass p,h6.pass p⟩
 |on k l=>obtain⟨x,i,y,h1,h2,h3,h4⟩:=h;exact⟨x,i,y,h1,h2.pass p e,h3.pass p,h4.pass p⟩
 |unlink k a l=>obtain⟨x,i,j,y,h1,h2,h3,h4,h5⟩:=h;exact⟨x,i,j,y,h1,h2.pass p e,h3.pass p,h4.pass p,h5.pass p⟩
 |cut k a l n=>obtain⟨x,i,j,y,d,h1,h2,h3,h4,h5,h6⟩:=h;exact⟨x,i,j,y,d,h1,h2.pass p e,h3.pass p,h4.pass p,h5.pass p,h6.pass p⟩
def Ck(B:Nat)(w:World)(Q:Nat→Prop)(la:Option Addr)(lc:Nat)(L:List (Int×Int)):Prop:=
 (la=none∧lc=0∧L=[])∨∃g off cur,la=some ⟨g,off*2,none⟩∧Am w g 202 cur∧B≤g∧Q g∧L.length≤lc∧lc≤maxLen∧(off+lc)*2≤cur.size∧
  ∀i,i<L.length→cur[(off+i)*2]? =some (.int .u64 (L.getD i (0,0)).1)∧cur[(off+i)*2+1]? =some (.int .i64 (L.getD i (0,0)).2)
theorem Ck.far{B:Nat}{w w':World}{Q T:Nat→Prop}{la:Option Addr}{lc:Nat}{L:List (Int×Int)}(h:Ck B w Q la lc L)(o:Ah T w w')(ap:AR Q T):Ck B w' Q la lc L:=by
 rcases h with h|⟨g,off,cur,h1,h2,h3,h4,h5,h6,h7,h8⟩
 ·exact .inl h
 ·exact .inr ⟨g,off,cur,h1,o.blk h2 (ap g h4),h3,h4,h5,h6,h7,h8⟩
def MS(F:Nat→Nat→Prop):Nat→Prop:=fun b=>∃j,j≤8∧F j b
def Do(F:Nat→Nat→Prop)(s:Nat):Nat→Prop:=fun b=>∃j,j≤8∧j≠s∧F j b
def Fr(F:Nat→Nat→Prop)(s:Nat)(Q:Nat→Prop):Nat→Nat→Prop:=fun j=>if j=s then Q else F j
theorem A3(F:Nat→Nat→Prop)(s:Nat)(Q:Nat→Prop):Fr F s Q s=Q:=by simp[Fr]
theorem AX(F:Nat→Nat→Prop){s j:Nat}(Q:Nat→Prop)(h:j≠s):Fr F s Q j=F j:=by simp[Fr,h]
theorem Gk(F:Nat→Nat→Prop)(s:Nat):Fr F s (F s)=F:=by funext j;by_cases h:j=s<;>simp[Fr,h]
theorem ES(F:Nat→Nat→Prop)(s:Nat)(Q:Nat→Prop):Do (Fr F s Q) s=Do F s:=by
 funext b
 apply propext
 constructor
 ·rintro⟨j,h1,h2,h3⟩;rw[AX _ _ h2]at h3;exact⟨j,h1,h2,h3⟩
 ·rintro⟨j,h1,h2,h3⟩;exact⟨j,h1,h2,by rw[AX _ _ h2];exact h3⟩
structure DB where
 A:EA
 S:Nat→SA
 nx:Nat→Value
 sv:Value
 la:Option Addr
 lc:Nat
def Cj(D:DB)(E:En)(s:Nat):Value:=match E.ses s with|none=> .pointer none|some _=>bp (D.S s).t
def Cm(D:DB)(E:En)(s:Nat):Value:=match E.ses s with|some ⟨_,some _⟩=>bp (D.S s).c|_=> .pointer none
def Bk(D:DB)(E:En):EK:=⟨Cj D E,Cm D E,E.made,E.seq,E.looks,D.sv,E.low,.slice D.la E.lim.length D.lc,E.turned⟩
structure DD(B:Nat)(w:World)(P:Nat→Prop)(F:Nat→Nat→Prop)(D:DB)(E:En)(s:Nat):Prop where
 tx:∀j x,j<8→j≠s→E.ses j=some x→Dc B w (F j) (D.S j) x.t
 cl:∀j t c k,j<8→j≠s→E.ses j=some ⟨t,some (c,k)⟩→Gm B w (F j) (D.S j) c (D.nx j)∧BP w P (F j) (Do F j) D.A (D.S j) ⟨E.sh,t,c⟩ k (D.nx j)
 sw:8≠s→FL w P (F 8) (Do F 8) D.A E.sw D.sv
 lim:8≠s→Ck B w (F 8) D.la D.lc E.lim
 pf:∀j,j≤8→AR P (F j)
 ff:∀i j,i≤8→j≤8→i≠j→AR (F i) (F j)
 uF:∀j,j≤8→Bo (F j) w.heap.size
 aF:∀j,j≤8→Cz (F j) B
structure A6(B:Nat)(w:World)(P:Nat→Prop)(F:Nat→Nat→Prop)(D:DB)(E:En):Prop where
 ex:EX B w P (fun _=>False) (MS F) D.A (Bk D E) E.sh
 hole:DD B w P F D E 9
section
variable {B:Nat} {w w':World} {P:Nat→Prop} {F:Nat→Nat→Prop} {D:DB} {E:En} {s:Nat}
theorem AU.conv{P Q R Q' R':Nat→Prop}{a:Option Addr}{ps:List (Int×Int)}(h:AU w P Q R a ps)(hq:∀b,Q' b→Q b∨R b)(hr:∀b,R' b→Q b∨R b):AU w P Q' R' a ps:=by
 rcases h with h|⟨b,off,cs,h1,h2,h3,h4,h5,h6⟩
 ·exact .inl h
 ·exact .inr ⟨b,off,cs,h1,h2,fun x=>(hq b x).elim h3 h4,fun x=>(hr b x).elim h3 h4,h5,h6⟩
theorem EX.conv{Q R Q' R':Nat→Prop}{A:EA}{K:EK}{S:Sh}(h:EX B w P Q R A K S)(hq:∀b,Q' b→Q b∨R b)(hr:∀b,R' b→Q b∨R b):EX B w P Q' R' A K S:=
 ⟨h.sh,h.uP,h.aP,fun i hi=>(h.prs i hi).conv hq hr⟩
theorem A6.exs(h:A6 B w P F D E)(s:Nat)(hs:s≤8):EX B w P (F s) (Do F s) D.A (Bk D E) E.sh:=
 h.ex.conv (fun b hb=> .inr ⟨s,hs,hb⟩) (fun b ⟨j,hj,_,hb⟩=> .inr ⟨j,hj,hb⟩)
theorem EX.all{A:EA}{K:EK}{S:Sh}(h:EX B w P (F s) (Do F s) A K S):EX B w P (fun _=>False) (MS F) A K S:=
 h.conv (fun b hb=>hb.elim) (fun b ⟨j,hj,hb⟩=>if e:j=s then .inl (e▸hb)else .inr ⟨j,hj,e,hb⟩)
theorem DD.mk9(h:DD B w P F D E 9)(s:Nat):DD B w P F D E s:=⟨fun j x h1 _=>h.tx j x h1 (by omega),fun j t c k h1 _=>h.cl j t c k h1 (by omega),fun _=>h.sw (by omega),fun _=>h.lim (by omega),h.pf,h.ff,h.uF,h.aF⟩
theorem DD.uR(h:DD B w P F D E s):Bo (Do F s) w.heap.size:=fun b ⟨j,hj,_,hb⟩=>h.uF j hj b hb
theorem A6.cx(h:A6 B w P F D E)(hs:s<8){t:Dq}{c:Cw}{k:Da}(he:E.ses s=some ⟨t,some (c,k)⟩):CX B w P (F s) (Do F s) D.A (Bk D E) (D.S s) (D.nx s) ⟨E.sh,t,c⟩:=
 ⟨h.ex.sh,h.hole.tx s _ hs (by omega) he,(h.hole.cl s t c k hs (by omega) he).1,h.hole.pf s (by omega),h.ex.uP,h.hole.uF s (by omega),h.ex.aP,h.hole.aF s (by omega),(h.hole.mk9 s).uR,(h.exs s (by omega)).prs⟩
theorem DD.move(h:DD B w P F D E s)(hs:s≤8)(hP:Bo P w.heap.size){P' Q':Nat→Prop}(m:Ag w w' P (F s) P' Q')(ap:AR P' Q')(uQ:Bo Q' w'.heap.size)(aQ:Cz Q' B){D':DB}{E':En}(kA:D'.A.e=D.A.e)
 (kS:∀j,j≠s→D'.S j=D.S j∧D'.nx j=D.nx j) (kE:∀j,j≠s→E'.ses j=E.ses j) (kW:8≠s→E'.sw=E.sw∧D'.sv=D.sv∧D'.la=D.la∧D'.lc=D.lc∧E'.lim=E.lim):DD B w' P' (Fr F s Q') D' E' s:=by
 have apj:∀j,j≤8→j≠s→AR (F j) (PQ P (F s)):=fun j hj hn b hb e=>e.elim (fun hp=>h.pf j hj b hp hb) (fun hq=>h.ff j s hj hs hn b hb hq)
 have pass:∀j,j≤8→j≠s→EF w w' P (F j) (Do F j) P' (Fr F s Q' j) (Do (Fr F s Q') j):=fun j hj hn=>by
  refine⟨m.o.size,fun g hg hp hf hr=>⟨⟨fun hp'=>?_,fun hf'=>?_,fun⟨i,hi,hni,hfi⟩=>?_⟩,?_⟩⟩
  ·rcases m.gp g hp' with e|e
   ·exact hp e
   ·omega
  ·rw[AX _ _ hn]at hf';exact hf hf'
  ·by_cases e:i=s
   ·subst e
    rw[A3]at hfi
    rcases m.gq g hfi with e|e
    ·exact hr ⟨i,hi,hni,e⟩
    ·omega
   ·rw[AX _ _ e]at hfi;exact hr ⟨i,hi,hni,hfi⟩
  ·exact m.o.block g hg (fun e=>e.elim hp (fun hq=>hr ⟨s,hs,fun e=>hn e.symm,hq⟩))
 refine⟨fun j x hj hn he=>?_,fun j t c k hj hn he=>?_,fun hn=>?_,fun hn=>?_,fun j hj=>?_,fun i j hi hj hn=>?_,fun j hj=>?_,fun j hj=>?_⟩
 ·rw[kE j hn]at he
  rw[AX _ _ hn,(kS j hn).1]
  exact(h.tx j x hj hn he).far m.o (apj j (by omega) hn)
 ·rw[kE j hn]at he
  obtain⟨h1,h2⟩:=h.cl j t c k hj hn he
  have h3:=BP.pass (A':=D'.A) (X':=⟨E'.sh,t,c⟩) h2 (pass j (by omega) hn) kA rfl
  refine⟨?_,?_⟩
  ·rw[AX _ _ hn,(kS j hn).1,(kS j hn).2]
   exact h1.far m.o (apj j (by omega) hn)
  ·rw[(kS j hn).1,(kS j hn).2];exact h3
 ·rw[(kW hn).1,(kW hn).2.1]
  exact(h.sw hn).pass (pass 8 (by omega) hn) kA
 ·rw[AX _ _ hn,(kW hn).2.2.1,(kW hn).2.2.2.1,(kW hn).2.2.2.2]
  exact(h.lim hn).far m.o (apj 8 (by omega) hn)
 ·by_cases e:j=s
  ·subst e;rw[A3];exact ap
  ·rw[AX _ _ e]
   intro b hp hf
   rcases m.gp b hp with x|x
   ·exact h.pf j hj b x hf
   ·have:=h.uF j hj b hf;omega
 ·have one:∀j,j≤8→j≠s→AR Q' (F j):=fun j hj hn b hq hf=>by
   rcases m.gq b hq with x|x
   ·exact h.ff s j hs hj (fun e=>hn e.symm) b x hf
   ·have:=h.uF j hj b hf;omega
  by_cases e:i=s
  ·subst e
   rw[A3,AX _ _ (fun e=>hn e.symm)]
   exact one j hj (fun e=>hn e.symm)
  ·by_cases e2:j=s
   ·subst e2
    rw[A3,AX _ _ e]
    exact fun b hf hq=>one i hi e b hq hf
   ·rw[AX _ _ e,AX _ _ e2];exact h.ff i j hi hj hn
 ·by_cases e:j=s
  ·subst e;rw[A3];exact uQ
  ·rw[AX _ _ e];exact(h.uF j hj).mono m.o.size
 ·by_cases e:j=s
  ·subst e;rw[A3];exact aQ
  ·rw[AX _ _ e];exact h.aF j hj
theorem A6.back(h:DD B w P F D E s)(hs:s<8)(hx:EX B w P (F s) (Do F s) D.A (Bk D E) E.sh)(ht:∀x,E.ses s=some x→Dc B w (F s) (D.S s) x.t)
 (hc:∀t c k,E.ses s=some ⟨t,some (c,k)⟩→Gm B w (F s) (D.S s) c (D.nx s)∧BP w P (F s) (Do F s) D.A (D.S s) ⟨E.sh,t,c⟩ k (D.nx s)):A6 B w P F D E:=
 ⟨hx.all,⟨fun j x hj _ he=>if e:j=s then by subst e;exact ht x he else h.tx j x hj e he,fun j t c k hj _ he=>if e:j=s then by subst e;exact hc t c k he else h.cl j t c k hj e he,
  fun _=>h.sw (by omega),fun _=>h.lim (by omega),h.pf,h.ff,h.uF,h.aF⟩⟩
end
end
section
theorem E5(j:Int)(w:World):Calls Tryz.prog 35 #[j] w fun e w'=>e= .returned (.bool (Be j))∧w=w':=by
 by_cases h0:0≤j
 ·go_enter Tryz.func35,Tryz.ntmps35
  go_wp2_with fail
  go_ret;exact⟨BL (by simp[Be,h0]),rfl⟩
 ·go_enter Tryz.func35,Tryz.ntmps35
  go_wp2_with fail
  go_ret;exact⟨BL (by simp[Be];omega),rfl⟩
theorem J_(n:Int)(w:World):Calls Tryz.prog 69 #[n] w fun e w'=>e= .returned (.bool (DV n))∧w=w':=by
 by_cases h0:1≤n
 ·go_enter Tryz.func69,Tryz.ntmps69
  go_wp2_with fail
  go_ret;exact⟨BL (by simp[DV,h0]),rfl⟩
 ·go_enter Tryz.func69,Tryz.ntmps69
  go_wp2_with fail
  go_ret;exact⟨BL (by simp[DV];omega),rfl⟩
theorem PZ(slots limit:Int)(w:World):Calls Tryz.prog 39 #[.agg #[slots,.int .u64 limit]] w fun e w'=>e= .returned (.bool (GI slots limit))∧Ac w w':=by
 have hd:slots<1∨(1≤slots∧256<slots)∨(1≤slots∧slots≤256∧limit<1)∨(1≤slots∧slots≤256∧1≤limit∧1099511627776<limit)∨(1≤slots∧slots≤256∧1≤limit∧limit≤1099511627776):=by omega
 have HC:Hid (GI slots limit=(decide (1≤slots)&&decide (slots≤256)&&decide (1≤limit)&&decide (limit≤1099511627776))):=Aa rfl
 rcases hd with h1|⟨h1,h2⟩|⟨h1,h2,h3⟩|⟨h1,h2,h3,h4⟩|⟨h1,h2,h3,h4⟩
 all_goals
  go_enter Tryz.func39,Tryz.ntmps39
  go_wp2_with fail
  go_ret;exact⟨BL (by rw[HC.out];simp;omega),(Ac.refl w).alloc _⟩
theorem Lo(kind key hi value:Int)(w:World):Calls Tryz.prog 79 #[.agg #[kind,key,hi,value]] w fun e w'=>e= .returned (.bool (DY ⟨kind,key,hi,value⟩))∧Ac w w':=by
 by_cases h6:kind=6
 ·subst h6
  exact Tx
 ·by_cases h7:kind=7
  ·subst h7
   exact Tx
  ·have b6:(kind==6)=false:=by simpa using h6
   have b7:(kind==7)=false:=by simpa using h7
   have HE:=Aa (show DY ⟨kind,key,hi,value⟩=false by simp[DY,h6,h7])
   clear h6 h7
   go_enter Tryz.func79,Tryz.ntmps79
   go_wp2_with fail
   go_ret;exact⟨BL (by rw[HE.out]),(Ac.refl w).alloc _⟩
theorem N4(key hi value:Int)(w:World)(a1:key<0):Calls Tryz.prog 78 #[.agg #[.int .i64 1,key,hi,value]] w fun e w'=>e= .returned (.bool false)∧Ac w w':=by
 exact Tl
theorem NZ(key hi value:Int)(w:World)(a1:0≤key)(a2:63<key):Calls Tryz.prog 78 #[.agg #[.int .i64 1,key,hi,value]] w fun e w'=>e= .returned (.bool false)∧Ac w w':=by
 exact Tl
theorem Nr(key hi value:Int)(w:World)(a1:0≤key)(a2:key≤63)(a3:(hi==0)=false):Calls Tryz.prog 78 #[.agg #[.int .i64 1,key,hi,value]] w fun e w'=>e= .returned (.bool false)∧Ac w w':=by
 exact Tl
theorem PG(key value:Int)(w:World)(a1:0≤key)(a2:key≤63)(a3:(value==0)=false):Calls Tryz.prog 78 #[.agg #[.int .i64 1,key,.int .i64 0,value]] w fun e w'=>e= .returned (.bool false)∧Ac w w':=by
 exact Tl
theorem PD(key:Int)(w:World)(a1:0≤key)(a2:key≤63):Calls Tryz.prog 78 #[.agg #[.int .i64 1,key,.int .i64 0,.int .i64 0]] w fun e w'=>e= .returned (.bool true)∧Ac w w':=by
 exact Tl
theorem NC(key hi value:Int)(w:World)(a1:key<0):Calls Tryz.prog 78 #[.agg #[.int .i64 4,key,hi,value]] w fun e w'=>e= .returned (.bool false)∧Ac w w':=by
 exact Tl
theorem OG(key hi value:Int)(w:World)(a1:0≤key)(a2:63<key):Calls Tryz.prog 78 #[.agg #[.int .i64 4,key,hi,value]] w fun e w'=>e= .returned (.bool false)∧Ac w w':=by
 exact Tl
theorem Nx(key hi value:Int)(w:World)(a1:0≤key)(a2:key≤63)(a3:(hi==0)=false):Calls Tryz.prog 78 #[.agg #[.int .i64 4,key,hi,value]] w fun e w'=>e= .returned (.bool false)∧Ac w w':=by
 exact Tl
theorem OY(key value:Int)(w:World)(a1:0≤key)(a2:key≤63)(a3:(value==0)=false):Calls Tryz.prog 78 #[.agg #[.int .i64 4,key,.int .i64 0,value]] w fun e w'=>e= .returned (.bool false)∧Ac w w':=by
 exact Tl
theorem Po(key:Int)(w:World)(a1:0≤key)(a2:key≤63):Calls Tryz.prog 78 #[.agg #[.int .i64 4,key,.int .i64 0,.int .i64 0]] w fun e w'=>e= .returned (.bool true)∧Ac w w':=by
 exact Tl
theorem Pe(key hi value:Int)(w:World)(a1:key<0):Calls Tryz.prog 78 #[.agg #[.int .i64 2,key,hi,value]] w fun e w'=>e= .returned (.bool false)∧Ac w w':=by
 exact Tl
theorem Pr(key hi value:Int)(w:World)(a1:0≤key)(a2:63<key):Calls Tryz.prog 78 #[.agg #[.int .i64 2,key,hi,value]] w fun e w'=>e= .returned (.bool false)∧Ac w w':=by
 exact Tl
theorem Ou(key hi value:Int)(w:World)(a1:0≤key)(a2:key≤63)(a3:(hi==0)=false):Calls Tryz.prog 78 #[.agg #[.int .i64 2,key,hi,value]] w fun e w'=>e= .returned (.bool false)∧Ac w w':=by
 exact Tl
theorem NT(key value:Int)(w:World)(a1:0≤key)(a2:key≤63)(a3:value<0):Calls Tryz.prog 78 #[.agg #[.int .i64 2,key,.int .i64 0,value]] w fun e w'=>e= .returned (.bool false)∧Ac w w':=by
 exact Tl
theorem Nz(key value:Int)(w:World)(a1:0≤key)(a2:key≤63)(a3:0≤value)(a4:65535<value):Calls Tryz.prog 78 #[.agg #[.int .i64 2,key,.int .i64 0,value]] w fun e w'=>e= .returned (.bool false)∧Ac w w':=by
 exact Tl
theorem N6(key value:Int)(w:World)(a1:0≤key)(a2:key≤63)(a3:0≤value)(a4:value≤65535):Calls Tryz.prog 78 #[.agg #[.int .i64 2,key,.int .i64 0,value]] w fun e w'=>e= .returned (.bool true)∧Ac w w':=by
 exact Tl
theorem Pi(key hi value:Int)(w:World)(a1:key<0):Calls Tryz.prog 78 #[.agg #[.int .i64 3,key,hi,value]] w fun e w'=>e= .returned (.bool false)∧Ac w w':=by
 exact Tl
theorem Pj(key hi value:Int)(w:World)(a1:0≤key)(a2:63<key):Calls Tryz.prog 78 #[.agg #[.int .i64 3,key,hi,value]] w fun e w'=>e= .returned (.bool false)∧Ac w w':=by
 exact Tl
theorem OS(key hi value:Int)(w:World)(a1:0≤key)(a2:key≤63)(a3:(hi==0)=false):Calls Tryz.prog 78 #[.agg #[.int .i64 3,key,hi,value]] w fun e w'=>e= .returned (.bool false)∧Ac w w':=by
 exact Tl
theorem OH(key value:Int)(w:World)(a1:0≤key)(a2:key≤63)(a3:value<0):Calls Tryz.prog 78 #[.agg #[.int .i64 3,key,.int .i64 0,value]] w fun e w'=>e= .returned (.bool false)∧Ac w w':=by
 exact Tl
theorem O_(key value:Int)(w:World)(a1:0≤key)(a2:key≤63)(a3:0≤value)(a4:65535<value):Calls Tryz.prog 78 #[.agg #[.int .i64 3,key,.int .i64 0,value]] w fun e w'=>e= .returned (.bool false)∧Ac w w':=by
 exact Tl
theorem Oe(key value:Int)(w:World)(a1:0≤key)(a2:key≤63)(a3:0≤value)(a4:value≤65535):Calls Tryz.prog 78 #[.agg #[.int .i64 3,key,.int .i64 0,value]] w fun e w'=>e= .returned (.bool true)∧Ac w w':=by
 exact Tl
theorem Oz(key hi value:Int)(w:World)(a1:key<0):Calls Tryz.prog 78 #[.agg #[.int .i64 5,key,hi,value]] w fun e w'=>e= .returned (.bool false)∧Ac w w':=by
 exact Tl
theorem NS(key hi value:Int)(w:World)(a1:0≤key)(a2:63<key):Calls Tryz.prog 78 #[.agg #[.int .i64 5,key,hi,value]] w fun e w'=>e= .returned (.bool false)∧Ac w w':=by
 exact Tl
theorem Ny(key hi value:Int)(w:World)(a1:0≤key)(a2:key≤63)(a3:hi<key):Calls Tryz.prog 78 #[.agg #[.int .i64 5,key,hi,value]] w fun e w'=>e= .returned (.bool false)∧Ac w w':=by
 exact Tl
theorem Oq(key hi value:Int)(w:World)(a1:0≤key)(a2:key≤63)(a3:key≤hi)(a4:63<hi):Calls Tryz.prog 78 #[.agg #[.int .i64 5,key,hi,value]] w fun e w'=>e= .returned (.bool false)∧Ac w w':=by
 exact Tl
theorem Om(key hi value:Int)(w:World)(a1:0≤key)(a2:key≤63)(a3:key≤hi)(a4:hi≤63)(a5:(value==0)=false):Calls Tryz.prog 78 #[.agg #[.int .i64 5,key,hi,value]] w fun e w'=>e= .returned (.bool false)∧Ac w w':=by
 exact Tl
theorem PF(key hi:Int)(w:World)(a1:0≤key)(a2:key≤63)(a3:key≤hi)(a4:hi≤63):Calls Tryz.prog 78 #[.agg #[.int .i64 5,key,hi,.int .i64 0]] w fun e w'=>e= .returned (.bool true)∧Ac w w':=by
 exact Tl
theorem N8(key hi value:Int)(w:World)(a1:key<0)(a3:(key==0)=false):Calls Tryz.prog 78 #[.agg #[.int .i64 6,key,hi,value]] w fun e w'=>e= .returned (.bool false)∧Ac w w':=by
 exact Tl
theorem OF(key hi value:Int)(w:World)(a1:0≤key)(a2:63<key)(a3:(key==0)=false):Calls Tryz.prog 78 #[.agg #[.int .i64 6,key,hi,value]] w fun e w'=>e= .returned (.bool false)∧Ac w w':=by
 exact Tl
theorem OV(key hi value:Int)(w:World)(a1:0≤key)(a2:key≤63)(a3:(key==0)=false):Calls Tryz.prog 78 #[.agg #[.int .i64 6,key,hi,value]] w fun e w'=>e= .returned (.bool false)∧Ac w w':=by
 exact Tl
theorem Np(hi value:Int)(w:World)(a3:(hi==0)=false):Calls Tryz.prog 78 #[.agg #[.int .i64 6,.int .i64 0,hi,value]] w fun e w'=>e= .returned (.bool false)∧Ac w w':=by
 exact Tl
theorem OC(value:Int)(w:World)(a3:(value==0)=false):Calls Tryz.prog 78 #[.agg #[.int .i64 6,.int .i64 0,.int .i64 0,value]] w fun e w'=>e= .returned (.bool false)∧Ac w w':=by
 exact Tl
theorem PB(w:World):Calls Tryz.prog 78 #[.agg #[.int .i64 6,.int .i64 0,.int .i64 0,.int .i64 0]] w fun e w'=>e= .returned (.bool true)∧Ac w w':=by
 exact Tl
theorem PL(key hi value:Int)(w:World)(a1:key<0)(a3:(key==0)=false):Calls Tryz.prog 78 #[.agg #[.int .i64 7,key,hi,value]] w fun e w'=>e= .returned (.bool false)∧Ac w w':=by
 exact Tl
theorem OQ(key hi value:Int)(w:World)(a1:0≤key)(a2:63<key)(a3:(key==0)=false):Calls Tryz.prog 78 #[.agg #[.int .i64 7,key,hi,value]] w fun e w'=>e= .returned (.bool false)∧Ac w w':=by
 exact Tl
theorem Pc(key hi value:Int)(w:World)(a1:0≤key)(a2:key≤63)(a3:(key==0)=false):Calls Tryz.prog 78 #[.agg #[.int .i64 7,key,hi,value]] w fun e w'=>e= .returned (.bool false)∧Ac w w':=by
 exact Tl
theorem Nv(hi value:Int)(w:World)(a3:(hi==0)=false):Calls Tryz.prog 78 #[.agg #[.int .i64 7,.int .i64 0,hi,value]] w fun e w'=>e= .returned (.bool false)∧Ac w w':=by
 exact Tl
theorem OP(value:Int)(w:World)(a3:(value==0)=false):Calls Tryz.prog 78 #[.agg #[.int .i64 7,.int .i64 0,.int .i64 0,value]] w fun e w'=>e= .returned (.bool false)∧Ac w w':=by
 exact Tl
theorem Oi(w:World):Calls Tryz.prog 78 #[.agg #[.int .i64 7,.int .i64 0,.int .i64 0,.int .i64 0]] w fun e w'=>e= .returned (.bool true)∧Ac w w':=by
 exact Tl
theorem NG(kind key hi value:Int)(w:World)(b1:(kind==1)=false)(b2:(kind==2)=false)(b3:(kind==3)=false)(b4:(kind==4)=false)(b5:(kind==5)=false)(b6:(kind==6)=false)(b7:(kind==7)=false)(a1:key<0):Calls Tryz.prog 78 #[.agg #[kind,key,hi,value]] w fun e w'=>e= .returned (.bool false)∧Ac w w':=by
 exact Tl
theorem NK(kind key hi value:Int)(w:World)(b1:(kind==1)=false)(b2:(kind==2)=false)(b3:(kind==3)=false)(b4:(kind==4)=false)(b5:(kind==5)=false)(b6:(kind==6)=false)(b7:(kind==7)=false)(a1:0≤key)(a2:63<key):Calls Tryz.prog 78 #[.agg #[kind,key,hi,value]] w fun e w'=>e= .returned (.bool false)∧Ac w w':=by
 exact Tl
theorem Od(kind key hi value:Int)(w:World)(b1:(kind==1)=false)(b2:(kind==2)=false)(b3:(kind==3)=false)(b4:(kind==4)=false)(b5:(kind==5)=false)(b6:(kind==6)=false)(b7:(kind==7)=false)(a1:0≤key)(a2:key≤63):Calls Tryz.prog 78 #[.agg #[kind,key,hi,value]] w fun e w'=>e= .returned (.bool false)∧Ac w w':=by
 exact Tl
theorem LE(kind key hi value:Int)(w:World):Calls Tryz.prog 78 #[.agg #[kind,key,hi,value]] w fun e w'=>e= .returned (.bool (AF ⟨kind,key,hi,value⟩))∧Ac w w':=by
 have hk:key<0∨(0≤key∧63<key)∨(0≤key∧key≤63):=by omega
 have fin:∀b:Bool,AF ⟨kind,key,hi,value⟩=b→(Calls Tryz.prog 78 #[.agg #[kind,key,hi,value]] w fun e w'=>e= .returned (.bool b)∧Ac w w')→Calls Tryz.prog 78 #[.agg #[kind,key,hi,value]] w fun e w'=>e= .returned (.bool (AF ⟨kind,key,hi,value⟩))∧Ac w w':=fun b hb h=>by rw[hb];exact h
 by_cases h1:kind=1
 ·subst h1
  rcases hk with a1|⟨a1,a2⟩|⟨a1,a2⟩
  ·exact fin false (by simp[AF,A0];omega) (N4 _ _ _ w a1)
  ·exact fin false (by simp[AF,A0];omega) (NZ _ _ _ w a1 a2)
  ·by_cases e1:hi=0
   ·subst e1
    by_cases e2:value=0
    ·subst e2;exact fin true (by simp[AF,A0];omega) (PD _ w a1 a2)
    ·exact fin false (by simp[AF,A0,e2]) (PG _ _ w a1 a2 (by simpa using e2))
   ·exact fin false (by simp[AF,A0,e1]) (Nr _ _ _ w a1 a2 (by simpa using e1))
 by_cases h2:kind=2
 ·subst h2
  rcases hk with a1|⟨a1,a2⟩|⟨a1,a2⟩
  ·exact fin false (by simp[AF,A0];omega) (Pe _ _ _ w a1)
  ·exact fin false (by simp[AF,A0];omega) (Pr _ _ _ w a1 a2)
  ·by_cases e1:hi=0
   ·subst e1
    by_cases e2:value<0
    ·exact fin false (by simp[AF,A0];omega) (NT _ _ w a1 a2 e2)
    ·by_cases e3:65535<value
     ·exact fin false (by simp[AF,A0];omega) (Nz _ _ w a1 a2 (by omega) e3)
     ·exact fin true (by simp[AF,A0];omega) (N6 _ _ w a1 a2 (by omega) (by omega))
   ·exact fin false (by simp[AF,A0,e1]) (Ou _ _ _ w a1 a2 (by simpa using e1))
 by_cases h3:kind=3
 ·subst h3
  rcases hk with a1|⟨a1,a2⟩|⟨a1,a2⟩
  ·exact fin false (by simp[AF,A0];omega) (Pi _ _ _ w a1)
  ·exact fin false (by simp[AF,A0];omega) (Pj _ _ _ w a1 a2)
  ·by_cases e1:hi=0
   ·subst e1
    by_cases e2:value<0
    ·exact fin false (by simp[AF,A0];omega) (OH _ _ w a1 a2 e2)
    ·by_cases e3:65535<value
     ·exact fin false (by simp[AF,A0];omega) (O_ _ _ w a1 a2 (by omega) e3)
     ·exact fin true (by simp[AF,A0];omega) (Oe _ _ w a1 a2 (by omega) (by omega))
   ·exact fin false (by simp[AF,A0,e1]) (OS _ _ _ w a1 a2 (by simpa using e1))
 by_cases h4:kind=4
 ·subst h4
  rcases hk with a1|⟨a1,a2⟩|⟨a1,a2⟩
  ·exact fin false (by simp[AF,A0];omega) (NC _ _ _ w a1)
  ·exact fin false (by simp[AF,A0];omega) (OG _ _ _ w a1 a2)
  ·by_cases e1:hi=0
   ·subst e1
    by_cases e2:value=0
    ·subst e2;exact fin true (by simp[AF,A0];omega) (Po _ w a1 a2)
    ·exact fin false (by simp[AF,A0,e2]) (OY _ _ w a1 a2 (by simpa using e2))
   ·exact fin false (by simp[AF,A0,e1]) (Nx _ _ _ w a1 a2 (by simpa using e1))
 by_cases h5:kind=5
 ·subst h5
  rcases hk with a1|⟨a1,a2⟩|⟨a1,a2⟩
  ·exact fin false (by simp[AF,A0];omega) (Oz _ _ _ w a1)
  ·exact fin false (by simp[AF,A0];omega) (NS _ _ _ w a1 a2)
  ·by_cases e1:hi<key
   ·exact fin false (by simp[AF,A0];omega) (Ny _ _ _ w a1 a2 e1)
   ·by_cases e2:63<hi
    ·exact fin false (by simp[AF,A0];omega) (Oq _ _ _ w a1 a2 (by omega) e2)
    ·by_cases e3:value=0
     ·subst e3;exact fin true (by simp[AF,A0];omega) (PF _ _ w a1 a2 (by omega) (by omega))
     ·exact fin false (by simp[AF,A0,e3]) (Om _ _ _ w a1 a2 (by omega) (by omega) (by simpa using e3))
 by_cases h6:kind=6
 ·subst h6
  by_cases e0:key=0
  ·subst e0
   by_cases e1:hi=0
   ·subst e1
    by_cases e2:value=0
    ·subst e2;exact fin true (by simp[AF]) (PB w)
    ·exact fin false (by simp[AF,e2]) (OC _ w (by simpa using e2))
   ·exact fin false (by simp[AF,e1]) (Np _ _ w (by simpa using e1))
  ·have e0':(key==0)=false:=by simpa using e0
   rcases hk with a1|⟨a1,a2⟩|⟨a1,a2⟩
   ·exact fin false (by simp[AF,e0]) (N8 _ _ _ w a1 e0')
   ·exact fin false (by simp[AF,e0]) (OF _ _ _ w a1 a2 e0')
   ·exact fin false (by simp[AF,e0]) (OV _ _ _ w a1 a2 e0')
 by_cases h7:kind=7
 ·subst h7
  by_cases e0:key=0
  ·subst e0
   by_cases e1:hi=0
   ·subst e1
    by_cases e2:value=0
    ·subst e2;exact fin true (by simp[AF]) (Oi w)
    ·exact fin false (by simp[AF,e2]) (OP _ w (by simpa using e2))
   ·exact fin false (by simp[AF,e1]) (Nv _ _ w (by simpa using e1))
  ·have e0':(key==0)=false:=by simpa using e0
   rcases hk with a1|⟨a1,a2⟩|⟨a1,a2⟩
   ·exact fin false (by simp[AF,e0]) (PL _ _ _ w a1 e0')
   ·exact fin false (by simp[AF,e0]) (OQ _ _ _ w a1 a2 e0')
   ·exact fin false (by simp[AF,e0]) (Pc _ _ _ w a1 a2 e0')
 have no:AF ⟨kind,key,hi,value⟩=false:=by simp[AF,h1,h2,h3,h4,h5,h6,h7]
 rcases hk with a1|⟨a1,a2⟩|⟨a1,a2⟩
 ·exact fin false no (NG _ _ _ _ w (by simpa using h1) (by simpa using h2) (by simpa using h3) (by simpa using h4) (by simpa using h5) (by simpa using h6) (by simpa using h7) a1)
 ·exact fin false no (NK _ _ _ _ w (by simpa using h1) (by simpa using h2) (by simpa using h3) (by simpa using h4) (by simpa using h5) (by simpa using h6) (by simpa using h7) a1 a2)
 ·exact fin false no (Od _ _ _ _ w (by simpa using h1) (by simpa using h2) (by simpa using h3) (by simpa using h4) (by simpa using h5) (by simpa using h6) (by simpa using h7) a1 a2)
end
section
set_option maxRecDepth 100000
theorem MP:(Tryz.prog.info? 191).map (fun i=>(i.zero,i.size,i.bytes))=some (some (.agg #[.int .u64 0]),1,8):=by kernel_rfl
theorem OL(n:Nat)(hn:n≤1000000)(w:World):(Instr.makeSlice 178 (.int .i64 n) (.int .i64 n)).run Tryz.prog w= .ok (.slice (some ⟨w.heap.size,0,none⟩) n n) (w.alloc (.cells (List.replicate n (Value.int .u64 0)).toArray 191)):=by
 obtain⟨i,hi,hz,h1,h2⟩:=info_parts MP
 have hr:=run_make (P:=Tryz.prog) w 178 191 i _ Tryz.underlying178 hi hz .i64 .i64 n n (by omega) (Int.le_refl _) (by rw[h2];omega) (by omega)
 have he:madeCells (Value.agg #[.int .u64 0]).cells (n*1)=(List.replicate n (Value.int .u64 0)).toArray:=by
  apply Array.ext'
  simpa[Value.cells]using toList_madeCells_one (.int .u64 0) n
 rw[h1,Int.toNat_natCast,he]at hr
 exact hr
def AS.zero(n:Nat):AS:=⟨List.replicate n 0,0⟩
theorem LW(n:Int)(h0:1≤n)(h1:n≤100000)(w:World):
 Calls Tryz.prog 40 #[n] w fun e w'=>e= .returned (.tuple #[.pointer (some ⟨w.heap.size+1,0,none⟩),.int .i64 0])∧AN w' (w.heap.size+1) w.heap.size (AS.zero n.toNat)∧Below w.heap.size w w'∧w'.heap.size=w.heap.size+2:=by
 obtain⟨m,rfl⟩:=Int.eq_ofNat_of_zero_le (show 0≤n by omega)
 have hmk:=fun wx=>OL m (by omega) wx
 go_enter Tryz.func40,Tryz.ntmps40
 go_wp2_with fail
 go_ret2
 refine⟨rfl,⟨?_,?_,by omega,by simp[AS.zero];omega⟩,?_,by simp⟩
 ·simpa[AS.zero]using Am.new' (w.alloc (Obj.cells (Array.replicate m (Value.int IntKind.u64 0)) 191)) 183 #[Value.slice (some ⟨w.heap.size,0,none⟩) m m,Value.int IntKind.i64 0] (w.heap.size+1) (by simp)
 ·simpa[AS.zero]using(Am.new w 191 (Array.replicate m (Value.int IntKind.u64 0))).alloc _
 ·exact((Below.refl _ _).alloc (Nat.le_refl _) _).alloc (by simp) _
def F8(xs:List Int)(k:Nat):List Value:=(xs.take k).map (Value.int .u64)++List.replicate (xs.length-k) (Value.int .u64 0)
end
section
theorem Ld{w:World}{a b:Nat}{s:AS}(h:AN w a b s)(i:Int):
 Calls Tryz.prog 46 #[.pointer (some ⟨a,0,none⟩),i] w fun e w'=>e= .returned (.int .u64 (s.load i))∧w=w':=by
 have c0:=h.c0
 cases ho:s.on i with
 |true=>
  have e1:s.load i=s.ws.getD i.toNat 0:=by simp[AS.load,ho]
  rw[e1]
  obtain⟨h0,h1⟩:=(AS.on_iff s i).1 ho
  clear ho e1
  have hw:=h.wd i.toNat (by omega)
  have ei:(i.toNat:Int)=i:=by omega
  generalize s.ws.getD i.toNat 0=x at hw ⊢
  obtain⟨j,rfl⟩:=Int.eq_ofNat_of_zero_le h0
  rw[Int.toNat_natCast]at hw
  have C:=Kt b _ _ _ hw
  go_enter Tryz.func46,Tryz.ntmps46
  go_wp2_with fail
  refine C.mono ?_
  rintro e w1 ⟨rfl,rfl⟩
  go_wp2_with fail
  go_ret
  exact⟨rfl,rfl⟩
 |false=>
  have e1:s.load i=0:=by simp[AS.load,ho]
  rw[e1]
  have hi:=(AS.on_not s i).1 ho
  clear ho e1
  by_cases hn:i<0
  ·exact Ri
  ·have hg:i≥(s.ws.length:Int):=by omega
   have hg2:(s.ws.length:Int)≤i:=hg
   exact Ri
section
variable {B:Nat} {w:World} {P:Nat→Prop} {F:Nat→Nat→Prop} {D:DB} {E:En}
theorem A6.txCell(h:A6 B w P F D E):w.cell? ⟨D.A.e,5,none⟩=some (Cj D E 0)∧w.cell? ⟨D.A.e,6,none⟩=some (Cj D E 1)∧w.cell? ⟨D.A.e,7,none⟩=some (Cj D E 2)∧w.cell? ⟨D.A.e,8,none⟩=some (Cj D E 3)∧
 Ab w D.A.e 9 (Cj D E 4)∧Ab w D.A.e 10 (Cj D E 5)∧Ab w D.A.e 11 (Cj D E 6)∧Ab w D.A.e 12 (Cj D E 7):=
 ⟨h.ex.sh.eng.cell 5,h.ex.sh.eng.cell 6,h.ex.sh.eng.cell 7,h.ex.sh.eng.cell 8,h.ex.sh.eng.cell 9,h.ex.sh.eng.cell 10,h.ex.sh.eng.cell 11,h.ex.sh.eng.cell 12⟩
theorem EX.tpc{Q R:Nat→Prop}{A:EA}{K:EK}{S:Sh}(h:EX B w P Q R A K S)(s:Nat)(hs:s<8):w.cell? ⟨A.e,5+s,none⟩=some (K.tp s):=by
 match s,hs with
 |0,_=>exact h.sh.eng.cell 5
 |1,_=>exact h.sh.eng.cell 6
 |2,_=>exact h.sh.eng.cell 7
 |3,_=>exact h.sh.eng.cell 8
 |4,_=>exact h.sh.eng.cell 9
 |5,_=>exact h.sh.eng.cell 10
 |6,_=>exact h.sh.eng.cell 11
 |7,_=>exact h.sh.eng.cell 12
theorem EX.cpc{Q R:Nat→Prop}{A:EA}{K:EK}{S:Sh}(h:EX B w P Q R A K S)(s:Nat)(hs:s<8):w.cell? ⟨A.e,13+s,none⟩=some (K.cp s):=by
 match s,hs with
 |0,_=>exact h.sh.eng.cell 13
 |1,_=>exact h.sh.eng.cell 14
 |2,_=>exact h.sh.eng.cell 15
 |3,_=>exact h.sh.eng.cell 16
 |4,_=>exact h.sh.eng.cell 17
 |5,_=>exact h.sh.eng.cell 18
 |6,_=>exact h.sh.eng.cell 19
 |7,_=>exact h.sh.eng.cell 20
end
theorem FI{P:Program}{w:World}(t e:TypeId)(n:Nat)(cs:Array Value)(i:Nat)(v:Value)(h:P.underlying t=some (.array n e))(hi:i<n)(hv:cs[i]? =some v)(hs:(sizeOf e).run P w= .ok 1 w)(ha:(isAgg e).run P w= .ok false w):(Instr.index t (.agg cs) (.int .i64 i)).run P w= .ok v w:=by
 simp[Instr.index,run_underlying h,asIntOf,hi,hv,hs,ha,Result.andThen,go_sem]
def Q4(D:DB)(E:En):Array Value:=#[Cj D E 0,Cj D E 1,Cj D E 2,Cj D E 3,Cj D E 4,Cj D E 5,Cj D E 6,Cj D E 7]
theorem Nl(D:DB)(E:En)(k:Nat)(hk:k<8):(Q4 D E)[k]? =some (Cj D E k):=by
 match k,hk with
 |0,_=>rfl
 |1,_=>rfl
 |2,_=>rfl
 |3,_=>rfl
 |4,_=>rfl
 |5,_=>rfl
 |6,_=>rfl
 |7,_=>rfl
theorem RR(D:DB)(E:En)(w:World)(k:Nat)(hk:k<8):(Instr.index 100 (.agg #[Cj D E 0,Cj D E 1,Cj D E 2,Cj D E 3,Cj D E 4,Cj D E 5,Cj D E 6,Cj D E 7]) (.int .i64 k)).run Tryz.prog w= .ok (Cj D E k) w:=
 FI _ _ 8 _ k _ Tryz.underlying100 hk (by simpa[Q4]using Nl D E k hk) (by kernel_rfl) (by kernel_rfl)
theorem Pp{B:Nat}{w:World}{P:Nat→Prop}{F:Nat→Nat→Prop}{D:DB}{E:En}(h:A6 B w P F D E):
 Calls Tryz.prog 27 #[bp D.A.e] w fun e w'=>e= .returned (.int .i64 E.looks)∧w=w':=by
 have c:=Ae w D.A.e 23 (.int .i64 E.looks) (h.ex.sh.eng.cell 23)
 clear h
 go_enter Tryz.func27,Tryz.ntmps27
 go_wp2_with fail
 go_ret
 exact⟨rfl,rfl⟩
theorem Ro{B:Nat}{w:World}{P:Nat→Prop}{F:Nat→Nat→Prop}{D:DB}{E:En}(h:A6 B w P F D E){N:Nat}(hN:AW N E.sh):
 Calls Tryz.prog 33 #[bp D.A.e] w fun e w'=>e= .returned (.int .u64 E.now)∧w=w':=by
 have c:=Ae w D.A.e 2 (bp D.A.a) (h.ex.sh.eng.cell 2)
 have CP:=Ld h.ex.sh.ar 0
 obtain⟨x,hx⟩:=Aq (E.sh.a.load 0)
 obtain⟨x0,x1⟩:0≤x∧x<18446744073709551616:=by rw[←hx];exact AG hN.word _
 have HR:Hid (E.now=x/65536):=Aa (by unfold En.now;rw[hx])
 rw[hx]at CP
 have CD:=EO x w x0 x1
 clear h
 go_enter Tryz.func33,Tryz.ntmps33
 go_wp2_with fail
 refine CP.mono ?_
 rintro e w1 ⟨rfl,rfl⟩
 go_wp2_with fail
 refine CD.mono ?_
 rintro e w1 ⟨rfl,rfl⟩
 go_wp2_with fail
 go_ret
 rw[HR.out]
 exact⟨rfl,rfl⟩
theorem L8(s:En):s.live=(List.range 8).filterMap s.liveAt:=rfl
theorem Kl{s:En}{q:Nat}(h:s.ses q=none):(List.range (q+1)).filterMap s.liveAt=(List.range q).filterMap s.liveAt:=by
 rw[List.range_succ,List.filterMap_append];simp[En.liveAt,h]
theorem JX{s:En}{q:Nat}{t:Kx}(h:s.ses q=some t):(List.range (q+1)).filterMap s.liveAt=(List.range q).filterMap s.liveAt++[(q:Int)]:=by
 rw[List.range_succ,List.filterMap_append];simp[En.liveAt,h]
theorem KC(s:En)(q:Nat):((List.range q).filterMap s.liveAt).length≤q:=by
 refine Nat.le_trans (List.length_filterMap_le _ _) ?_
 simp
theorem MO:(Tryz.prog.info? 3).map (fun i=>(i.zero,i.size,i.bytes))=some (some (.int .i64 0),1,8):=by kernel_rfl
theorem QK{B:Nat}{w:World}{P:Nat→Prop}{F:Nat→Nat→Prop}{D:DB}{s:En}(h:A6 B w P F D s):
 Calls Tryz.prog 23 #[bp D.A.e] w fun e w'=>(∃a c,e= .returned (.slice a s.live.length c))∧Ac w w':=by
 obtain⟨p0,p1,p2,p3,p4,p5,p6,p7⟩:=h.txCell
 have HH:=Aa h
 obtain⟨i0,hi0,hz0,hz1,hz2⟩:=info_parts MO
 clear h
 go_enter Tryz.func23,Tryz.ntmps23
 go_wp2_with fail
 go_loopw [3,10] (fun s5 s8 wr=>∃(q len:Nat) (ra:Option Addr) (rc:Nat),s8= .int .i64 q∧q≤8∧s5= .slice ra len rc∧len≤8∧Hid (len=((List.range q).filterMap s.liveAt).length∧Ac w wr∧wr.ownsRow w.heap.size 3 1 (.slice ra len rc) len (((List.range q).filterMap s.liveAt).map (Value.int .i64)))) (fun _ s8 _=>8-(intOf s8).toNat)
 case atStart=>exact⟨0,0,none,0,rfl,by omega,rfl,by omega,Aa ⟨rfl,Ac.refl _,World.ownsRow_nil _ _ _ _⟩⟩
 case round=>
  obtain⟨q,len,ra,rc,rfl,hq,rfl,hl,HR⟩:=hrel
  by_cases hlt:q<8
  ·have hix:=RR D s wr q hlt
   have few:=KC s (q+1)
   cases hu:s.ses q with
   |none=>
    rw[show Cj D s q= .pointer none by simp[Cj,hu]]at hix
    have R:=Aa (show len=((List.range (q+1)).filterMap s.liveAt).length∧Ac w wr∧wr.ownsRow w.heap.size 3 1 (.slice ra len rc) len (((List.range (q+1)).filterMap s.liveAt).map (Value.int .i64)) by rw[Kl hu];exact HR.out)
    clear hu few HR
    go_wp2_with fail
    go_roundw
    case rel=>exact⟨q+1,len,ra,rc,by go_num,by omega,rfl,hl,R⟩
    case measure=>simp[intOf];omega
   |some t=>
    rw[show Cj D s q=bp (D.S q).t by simp[Cj,hu]]at hix
    have e1:=JX hu
    have len1:=HR.out.1
    have hown:=HR.out.2.2
    have hwr:=HR.out.2.1.size
    have hl2:len+1≤8:=by rw[e1]at few;simp at few;omega
    have NEXT:∀(g cap:Nat) (w2:World),w2.ownsRow w.heap.size 3 1 (.slice (some ⟨g,0,none⟩) (len+1) cap) (len+1) (((List.range q).filterMap s.liveAt).map (Value.int .i64)++[.int .i64 q])→(wr.alloc (.cells #[q] 3)).grownBy w2 (Value.slice ra len rc).ownBlock→
     len+1=((List.range (q+1)).filterMap s.liveAt).length∧Ac w w2∧w2.ownsRow w.heap.size 3 1 (.slice (some ⟨g,0,none⟩) (len+1) cap) (len+1) (((List.range (q+1)).filterMap s.liveAt).map (Value.int .i64)):=by
     intro g cap w2 h2 hg
     rw[e1,List.map_append]
     refine⟨by simp[len1],(HR.out.2.1.alloc _).grown hg (fun b hb=>(hown.lt b hb).1),h2⟩
    have HNX:=Aa NEXT
    clear hu few HR NEXT e1 len1
    go_wp2_with (at_builtin;refine wpList_append_lies _ rfl _ _ 22 rfl w.heap.size 3 i0 (.int .i64 0) 1 8 Tryz.underlying22 hi0 hz0 hz1 hz2 rfl (by decide) (.slice ra len rc) len (((List.range q).filterMap s.liveAt).map (Value.int .i64)) rfl (hown.alloc _) ⟨wr.heap.size,0,none⟩ 1 1 [.int .i64 q] rfl rfl ?c1 ?c2 (by decide) ?c3 ?c4 ?c5 (wr.heap.size+1) ?c6 ?_)
    case c1=>exact World.news_of_block (cs:=#[.int .i64 q]) (t:=3) (fr:=(0,0)) (heap_alloc_new wr _)
    case c2=>intro u hu;simp at hu;subst hu;rfl
    case c3=>unfold maxLen;omega
    case c4=>omega
    case c5=>simp;omega
    case c6=>simp
    intro g cap w2 hown2 hgrow hat hlt2
    have R:=Aa (HNX.out g cap w2 hown2 hgrow)
    clear HNX hown hown2 hgrow hat hlt2
    go_wp2_with fail
    go_roundw
    case rel=>exact⟨q+1,len+1,_,cap,by go_num,by omega,rfl,by omega,R⟩
    case measure=>simp[intOf];omega
  ·obtain rfl:q=8:=by omega
   have R:=Aa HR.out
   clear HR
   go_wp2_with fail
   go_ret
   obtain⟨e1,o1,r1⟩:=R.out
   rw[←L8]at e1
   subst e1
   exact⟨⟨ra,rc,rfl⟩,o1⟩
theorem EL:(Tryz.prog.info? 46).map (·.size)=some 9:=by kernel_rfl
theorem PM{w:World}{n:Nat}{t:TypeId}{a b c d e f g h i:Value}(B:Am w n t #[a,b,c,d,e,f,g,h,i])(a' b' c' d' e' f' g' h' i':Value):
 Am (((((((((w.setCell ⟨n,0,none⟩ a').setCell ⟨n,1,none⟩ b').setCell ⟨n,2,none⟩ c').setCell ⟨n,3,none⟩ d').setCell ⟨n,4,none⟩ e').setCell ⟨n,5,none⟩ f').setCell ⟨n,6,none⟩ g').setCell ⟨n,7,none⟩ h').setCell ⟨n,8,none⟩ i') n t #[a',b',c',d',e',f',g',h',i']∧Ah (fun c=>c=n) w (((((((((w.setCell ⟨n,0,none⟩ a').setCell ⟨n,1,none⟩ b').setCell ⟨n,2,none⟩ c').setCell ⟨n,3,none⟩ d').setCell ⟨n,4,none⟩ e').setCell ⟨n,5,none⟩ f').setCell ⟨n,6,none⟩ g').setCell ⟨n,7,none⟩ h').setCell ⟨n,8,none⟩ i'):=by
 have B0:Am _ n t #[a',b,c,d,e,f,g,h,i]:=B.set 0 a'
 have B1:Am _ n t #[a',b',c,d,e,f,g,h,i]:=B0.set 1 b'
 have B2:Am _ n t #[a',b',c',d,e,f,g,h,i]:=B1.set 2 c'
 have B3:Am _ n t #[a',b',c',d',e,f,g,h,i]:=B2.set 3 d'
 have B4:Am _ n t #[a',b',c',d',e',f,g,h,i]:=B3.set 4 e'
 have B5:Am _ n t #[a',b',c',d',e',f',g,h,i]:=B4.set 5 f'
 have B6:Am _ n t #[a',b',c',d',e',f',g',h,i]:=B5.set 6 g'
 have B7:Am _ n t #[a',b',c',d',e',f',g',h',i]:=B6.set 7 h'
 have B8:Am _ n t #[a',b',c',d',e',f',g',h',i']:=B7.set 8 i'
 exact⟨B8,((((((((Ah.set1 w n 0 a').trans (Ah.set1 _ n 1 b')).trans (Ah.set1 _ n 2 c')).trans (Ah.set1 _ n 3 d')).trans (Ah.set1 _ n 4 e')).trans (Ah.set1 _ n 5 f')).trans (Ah.set1 _ n 6 g')).trans (Ah.set1 _ n 7 h')).trans (Ah.set1 _ n 8 i')⟩
end
section
attribute [local go_sem ↓] Go.wp_at_zero Go.wp_at_succ
def Cv.row(s:Cv):Array Value:=#[.bool s.live,.bool s.busy,.bool s.waits,.int .i64 s.id,.int .i64 s.level,.int .i64 s.state,.int .u64 s.beg,.int .u64 s.fin,.int .i64 s.ops]
theorem Am.al{w:World}{b:Nat}{t:TypeId}{cs:Array Value}(h:Am w b t cs)(o:Obj):Am (w.alloc o) b t cs:=((Ac.refl w).alloc o).blk h (fun e=>e)
theorem E6{w:World}{t:Nat}{ty:TypeId}{S:SA}{x:Dq}(h:Am w t ty (Ep S x)):w.cell? ⟨t,0,none⟩=some (.int .i64 x.id)∧w.cell? ⟨t,1,none⟩=some (.int .i64 x.level)∧w.cell? ⟨t,3,none⟩=some (.int .u64 x.beg)∧w.cell? ⟨t,4,none⟩=some (.int .u64 x.fin)∧w.cell? ⟨t,5,none⟩=some (.int .i64 x.ops):=
 ⟨h.cell 0,h.cell 1,h.cell 3,h.cell 4,h.cell 5⟩
theorem Mt{B:Nat}{w:World}{P:Nat→Prop}{F:Nat→Nat→Prop}{D:DB}{E:En}(h:A6 B w P F D E)(s:Int):
 Calls Tryz.prog 15 #[bp D.A.e,s] w fun e w'=>e= .returned (.agg (E.status s).row)∧Ac w w':=by
 obtain⟨W,hW⟩:=Ad (w.alloc (.cells #[.bool false,.bool false,.bool false,.int .i64 0,.int .i64 0,.int .i64 0,.int .u64 0,.int .u64 0,.int .i64 0] 46))
 have oW:Ac w W:=by rw[hW];exact(Ac.refl w).alloc _
 have BX:Am W w.heap.size 46 #[.bool false,.bool false,.bool false,.int .i64 0,.int .i64 0,.int .i64 0,.int .u64 0,.int .u64 0,.int .i64 0]:=by rw[hW];exact Am.new _ _ _
 obtain⟨n0,hn0⟩:=Ad w.heap.size
 have HN:=Aa hn0
 have HO:=Aa oW
 rw[←hn0]at BX
 have CS:=E5 s W
 have b0:=Ae W n0 0 (.bool false) (BX.cell 0)
 have b1:=Ae W n0 1 (.bool false) (BX.cell 1)
 have b2:=Ae W n0 2 (.bool false) (BX.cell 2)
 have b3:=Ae W n0 3 (.int .i64 0) (BX.cell 3)
 have b4:=Ae W n0 4 (.int .i64 0) (BX.cell 4)
 have b5:=Ae W n0 5 (.int .i64 0) (BX.cell 5)
 have b6:=Ae W n0 6 (.int .u64 0) (BX.cell 6)
 have b7:=Ae W n0 7 (.int .u64 0) (BX.cell 7)
 have b8:=Ae W n0 8 (.int .i64 0) (BX.cell 8)
 have bf:=fun i=>BX.free i
 have HBX:=Aa BX
 clear BX hn0
 cases hs:Be s with
 |false=>
  rw[show E.status s= .zero by unfold En.status;rw[hs];rfl]
  rw[hs]at CS
  clear hs h oW
  exact Tk
 |true=>
  obtain⟨s0,s1⟩:0≤s∧s<8:=by simpa[Be]using hs
  obtain⟨j,rfl⟩:=Int.eq_ofNat_of_zero_le s0
  rw[hs]at CS
  have hj:j<8:=by omega
  have j8:(j:Int)<8:=by omega
  have hX:=h.ex
  have cj:=Ae W D.A.e (5+j) (Cj D E j) (by rw[hW];exact(EX.tpc (hX.only0 ((Ac.refl w).alloc _)) j hj))
  have ck:=Ae W D.A.e (13+j) (Cm D E j) (by rw[hW];exact(EX.cpc (hX.only0 ((Ac.refl w).alloc _)) j hj))
  cases hu:E.ses j with
  |none=>
   rw[show E.status (j:Int)= .zero by unfold En.status;rw[hs,if_pos rfl,Int.toNat_natCast,hu]]
   rw[show Cj D E j= .pointer none by simp[Cj,hu]]at cj
   clear hs h oW hX hu ck
   exact Tk
  |some x=>
   rw[show E.status (j:Int)=x.stat by unfold En.status;rw[hs,if_pos rfl,Int.toNat_natCast,hu]]
   rw[show Cj D E j=bp (D.S j).t by simp[Cj,hu]]at cj
   have X0:=oW.blk (h.hole.tx j x hj (by omega) hu).blk (fun e=>e)
   have t0:=Ae W ((D.S j).t) 0 (.int .i64 x.t.id) (X0.cell 0)
   have t1:=Ae W ((D.S j).t) 1 (.int .i64 x.t.level) (X0.cell 1)
   have t3:=Ae W ((D.S j).t) 3 (.int .u64 x.t.beg) (X0.cell 3)
   have t4:=Ae W ((D.S j).t) 4 (.int .u64 x.t.fin) (X0.cell 4)
   have t5:=Ae W ((D.S j).t) 5 (.int .i64 x.t.ops) (X0.cell 5)
   obtain⟨V,hV⟩:=Ad (((W.alloc (.cells #[.bool true,.bool false,.bool false,x.t.id,x.t.level,.int .i64 1,.int .u64 x.t.beg,.int .u64 x.t.fin,x.t.ops] 46)).drew).drew)
   obtain⟨n1,hn1⟩:=Ad W.heap.size
   have oV:Ac W V:=by rw[hV];exact(((Ac.refl W).alloc _).drew).drew
   have BV:Am V n1 46 #[.bool true,.bool false,.bool false,x.t.id,x.t.level,.int .i64 1,.int .u64 x.t.beg,.int .u64 x.t.fin,x.t.ops]:=by rw[hV,hn1];exact(Am.new _ _ _).drew.drew
   have BT:=oV.blk X0 (fun e=>e)
   have hnt:(D.S j).t≠n1:=fun e=>by
    have:=X0.lt
    omega
   have f1:=fun i=>BV.free i
   have d4:=Ae V ((D.S j).t) 4 (.int .u64 x.t.fin) (BT.cell 4)
   have B0:=oV.blk HBX.out (fun e=>e)
   have HC:=Aa (show ∀c kk,x.c=some (c,kk)→Am V (D.S j).c 127 (BW (D.S j) c (D.nx j)) from fun c kk hc=>by
    refine oV.blk (oW.blk (h.hole.cl j x.t c kk hj (by omega) ?_).1.blk (fun e=>e)) (fun e=>e)
    rw[hu,←hc])
   have HC:=Aa (show ∀c kk,x.c=some (c,kk)→Am V (D.S j).c 127 (BW (D.S j) c (D.nx j)) from fun c kk hc=>by
    refine oV.blk (oW.blk (h.hole.cl j x.t c kk hj (by omega) ?_).1.blk (fun e=>e)) (fun e=>e)
    rw[hu,←hc])
   have HC:=Aa (show ∀c kk,x.c=some (c,kk)→Am V (D.S j).c 127 (BW (D.S j) c (D.nx j)) from fun c kk hc=>by
    refine oV.blk (oW.blk (h.hole.cl j x.t c kk hj (by omega) ?_).1.blk (fun e=>e)) (fun e=>e)
    rw[hu,←hc])
   have HC:=Aa (show ∀c kk,x.c=some (c,kk)→Am V (D.S j).c 127 (BW (D.S j) c (D.nx j)) from fun c kk hc=>by
    refine oV.blk (oW.blk (h.hole.cl j x.t c kk hj (by omega) ?_).1.blk (fun e=>e)) (fun e=>e)
    rw[hu,←hc])
   have HC:=Aa (show ∀c kk,x.c=some (c,kk)→Am V (D.S j).c 127 (BW (D.S j) c (D.nx j)) from fun c kk hc=>by
    refine oV.blk (oW.blk (h.hole.cl j x.t c kk hj (by omega) ?_).1.blk (fun e=>e)) (fun e=>e)
    rw[hu,←hc])
   have hne:n0≠n1:=fun e=>by
    have h3:=HBX.out.lt
    omega
   have HV:=Aa (show Am V n0 46 #[.bool false,.bool false,.bool false,.int .i64 0,.int .i64 0,.int .i64 0,.int .u64 0,.int .u64 0,.int .i64 0]∧Am V n1 46 #[.bool true,.bool false,.bool false,x.t.id,x.t.level,.int .i64 1,.int .u64 x.t.beg,.int .u64 x.t.fin,x.t.ops]∧Ac w V∧w.heap.size≤n0∧w.heap.size≤n1 from⟨B0,BV,oW.trans oV,by rw[HN.out];exact Nat.le_refl _,by rw[hn1];exact oW.size⟩)
   generalize hcp:Cm D E j=cp at ck
   go_enter Tryz.func15,Tryz.ntmps15
   go_upto_region 1 with(fail)
   rw[←hW,←HN.out]
   clear hW
   go_wp2_with fail
   refine CS.mono ?_
   rintro e w1 ⟨rfl,rfl⟩
   go_wp2_with fail
   go_region
   go_wp2_with fail
   clear h hX
   refine wp_region_held_drew (S:=(fun w'=>Ab w' ((D.S j).t) 0 (.int .i64 x.t.id)∧Ab w' ((D.S j).t) 1 (.int .i64 x.t.level)∧Ab w' ((D.S j).t) 3 (.int .u64 x.t.beg)∧Ab w' ((D.S j).t) 4 (.int .u64 x.t.fin)∧Ab w' ((D.S j).t) 5 (.int .i64 x.t.ops))) (by kernel_rfl) ?_ (fun hHeld=>?_)
   ·first|exact E6 X0|exact E6 X0.drew.drew|exact E6 (X0.al _).drew.drew
   refine Af 0 (h:=Af 1 (h:=Af 2 (h:=Af 3 (h:=Af 4 (h:=Af 5 (h:=Af 6 (h:=Af 7 (h:=Af 8 (h:=Af 9 (h:=Af 10 (h:=Af 11 (h:=?_))))))))))))
   refine Af 12 (h:=Af 13 (h:=Af 14 (h:=Af 15 (h:=Af 16 (h:=Af 17 (h:=Af 18 (h:=Af 19 (h:=Af 20 (h:=Ar (i:=21) (h:=fun K hK=>?_))))))))))
   go_simp
   skip
   try go_wp2_with fail
   refine AK hK (by first|exact E6 X0|exact E6 X0.drew.drew|exact E6 (X0.al _).drew.drew) (h:=fun hHeld=>?_);clear hK K
   refine Ar (i:=22) (h:=fun K hK=>?_)
   try simp only[List.getElem_toArray,List.getElem_cons_zero,List.getElem_cons_succ]
   go_simp
   skip
   try go_wp2_with fail
   refine AK hK (by first|exact E6 X0|exact E6 X0.drew.drew|exact E6 (X0.al _).drew.drew) (h:=fun hHeld=>?_);clear hK K
   refine wpAnyH_done (by kernel_rfl) ?_ _
   rw[←hV,←hn1]
   clear hV hn1 oW oV hs t0 t1 t3 t4 t5 X0 CS cj b0 b1 b2 b3 b4 b5 b6 b7 b8 bf hHeld BT
   have g0:=Ae V n1 0 (.bool true) (BV.cell 0)
   have g1:=Ae V n1 1 (.bool false) (BV.cell 1)
   have g2:=Ae V n1 2 (.bool false) (BV.cell 2)
   have g3:=Ae V n1 3 (.int .i64 x.t.id) (BV.cell 3)
   have g4:=Ae V n1 4 (.int .i64 x.t.level) (BV.cell 4)
   have g5:=Ae V n1 5 (.int .i64 1) (BV.cell 5)
   have g6:=Ae V n1 6 (.int .u64 x.t.beg) (BV.cell 6)
   have g7:=Ae V n1 7 (.int .u64 x.t.fin) (BV.cell 7)
   have g8:=Ae V n1 8 (.int .i64 x.t.ops) (BV.cell 8)
   by_cases hf:0<x.t.fin
   ·have d4p:x.t.fin>0:=hf
    have BV1:Am (V.setCell ⟨n1,5,none⟩ (.int .i64 2)) n1 46 #[.bool true,.bool false,.bool false,x.t.id,x.t.level,.int .i64 2,.int .u64 x.t.beg,.int .u64 x.t.fin,x.t.ops]:=BV.set 5 (.int .i64 2)
    have B01:Am (V.setCell ⟨n1,5,none⟩ (.int .i64 2)) n0 46 #[.bool false,.bool false,.bool false,.int .i64 0,.int .i64 0,.int .i64 0,.int .u64 0,.int .u64 0,.int .i64 0]:=B0.other _ _ hne
    have O1:Ah (fun b=>b=n1) V (V.setCell ⟨n1,5,none⟩ (.int .i64 2)):=Ah.set1 V n1 5 _
    have h0:=Ae (V.setCell ⟨n1,5,none⟩ (.int .i64 2)) n1 0 (.bool true) (BV1.cell 0)
    have h1:=Ae (V.setCell ⟨n1,5,none⟩ (.int .i64 2)) n1 1 (.bool false) (BV1.cell 1)
    have h2:=Ae (V.setCell ⟨n1,5,none⟩ (.int .i64 2)) n1 2 (.bool false) (BV1.cell 2)
    have h3:=Ae (V.setCell ⟨n1,5,none⟩ (.int .i64 2)) n1 3 (.int .i64 x.t.id) (BV1.cell 3)
    have h4:=Ae (V.setCell ⟨n1,5,none⟩ (.int .i64 2)) n1 4 (.int .i64 x.t.level) (BV1.cell 4)
    have h5:=Ae (V.setCell ⟨n1,5,none⟩ (.int .i64 2)) n1 5 (.int .i64 2) (BV1.cell 5)
    have h6:=Ae (V.setCell ⟨n1,5,none⟩ (.int .i64 2)) n1 6 (.int .u64 x.t.beg) (BV1.cell 6)
    have h7:=Ae (V.setCell ⟨n1,5,none⟩ (.int .i64 2)) n1 7 (.int .u64 x.t.fin) (BV1.cell 7)
    have h8:=Ae (V.setCell ⟨n1,5,none⟩ (.int .i64 2)) n1 8 (.int .i64 x.t.ops) (BV1.cell 8)
    cases hc:x.c with
    |none=>
     have e0:cp= .pointer none:=by rw[←hcp];obtain⟨xt,xc⟩:=x;cases hc;simp[Cm,hu]
     have BV2:=BV1
     have B02:=B01
     have O2:=O1
     have HR:=Aa (show x.stat=⟨true,false,false,x.t.id,x.t.level,2,x.t.beg,x.t.fin,x.t.ops⟩ by unfold Kx.stat;rw[hc];simp[hf])
     have HV2:=Aa (And.intro HV.out.2.2 (And.intro BV2 (And.intro B02 O2)))
     obtain⟨U,hU⟩:=Ad ((V.setCell ⟨n1,5,none⟩ (.int .i64 2)))
     have BU:Am U n1 46 #[.bool true,.bool false,.bool false,x.t.id,x.t.level,.int .i64 2,.int .u64 x.t.beg,.int .u64 x.t.fin,x.t.ops]:=by rw[hU];exact BV2
     have BZ:Am U n0 46 #[.bool false,.bool false,.bool false,.int .i64 0,.int .i64 0,.int .i64 0,.int .u64 0,.int .u64 0,.int .i64 0]:=by rw[hU];exact B02
     have OU:Ah (fun b=>b=n1) V U:=by rw[hU];exact O2
     have HU:=Aa (And.intro BZ OU)
     have p0:=Ae U n1 0 (.bool true) (BU.cell 0)
     have p1:=Ae U n1 1 (.bool false) (BU.cell 1)
     have p2:=Ae U n1 2 (.bool false) (BU.cell 2)
     have p3:=Ae U n1 3 (.int .i64 x.t.id) (BU.cell 3)
     have p4:=Ae U n1 4 (.int .i64 x.t.level) (BU.cell 4)
     have p5:=Ae U n1 5 (.int .i64 2) (BU.cell 5)
     have p6:=Ae U n1 6 (.int .u64 x.t.beg) (BU.cell 6)
     have p7:=Ae U n1 7 (.int .u64 x.t.fin) (BU.cell 7)
     have p8:=Ae U n1 8 (.int .i64 x.t.ops) (BU.cell 8)
     have z0:=Ae U n0 0 (.bool false) (BZ.cell 0)
     have z1:=Ae U n0 1 (.bool false) (BZ.cell 1)
     have z2:=Ae U n0 2 (.bool false) (BZ.cell 2)
     have z3:=Ae U n0 3 (.int .i64 0) (BZ.cell 3)
     have z4:=Ae U n0 4 (.int .i64 0) (BZ.cell 4)
     have z5:=Ae U n0 5 (.int .i64 0) (BZ.cell 5)
     have z6:=Ae U n0 6 (.int .u64 0) (BZ.cell 6)
     have z7:=Ae U n0 7 (.int .u64 0) (BZ.cell 7)
     have z8:=Ae U n0 8 (.int .i64 0) (BZ.cell 8)
     have zf:=fun i=>BZ.free i
     clear BV1 B01 O1 BV2 B02 O2 BV B0 hc HV2 BU BZ OU
     subst e0
     go_upto_region 9 with(fail)
     rw[←hU]
     clear hU
     go_wp2_with fail
     obtain⟨B9,o9⟩:=PM HU.out.1 (.bool true) (.bool false) (.bool false) (.int .i64 x.t.id) (.int .i64 x.t.level) (.int .i64 2) (.int .u64 x.t.beg) (.int .u64 x.t.fin) (.int .i64 x.t.ops)
     refine bodyPost_ret (v:= .agg #[.bool true,.bool false,.bool false,x.t.id,x.t.level,.int .i64 2,.int .u64 x.t.beg,.int .u64 x.t.fin,x.t.ops]) (results_cell_row Tryz.results15 _ _ n0 _ _ _ _ rfl B9 Tryz.underlying46 rfl EL) rfl ⟨by rw[HR.out];rfl,?_⟩
     exact Sy
    |some ck=>
     obtain⟨c,kk⟩:=ck
     have e0:cp=bp (D.S j).c:=by rw[←hcp];obtain⟨xt,xc⟩:=x;cases hc;simp[Cm,hu]
     have hB:=HC.out c kk hc
     have hcn:(D.S j).c≠n1:=hB.ne BV (by decide)
     have BC1:=O1.blk hB hcn
     have c1:=Ae (V.setCell ⟨n1,5,none⟩ (.int .i64 2)) ((D.S j).c) 10 (.bool c.waits) (BC1.cell 10)
     have BV2:Am (((V.setCell ⟨n1,5,none⟩ (.int .i64 2)).setCell ⟨n1,1,none⟩ (.bool true)).setCell ⟨n1,2,none⟩ (.bool c.waits)) n1 46 #[.bool true,.bool true,.bool c.waits,x.t.id,x.t.level,.int .i64 2,.int .u64 x.t.beg,.int .u64 x.t.fin,x.t.ops]:=(BV1.set 1 (.bool true)).set 2 (.bool c.waits)
     have B02:Am (((V.setCell ⟨n1,5,none⟩ (.int .i64 2)).setCell ⟨n1,1,none⟩ (.bool true)).setCell ⟨n1,2,none⟩ (.bool c.waits)) n0 46 #[.bool false,.bool false,.bool false,.int .i64 0,.int .i64 0,.int .i64 0,.int .u64 0,.int .u64 0,.int .i64 0]:=(B01.other _ _ hne).other _ _ hne
     have O2:Ah (fun b=>b=n1) V (((V.setCell ⟨n1,5,none⟩ (.int .i64 2)).setCell ⟨n1,1,none⟩ (.bool true)).setCell ⟨n1,2,none⟩ (.bool c.waits)):=(O1.trans (Ah.set1 _ n1 1 _)).trans (Ah.set1 _ n1 2 _)
     have HR:=Aa (show x.stat=⟨true,true,c.waits,x.t.id,x.t.level,2,x.t.beg,x.t.fin,x.t.ops⟩ by unfold Kx.stat;rw[hc];simp[hf])
     have HV2:=Aa (And.intro HV.out.2.2 (And.intro BV2 (And.intro B02 O2)))
     obtain⟨U,hU⟩:=Ad ((((V.setCell ⟨n1,5,none⟩ (.int .i64 2)).setCell ⟨n1,1,none⟩ (.bool true)).setCell ⟨n1,2,none⟩ (.bool c.waits)).drew)
     have BU:Am U n1 46 #[.bool true,.bool true,.bool c.waits,x.t.id,x.t.level,.int .i64 2,.int .u64 x.t.beg,.int .u64 x.t.fin,x.t.ops]:=by rw[hU];exact BV2.drew
     have BZ:Am U n0 46 #[.bool false,.bool false,.bool false,.int .i64 0,.int .i64 0,.int .i64 0,.int .u64 0,.int .u64 0,.int .i64 0]:=by rw[hU];exact B02.drew
     have OU:Ah (fun b=>b=n1) V U:=by rw[hU];exact O2.drew
     have HU:=Aa (And.intro BZ OU)
     have p0:=Ae U n1 0 (.bool true) (BU.cell 0)
     have p1:=Ae U n1 1 (.bool true) (BU.cell 1)
     have p2:=Ae U n1 2 (.bool c.waits) (BU.cell 2)
     have p3:=Ae U n1 3 (.int .i64 x.t.id) (BU.cell 3)
     have p4:=Ae U n1 4 (.int .i64 x.t.level) (BU.cell 4)
     have p5:=Ae U n1 5 (.int .i64 2) (BU.cell 5)
     have p6:=Ae U n1 6 (.int .u64 x.t.beg) (BU.cell 6)
     have p7:=Ae U n1 7 (.int .u64 x.t.fin) (BU.cell 7)
     have p8:=Ae U n1 8 (.int .i64 x.t.ops) (BU.cell 8)
     have z0:=Ae U n0 0 (.bool false) (BZ.cell 0)
     have z1:=Ae U n0 1 (.bool false) (BZ.cell 1)
     have z2:=Ae U n0 2 (.bool false) (BZ.cell 2)
     have z3:=Ae U n0 3 (.int .i64 0) (BZ.cell 3)
     have z4:=Ae U n0 4 (.int .i64 0) (BZ.cell 4)
     have z5:=Ae U n0 5 (.int .i64 0) (BZ.cell 5)
     have z6:=Ae U n0 6 (.int .u64 0) (BZ.cell 6)
     have z7:=Ae U n0 7 (.int .u64 0) (BZ.cell 7)
     have z8:=Ae U n0 8 (.int .i64 0) (BZ.cell 8)
     have zf:=fun i=>BZ.free i
     have hf1:=fun i=>BV1.free i
     clear BV1 B01 O1 BV2 B02 O2 BV B0 hc HV2 BU BZ OU hB BC1
     subst e0
     go_upto_region 8 with(fail)
     refine wp_region_held_drew (S:=(fun w'=>Ab w' ((D.S j).c) 10 (.bool c.waits))) (by kernel_rfl) ?_ (fun hHeld=>?_)
     ·first|exact c1|(go_simp;exact c1)|go_simp
     refine Af 0 (h:=Af 1 (h:=Af 2 (h:=Af 3 (h:=Af 4 (h:=Ar (i:=5) (h:=fun K hK=>?_))))))
     go_simp
     skip
     try go_wp2_with fail
     refine AK hK (by first|exact c1|(go_simp;exact c1)|go_simp) (h:=fun hHeld=>?_);clear hK K
     refine Af 6 (h:=Ar (i:=7) (h:=fun K hK=>?_))
     go_simp
     skip
     try go_wp2_with fail
     refine AK hK (by first|exact c1|(go_simp;exact c1)|go_simp) (h:=fun hHeld=>?_);clear hK K
     refine wpAnyH_done (by kernel_rfl) ?_ _
     go_upto_region 9 with(fail)
     rw[←hU]
     clear hU
     go_wp2_with fail
     obtain⟨B9,o9⟩:=PM HU.out.1 (.bool true) (.bool true) (.bool c.waits) (.int .i64 x.t.id) (.int .i64 x.t.level) (.int .i64 2) (.int .u64 x.t.beg) (.int .u64 x.t.fin) (.int .i64 x.t.ops)
     refine bodyPost_ret (v:= .agg #[.bool true,.bool true,.bool c.waits,x.t.id,x.t.level,.int .i64 2,.int .u64 x.t.beg,.int .u64 x.t.fin,x.t.ops]) (results_cell_row Tryz.results15 _ _ n0 _ _ _ _ rfl B9 Tryz.underlying46 rfl EL) rfl ⟨by rw[HR.out];rfl,?_⟩
     exact Sy
   ·have BV1:=BV
    have B01:=B0
    have O1:Ah (fun b=>b=n1) V V:=Ah.refl _ V
    have h0:=Ae V n1 0 (.bool true) (BV1.cell 0)
    have h1:=Ae V n1 1 (.bool false) (BV1.cell 1)
    have h2:=Ae V n1 2 (.bool false) (BV1.cell 2)
    have h3:=Ae V n1 3 (.int .i64 x.t.id) (BV1.cell 3)
    have h4:=Ae V n1 4 (.int .i64 x.t.level) (BV1.cell 4)
    have h5:=Ae V n1 5 (.int .i64 1) (BV1.cell 5)
    have h6:=Ae V n1 6 (.int .u64 x.t.beg) (BV1.cell 6)
    have h7:=Ae V n1 7 (.int .u64 x.t.fin) (BV1.cell 7)
    have h8:=Ae V n1 8 (.int .i64 x.t.ops) (BV1.cell 8)
    cases hc:x.c with
    |none=>
     have e0:cp= .pointer none:=by rw[←hcp];obtain⟨xt,xc⟩:=x;cases hc;simp[Cm,hu]
     have BV2:=BV1
     have B02:=B01
     have O2:=O1
     have HR:=Aa (show x.stat=⟨true,false,false,x.t.id,x.t.level,1,x.t.beg,x.t.fin,x.t.ops⟩ by unfold Kx.stat;rw[hc];simp[hf])
     have HV2:=Aa (And.intro HV.out.2.2 (And.intro BV2 (And.intro B02 O2)))
     obtain⟨U,hU⟩:=Ad V
     have BU:Am U n1 46 #[.bool true,.bool false,.bool false,x.t.id,x.t.level,.int .i64 1,.int .u64 x.t.beg,.int .u64 x.t.fin,x.t.ops]:=by rw[hU];exact BV2
     have BZ:Am U n0 46 #[.bool false,.bool false,.bool false,.int .i64 0,.int .i64 0,.int .i64 0,.int .u64 0,.int .u64 0,.int .i64 0]:=by rw[hU];exact B02
     have OU:Ah (fun b=>b=n1) V U:=by rw[hU];exact O2
     have HU:=Aa (And.intro BZ OU)
     have p0:=Ae U n1 0 (.bool true) (BU.cell 0)
     have p1:=Ae U n1 1 (.bool false) (BU.cell 1)
     have p2:=Ae U n1 2 (.bool false) (BU.cell 2)
     have p3:=Ae U n1 3 (.int .i64 x.t.id) (BU.cell 3)
     have p4:=Ae U n1 4 (.int .i64 x.t.level) (BU.cell 4)
     have p5:=Ae U n1 5 (.int .i64 1) (BU.cell 5)
     have p6:=Ae U n1 6 (.int .u64 x.t.beg) (BU.cell 6)
     have p7:=Ae U n1 7 (.int .u64 x.t.fin) (BU.cell 7)
     have p8:=Ae U n1 8 (.int .i64 x.t.ops) (BU.cell 8)
     have z0:=Ae U n0 0 (.bool false) (BZ.cell 0)
     have z1:=Ae U n0 1 (.bool false) (BZ.cell 1)
     have z2:=Ae U n0 2 (.bool false) (BZ.cell 2)
     have z3:=Ae U n0 3 (.int .i64 0) (BZ.cell 3)
     have z4:=Ae U n0 4 (.int .i64 0) (BZ.cell 4)
     have z5:=Ae U n0 5 (.int .i64 0) (BZ.cell 5)
     have z6:=Ae U n0 6 (.int .u64 0) (BZ.cell 6)
     have z7:=Ae U n0 7 (.int .u64 0) (BZ.cell 7)
     have z8:=Ae U n0 8 (.int .i64 0) (BZ.cell 8)
     have zf:=fun i=>BZ.free i
     clear BV1 B01 O1 BV2 B02 O2 BV B0 hc HV2 BU BZ OU
     subst e0
     go_upto_region 9 with(fail)
     rw[←hU]
     clear hU
     go_wp2_with fail
     obtain⟨B9,o9⟩:=PM HU.out.1 (.bool true) (.bool false) (.bool false) (.int .i64 x.t.id) (.int .i64 x.t.level) (.int .i64 1) (.int .u64 x.t.beg) (.int .u64 x.t.fin) (.int .i64 x.t.ops)
     refine bodyPost_ret (v:= .agg #[.bool true,.bool false,.bool false,x.t.id,x.t.level,.int .i64 1,.int .u64 x.t.beg,.int .u64 x.t.fin,x.t.ops]) (results_cell_row Tryz.results15 _ _ n0 _ _ _ _ rfl B9 Tryz.underlying46 rfl EL) rfl ⟨by rw[HR.out];rfl,?_⟩
     exact Sy
    |some ck=>
     obtain⟨c,kk⟩:=ck
     have e0:cp=bp (D.S j).c:=by rw[←hcp];obtain⟨xt,xc⟩:=x;cases hc;simp[Cm,hu]
     have hB:=HC.out c kk hc
     have hcn:(D.S j).c≠n1:=hB.ne BV (by decide)
     have BC1:=O1.blk hB hcn
     have c1:=Ae V ((D.S j).c) 10 (.bool c.waits) (BC1.cell 10)
     have BV2:Am ((V.setCell ⟨n1,1,none⟩ (.bool true)).setCell ⟨n1,2,none⟩ (.bool c.waits)) n1 46 #[.bool true,.bool true,.bool c.waits,x.t.id,x.t.level,.int .i64 1,.int .u64 x.t.beg,.int .u64 x.t.fin,x.t.ops]:=(BV1.set 1 (.bool true)).set 2 (.bool c.waits)
     have B02:Am ((V.setCell ⟨n1,1,none⟩ (.bool true)).setCell ⟨n1,2,none⟩ (.bool c.waits)) n0 46 #[.bool false,.bool false,.bool false,.int .i64 0,.int .i64 0,.int .i64 0,.int .u64 0,.int .u64 0,.int .i64 0]:=(B01.other _ _ hne).other _ _ hne
     have O2:Ah (fun b=>b=n1) V ((V.setCell ⟨n1,1,none⟩ (.bool true)).setCell ⟨n1,2,none⟩ (.bool c.waits)):=(O1.trans (Ah.set1 _ n1 1 _)).trans (Ah.set1 _ n1 2 _)
     have HR:=Aa (show x.stat=⟨true,true,c.waits,x.t.id,x.t.level,1,x.t.beg,x.t.fin,x.t.ops⟩ by unfold Kx.stat;rw[hc];simp[hf])
     have HV2:=Aa (And.intro HV.out.2.2 (And.intro BV2 (And.intro B02 O2)))
     obtain⟨U,hU⟩:=Ad (((V.setCell ⟨n1,1,none⟩ (.bool true)).setCell ⟨n1,2,none⟩ (.bool c.waits)).drew)
     have BU:Am U n1 46 #[.bool true,.bool true,.bool c.waits,x.t.id,x.t.level,.int .i64 1,.int .u64 x.t.beg,.int .u64 x.t.fin,x.t.ops]:=by rw[hU];exact BV2.drew
     have BZ:Am U n0 46 #[.bool false,.bool false,.bool false,.int .i64 0,.int .i64 0,.int .i64 0,.int .u64 0,.int .u64 0,.int .i64 0]:=by rw[hU];exact B02.drew
     have OU:Ah (fun b=>b=n1) V U:=by rw[hU];exact O2.drew
     have HU:=Aa (And.intro BZ OU)
     have p0:=Ae U n1 0 (.bool true) (BU.cell 0)
     have p1:=Ae U n1 1 (.bool true) (BU.cell 1)
     have p2:=Ae U n1 2 (.bool c.waits) (BU.cell 2)
     have p3:=Ae U n1 3 (.int .i64 x.t.id) (BU.cell 3)
     have p4:=Ae U n1 4 (.int .i64 x.t.level) (BU.cell 4)
     have p5:=Ae U n1 5 (.int .i64 1) (BU.cell 5)
     have p6:=Ae U n1 6 (.int .u64 x.t.beg) (BU.cell 6)
     have p7:=Ae U n1 7 (.int .u64 x.t.fin) (BU.cell 7)
     have p8:=Ae U n1 8 (.int .i64 x.t.ops) (BU.cell 8)
     have z0:=Ae U n0 0 (.bool false) (BZ.cell 0)
     have z1:=Ae U n0 1 (.bool false) (BZ.cell 1)
     have z2:=Ae U n0 2 (.bool false) (BZ.cell 2)
     have z3:=Ae U n0 3 (.int .i64 0) (BZ.cell 3)
     have z4:=Ae U n0 4 (.int .i64 0) (BZ.cell 4)
     have z5:=Ae U n0 5 (.int .i64 0) (BZ.cell 5)
     have z6:=Ae U n0 6 (.int .u64 0) (BZ.cell 6)
     have z7:=Ae U n0 7 (.int .u64 0) (BZ.cell 7)
     have z8:=Ae U n0 8 (.int .i64 0) (BZ.cell 8)
     have zf:=fun i=>BZ.free i
     have hf1:=fun i=>BV1.free i
     clear BV1 B01 O1 BV2 B02 O2 BV B0 hc HV2 BU BZ OU hB BC1
     subst e0
     go_upto_region 8 with(fail)
     refine wp_region_held_drew (S:=(fun w'=>Ab w' ((D.S j).c) 10 (.bool c.waits))) (by kernel_rfl) ?_ (fun hHeld=>?_)
     ·first|exact c1|(go_simp;exact c1)|go_simp
     refine Af 0 (h:=Af 1 (h:=Af 2 (h:=Af 3 (h:=Af 4 (h:=Ar (i:=5) (h:=fun K hK=>?_))))))
     go_simp
     skip
     try go_wp2_with fail
     refine AK hK (by first|exact c1|(go_simp;exact c1)|go_simp) (h:=fun hHeld=>?_);clear hK K
     refine Af 6 (h:=Ar (i:=7) (h:=fun K hK=>?_))
     go_simp
     skip
     try go_wp2_with fail
     refine AK hK (by first|exact c1|(go_simp;exact c1)|go_simp) (h:=fun hHeld=>?_);clear hK K
     refine wpAnyH_done (by kernel_rfl) ?_ _
     go_upto_region 9 with(fail)
     rw[←hU]
     clear hU
     go_wp2_with fail
     obtain⟨B9,o9⟩:=PM HU.out.1 (.bool true) (.bool true) (.bool c.waits) (.int .i64 x.t.id) (.int .i64 x.t.level) (.int .i64 1) (.int .u64 x.t.beg) (.int .u64 x.t.fin) (.int .i64 x.t.ops)
     refine bodyPost_ret (v:= .agg #[.bool true,.bool true,.bool c.waits,x.t.id,x.t.level,.int .i64 1,.int .u64 x.t.beg,.int .u64 x.t.fin,x.t.ops]) (results_cell_row Tryz.results15 _ _ n0 _ _ _ _ rfl B9 Tryz.underlying46 rfl EL) rfl ⟨by rw[HR.out];rfl,?_⟩
     exact Sy
end
section
attribute [local go_sem ↓] Go.wp_at_zero Go.wp_at_succ
theorem GP{P:Program}{w:World}(t ty e:TypeId)(i:TypeInfo)(ht:P.underlying t=some (.slice e))(hi:P.info? e=some i)(ao:Option Addr)(c:Nat):
 (Builtin.append_ #[t,t] ty #[.slice none 0 0,.slice ao 0 c]).run P w= .ok (.slice none 0 0) w:=by
 cases ao with
 |none=>simp[Builtin.append_,run_underlying ht,sizeOf,typeInfo,hi,Builtin.lenOf,Builtin.firstCells]
 |some a=>simp[Builtin.append_,run_underlying ht,sizeOf,typeInfo,hi,Builtin.lenOf,Builtin.firstCells,loadCells,loadCellsFrom]
theorem FN{P:Program}(w:World){ops:Array Oper}{rest:List Oper}{o:Oper}{a:Act}{Q:Exit→Act→World→Prop}(hgd:o.guard=none)(s x:Operand)(t:TypeId)
 (ho:o.op= .call {callee:= .builtin .append,args:=#[s,x],argTypes:=#[t,t]})
 (base:Nat) (e:TypeId) (i:TypeInfo) (z:Value) (size bytes:Nat) (ht:P.underlying t=some (.slice e)) (hi:P.info? e=some i) (hz:i.zero=some z)
 (hsize:i.size=size) (hby:i.bytes=bytes) (hzs:z.cells.size=size) (hsz:0<size)
 (hs:a.eval s= .slice none 0 0)
 (ao:Option Addr) (m c:Nat) (news:List Value) (hx:a.eval x= .slice ao m c) (hl:news.length=m*size) (hnews:m=0∨∃ad,ao=some ad∧∀j u,news[j]? =some u→w.cell? (ad.add j)=some u) (h1:∀u∈news,u.oneCell'=true)
 (h63:m≤maxLen) (hbytes:m*bytes≤140737488355328) (hbase:base≤w.heap.size)
 (h:∀a' c' w',w'.ownsRow base e size (.slice a' m c') m news→Ac w w'→wpList P ops Q rest (a.put o.dst (.slice a' m c')) w'):wpList P ops Q (o::rest) a w:=by
 rcases hnews with rfl|⟨ad,rfl,hnews⟩
 ·have hnews:news=[]:=List.eq_nil_of_length_eq_zero (by simpa using hl)
  subst hnews
  refine wpList_plain hgd fun K hK=>?_
  have hrun:=GP (P:=P) (w:=w) t o.type e i ht hi ao c
  unfold Oper.wp
  simp[execOp,ho,resolve,invoke,builtin,hs,hx,hrun,Result.andThen]
  exact hK _ _ (h none 0 w (World.ownsRow_nil _ _ _ _) (Ac.refl w))
 ·refine wpList_append_own w hgd s x t ho base e i z size bytes ht hi hz hsize hby hzs hsz (.slice none 0 0) 0 [] hs (World.ownsRow_nil _ _ _ _) ad m c news hx hl hnews h1 (by omega) (by simpa using hbytes) hbase ?_
  intro v' w' h2 h3 _
  rw[Nat.zero_add,List.nil_append]at h2
  have h3':Ac w w':=(Ac.refl w).grown h3 (fun k hk=>by cases hk)
  have h2':=h2
  rcases h2'.2 with⟨rfl,hm⟩|⟨g,cap,cur,rfl,_⟩
  ·subst hm;exact h _ _ w' h2 h3'
  ·exact h _ _ w' h2 h3'
theorem JV:(Tryz.prog.info? 64).map (·.size)=some 5:=by kernel_rfl
theorem Rb{w:World}{n:Nat}{t:TypeId}{a b c d e:Value}(B:Am w n t #[a,b,c,d,e])(a' b' c' d' e':Value):
 Am (((((w.setCell ⟨n,0,none⟩ a').setCell ⟨n,1,none⟩ b').setCell ⟨n,2,none⟩ c').setCell ⟨n,3,none⟩ d').setCell ⟨n,4,none⟩ e') n t #[a',b',c',d',e']∧Ah (fun c=>c=n) w (((((w.setCell ⟨n,0,none⟩ a').setCell ⟨n,1,none⟩ b').setCell ⟨n,2,none⟩ c').setCell ⟨n,3,none⟩ d').setCell ⟨n,4,none⟩ e'):=by
 have B0:Am _ n t #[a',b,c,d,e]:=B.set 0 a'
 have B1:Am _ n t #[a',b',c,d,e]:=B0.set 1 b'
 have B2:Am _ n t #[a',b',c',d,e]:=B1.set 2 c'
 have B3:Am _ n t #[a',b',c',d',e]:=B2.set 3 d'
 have B4:Am _ n t #[a',b',c',d',e']:=B3.set 4 e'
 exact⟨B4,((((Ah.set1 w n 0 a').trans (Ah.set1 _ n 1 b')).trans (Ah.set1 _ n 2 c')).trans (Ah.set1 _ n 3 d')).trans (Ah.set1 _ n 4 e')⟩
theorem Is(l:List (Int×Int)):∀u∈AJ l,u.oneCell'=true:=by
 induction l with
 |nil=>intro u hu;cases hu
 |cons a l ih=>
  intro u hu
  simp only[AJ,List.mem_cons]at hu
  rcases hu with rfl|rfl|hu
  ·rfl
  ·rfl
  ·exact ih u hu
def Gn(r:Dt)(a:Option Addr)(c:Nat):Array Value:=#[.int .i64 r.e,.int .i64 r.value,.slice a r.pairs.length c,.int .i64 r.over,.int .i64 r.reason]
def Cr(w:World)(a:Option Addr)(ps:List (Int×Int)):Prop:=ps=[]∨∃ad,a=some ad∧∀j u,(AJ ps)[j]? =some u→w.cell? (ad.add j)=some u
theorem Cr.row{B:Nat}{w:World}{a:Option Addr}{c n:Nat}{ps:List (Int×Int)}(h:w.ownsRow B 77 2 (.slice a n c) n (AJ ps))(hn:n=ps.length):Cr w a ps:=by
 rcases h.2 with⟨e,h0⟩|⟨g,cap,cur,e,_⟩
 ·left
  subst h0
  exact List.eq_nil_of_length_eq_zero hn.symm
 ·cases e
  exact .inr ⟨_,rfl,h.cells rfl⟩
theorem Cr.only0{w w':World}{a:Option Addr}{ps:List (Int×Int)}(h:Cr w a ps)(o:Ac w w'):Cr w' a ps:=by
 rcases h with h|⟨ad,h1,h2⟩
 ·exact .inl h
 ·exact .inr ⟨ad,h1,fun j u hu=>Ai o (h2 j u hu)⟩
theorem Fw{w:World}(r:Dt)(qa:Option Addr)(qc:Nat)(hq:Cr w qa r.pairs)(hl:r.pairs.length≤1000000000):
 Calls Tryz.prog 51 #[.agg (Gn r qa qc)] w fun e w'=>∃a c,e= .returned (.agg (Gn r a c))∧Ac w w'∧w'.ownsRow w.heap.size 77 2 (.slice a r.pairs.length c) r.pairs.length (AJ r.pairs):=by
 obtain⟨W,hW⟩:=Ad ((w.alloc (.cells (Gn r qa qc) 64)).alloc (.cells #[.int .i64 0,.int .i64 0,.slice none 0 0,.int .i64 0,.int .i64 0] 64))
 obtain⟨n0,hn0⟩:=Ad w.heap.size
 have oW:Ac w W:=by rw[hW];exact((Ac.refl w).alloc _).alloc _
 have B0:Am W n0 64 (Gn r qa qc):=by rw[hW,hn0];exact(Am.new _ _ _).alloc _
 have B1:Am W (n0+1) 64 #[.int .i64 0,.int .i64 0,.slice none 0 0,.int .i64 0,.int .i64 0]:=by rw[hW,hn0];exact Am.new' _ _ _ _ (by simp)
 have hp:=hq.only0 oW
 obtain⟨i0,hi0,hz0,hz1,hz2⟩:=info_parts Gt
 obtain⟨n,hn⟩:=Aq (r.pairs.length)
 have hlen:(AJ r.pairs).length=n*2:=by rw[←hn];exact FF _
 have hone:=Is r.pairs
 have hp':n=0∨∃ad,qa=some ad∧∀j u,(AJ r.pairs)[j]? =some u→W.cell? (ad.add j)=some u:=hp.imp (fun e=>by rw[←hn,e];rfl) (fun e=>e)
 unfold Gn at B0 ⊢
 unfold Gn at hW
 rw[hn]at B0 hl hW ⊢
 generalize AJ r.pairs=L at *
 have c2:=Ae W n0 2 (.slice qa n qc) (B0.cell 2)
 have f0:=fun i=>B0.free i
 have HB:=Aa (And.intro B0 (And.intro B1 oW))
 have HN:=Aa hn0
 have lt0:=B0.lt
 have h0W:w.heap.size≤W.heap.size:=oW.size
 have lt1:=B1.lt
 clear B0 B1 oW hp hn hn0 hq
 go_enter Tryz.func51,Tryz.ntmps51
 go_upto_region 1 with(fail)
 rw[←hW,←HN.out]
 clear hW
 go_wp2_with (at_builtin;refine FN W rfl _ _ 62 rfl w.heap.size 77 i0 _ 2 16 Tryz.underlying62 hi0 hz0 hz1 hz2 rfl (by decide) rfl qa n qc L rfl hlen hp' hone (by unfold maxLen;omega) (by omega) h0W ?_)
 intro a' c' w1 hown o1
 have D0:=o1.blk HB.out.1 (fun e=>e)
 have D1:=o1.blk HB.out.2.1 (fun e=>e)
 have E0:Am (w1.setCell ⟨n0,2,none⟩ (.slice a' n c')) n0 64 #[r.e,r.value,.slice a' n c',r.over,r.reason]:=D0.set 2 _
 have E1:Am (w1.setCell ⟨n0,2,none⟩ (.slice a' n c')) (n0+1) 64 #[.int .i64 0,.int .i64 0,.slice none 0 0,.int .i64 0,.int .i64 0]:=D1.other _ _ (by show n0+1≠n0;omega)
 have d2:=Ae w1 n0 2 (.slice qa n qc) (D0.cell 2)
 have df:=fun i=>D0.free i
 have oU:Ac w (w1.setCell ⟨n0,2,none⟩ (.slice a' n c')):=(HB.out.2.2.trans o1).setCell (by show w.heap.size≤n0;rw[HN.out];exact Nat.le_refl _) _
 have hown2:(w1.setCell ⟨n0,2,none⟩ (.slice a' n c')).ownsRow w.heap.size 77 2 (.slice a' n c') n L:=
  AD hown (Ah.set1 w1 n0 2 _) (fun b hb e=>by
   subst e
   exact Bn hown D0 (by decide) hb)
 go_upto_region 2 with(fail)
 obtain⟨U,hU⟩:=Ad (w1.setCell ⟨n0,2,none⟩ (.slice a' n c'))
 rw[←hU]at E0 E1 oU hown2 ⊢
 have g0:=Ae U n0 0 (.int .i64 r.e) (E0.cell 0)
 have g1:=Ae U n0 1 (.int .i64 r.value) (E0.cell 1)
 have g2:=Ae U n0 2 (.slice a' n c') (E0.cell 2)
 have g3:=Ae U n0 3 (.int .i64 r.over) (E0.cell 3)
 have g4:=Ae U n0 4 (.int .i64 r.reason) (E0.cell 4)
 have z0:=Ae U (n0+1) 0 (.int .i64 0) (E1.cell 0)
 have z1:=Ae U (n0+1) 1 (.int .i64 0) (E1.cell 1)
 have z2:=Ae U (n0+1) 2 (.slice none 0 0) (E1.cell 2)
 have z3:=Ae U (n0+1) 3 (.int .i64 0) (E1.cell 3)
 have z4:=Ae U (n0+1) 4 (.int .i64 0) (E1.cell 4)
 have zf:=fun i=>E1.free i
 have HU:=Aa (And.intro E1 (And.intro oU hown2))
 clear hU E0 E1 oU hown2 D0 D1 hown o1 d2 df HB hp' f0 c2 lt0 lt1
 go_wp2_with fail
 obtain⟨B9,o9⟩:=Rb HU.out.1 (.int .i64 r.e) (.int .i64 r.value) (.slice a' n c') (.int .i64 r.over) (.int .i64 r.reason)
 refine bodyPost_ret (v:= .agg #[r.e,r.value,.slice a' n c',r.over,r.reason]) (results_cell_row Tryz.results51 _ _ (n0+1) _ _ _ _ rfl B9 Tryz.underlying64 rfl JV) rfl ⟨a',c',rfl,HU.out.2.1.box (by rw[HN.out];omega) o9,?_⟩
 exact AD HU.out.2.2 o9 (fun b hb e=>by
  subst e
  exact Bn HU.out.2.2 HU.out.1 (by decide) hb)
end
section
section
variable {B:Nat} {w w':World} {P Q R:Nat→Prop} {A:EA} {K:EK} {S:SA} {nx:Value} {X:Cx}
theorem EX.setK{s:Sh}(h:EX B w P Q R A K s)(o:Nat)(v:Value){K':EK}(hK:Fd A K' s=(Fd A K s).setIfInBounds o v):
 EX B (w.setCell ⟨A.e,o,none⟩ v) P Q R A K' s∧Ah P w (w.setCell ⟨A.e,o,none⟩ v)∧Ag w (w.setCell ⟨A.e,o,none⟩ v) P Q P Q:=by
 have o1:Ah (fun b=>b=A.e) w (w.setCell ⟨A.e,o,none⟩ v):=Ah.setCell (S:=fun b=>b=A.e) (Ah.refl _ w) (fun _=>rfl) _
 have t:Aw [107] w _:=Aw.of o1 h.sh.eng
 have oP:Ah P w (w.setCell ⟨A.e,o,none⟩ v):=o1.mono (fun b _ hb=>by rw[hb];exact h.sh.pe)
 have m:Ag w (w.setCell ⟨A.e,o,none⟩ v) P Q P Q:=⟨oP.mono (fun _ _ hb=> .inl hb),AC.refl _ _,AC.refl _ _⟩
 have B2:=h.sh.eng.set o v
 rw[←hK]at B2
 exact⟨⟨⟨B2,h.sh.ar.ty t (by decide) (by decide),h.sh.pool.ty t (by decide) (by decide) (by decide),h.sh.vals.ty t (by decide),AO h.sh.tale t (by decide),h.sh.pe,h.sh.pa,h.sh.pp,h.sh.pf,h.sh.pv,h.sh.pt⟩,h.uP.mono o1.size,h.aP,fun i hi=>(h.prs i hi).move m⟩,oP,m⟩
theorem CX.setK(h:CX B w P Q R A K S nx X)(o:Nat)(v:Value){K':EK}(hK:Fd A K' X.sh=(Fd A K X.sh).setIfInBounds o v):
 CX B (w.setCell ⟨A.e,o,none⟩ v) P Q R A K' S nx X∧Ag w (w.setCell ⟨A.e,o,none⟩ v) P Q P Q:=by
 have o1:Ah (fun b=>b=A.e) w (w.setCell ⟨A.e,o,none⟩ v):=Ah.setCell (S:=fun b=>b=A.e) (Ah.refl _ w) (fun _=>rfl) _
 have t:Aw [107] w _:=Aw.of o1 h.sh.eng
 obtain⟨e1,_,m⟩:=h.toEX.setK o v hK
 exact⟨⟨e1.sh,h.tx.ty t (by decide) (by decide) (by decide) (by decide),h.cl.ty t (by decide) (by decide),h.ap,e1.uP,h.uQ.mono o1.size,e1.aP,h.aQ,h.uR.mono o1.size,e1.prs⟩,m⟩
theorem CX.setF(h:CX B w P Q R A K S nx X)(o:Nat)(v:Value){c':Cw}{nx':Value}(hp:c'.r.pairs=X.c.r.pairs)(hc:BW S c' nx'=(BW S X.c nx).setIfInBounds o v):
 CX B (w.setCell ⟨S.c,o,none⟩ v) P Q R A K S nx' (X.setC c')∧Ag w (w.setCell ⟨S.c,o,none⟩ v) P Q P Q:=by
 have o1:Ah (fun b=>b=S.c) w (w.setCell ⟨S.c,o,none⟩ v):=Ah.setCell (S:=fun b=>b=S.c) (Ah.refl _ w) (fun _=>rfl) _
 have t:Aw [127] w _:=Aw.of o1 h.cl.blk
 have m:Ag w (w.setCell ⟨S.c,o,none⟩ v) P Q P Q:=⟨o1.mono (fun b _ hb=> .inr (by rw[hb];exact h.cl.qc)),AC.refl _ _,AC.refl _ _⟩
 have B2:=h.cl.blk.set o v
 rw[←hc]at B2
 have hr:=AO h.cl.prs t (by decide)
 exact⟨h.call (qa:=S.qa) (qc:=S.qc) m t (fun u hu=>by simp at hu;exact .inl hu) B2 (by rw[hp];exact hr) (by rw[hp];exact h.cl.qp) (fun _ hb=>hb) h.ap (h.uQ.mono o1.size) h.aQ,m⟩
end
theorem BP.waits{w:World}{P Q R:Nat→Prop}{A:EA}{S:SA}{X:Cx}{k:Da}{v:Value}(h:BP w P Q R A S X k v)(b:Bool):BP w P Q R A S ⟨X.sh,X.t,{X.c with waits:=b}⟩ k v:=by
 cases k<;>exact h
theorem Bt.waits{X:Cx}{k:Da}(h:Bt X k)(b:Bool):Bt ⟨X.sh,X.t,{X.c with waits:=b}⟩ k:=by
 cases k<;>exact h
theorem BP.func{w:World}{P Q R:Nat→Prop}{A:EA}{S:SA}{X:Cx}{k:Da}{v:Value}(h:BP w P Q R A S X k v):∃F bnd cap,v= .func (.func F) bnd cap:=by
 cases k with
 |turns l r=>
  cases l with
  |nil=>obtain⟨_,_,_,_,rfl,_⟩:=h;exact⟨_,_,_,rfl⟩
  |cons x l=>obtain⟨_,_,_,_,_,rfl,_⟩:=h;exact⟨_,_,_,rfl⟩
 |draw=>obtain⟨_,_,_,rfl,_⟩:=h;exact⟨_,_,_,rfl⟩
 |turn x now=>obtain⟨_,_,_,_,_,rfl,_⟩:=h;exact⟨_,_,_,rfl⟩
 |helped=>obtain⟨_,_,_,rfl,_⟩:=h;exact⟨_,_,_,rfl⟩
 |help x now=>obtain⟨_,_,_,_,_,_,_,_,rfl,_⟩:=h;exact⟨_,_,_,rfl⟩
 |start u=>obtain⟨_,rfl,_⟩:=h;exact⟨_,_,_,rfl⟩
 |visit u l=>obtain⟨_,_,rfl,_⟩:=h;exact⟨_,_,_,rfl⟩
 |older u l=>obtain⟨_,_,rfl,_⟩:=h;exact⟨_,_,_,rfl⟩
 |maker u l id=>obtain⟨_,_,_,rfl,_⟩:=h;exact⟨_,_,_,rfl⟩
 |ended u l m=>obtain⟨_,_,_,rfl,_⟩:=h;exact⟨_,_,_,rfl⟩
 |ender u l m id=>obtain⟨_,_,_,_,rfl,_⟩:=h;exact⟨_,_,_,rfl⟩
 |seen u l m=>obtain⟨_,_,_,rfl,_⟩:=h;exact⟨_,_,_,rfl⟩
 |wait i=>obtain⟨_,_,_,_,_,rfl,_⟩:=h;exact⟨_,_,_,rfl⟩
 |commit=>obtain⟨_,_,_,rfl,_⟩:=h;exact⟨_,_,_,rfl⟩
 |abort er re=>obtain⟨_,_,_,_,_,rfl,_⟩:=h;exact⟨_,_,_,rfl⟩
 |ends r=>obtain⟨_,_,_,rfl,_⟩:=h;exact⟨_,_,_,rfl⟩
 |again z=>obtain⟨_,_,_,_,rfl,_⟩:=h;exact⟨_,_,_,rfl⟩
 |own l=>obtain⟨_,_,_,_,rfl,_⟩:=h;exact⟨_,_,_,rfl⟩
 |own2 l x id=>obtain⟨_,_,_,_,_,_,rfl,_⟩:=h;exact⟨_,_,_,rfl⟩
 |claim l x=>obtain⟨_,_,_,_,_,rfl,_⟩:=h;exact⟨_,_,_,rfl⟩
 |fresh l=>obtain⟨_,_,_,_,rfl,_⟩:=h;exact⟨_,_,_,rfl⟩
 |free1 l hd a=>obtain⟨_,_,_,_,_,_,_,_,_,_,_,_,rfl,_⟩:=h;exact⟨_,_,_,rfl⟩
 |free2 l hd a id=>obtain⟨_,_,_,_,_,_,_,_,_,_,_,_,rfl,_⟩:=h;exact⟨_,_,_,rfl⟩
 |freeN l hd a=>obtain⟨_,_,_,_,_,_,rfl,_⟩:=h;exact⟨_,_,_,rfl⟩
 |slot1 x l hd=>obtain⟨_,_,_,_,_,_,rfl,_⟩:=h;exact⟨_,_,_,rfl⟩
 |slot2 x l hd=>obtain⟨_,_,_,_,_,_,rfl,_⟩:=h;exact⟨_,_,_,rfl⟩
 |push1 l hd=>obtain⟨_,_,_,_,_,rfl,_⟩:=h;exact⟨_,_,_,rfl⟩
 |push2 l hd=>obtain⟨_,_,_,_,_,rfl,_⟩:=h;exact⟨_,_,_,rfl⟩
 |over1 l=>obtain⟨_,_,_,_,_,rfl,_⟩:=h;exact⟨_,_,_,rfl⟩
 |over2 l hd=>obtain⟨_,_,_,_,_,_,rfl,_⟩:=h;exact⟨_,_,_,rfl⟩
 |over3 l hd=>obtain⟨_,_,_,_,_,_,rfl,_⟩:=h;exact⟨_,_,_,rfl⟩
def AL(la:Option Addr):Nat→Prop:=fun b=>∃a,la=some a∧a.block=b
def EI(P:Nat→Prop)(F:Nat→Nat→Prop)(la:Option Addr):Nat→Prop:=fun b=>P b∨(∃j,j<8∧F j b)∨AL la b
def Bg(B:Nat)(w:World)(P:Nat→Prop)(F:Nat→Nat→Prop)(D:DB)(E':En)(w':World):Prop:=
 ∃P' F' D',A6 B w' P' F' D' E'∧D'.A.e=D.A.e∧Ah (EI P F D.la) w w'∧AC w.heap.size (EI P F D.la) (EI P' F' D'.la)∧∀b,F 8 b→F' 8 b
theorem LJ{F:Nat→Nat→Prop}{s:Nat}{P P' Q':Nat→Prop}{N:Nat}{la la':Option Addr}(gp:AC N P P')(h:AC N (F s) Q')(hs:s<8)(el:la'=la):AC N (EI P F la) (EI P' (Fr F s Q') la'):=by
 subst el
 rintro b (hb|⟨j,hj,hb⟩|hb)
 ·exact(gp b hb).imp .inl (fun x=>x)
 ·by_cases e:j=s
  ·subst e
   rw[A3]at hb
   exact(h b hb).imp (fun x=> .inr (.inl ⟨j,hj,x⟩)) (fun x=>x)
  ·rw[AX _ _ e]at hb
   exact .inl (.inr (.inl ⟨j,hj,hb⟩))
 ·exact .inl (.inr (.inr hb))
section
variable {B:Nat} {w w':World} {P:Nat→Prop} {F:Nat→Nat→Prop} {D:DB} {E:En} {s:Nat}
theorem A6.close(h:A6 B w P F D E)(hs:s<8){P' Q':Nat→Prop}{D':DB}{E':En}(m:Ag w w' P (F s) P' Q')(ap:AR P' Q')(uQ:Bo Q' w'.heap.size)(aQ:Cz Q' B)(kA:D'.A.e=D.A.e)
 (kS:∀j,j≠s→D'.S j=D.S j∧D'.nx j=D.nx j) (kE:∀j,j≠s→E'.ses j=E.ses j) (kW:E'.sw=E.sw∧D'.sv=D.sv∧D'.la=D.la∧D'.lc=D.lc∧E'.lim=E.lim)
 (hx:EX B w' P' Q' (Do F s) D'.A (Bk D' E') E'.sh) (ht:∀x,E'.ses s=some x→Dc B w' Q' (D'.S s) x.t)
 (hc:∀t c k,E'.ses s=some ⟨t,some (c,k)⟩→Gm B w' Q' (D'.S s) c (D'.nx s)∧BP w' P' Q' (Do F s) D'.A (D'.S s) ⟨E'.sh,t,c⟩ k (D'.nx s)):Bg B w P F D E' w':=by
 have hm:=(h.hole.mk9 s).move (by omega) h.ex.uP m ap uQ aQ kA kS kE (fun _=>kW)
 refine⟨P',Fr F s Q',D',A6.back hm hs ?_ (fun x hx=>?_) (fun t c k hx=>?_),kA,m.o.mono (fun b _ hb=>hb.elim .inl (fun x=> .inr (.inl ⟨s,hs,x⟩))),LJ m.gp m.gq hs kW.2.2.1,fun b hb=>by rw[AX _ _ (by omega)];exact hb⟩
 ·rw[A3,ES];exact hx
 ·rw[A3];exact ht x hx
 ·rw[A3,ES];exact hc t c k hx
theorem Bg.same(h:A6 B w P F D E)(o:Ac w w'):Bg B w P F D E w':=by
 have hm:=(h.hole.mk9 8).move (w':=w') (E':=E) (D':=D) (P':=P) (Q':=F 8) (by omega) h.ex.uP (Ag.only0 P (F 8) o) (h.hole.pf 8 (by omega)) ((h.hole.uF 8 (by omega)).mono o.size) (h.hole.aF 8 (by omega)) rfl (fun _ _=>⟨rfl,rfl⟩) (fun _ _=>rfl) (fun e=>absurd rfl e)
 rw[Gk]at hm
 have p8:EF w w' P (F 8) (Do F 8) P (F 8) (Do F 8):=⟨o.size,fun g hg hp hq hr=>⟨⟨hp,hq,hr⟩,o.block g hg (fun e=>e)⟩⟩
 have hm2:DD B w' P F D E 9:=⟨fun j x hj _ he=>hm.tx j x hj (by omega) he,fun j t c k hj _ he=>hm.cl j t c k hj (by omega) he,
  fun hn=>(h.hole.sw hn).pass p8 rfl,fun hn=>(h.hole.lim hn).far o (fun b _ e=>e),hm.pf,hm.ff,hm.uF,hm.aF⟩
 exact⟨P,F,D,⟨h.ex.only0 o,hm2⟩,rfl,o.any _,AC.refl _ _,fun _ hb=>hb⟩
end
end
section
attribute [local go_sem ↓] Go.wp_at_zero Go.wp_at_succ
def RP(d:LH)(a:Option Addr)(c:Nat):Array Value:=#[.int .i64 d.kind,.int .i64 d.r.e,.int .i64 d.r.value,.slice a d.r.pairs.length c,.int .i64 d.r.over,.int .i64 d.r.reason]
def Hm(B:Nat)(w:World)(P:Nat→Prop)(F:Nat→Nat→Prop)(D:DB)(T:Nat→Prop)(E':En)(w':World):Prop:=
 ∃P' F' D',A6 B w' P' F' D' E'∧D'.A.e=D.A.e∧Ah (EI P F D.la) w w'∧AC w.heap.size (EI P F D.la) (EI P' F' D'.la)∧(∀b,F 8 b→F' 8 b)∧AR (PQ P' (MS F')) T
def FW(B:Nat)(w:World)(P:Nat→Prop)(F:Nat→Nat→Prop)(D:DB)(d:LH)(er:Int)(E':En)(e:Ending)(w':World):Prop:=
 ∃a c,e= .returned (.tuple #[.agg (RP d a c),.int .i64 er])∧Hm B w P F D (AA (.slice a d.r.pairs.length c)) E' w'∧w'.ownsRow w.heap.size 77 2 (.slice a d.r.pairs.length c) d.r.pairs.length (AJ d.r.pairs)
section
variable {B:Nat} {w w':World} {P:Nat→Prop} {F:Nat→Nat→Prop} {D:DB} {E E':En} {s:Nat}
theorem Bg.noRow(h:Bg B w P F D E w'){d:LH}{er:Int}(hp:d.r.pairs=[]):FW B w P F D d er E (.returned (.tuple #[.agg (RP d none 0),er])) w':=by
 obtain⟨P',F',D',h1,h2,h3,h4,h5⟩:=h
 refine⟨none,0,rfl,⟨P',F',D',h1,h2,h3,h4,h5,fun b _ hb=>by cases hb⟩,?_⟩
 rw[hp]
 exact World.ownsRow_nil _ _ _ _
theorem AU.plus{P Q R:Nat→Prop}{a:Option Addr}{ps:List (Int×Int)}(h:AU w P Q R a ps)(o:Ac w w'){n0:Nat}(hn:w.heap.size≤n0):AU w' P Q (fun b=>R b∨b=n0) a ps:=by
 rcases h.move (Ag.only0 P Q o)with h'|⟨b,off,cs,h1,h2,h3,h4,h5,h6⟩
 ·exact .inl h'
 ·rcases h with h|⟨b',off',cs',g1,_,_,_,g5,_⟩
  ·exact .inl h
  ·rw[h1]at g1
   cases g1
   exact .inr ⟨b,off,cs,h1,h2,h3,fun e=>e.elim h4 (fun e=>by have:=g5.lt;omega),h5,h6⟩
theorem A6.cxN(h:A6 B w P F D E)(hs:s<8){t:Dq}{c:Cw}{k:Da}(he:E.ses s=some ⟨t,some (c,k)⟩){W:World}(o:Ac w W){n0:Nat}(hn:w.heap.size≤n0)(hW:n0<W.heap.size):
 CX B W P (F s) (fun b=>Do F s b∨b=n0) D.A (Bk D E) (D.S s) (D.nx s) ⟨E.sh,t,c⟩∧BP W P (F s) (fun b=>Do F s b∨b=n0) D.A (D.S s) ⟨E.sh,t,c⟩ k (D.nx s):=by
 have h0:=h.cx hs he
 have h1:=h0.only0 o
 refine⟨⟨h1.sh,h1.tx,h1.cl,h1.ap,h1.uP,h1.uQ,h1.aP,h1.aQ,fun b hb=>hb.elim (h1.uR b) (fun e=>by omega),fun i hi=>(h0.prs i hi).plus o hn⟩,?_⟩
 exact(h.hole.cl s t c k hs (by omega) he).2.pass ⟨o.size,fun g hg hp hq hr=>⟨⟨hp,hq,fun e=>e.elim hr (fun e=>by omega)⟩,o.block g hg (fun e=>e)⟩⟩ rfl rfl
end
theorem NO{w:World}{n:Nat}{t:TypeId}{a b c d e f:Value}(B:Am w n t #[a,b,c,d,e,f])(a' b' c' d' e' f':Value):
 Am ((((((w.setCell ⟨n,0,none⟩ a').setCell ⟨n,1,none⟩ b').setCell ⟨n,2,none⟩ c').setCell ⟨n,3,none⟩ d').setCell ⟨n,4,none⟩ e').setCell ⟨n,5,none⟩ f') n t #[a',b',c',d',e',f']∧Ah (fun c=>c=n) w ((((((w.setCell ⟨n,0,none⟩ a').setCell ⟨n,1,none⟩ b').setCell ⟨n,2,none⟩ c').setCell ⟨n,3,none⟩ d').setCell ⟨n,4,none⟩ e').setCell ⟨n,5,none⟩ f'):=by
 have B0:Am _ n t #[a',b,c,d,e,f]:=B.set 0 a'
 have B1:Am _ n t #[a',b',c,d,e,f]:=B0.set 1 b'
 have B2:Am _ n t #[a',b',c',d,e,f]:=B1.set 2 c'
 have B3:Am _ n t #[a',b',c',d',e,f]:=B2.set 3 d'
 have B4:Am _ n t #[a',b',c',d',e',f]:=B3.set 4 e'
 have B5:Am _ n t #[a',b',c',d',e',f']:=B4.set 5 f'
 exact⟨B5,(((((Ah.set1 w n 0 a').trans (Ah.set1 _ n 1 b')).trans (Ah.set1 _ n 2 c')).trans (Ah.set1 _ n 3 d')).trans (Ah.set1 _ n 4 e')).trans (Ah.set1 _ n 5 f')⟩
theorem BB{P:Program}{fn:Func}{p q:Tmp}{ty:TypeId}(h:fn.results=#[.cell p ty,.tmp q])(tmps:Array Value)(w:World)(g:Nat)(t:TypeId)(cs:Array Value)(fr:Nat×Nat)(d:TypeDesc)(v:Value)
 (hp:tmps.getD p undef= .pointer (some ⟨g,0,none⟩)) (hq:tmps.getD q undef=v) (hg:w.heap[g]? =some (.cells cs t fr))
 (hu:P.underlying ty=some d) (hd:(match d with| .struct _| .array _ _=>true|_=>false)=true) (hi:(P.info? ty).map (·.size)=some cs.size):
 (results fn tmps).run P w= .ok (.tuple #[.agg cs,v]) w:=by
 have hp':tmps[p]?.getD undef= .pointer (some ⟨g,0,none⟩):=by simpa using hp
 have hq':tmps[q]?.getD undef=v:=by simpa using hq
 simp[results,h,hp',hq',asAddr,run_loadVar_row w g t ty cs fr d hg hu hd hi]
theorem Fp:(Tryz.prog.info? 129).map (·.size)=some 6:=by kernel_rfl
theorem Ic{B:Nat}{w:World}{P:Nat→Prop}{F:Nat→Nat→Prop}{D:DB}{E:En}(h:A6 B w P F D E)(s:Int)(hno:Be s=false∨(∀t c k,E.ses s.toNat≠some ⟨t,some (c,k)⟩)):
 Calls Tryz.prog 36 #[bp D.A.e,s] w (FW B w P F D (E.step s).1 (E.step s).2.1 (E.step s).2.2):=by
 obtain⟨W,hW⟩:=Ad (w.alloc (.cells #[.int .i64 0,.int .i64 0,.int .i64 0,.slice none 0 0,.int .i64 0,.int .i64 0] 129))
 have oW:Ac w W:=by rw[hW];exact(Ac.refl w).alloc _
 have BX:Am W w.heap.size 129 #[.int .i64 0,.int .i64 0,.int .i64 0,.slice none 0 0,.int .i64 0,.int .i64 0]:=by rw[hW];exact Am.new _ _ _
 obtain⟨n0,hn0⟩:=Ad w.heap.size
 have HN:=Aa hn0
 have HO:=Aa oW
 rw[←hn0]at BX
 have CS:=E5 s W
 have b0:=Ae W n0 0 (.int .i64 0) (BX.cell 0)
 have b1:=Ae W n0 1 (.int .i64 0) (BX.cell 1)
 have b2:=Ae W n0 2 (.int .i64 0) (BX.cell 2)
 have b3:=Ae W n0 3 (.slice none 0 0) (BX.cell 3)
 have b4:=Ae W n0 4 (.int .i64 0) (BX.cell 4)
 have b5:=Ae W n0 5 (.int .i64 0) (BX.cell 5)
 have bf:=fun i=>BX.free i
 have HBX:=Aa BX
 have HE:=Aa h
 obtain⟨B9,o9⟩:=NO BX (.int .i64 0) (.int .i64 0) (.int .i64 0) (.slice none 0 0) (.int .i64 0) (.int .i64 0)
 have O9:=Aa (oW.box (by rw[hn0];exact Nat.le_refl _) o9)
 have HB9:=Aa B9
 clear BX hn0 B9 o9
 cases hs:Be s with
 |false=>
  rw[show E.step s=(.zero,1,E) by unfold En.step;rw[hs];rfl]
  rw[hs]at CS
  clear hs h oW hno
  go_enter Tryz.func36,Tryz.ntmps36
  go_upto_region 1 with(fail)
  rw[←hW,←HN.out]
  clear hW
  go_wp2_with fail
  refine CS.mono ?_
  rintro e w1 ⟨rfl,rfl⟩
  go_wp2_with fail
  exact bodyPost_ret (BB Tryz.results36 _ _ n0 _ _ _ _ (.int .i64 1) rfl rfl HB9.out Tryz.underlying129 rfl Fp) rfl ((Bg.same HE.out O9.out).noRow rfl)
 |true=>
  obtain⟨s0,s1⟩:0≤s∧s<8:=by simpa[Be]using hs
  obtain⟨j,rfl⟩:=Int.eq_ofNat_of_zero_le s0
  rw[hs]at CS
  have hj:j<8:=by omega
  have j8:(j:Int)<8:=by omega
  have hno':∀t c k,E.ses j≠some ⟨t,some (c,k)⟩:=by
   rcases hno with e|e
   ·rw[hs]at e;cases e
   ·rw[Int.toNat_natCast]at e;exact e
  have ck:=Ae W D.A.e (13+j) (Cm D E j) (by rw[hW];exact(EX.cpc (h.ex.only0 ((Ac.refl w).alloc _)) j hj))
  have e0:Cm D E j= .pointer none∧E.step (j:Int)=(.zero,9,E):=by
   unfold En.step Cm
   rw[hs,if_neg (by simp),Int.toNat_natCast]
   match hq:E.ses j with
   |none=>exact⟨rfl,rfl⟩
   |some ⟨t,none⟩=>exact⟨rfl,rfl⟩
   |some ⟨t,some (c,k)⟩=>exact absurd hq (hno' t c k)
  rw[e0.2]
  rw[e0.1]at ck
  clear hs h oW hno hno' e0
  go_enter Tryz.func36,Tryz.ntmps36
  go_upto_region 1 with(fail)
  rw[←hW,←HN.out]
  clear hW
  go_wp2_with fail
  refine CS.mono ?_
  rintro e w1 ⟨rfl,rfl⟩
  go_wp2_with fail
  exact bodyPost_ret (BB Tryz.results36 _ _ n0 _ _ _ _ (.int .i64 9) rfl rfl HB9.out Tryz.underlying129 rfl Fp) rfl ((Bg.same HE.out O9.out).noRow rfl)
end
end Go.Proofs.YtoakelhnhkilcaaGreat

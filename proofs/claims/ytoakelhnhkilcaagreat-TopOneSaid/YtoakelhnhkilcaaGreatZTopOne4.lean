/-
  TopOne:what its proof rests on,part 4.
-/
import Derived.Deep.Draws
import Derived.Deep.CutBlock
import Derived.Test.YtoakelhnhkilcaaGreatZTopOne1
import Derived.Test.YtoakelhnhkilcaaGreatZTopOne3
set_option linter.unusedVariables false
set_option linter.unusedSimpArgs false
set_option maxRecDepth 100000
set_option maxHeartbeats 64000000
namespace Go.Proofs.YtoakelhnhkilcaaGreat
open Go.RowKit
section
attribute [local go_sem ↓] Go.wp_at_zero Go.wp_at_succ
theorem UR{P:Prop}(h:P:=by
 refine wpAnyH_done (by kernel_rfl) ?_ _
 skip
 clear v0_ v1_ v2_ t0 t1 t2 v1 fv
 go_upto_region 5 with(fail)
 have m9:=Ag.only0 P Q ((Ac.refl w1).drew)
 have M:=M.trans m9
 have HC:=Aa HC.out.drew
 clear m9
 have fe:=he.move M
 have ft:=ht.move M
 have fc:=hc.move M
 have ce:=fe.c0
 have ct:=ft.c0
 have cc:=fc.c0
 have cA:=HC.out.ca
 have cN:=HC.out.cn
 have fz:=hf.move M
 have fa:=ha.move M
 have ca:=fa.c0
 have q0:_=some (Value.int .i64 r.e):=fz.1.cell 0
 have q1:_=some (Value.int .i64 r.value):=fz.1.cell 1
 have q2:_=some (Value.slice pa r.pairs.length pc):=fz.1.cell 2
 have q3:_=some (Value.int .i64 r.over):=fz.1.cell 3
 have q4:_=some (Value.int .i64 r.reason):=fz.1.cell 4
 have HT:=Aa (HTA.out.mv M)
 by_cases hcc:kp=1
 ·skip
  subst hcc
  have hn0:n=0:=by omega
  subst hn0
  have hl0:l=[]:=List.eq_nil_of_length_eq_zero HLN.out
  have CE:=FA HC.out l (a:=some ⟨tg,off*3,none⟩) (cc:=0) (n:=0) HLN.out (.inl hl0) (by omega) (by omega) r pa pc (HR1.out X1 hX1c)
  clear hl0
  have cc_:=fc.c0
  refine wp_region_held_drew (S:=(fun w'=>Ab w' e 0 (bp A.e)∧Ab w' t 0 (bp S.t)∧Ab w' c 0 (bp S.c)∧Ab w' a 0 (.slice (some ⟨tg,off*3,none⟩) (0+1) 1)∧Ab w' z 0 (.int .i64 r.e)∧Ab w' z 1 (.int .i64 r.value)∧Ab w' z 2 (.slice pa r.pairs.length pc)∧Ab w' z 3 (.int .i64 r.over)∧Ab w' z 4 (.int .i64 r.reason))) (by kernel_rfl) ?_ (fun hHeld=>?_)
  ·exact⟨ce,ct,cc_,ca,q0,q1,q2,q3,q4⟩
  exact Up
 ·skip
  have CE:=FA HC.out l (a:=some ⟨tg,off*3+3,none⟩) (cc:=kp-1) (n:=n) HLN.out HT.out.tail (by omega) (by omega) r pa pc (HR1.out X1 hX1c)
  have h1n:(1:Int)≤(n:Int)+1:=by omega
  have cc_:=fc.c0
  refine wp_region_held_drew (S:=(fun w'=>Ab w' e 0 (bp A.e)∧Ab w' t 0 (bp S.t)∧Ab w' c 0 (bp S.c)∧Ab w' a 0 (.slice (some ⟨tg,off*3,none⟩) (n+1) kp)∧Ab w' z 0 (.int .i64 r.e)∧Ab w' z 1 (.int .i64 r.value)∧Ab w' z 2 (.slice pa r.pairs.length pc)∧Ab w' z 3 (.int .i64 r.over)∧Ab w' z 4 (.int .i64 r.reason))) (by kernel_rfl) ?_ (fun hHeld=>?_)
  ·exact⟨ce,ct,cc_,ca,q0,q1,q2,q3,q4⟩
  exact Up):P:=h
theorem TO{P:Prop}(h:P:=by
 try go_wp2_with fail
 refine AK hK (by exact⟨ce,cq,cA⟩) (h:=fun hHeld=>?_);clear hK K
 refine Ar (i:=6) (h:=fun K hK=>?_)
 try simp only[List.getElem_toArray,List.getElem_cons_zero,List.getElem_cons_succ]
 go_simp
 (refine(Bw HC.out _).mono ?_;rw[hx,hX1];rintro e1 w1 ⟨rfl,h1,m1⟩;have HC:=Aa h1;have M:=M.trans m1;clear h1;have fe:=he.move M;have fq:=hq.move M;have ft:=ht.move M;have ff:=hf.move M;have fc:=hc.move M;have fa:=ha.move M;have ce:=fe.c0;have cq:=fq.c0;have ct:=ft.c0;have cf:=ff.c0;have cc:=fc.c0;have ca:=fa.c0;have cA:=HC.out.ca;have cN:=HC.out.cn;try(have fs:=fs.move m1;have zfs:=fs.zf;first|have cfs:=fs.c0|(have cfs:=fs.d0;have dfs:=fs.d1)))
 try go_wp2_with fail
 refine AK hK (by exact⟨ce,cq,cA⟩) (h:=fun hHeld=>?_);clear hK K
 refine Ar (i:=7) (h:=fun K hK=>?_)
 try simp only[List.getElem_toArray,List.getElem_cons_zero,List.getElem_cons_succ]
 go_simp
 (refine(BI x _).mono ?_;rintro e1 w1 ⟨rfl,o1⟩;have M:=M.trans (Ag.only0 P Q o1);have HC:=Aa (HC.out.only0 o1);have fe:=he.move M;have fq:=hq.move M;have ft:=ht.move M;have ff:=hf.move M;have fc:=hc.move M;have fa:=ha.move M;have ce:=fe.c0;have cq:=fq.c0;have ct:=ft.c0;have cf:=ff.c0;have cc:=fc.c0;have ca:=fa.c0;have cA:=HC.out.ca;have cN:=HC.out.cn;try(have fs:=fs.move (Ag.only0 P Q o1);have zfs:=fs.zf;first|have cfs:=fs.c0|(have cfs:=fs.d0;have dfs:=fs.d1)))
 try go_wp2_with fail
 refine AK hK (by exact⟨ce,cq,cA⟩) (h:=fun hHeld=>?_);clear hK K
 refine Ar (i:=9) (h:=fun K hK=>?_)
 try simp only[List.getElem_toArray,List.getElem_cons_zero,List.getElem_cons_succ]
 go_simp
 (have HC:=Aa (HC.out.setNew fs (by decide) 0 (.int .i64 (BD x)));have M:=M.setNewF fs (by first|exact Nat.le_refl _|exact Mp.o.size) 0 (.int .i64 (BD x));have fs:=fs.setOwn 0 (.int .i64 (BD x));have HC:=Aa (HC.out.setNew fs (by decide) 1 (.int .u64 (Br x)));have M:=M.setNewF fs (by first|exact Nat.le_refl _|exact Mp.o.size) 1 (.int .u64 (Br x));have fs:=fs.setOwn 1 (.int .u64 (Br x));have fs:An _ P Q R _ 195 #[.int .i64 (BD x),.int .u64 (Br x)]:=fs;have fe:=he.move M;have fq:=hq.move M;have ft:=ht.move M;have ff:=hf.move M;have fc:=hc.move M;have fa:=ha.move M;have ce:=fe.c0;have cq:=fq.c0;have ct:=ft.c0;have cf:=ff.c0;have cc:=fc.c0;have ca:=fa.c0;have cA:=HC.out.ca;have cN:=HC.out.cn)
 try go_wp2_with fail
 refine AK hK (by exact⟨ce,cq,cA⟩) (h:=fun hHeld=>?_);clear hK K
 refine wpAnyH_done (by kernel_rfl) ?_ _
 go_wp2_with fail
 go_meet
 case rel=>exact⟨_,rfl,Aa ⟨HC.out,M,fs⟩⟩):P:=h
theorem Tq{P:Prop}(h:P:=by
 try go_wp2_with fail
 refine AK hK (by exact⟨ce,cq,cA⟩) (h:=fun hHeld=>?_);clear hK K
 refine wpAnyH_done (by kernel_rfl) ?_ _
 go_wp2_with fail
 go_meet
 case rel=>exact⟨_,rfl,Aa ⟨HC.out,M,fs⟩⟩):P:=h
theorem Ss{P:Prop}(h:P:=by
 clear h ht hr hn ge gt gc gz
 go_enter Tryz.func143,Tryz.ntmps143
 go_upto_region 1 with(fail)
 rw[←hW,←HBz.out,←HBl.out,←HBc.out,←HBt.out,←HBe.out]
 clear hW
 go_wp2_with fail
 go_ret
 exact HS.out):P:=h
theorem SZ{P:Prop}(h:P:=by
 go_wp2_with fail
 refine CE.mono ?_
 rintro e8 w8 r8
 obtain⟨v8,rfl⟩:=r8.ret
 have HS:=Aa (r8.comp MZ K9.out)
 clear r8
 go_wp2_with fail
 go_ret
 rw[HR.out]
 exact HS.out):P:=h
theorem Up{P:Prop}(h:P:=by
 refine Af 0 (h:=Af 1 (h:=Af 2 (h:=Af 3 (h:=Af 4 (h:=Af 5 (h:=Ar (i:=6) (h:=fun K hK=>?_)))))))
 go_simp
 (refine CE.mono ?_;rintro e9 w9 r9;have HS:=Aa (r9.comp M (At.refl A S));obtain⟨P9,Q9,A9,S9,v9,rfl,h9,n9,m9,k9⟩:=r9;have ce:=(fe.move m9).c0;have ct:=(ft.move m9).c0;have cc_:=(fc.move m9).c0;have ca:=(fa.move m9).c0;have fz9:=fz.move m9;have q0:=Ae w9 z 0 (Value.int .i64 r.e) (fz9.1.cell 0);have q1:=Ae w9 z 1 (Value.int .i64 r.value) (fz9.1.cell 1);have q2:=Ae w9 z 2 (Value.slice pa r.pairs.length pc) (fz9.1.cell 2);have q3:=Ae w9 z 3 (Value.int .i64 r.over) (fz9.1.cell 3);have q4:=Ae w9 z 4 (Value.int .i64 r.reason) (fz9.1.cell 4);clear h9 n9 m9 k9)
 try go_wp2_with fail
 refine AK hK (by exact⟨ce,ct,cc_,ca,q0,q1,q2,q3,q4⟩) (h:=fun hHeld=>?_);clear hK K
 refine Af 7 (h:=?_)
 refine wpAnyH_done (by kernel_rfl) ?_ _
 go_wp2_with fail
 go_ret
 rw[HRR.out]
 exact HS.out):P:=h
theorem Ui{P:Prop}(h:P:=by
 refine wp_region_held_drew (S:=(fun w'=>Ab w' be 0 (bp A.e)∧Ab w' bt 0 (bp S.t)∧Ab w' bk 0 (.int .i64 (X.key:Int))∧Ab w' S.t 3 (.int .u64 X.t.beg))) (by kernel_rfl) ?_ (fun hHeld=>?_)
 ·exact⟨de,dt,dk,tg⟩
 refine Af 0 (h:=Af 1 (h:=Af 2 (h:=Af 3 (h:=Af 4 (h:=Af 5 (h:=Af 6 (h:=Af 7 (h:=Ar (i:=8) (h:=fun K hK=>?_)))))))))
 go_simp
 (refine CE.mono ?_;rintro e9 w9 r9;have HS:=Aa (r9.comp MY (At.refl A S));obtain⟨P9,Q9,A9,S9,v9,rfl,h9,n9,m9,k9⟩:=r9;have de:=(ye.move m9).c0;have dt:=(yt.move m9).c0;have dk:=(yk.move m9).c0;have tg:=Ae w9 S.t 3 (.int .u64 X.t.beg) ((by have qq:=h9.tbeg;rw[k9.t]at qq;exact qq));clear h9 n9 m9 k9)
 try go_wp2_with fail
 refine AK hK (by exact⟨de,dt,dk,tg⟩) (h:=fun hHeld=>?_);clear hK K
 refine Af 9 (h:=?_)
 refine wpAnyH_done (by kernel_rfl) ?_ _
 go_wp2_with fail
 go_ret
 rw[HR.out]
 exact HS.out):P:=h
theorem SO{P:Prop}(h:P:=by
 go_upto_region 1 with(fail)
 rw[←hW,←HBc.out,←HBt.out,←HBe.out]
 clear hW
 go_upto_region 2 with(fail)
 rw[←hV,←HBk.out]
 clear hV
 refine wp_region_held_drew (S:=(fun w'=>Ab w' bt 0 (bp S.t)∧Ab w' S.t 7 (.map (some S.m))∧Ab w' bk 0 (.int .i64 (X.key:Int)))) (by kernel_rfl) ?_ (fun hHeld=>?_)
 ·exact⟨ct1,tm,ck1⟩
 refine Af 0 (h:=Af 1 (h:=Af 2 (h:=Af 3 (h:=Af 4 (h:=Ar (i:=5) (h:=fun K hK=>?_))))))
 go_simp
 skip
 try go_wp2_with fail
 refine AK hK (by exact⟨ct1,tm,ck1⟩) (h:=fun hHeld=>?_);clear hK K
 refine Af 6 (h:=?_)
 refine wpAnyH_done (by kernel_rfl) ?_ _
 clear ct1 ck1 tm LK hHeld
 go_wp2_with fail
 refine CE.mono ?_
 rintro e8 w8 r8
 obtain⟨v8,rfl⟩:=r8.ret
 have HS:=Aa (r8.comp MZ (At.refl A S))
 clear r8
 go_wp2_with fail
 go_ret
 rw[HR.out]
 exact HS.out):P:=h
theorem TD{P:Prop}(h:P:=by
 clear HR
 go_enter Tryz.func144,Tryz.ntmps144
 go_upto_region 1 with(fail)
 rw[←hW,←HBx.out,←HBc.out,←HBe.out]
 clear hW
 go_wp2_with fail
 refine(CS).mono ?_
 rintro e8 w8 r8
 obtain⟨v8,rfl⟩:=r8.ret
 have HS:=Aa (r8.comp MW (At.refl A S))
 clear r8
 go_wp2_with fail
 go_ret
 rw[HRR.out]
 exact HS.out):P:=h
theorem S0{P:Prop}(h:P:=by
 clear HR CS
 go_enter Tryz.func144,Tryz.ntmps144
 go_upto_region 1 with(fail)
 rw[←hW,←HBx.out,←HBc.out,←HBe.out]
 clear hW
 go_wp2_with fail
 refine(CE).mono ?_
 rintro e8 w8 r8
 obtain⟨v8,rfl⟩:=r8.ret
 have HS:=Aa (r8.comp MW (At.refl A S))
 clear r8
 go_wp2_with fail
 go_ret
 rw[HRR.out]
 exact HS.out):P:=h
theorem UH{P:Prop}(h:P:=by
 go_enter Tryz.func144,Tryz.ntmps144
 go_upto_region 1 with(fail)
 rw[←hW,←HBx.out,←HBc.out,←HBe.out]
 clear hW
 go_wp2_with fail
 refine(Dw _).mono ?_
 rintro e1 w1 ⟨rfl,rfl⟩
 go_wp2_with fail
 go_ret
 rw[HRR.out]
 exact HS.out):P:=h
theorem Ul{P:Prop}(h:P:=by
 clear r8
 go_wp2_with fail
 go_ret
 rw[HR.out,if_pos (by trivial)]
 exact HS.out):P:=h
theorem TN{P:Prop}(h:P:=by
 rintro e8 w8 r8
 obtain⟨v8,rfl⟩:=r8.ret
 have HS:=Aa r8
 clear r8
 go_wp2_with fail
 go_ret
 rw[HR.out]
 exact HS.out):P:=h
theorem CX.tbeg{B:Nat}{w:World}{P Q R:Nat→Prop}{A:EA}{Ke:EK}{S:SA}{nx:Value}{X:Cx}(h:CX B w P Q R A Ke S nx X):w.cell? ⟨S.t,3,none⟩=some (.int .u64 X.t.beg):=h.tx.blk.cell 3
theorem JT{B N:Nat}{w:World}{P Q R:Nat→Prop}{A:EA}{Ke:EK}{S:SA}{nx:Value}{X:Cx}(h:CX B w P Q R A Ke S nx X)(hN:Ax N X)(hB9:N≤100000000)(hm:X.sh.p.made=false→X.sh.p.free=[])(l hd at_:Int)(hl:AM X.sh.slots l):
 Calls Tryz.prog 173 #[bp A.e,bp S.t,bp S.c,.int .u64 l,.int .u64 hd,.int .u64 at_] w (Ak B w P Q R A Ke S nx (DZ X l hd at_).1 (some (DZ X l hd at_).2)):=by
 by_cases h0:at_=0
 ·skip
  subst h0
  have HR:Hid (DZ X l hd 0=Di X false l hd):=Aa (by simp[DZ])
  have ge:=An.new' (h) (w.heap.size) (by simp) 39 #[bp A.e]
  have C0:=(h).alloc (.cells #[bp A.e] 39)
  have gt:=An.new' (C0) (w.heap.size+1) (by simp) 96 #[bp S.t]
  have C1:=(C0).alloc (.cells #[bp S.t] 96)
  have gc:=An.new' (C1) (w.heap.size+1+1) (by simp) 101 #[bp S.c]
  have C2:=(C1).alloc (.cells #[bp S.c] 101)
  have gl:=An.new' (C2) (w.heap.size+1+1+1) (by simp) 31 #[.int .u64 (l)]
  have C3:=(C2).alloc (.cells #[.int .u64 (l)] 31)
  have gh:=An.new' (C3) (w.heap.size+1+1+1+1) (by simp) 31 #[.int .u64 (hd)]
  have C4:=(C3).alloc (.cells #[.int .u64 (hd)] 31)
  have gq:=An.new' (C4) (w.heap.size+1+1+1+1+1) (by simp) 31 #[.int .u64 (0)]
  have C5:=(C4).alloc (.cells #[.int .u64 (0)] 31)
  have ge:=ge.alloc (.cells #[bp S.t] 96)
  have ge:=ge.alloc (.cells #[bp S.c] 101)
  have ge:=ge.alloc (.cells #[.int .u64 (l)] 31)
  have ge:=ge.alloc (.cells #[.int .u64 (hd)] 31)
  have ge:=ge.alloc (.cells #[.int .u64 (0)] 31)
  have gt:=gt.alloc (.cells #[bp S.c] 101)
  have gt:=gt.alloc (.cells #[.int .u64 (l)] 31)
  have gt:=gt.alloc (.cells #[.int .u64 (hd)] 31)
  have gt:=gt.alloc (.cells #[.int .u64 (0)] 31)
  have gc:=gc.alloc (.cells #[.int .u64 (l)] 31)
  have gc:=gc.alloc (.cells #[.int .u64 (hd)] 31)
  have gc:=gc.alloc (.cells #[.int .u64 (0)] 31)
  have gl:=gl.alloc (.cells #[.int .u64 (hd)] 31)
  have gl:=gl.alloc (.cells #[.int .u64 (0)] 31)
  have gh:=gh.alloc (.cells #[.int .u64 (0)] 31)
  have MW:Ag w ((((((w.alloc (.cells #[bp A.e] 39)).alloc (.cells #[bp S.t] 96)).alloc (.cells #[bp S.c] 101)).alloc (.cells #[.int .u64 (l)] 31)).alloc (.cells #[.int .u64 (hd)] 31)).alloc (.cells #[.int .u64 (0)] 31)) P Q P Q:=Ag.only0 P Q (((((((Ac.refl w).alloc _).alloc _).alloc _).alloc _).alloc _).alloc _)
  obtain⟨W,hW⟩:=Ad ((((((w.alloc (.cells #[bp A.e] 39)).alloc (.cells #[bp S.t] 96)).alloc (.cells #[bp S.c] 101)).alloc (.cells #[.int .u64 (l)] 31)).alloc (.cells #[.int .u64 (hd)] 31)).alloc (.cells #[.int .u64 (0)] 31))
  rw[←hW]at MW C5 ge gt gc gl gh gq
  have HCW:=Aa C5
  clear C0 C1 C2 C3 C4 C5
  obtain⟨be,hbe⟩:=Ad w.heap.size
  obtain⟨bt,hbt⟩:=Ad (w.heap.size+1)
  obtain⟨bc,hbc⟩:=Ad (w.heap.size+1+1)
  obtain⟨bl,hbl⟩:=Ad (w.heap.size+1+1+1)
  obtain⟨bh,hbh⟩:=Ad (w.heap.size+1+1+1+1)
  obtain⟨bq,hbq⟩:=Ad (w.heap.size+1+1+1+1+1)
  rw[←hbe]at ge
  rw[←hbt]at gt
  rw[←hbc]at gc
  rw[←hbl]at gl
  rw[←hbh]at gh
  rw[←hbq]at gq
  have HBe:=Aa hbe
  have HBt:=Aa hbt
  have HBc:=Aa hbc
  have HBl:=Aa hbl
  have HBh:=Aa hbh
  have HBq:=Aa hbq
  clear hbe hbt hbc hbl hbh hbq
  have ce:=Ae W be 0 (bp A.e) ge.c0
  have ct:=Ae W bt 0 (bp S.t) gt.c0
  have cc:=Ae W bc 0 (bp S.c) gc.c0
  have cl:=Ae W bl 0 (.int .u64 (l)) gl.c0
  have ch:=Ae W bh 0 (.int .u64 (hd)) gh.c0
  have cq:=Ae W bq 0 (.int .u64 (0)) gq.c0
  have gg:=An.new' HCW.out W.heap.size rfl 31 #[.int .u64 hd]
  have oG:=(Ac.refl W).alloc (.cells #[.int .u64 hd] 31)
  have MG:=MW.trans (Ag.only0 P Q oG)
  have CE:=Hn (HCW.out.only0 oG) hN hB9 hm false l hd hl (xq:=none) (ha:=some (DP W.heap.size)) (hn:=1) (hc:=1) rfl (.inr ⟨rfl,W.heap.size,rfl,rfl,rfl,gg⟩)
  clear h hN hl hm oG gg
  go_enter Tryz.func173,Tryz.ntmps173
  go_upto_region 1 with(fail)
  rw[←hW,←HBq.out,←HBh.out,←HBl.out,←HBc.out,←HBt.out,←HBe.out]
  clear hW
  go_wp2_with fail
  refine CE.mono ?_
  rintro e9 w9 r9
  obtain⟨v9,rfl⟩:=r9.ret
  have HS:=Aa (r9.comp MG (At.refl A S))
  exact Ud
 ·have b0:(at_==0)=false:=by simpa using h0
  have HR:Hid (DZ X l hd at_=(X,.free1 l hd at_)):=Aa (by simp[DZ,h0])
  have ge:=An.new' (h) (w.heap.size) (by simp) 39 #[bp A.e]
  have C0:=(h).alloc (.cells #[bp A.e] 39)
  have gt:=An.new' (C0) (w.heap.size+1) (by simp) 96 #[bp S.t]
  have C1:=(C0).alloc (.cells #[bp S.t] 96)
  have gc:=An.new' (C1) (w.heap.size+1+1) (by simp) 101 #[bp S.c]
  have C2:=(C1).alloc (.cells #[bp S.c] 101)
  have gl:=An.new' (C2) (w.heap.size+1+1+1) (by simp) 31 #[.int .u64 (l)]
  have C3:=(C2).alloc (.cells #[.int .u64 (l)] 31)
  have gh:=An.new' (C3) (w.heap.size+1+1+1+1) (by simp) 31 #[.int .u64 (hd)]
  have C4:=(C3).alloc (.cells #[.int .u64 (hd)] 31)
  have gq:=An.new' (C4) (w.heap.size+1+1+1+1+1) (by simp) 31 #[.int .u64 (at_)]
  have C5:=(C4).alloc (.cells #[.int .u64 (at_)] 31)
  have ge:=ge.alloc (.cells #[bp S.t] 96)
  have ge:=ge.alloc (.cells #[bp S.c] 101)
  have ge:=ge.alloc (.cells #[.int .u64 (l)] 31)
  have ge:=ge.alloc (.cells #[.int .u64 (hd)] 31)
  have ge:=ge.alloc (.cells #[.int .u64 (at_)] 31)
  have gt:=gt.alloc (.cells #[bp S.c] 101)
  have gt:=gt.alloc (.cells #[.int .u64 (l)] 31)
  have gt:=gt.alloc (.cells #[.int .u64 (hd)] 31)
  have gt:=gt.alloc (.cells #[.int .u64 (at_)] 31)
  have gc:=gc.alloc (.cells #[.int .u64 (l)] 31)
  have gc:=gc.alloc (.cells #[.int .u64 (hd)] 31)
  have gc:=gc.alloc (.cells #[.int .u64 (at_)] 31)
  have gl:=gl.alloc (.cells #[.int .u64 (hd)] 31)
  have gl:=gl.alloc (.cells #[.int .u64 (at_)] 31)
  have gh:=gh.alloc (.cells #[.int .u64 (at_)] 31)
  have MW:Ag w ((((((w.alloc (.cells #[bp A.e] 39)).alloc (.cells #[bp S.t] 96)).alloc (.cells #[bp S.c] 101)).alloc (.cells #[.int .u64 (l)] 31)).alloc (.cells #[.int .u64 (hd)] 31)).alloc (.cells #[.int .u64 (at_)] 31)) P Q P Q:=Ag.only0 P Q (((((((Ac.refl w).alloc _).alloc _).alloc _).alloc _).alloc _).alloc _)
  obtain⟨W,hW⟩:=Ad ((((((w.alloc (.cells #[bp A.e] 39)).alloc (.cells #[bp S.t] 96)).alloc (.cells #[bp S.c] 101)).alloc (.cells #[.int .u64 (l)] 31)).alloc (.cells #[.int .u64 (hd)] 31)).alloc (.cells #[.int .u64 (at_)] 31))
  rw[←hW]at MW C5 ge gt gc gl gh gq
  have HCW:=Aa C5
  clear C0 C1 C2 C3 C4 C5
  obtain⟨be,hbe⟩:=Ad w.heap.size
  obtain⟨bt,hbt⟩:=Ad (w.heap.size+1)
  obtain⟨bc,hbc⟩:=Ad (w.heap.size+1+1)
  obtain⟨bl,hbl⟩:=Ad (w.heap.size+1+1+1)
  obtain⟨bh,hbh⟩:=Ad (w.heap.size+1+1+1+1)
  obtain⟨bq,hbq⟩:=Ad (w.heap.size+1+1+1+1+1)
  rw[←hbe]at ge
  rw[←hbt]at gt
  rw[←hbc]at gc
  rw[←hbl]at gl
  rw[←hbh]at gh
  rw[←hbq]at gq
  have HBe:=Aa hbe
  have HBt:=Aa hbt
  have HBc:=Aa hbc
  have HBl:=Aa hbl
  have HBh:=Aa hbh
  have HBq:=Aa hbq
  clear hbe hbt hbc hbl hbh hbq
  have ce:=Ae W be 0 (bp A.e) ge.c0
  have ct:=Ae W bt 0 (bp S.t) gt.c0
  have cc:=Ae W bc 0 (bp S.c) gc.c0
  have cl:=Ae W bl 0 (.int .u64 (l)) gl.c0
  have ch:=Ae W bh 0 (.int .u64 (hd)) gh.c0
  have cq:=Ae W bq 0 (.int .u64 (at_)) gq.c0
  have gf:=An.new' HCW.out W.heap.size rfl 124 #[.func (.func 195) #[] #[bp be,bp bt,bp bc,bp bl,bp bh,bp bq]]
  have oG:=(Ac.refl W).alloc (.cells #[.func (.func 195) #[] #[bp be,bp bt,bp bc,bp bl,bp bh,bp bq]] 124)
  have mG:=Ag.only0 P Q oG
  have HS:Hid (Ak B w P Q R A Ke S nx X (some (.free1 l hd at_)) (.returned (.func (.func 196) #[] #[bp be,bp bq,bp bt,bp W.heap.size,bp bc,bp bl])) _):=Aa ⟨P,Q,A,S,_,rfl,HCW.out.only0 oG,⟨be,bq,bt,W.heap.size,bc,bl,be,bt,bc,bl,bh,bq,rfl,ge.move mG,gq.move mG,gt.move mG,gf,gc.move mG,gl.move mG,ge.move mG,gt.move mG,gc.move mG,gl.move mG,gh.move mG,gq.move mG⟩,MW.trans mG,At.refl A S⟩
  clear h hN hl hm oG mG gf h0
  go_enter Tryz.func173,Tryz.ntmps173
  go_upto_region 1 with(fail)
  rw[←hW,←HBq.out,←HBh.out,←HBl.out,←HBc.out,←HBt.out,←HBe.out]
  clear hW
  go_wp2_with fail
  go_ret
  rw[HR.out]
  exact HS.out
theorem Or{B N:Nat}{w:World}{P Q R:Nat→Prop}{A:EA}{Ke:EK}{S:SA}{nx:Value}{X:Cx}(h:CX B w P Q R A Ke S nx X)(hN:Ax N X)(hB9:N≤100000000)(hm:X.sh.p.made=false→X.sh.p.free=[])(l:Int)(hl:AM X.sh.slots l){e c t a:Nat}(he:An w P Q R e 39 #[bp A.e])(hc:An w P Q R c 101 #[bp S.c])(ht:An w P Q R t 96 #[bp S.t])(ha:An w P Q R a 31 #[.int .u64 (l)]):
 Calls Tryz.prog 172 #[bp e,bp c,bp t,bp a] w (Ak B w P Q R A Ke S nx (Ay X (.fresh l)).1 (Ay X (.fresh l)).2):=by
 have HC0:=Aa h
 have HN:=Aa hN
 have k1:=hN.cl.key.1
 have k2:=hN.cl.key.2
 obtain⟨y,hy⟩:=Aq (X.sh.a.load (9+X.c.op.key))
 obtain⟨y0,y1⟩:0≤y∧y<18446744073709551616:=by rw[←hy];exact AG hN.sh.word _
 obtain⟨X1,hX1⟩:=Aq (X.setA (X.sh.a.tick (9+X.c.op.key)))
 have HR:Hid (Ay X (.fresh l)=((DZ X1 l y y).1,some (DZ X1 l y y).2)):=Aa (by simp only[Ay,hX1,hy])
 have ew:IntKind.i64.wrap (9+X.c.op.key)=9+X.c.op.key:=by rw[IntKind.wrap_i64];omega
 have HF:=Aa (hN.tick (9+X.c.op.key))
 rw[hX1]at HF
 have HL:Hid (AM X1.sh.slots l∧(X1.sh.p.made=false→X1.sh.p.free=[])):=Aa (by rw[←hX1];exact⟨hl,hm⟩)
 clear h hN hl hm
 go_enter Tryz.func172,Tryz.ntmps172
 go_upto_region 1 with(fail)
 have HC:=Aa HC0.out.drew
 have M:=Ag.only0 P Q ((Ac.refl w).drew)
 have fe:=he.move M
 have fc:=hc.move M
 have ft:=ht.move M
 have fa:=ha.move M
 have ce:=fe.c0
 have cc:=fc.c0
 have ct:=ft.c0
 have ca:=fa.c0
 have cA:=HC.out.ca
 have cN:=HC.out.cn
 first|have cK:=(show _=some (Value.int .i64 X.c.op.key) from HC.out.ck)|have cK:=(show _=some (Value.int .i64 X.c.op.key) from hX1▸HC.out.ck)
 refine wp_region_held_drew (S:=(fun w'=>Ab w' e 0 (bp A.e)∧Ab w' c 0 (bp S.c)∧Ab w' A.e 2 (bp A.a)∧Ab w' S.c 1 (.int .i64 X.c.op.key))) (by kernel_rfl) ?_ (fun hHeld=>?_)
 ·exact⟨ce,cc,cA,cK⟩
 refine Af 0 (h:=Af 1 (h:=Af 2 (h:=Af 3 (h:=Af 4 (h:=Af 5 (h:=Af 6 (h:=Af 7 (h:=Af 8 (h:=Af 9 (h:=Ar (i:=10) (h:=fun K hK=>?_)))))))))))
 go_simp
 (refine(Bw HC.out _).mono ?_;rw[hy,hX1];rintro e1 w1 ⟨rfl,h1,m1⟩;have HC:=Aa h1;have M:=M.trans m1;clear h1;have fe:=he.move M;have fc:=hc.move M;have ft:=ht.move M;have fa:=ha.move M;have ce:=fe.c0;have cc:=fc.c0;have ct:=ft.c0;have ca:=fa.c0;have cA:=HC.out.ca;have cN:=HC.out.cn;first|have cK:=(show _=some (Value.int .i64 X.c.op.key) from HC.out.ck)|have cK:=(show _=some (Value.int .i64 X.c.op.key) from hX1▸HC.out.ck);skip)
 try go_wp2_with fail
 refine AK hK (by exact⟨ce,cc,cA,cK⟩) (h:=fun hHeld=>?_);clear hK K
 refine Af 11 (h:=?_)
 refine wpAnyH_done (by kernel_rfl) ?_ _
 skip
 go_wp2_with fail
 refine(JT HC.out HF.out hB9 HL.out.2 l y y HL.out.1).mono ?_
 rintro e9 w9 r9
 obtain⟨v9,rfl⟩:=r9.ret
 have HS:=Aa (r9.comp M (At.refl A S))
 clear r9
 go_wp2_with fail
 go_ret
 rw[HR.out]
 exact HS.out
theorem PJ{B N:Nat}{w:World}{P Q R:Nat→Prop}{A:EA}{Ke:EK}{S:SA}{nx:Value}{X:Cx}(h:CX B w P Q R A Ke S nx X)(hN:Ax N X)(hB9:N≤100000000)(hm:X.sh.p.made=false→X.sh.p.free=[])(l hd at_:Int)(hl:AM X.sh.slots l)(ha9:0≤at_){e t c a b q:Nat}(he:An w P Q R e 39 #[bp A.e])(ht:An w P Q R t 96 #[bp S.t])(hc:An w P Q R c 101 #[bp S.c])(ha:An w P Q R a 31 #[.int .u64 (l)])(hb:An w P Q R b 31 #[.int .u64 (hd)])(hq:An w P Q R q 31 #[.int .u64 (at_)]):
 Calls Tryz.prog 195 #[bp e,bp t,bp c,bp a,bp b,bp q] w (Ak B w P Q R A Ke S nx (Ay X (.freeN l hd at_)).1 (Ay X (.freeN l hd at_)).2):=by
 have HC0:=Aa h
 have HN:=Aa hN
 obtain⟨y,hy⟩:=Aq (X.sh.a.load (Al at_ 2))
 obtain⟨y0,y1⟩:0≤y∧y<18446744073709551616:=by rw[←hy];exact AG hN.sh.word _
 obtain⟨X1,hX1⟩:=Aq (X.setA (X.sh.a.tick (Al at_ 2)))
 have HR:Hid (Ay X (.freeN l hd at_)=((DZ X1 l hd y).1,some (DZ X1 l hd y).2)):=Aa (by simp only[Ay,hX1,hy])
 have HF:=Aa (hN.tick (Al at_ 2))
 rw[hX1]at HF
 have HL:Hid (AM X1.sh.slots l∧(X1.sh.p.made=false→X1.sh.p.free=[])):=Aa (by rw[←hX1];exact⟨hl,hm⟩)
 clear h hN hl hm
 go_enter Tryz.func195,Tryz.ntmps195
 go_upto_region 1 with(fail)
 have HC:=Aa HC0.out.drew
 have M:=Ag.only0 P Q ((Ac.refl w).drew)
 have fe:=he.move M
 have ft:=ht.move M
 have fc:=hc.move M
 have fa:=ha.move M
 have fb:=hb.move M
 have fq:=hq.move M
 have ce:=fe.c0
 have ct:=ft.c0
 have cc:=fc.c0
 have ca:=fa.c0
 have cb:=fb.c0
 have cq:=fq.c0
 have cA:=HC.out.ca
 have cN:=HC.out.cn
 refine wp_region_held_drew (S:=(fun w'=>Ab w' e 0 (bp A.e)∧Ab w' t 0 (bp S.t)∧Ab w' c 0 (bp S.c)∧Ab w' a 0 (.int .u64 (l))∧Ab w' b 0 (.int .u64 (hd))∧Ab w' q 0 (.int .u64 (at_))∧Ab w' A.e 2 (bp A.a))) (by kernel_rfl) ?_ (fun hHeld=>?_)
 ·exact⟨ce,ct,cc,ca,cb,cq,cA⟩
 refine Af 0 (h:=Af 1 (h:=Af 2 (h:=Af 3 (h:=Af 4 (h:=Af 5 (h:=Af 6 (h:=Af 7 (h:=Af 8 (h:=Af 9 (h:=Ar (i:=10) (h:=fun K hK=>?_)))))))))))
 go_simp
 (refine(Bb at_ 2 _ ha9 (by omega) (by omega)).mono ?_;rintro e1 w1 ⟨rfl,rfl⟩)
 try go_wp2_with fail
 refine AK hK (by exact⟨ce,ct,cc,ca,cb,cq,cA⟩) (h:=fun hHeld=>?_);clear hK K
 refine Ar (i:=11) (h:=fun K hK=>?_)
 try simp only[List.getElem_toArray,List.getElem_cons_zero,List.getElem_cons_succ]
 go_simp
 (refine(Bw HC.out _).mono ?_;rw[hy,hX1];rintro e1 w1 ⟨rfl,h1,m1⟩;have HC:=Aa h1;have M:=M.trans m1;clear h1;have fe:=he.move M;have ft:=ht.move M;have fc:=hc.move M;have fa:=ha.move M;have fb:=hb.move M;have fq:=hq.move M;have ce:=fe.c0;have ct:=ft.c0;have cc:=fc.c0;have ca:=fa.c0;have cb:=fb.c0;have cq:=fq.c0;have cA:=HC.out.ca;have cN:=HC.out.cn;skip)
 try go_wp2_with fail
 refine AK hK (by exact⟨ce,ct,cc,ca,cb,cq,cA⟩) (h:=fun hHeld=>?_);clear hK K
 refine Ar (i:=12) (h:=fun K hK=>?_)
 try simp only[List.getElem_toArray,List.getElem_cons_zero,List.getElem_cons_succ]
 go_simp
 (refine(JT HC.out HF.out hB9 HL.out.2 l hd y HL.out.1).mono ?_;rintro e9 w9 r9;have HS9:=Aa (r9.comp M (At.refl A S));obtain⟨P9,Q9,A9,S9,v9,rfl,h9,n9,m9,k9⟩:=r9;have ce:=(fe.move m9).c0;have ct:=(ft.move m9).c0;have cc:=(fc.move m9).c0;have ca:=(fa.move m9).c0;have cb:=(fb.move m9).c0;have cq:=(fq.move m9).c0;have cA:=Ae w9 A.e 2 (bp A.a) ((by have q:=h9.ca;rw[k9.e,k9.a]at q;exact q));have HS:=HS9;clear h9 n9 m9 k9 HS9)
 try go_wp2_with fail
 refine AK hK (by exact⟨ce,ct,cc,ca,cb,cq,cA⟩) (h:=fun hHeld=>?_);clear hK K
 refine Af 13 (h:=?_)
 refine wpAnyH_done (by kernel_rfl) ?_ _
 go_wp2_with fail
 go_ret
 rw[HR.out]
 exact HS.out
theorem Oy{B N:Nat}{w:World}{P Q R:Nat→Prop}{A:EA}{Ke:EK}{S:SA}{nx:Value}{X:Cx}(h:CX B w P Q R A Ke S nx X)(hN:Ax N X)(hB9:N≤100000000)(l hd at_:Int)(hl:AM X.sh.slots l)(ha9:0≤at_){e2 t2 c2 a2 b2 p2:Nat}{e q t f c a:Nat}(he:An w P Q R e 39 #[bp A.e])(hq:An w P Q R q 31 #[.int .u64 (at_)])(ht:An w P Q R t 96 #[bp S.t])(hf:An w P Q R f 124 #[.func (.func 195) #[] #[bp e2,bp t2,bp c2,bp a2,bp b2,bp p2]])(hc:An w P Q R c 101 #[bp S.c])(ha:An w P Q R a 31 #[.int .u64 (l)])(hE2:bE w P Q R A e2)(hT2:bT w P Q R S t2)(hC2:bC w P Q R S c2)(hA2:bU w P Q R a2 l)(hB2:bU w P Q R b2 hd)(hP2:bU w P Q R p2 at_):
 Calls Tryz.prog 196 #[bp e,bp q,bp t,bp f,bp c,bp a] w (Ak B w P Q R A Ke S nx (Ay X (.free1 l hd at_)).1 (Ay X (.free1 l hd at_)).2):=by
 have HC0:=Aa h
 have HN:=Aa hN
 obtain⟨x,hx⟩:=Aq (X.sh.a.load (Al at_ 0))
 obtain⟨x0,x1⟩:0≤x∧x<18446744073709551616:=by rw[←hx];exact AG hN.sh.word _
 obtain⟨X1,hX1⟩:=Aq (X.setA (X.sh.a.tick (Al at_ 0)))
 have HR:Hid (Ay X (.free1 l hd at_)=(if BD x=1∧Br x≤X.t.beg then(X1,some (.freeN l hd at_))else if BD x≠2 then((DA X1 l).1,some (DA X1 l).2)else(X1,some (.free2 l hd at_ (Br x))))):=Aa (by simp only[Ay,hX1,hx])
 have HF:=Aa (hN.tick (Al at_ 0))
 rw[hX1]at HF
 have HL:Hid (AM X1.sh.slots l∧X1.t=X.t):=Aa (by rw[←hX1];exact⟨hl,rfl⟩)
 have hrt:=@FV x
 have HIN:=Aa (And.intro hE2 (And.intro hT2 (And.intro hC2 (And.intro hA2 (And.intro hB2 hP2)))))
 clear h hN hl hE2 hT2 hC2 hA2 hB2 hP2
 go_enter Tryz.func196,Tryz.ntmps196
 go_upto_region 1 with(fail)
 go_cut [7] (fun s7 wx=>∃s,s7=bp s∧Hid (CX B wx P Q R A Ke S nx X1∧Ag w wx P Q P Q∧An wx P Q R s 195 #[.int .i64 (BD x),.int .u64 (Br x)]))
 case first=>
  have HC:=Aa HC0.out.drew
  have M:=Ag.only0 P Q ((Ac.refl w).drew)
  have fe:=he.move M
  have fq:=hq.move M
  have ft:=ht.move M
  have ff:=hf.move M
  have fc:=hc.move M
  have fa:=ha.move M
  have ce:=fe.c0
  have cq:=fq.c0
  have ct:=ft.c0
  have cf:=ff.c0
  have cc:=fc.c0
  have ca:=fa.c0
  have cA:=HC.out.ca
  have cN:=HC.out.cn
  refine wp_region_held_drew (S:=(fun w'=>Ab w' e 0 (bp A.e)∧Ab w' q 0 (.int .u64 (at_))∧Ab w' A.e 2 (bp A.a))) (by kernel_rfl) ?_ (fun hHeld=>?_)
  ·exact⟨ce,cq,cA⟩
  refine Af 0 (h:=Af 1 (h:=Af 2 (h:=Af 3 (h:=Af 4 (h:=?_)))))
  refine wpAnyH_ready (rs:=[5,8]) (by kernel_rfl) (by simp) ?_
  refine AllReadyH.cons rfl (fun K hK=>?_) (AllReadyH.cons rfl (fun K hK=>?_) (AllReadyH.nil))
  ·try simp only[List.getElem_toArray,List.getElem_cons_zero,List.getElem_cons_succ]
   go_simp
   (refine(Bb at_ 0 _ ha9 (by omega) (by omega)).mono ?_;rintro e1 w1 ⟨rfl,rfl⟩)
   try go_wp2_with fail
   refine AK hK (by exact⟨ce,cq,cA⟩) (h:=fun hHeld=>?_);clear hK K
   refine wpAnyH_ready (rs:=[6,8]) (by kernel_rfl) (by simp) ?_
   refine AllReadyH.cons rfl (fun K hK=>?_) (AllReadyH.cons rfl (fun K hK=>?_) (AllReadyH.nil))
   ·try simp only[List.getElem_toArray,List.getElem_cons_zero,List.getElem_cons_succ]
    go_simp
    (refine(Bw HC.out _).mono ?_;rw[hx,hX1];rintro e1 w1 ⟨rfl,h1,m1⟩;have HC:=Aa h1;have M:=M.trans m1;clear h1;have fe:=he.move M;have fq:=hq.move M;have ft:=ht.move M;have ff:=hf.move M;have fc:=hc.move M;have fa:=ha.move M;have ce:=fe.c0;have cq:=fq.c0;have ct:=ft.c0;have cf:=ff.c0;have cc:=fc.c0;have ca:=fa.c0;have cA:=HC.out.ca;have cN:=HC.out.cn;try(have fs:=fs.move m1;have zfs:=fs.zf;first|have cfs:=fs.c0|(have cfs:=fs.d0;have dfs:=fs.d1)))
    try go_wp2_with fail
    refine AK hK (by exact⟨ce,cq,cA⟩) (h:=fun hHeld=>?_);clear hK K
    refine wpAnyH_ready (rs:=[7,8]) (by kernel_rfl) (by simp) ?_
    refine AllReadyH.cons rfl (fun K hK=>?_) (AllReadyH.cons rfl (fun K hK=>?_) (AllReadyH.nil))
    ·try simp only[List.getElem_toArray,List.getElem_cons_zero,List.getElem_cons_succ]
     go_simp
     (refine(BI x _).mono ?_;rintro e1 w1 ⟨rfl,o1⟩;have M:=M.trans (Ag.only0 P Q o1);have HC:=Aa (HC.out.only0 o1);have fe:=he.move M;have fq:=hq.move M;have ft:=ht.move M;have ff:=hf.move M;have fc:=hc.move M;have fa:=ha.move M;have ce:=fe.c0;have cq:=fq.c0;have ct:=ft.c0;have cf:=ff.c0;have cc:=fc.c0;have ca:=fa.c0;have cA:=HC.out.ca;have cN:=HC.out.cn;try(have fs:=fs.move (Ag.only0 P Q o1);have zfs:=fs.zf;first|have cfs:=fs.c0|(have cfs:=fs.d0;have dfs:=fs.d1)))
     try go_wp2_with fail
     refine AK hK (by exact⟨ce,cq,cA⟩) (h:=fun hHeld=>?_);clear hK K
     refine Ar (i:=8) (h:=fun K hK=>?_)
     try simp only[List.getElem_toArray,List.getElem_cons_zero,List.getElem_cons_succ]
     go_simp
     (have HCp:=HC;have Mp:=M;(first|have fs:=An.new' HC.out w.heap.size rfl 195 #[.int .i64 0,.int .u64 0]|have fs:=An.new' HC.out _ rfl 195 #[.int .i64 0,.int .u64 0]);have M:=M.trans (Ag.only0 P Q ((Ac.refl _).alloc (.cells #[.int .i64 0,.int .u64 0] 195)));have HC:=Aa (HC.out.alloc (.cells #[.int .i64 0,.int .u64 0] 195));have fe:=he.move M;have fq:=hq.move M;have ft:=ht.move M;have ff:=hf.move M;have fc:=hc.move M;have fa:=ha.move M;have ce:=fe.c0;have cq:=fq.c0;have ct:=ft.c0;have cf:=ff.c0;have cc:=fc.c0;have ca:=fa.c0;have cA:=HC.out.ca;have cN:=HC.out.cn)
     try go_wp2_with fail
     refine AK hK (by exact⟨ce,cq,cA⟩) (h:=fun hHeld=>?_);clear hK K
     refine Ar (i:=9) (h:=fun K hK=>?_)
     try simp only[List.getElem_toArray,List.getElem_cons_zero,List.getElem_cons_succ]
     go_simp
     (have fs:=An.new' HCp.out _ rfl 195 #[.int .i64 (BD x),.int .u64 (Br x)];have M:=Mp.trans (Ag.only0 P Q ((Ac.refl _).alloc (.cells #[.int .i64 (BD x),.int .u64 (Br x)] 195)));have HC:=Aa (HCp.out.alloc (.cells #[.int .i64 (BD x),.int .u64 (Br x)] 195));have fe:=he.move M;have fq:=hq.move M;have ft:=ht.move M;have ff:=hf.move M;have fc:=hc.move M;have fa:=ha.move M;have ce:=fe.c0;have cq:=fq.c0;have ct:=ft.c0;have cf:=ff.c0;have cc:=fc.c0;have ca:=fa.c0;have cA:=HC.out.ca;have cN:=HC.out.cn)
     exact Tq
    ·try simp only[List.getElem_toArray,List.getElem_cons_zero,List.getElem_cons_succ]
     go_simp
     (have HCp:=HC;have Mp:=M;(first|have fs:=An.new' HC.out w.heap.size rfl 195 #[.int .i64 0,.int .u64 0]|have fs:=An.new' HC.out _ rfl 195 #[.int .i64 0,.int .u64 0]);have M:=M.trans (Ag.only0 P Q ((Ac.refl _).alloc (.cells #[.int .i64 0,.int .u64 0] 195)));have HC:=Aa (HC.out.alloc (.cells #[.int .i64 0,.int .u64 0] 195));have fe:=he.move M;have fq:=hq.move M;have ft:=ht.move M;have ff:=hf.move M;have fc:=hc.move M;have fa:=ha.move M;have ce:=fe.c0;have cq:=fq.c0;have ct:=ft.c0;have cf:=ff.c0;have cc:=fc.c0;have ca:=fa.c0;have cA:=HC.out.ca;have cN:=HC.out.cn)
     try go_wp2_with fail
     refine AK hK (by exact⟨ce,cq,cA⟩) (h:=fun hHeld=>?_);clear hK K
     refine Ar (i:=7) (h:=fun K hK=>?_)
     try simp only[List.getElem_toArray,List.getElem_cons_zero,List.getElem_cons_succ]
     go_simp
     (refine(BI x _).mono ?_;rintro e1 w1 ⟨rfl,o1⟩;have M:=M.trans (Ag.only0 P Q o1);have HC:=Aa (HC.out.only0 o1);have fe:=he.move M;have fq:=hq.move M;have ft:=ht.move M;have ff:=hf.move M;have fc:=hc.move M;have fa:=ha.move M;have ce:=fe.c0;have cq:=fq.c0;have ct:=ft.c0;have cf:=ff.c0;have cc:=fc.c0;have ca:=fa.c0;have cA:=HC.out.ca;have cN:=HC.out.cn;try(have fs:=fs.move (Ag.only0 P Q o1);have zfs:=fs.zf;first|have cfs:=fs.c0|(have cfs:=fs.d0;have dfs:=fs.d1)))
     try go_wp2_with fail
     refine AK hK (by exact⟨ce,cq,cA⟩) (h:=fun hHeld=>?_);clear hK K
     refine Ar (i:=9) (h:=fun K hK=>?_)
     try simp only[List.getElem_toArray,List.getElem_cons_zero,List.getElem_cons_succ]
     go_simp
     (have HC:=Aa (HC.out.setNew fs (by decide) 0 (.int .i64 (BD x)));have M:=M.setNewF fs (by first|exact Nat.le_refl _|exact Mp.o.size) 0 (.int .i64 (BD x));have fs:=fs.setOwn 0 (.int .i64 (BD x));have HC:=Aa (HC.out.setNew fs (by decide) 1 (.int .u64 (Br x)));have M:=M.setNewF fs (by first|exact Nat.le_refl _|exact Mp.o.size) 1 (.int .u64 (Br x));have fs:=fs.setOwn 1 (.int .u64 (Br x));have fs:An _ P Q R _ 195 #[.int .i64 (BD x),.int .u64 (Br x)]:=fs;have fe:=he.move M;have fq:=hq.move M;have ft:=ht.move M;have ff:=hf.move M;have fc:=hc.move M;have fa:=ha.move M;have ce:=fe.c0;have cq:=fq.c0;have ct:=ft.c0;have cf:=ff.c0;have cc:=fc.c0;have ca:=fa.c0;have cA:=HC.out.ca;have cN:=HC.out.cn)
     exact Tq
   ·try simp only[List.getElem_toArray,List.getElem_cons_zero,List.getElem_cons_succ]
    go_simp
    (have HCp:=HC;have Mp:=M;(first|have fs:=An.new' HC.out w.heap.size rfl 195 #[.int .i64 0,.int .u64 0]|have fs:=An.new' HC.out _ rfl 195 #[.int .i64 0,.int .u64 0]);have M:=M.trans (Ag.only0 P Q ((Ac.refl _).alloc (.cells #[.int .i64 0,.int .u64 0] 195)));have HC:=Aa (HC.out.alloc (.cells #[.int .i64 0,.int .u64 0] 195));have fe:=he.move M;have fq:=hq.move M;have ft:=ht.move M;have ff:=hf.move M;have fc:=hc.move M;have fa:=ha.move M;have ce:=fe.c0;have cq:=fq.c0;have ct:=ft.c0;have cf:=ff.c0;have cc:=fc.c0;have ca:=fa.c0;have cA:=HC.out.ca;have cN:=HC.out.cn)
    exact TO
  ·try simp only[List.getElem_toArray,List.getElem_cons_zero,List.getElem_cons_succ]
   go_simp
   (have HCp:=HC;have Mp:=M;(first|have fs:=An.new' HC.out w.heap.size rfl 195 #[.int .i64 0,.int .u64 0]|have fs:=An.new' HC.out _ rfl 195 #[.int .i64 0,.int .u64 0]);have M:=M.trans (Ag.only0 P Q ((Ac.refl _).alloc (.cells #[.int .i64 0,.int .u64 0] 195)));have HC:=Aa (HC.out.alloc (.cells #[.int .i64 0,.int .u64 0] 195));have fe:=he.move M;have fq:=hq.move M;have ft:=ht.move M;have ff:=hf.move M;have fc:=hc.move M;have fa:=ha.move M;have ce:=fe.c0;have cq:=fq.c0;have ct:=ft.c0;have cf:=ff.c0;have cc:=fc.c0;have ca:=fa.c0;have cA:=HC.out.ca;have cN:=HC.out.cn)
   try go_wp2_with fail
   refine AK hK (by exact⟨ce,cq,cA⟩) (h:=fun hHeld=>?_);clear hK K
   refine Ar (i:=5) (h:=fun K hK=>?_)
   try simp only[List.getElem_toArray,List.getElem_cons_zero,List.getElem_cons_succ]
   go_simp
   (refine(Bb at_ 0 _ ha9 (by omega) (by omega)).mono ?_;rintro e1 w1 ⟨rfl,rfl⟩)
   exact TO
 case rest=>
  obtain⟨sb,rfl,HW⟩:=hcut
  obtain⟨hcw,M,fs⟩:=HW.out
  have HC:=Aa hcw
  have m9:=Ag.only0 P Q ((Ac.refl wc).drew)
  have M:=M.trans m9
  have HC:=Aa HC.out.drew
  have fs:=fs.move m9
  clear hcw HW m9 HC0
  have fe:=he.move M
  have fq:=hq.move M
  have ft:=ht.move M
  have ff:=hf.move M
  have fc:=hc.move M
  have fa:=ha.move M
  have ce:=fe.c0
  have cq:=fq.c0
  have ct:=ft.c0
  have cf:=ff.c0
  have cc:=fc.c0
  have ca:=fa.c0
  have cA:=HC.out.ca
  have cN:=HC.out.cn
  have s0:=fs.d0
  have s1:=fs.d1
  have cB:=HC.out.tbeg
  rw[HL.out.2]at cB
  generalize BD x=kd at *
  generalize Br x=nd at *
  by_cases k1:kd=1
  ·subst k1
   by_cases hle:nd≤X.t.beg
   ·skip
    go_upto_region 2 with(fail)
    refine wp_region_held_drew (S:=(fun w'=>Ab w' sb 0 (.int .i64 1)∧Ab w' sb 1 (.int .u64 nd)∧Ab w' t 0 (bp S.t)∧Ab w' S.t 3 (.int .u64 X.t.beg))) (by kernel_rfl) ?_ (fun hHeld=>?_)
    ·exact⟨s0,s1,ct,cB⟩
    refine Af 0 (h:=Af 1 (h:=Af 2 (h:=Af 3 (h:=?_))))
    first|refine Aj 4 (h:=?_)|refine Af 4 (h:=?_)
    first|refine Aj 5 (h:=?_)|refine Af 5 (h:=?_)
    first|refine Aj 6 (h:=?_)|refine Af 6 (h:=?_)
    first|refine Aj 7 (h:=?_)|refine Af 7 (h:=?_)
    first|refine Aj 8 (h:=?_)|refine Af 8 (h:=?_)
    first|refine Aj 9 (h:=?_)|refine Af 9 (h:=?_)
    first|refine Aj 10 (h:=?_)|refine Af 10 (h:=?_)
    refine Af 11 (h:=?_)
    refine wpAnyH_done (by kernel_rfl) ?_ _
    obtain⟨q1,q2,q3,q4,q5,q6⟩:=HIN.out
    have HS:Hid (Ak B w P Q R A Ke S nx X1 (some (.freeN l hd at_)) (.returned (.func (.func 195) #[] #[bp e2,bp t2,bp c2,bp a2,bp b2,bp p2])) _):=Aa ⟨P,Q,A,S,_,rfl,HC.out,⟨e2,t2,c2,a2,b2,p2,rfl,q1.mv M (At.refl A S),q2.mv M (At.refl A S),q3.mv M (At.refl A S),q4.mv M,q5.mv M,q6.mv M⟩,M,At.refl A S⟩
    clear q1 q2 q3 q4 q5 q6
    exact UD
   ·skip
    go_upto_region 2 with(fail)
    refine wp_region_held_drew (S:=(fun w'=>Ab w' sb 0 (.int .i64 1)∧Ab w' sb 1 (.int .u64 nd)∧Ab w' t 0 (bp S.t)∧Ab w' S.t 3 (.int .u64 X.t.beg))) (by kernel_rfl) ?_ (fun hHeld=>?_)
    ·exact⟨s0,s1,ct,cB⟩
    refine Af 0 (h:=Af 1 (h:=Af 2 (h:=Af 3 (h:=?_))))
    first|refine Aj 4 (h:=?_)|refine Af 4 (h:=?_)
    first|refine Aj 5 (h:=?_)|refine Af 5 (h:=?_)
    first|refine Aj 6 (h:=?_)|refine Af 6 (h:=?_)
    first|refine Aj 7 (h:=?_)|refine Af 7 (h:=?_)
    first|refine Aj 8 (h:=?_)|refine Af 8 (h:=?_)
    first|refine Aj 9 (h:=?_)|refine Af 9 (h:=?_)
    first|refine Aj 10 (h:=?_)|refine Af 10 (h:=?_)
    refine Af 11 (h:=?_)
    refine wpAnyH_done (by kernel_rfl) ?_ _
    have HLE:=Aa hle
    clear hle
    go_wp2_with fail
    refine(GV HC.out HF.out hB9 l HL.out.1).mono ?_
    rintro e9 w9 r9
    obtain⟨v9,rfl⟩:=r9.ret
    have HS:=Aa (r9.comp M (At.refl A S))
    clear r9
    go_wp2_with fail
    go_ret
    rw[HR.out,if_neg (fun q=>by have:=HLE.out;have:=q.2;omega),if_pos (by decide)]
    exact HS.out
  ·have b1:(kd==1)=false:=by simpa using k1
   by_cases k2:kd=2
   ·subst k2
    obtain⟨r1,r2⟩:=hrt rfl
    go_upto_region 2 with(fail)
    refine wp_region_held_drew (S:=(fun w'=>Ab w' sb 0 (.int .i64 2)∧Ab w' sb 1 (.int .u64 nd)∧Ab w' t 0 (bp S.t)∧Ab w' S.t 3 (.int .u64 X.t.beg))) (by kernel_rfl) ?_ (fun hHeld=>?_)
    ·exact⟨s0,s1,ct,cB⟩
    refine Af 0 (h:=Af 1 (h:=Af 2 (h:=Af 3 (h:=?_))))
    first|refine Aj 4 (h:=?_)|refine Af 4 (h:=?_)
    first|refine Aj 5 (h:=?_)|refine Af 5 (h:=?_)
    first|refine Aj 6 (h:=?_)|refine Af 6 (h:=?_)
    first|refine Aj 7 (h:=?_)|refine Af 7 (h:=?_)
    first|refine Aj 8 (h:=?_)|refine Af 8 (h:=?_)
    first|refine Aj 9 (h:=?_)|refine Af 9 (h:=?_)
    first|refine Aj 10 (h:=?_)|refine Af 10 (h:=?_)
    refine Af 11 (h:=?_)
    refine wpAnyH_done (by kernel_rfl) ?_ _
    obtain⟨q1,q2,q3,q4,q5,q6⟩:=HIN.out
    have HS:Hid (Ak B w P Q R A Ke S nx X1 (some (.free2 l hd at_ nd)) (.returned (.func (.func 198) #[] #[bp e,bp sb,bp t,bp f,bp c,bp a])) _):=Aa ⟨P,Q,A,S,_,rfl,HC.out,⟨e,sb,t,f,c,a,e2,t2,c2,a2,b2,p2,rfl,fe,fs,ft,ff,fc,fa,q1.mv M (At.refl A S),q2.mv M (At.refl A S),q3.mv M (At.refl A S),q4.mv M,q5.mv M,q6.mv M⟩,M,At.refl A S⟩
    clear q1 q2 q3 q4 q5 q6
    go_wp2_with fail
    go_ret
    rw[HR.out,if_neg (fun q=>by simp at q),if_neg (fun q=>q (by first|rfl|trivial))]
    exact HS.out
   ·have b2:(kd != 2)=true:=by simpa using k2
    have b22:(kd==2)=false:=by simpa using k2
    have K1:=Aa k1
    have K2:=Aa k2
    clear k1 k2
    go_upto_region 2 with(fail)
    refine wp_region_held_drew (S:=(fun w'=>Ab w' sb 0 (.int .i64 kd)∧Ab w' sb 1 (.int .u64 nd)∧Ab w' t 0 (bp S.t)∧Ab w' S.t 3 (.int .u64 X.t.beg))) (by kernel_rfl) ?_ (fun hHeld=>?_)
    ·exact⟨s0,s1,ct,cB⟩
    refine Af 0 (h:=Af 1 (h:=Af 2 (h:=Af 3 (h:=?_))))
    first|refine Aj 4 (h:=?_)|refine Af 4 (h:=?_)
    first|refine Aj 5 (h:=?_)|refine Af 5 (h:=?_)
    first|refine Aj 6 (h:=?_)|refine Af 6 (h:=?_)
    first|refine Aj 7 (h:=?_)|refine Af 7 (h:=?_)
    first|refine Aj 8 (h:=?_)|refine Af 8 (h:=?_)
    first|refine Aj 9 (h:=?_)|refine Af 9 (h:=?_)
    first|refine Aj 10 (h:=?_)|refine Af 10 (h:=?_)
    refine Af 11 (h:=?_)
    refine wpAnyH_done (by kernel_rfl) ?_ _
    go_wp2_with fail
    refine(GV HC.out HF.out hB9 l HL.out.1).mono ?_
    rintro e9 w9 r9
    obtain⟨v9,rfl⟩:=r9.ret
    have HS:=Aa (r9.comp M (At.refl A S))
    clear r9
    go_wp2_with fail
    go_ret
    rw[HR.out,if_neg (fun q=>K1.out q.1),if_pos K2.out]
    exact HS.out
theorem Ob{B N:Nat}{w:World}{P Q R:Nat→Prop}{A:EA}{Ke:EK}{S:SA}{nx:Value}{X:Cx}(h:CX B w P Q R A Ke S nx X)(hN:Ax N X)(hB9:N≤100000000)(l hd at_ id:Int)(hl:AM X.sh.slots l)(i0:0≤id)(i1:id≤65535){e2 t2 c2 a2 b2 p2:Nat}{e s t f c a:Nat}(he:An w P Q R e 39 #[bp A.e])(ht:An w P Q R t 96 #[bp S.t])(hf:An w P Q R f 124 #[.func (.func 195) #[] #[bp e2,bp t2,bp c2,bp a2,bp b2,bp p2]])(hc:An w P Q R c 101 #[bp S.c])(ha:An w P Q R a 31 #[.int .u64 (l)])(hs:An w P Q R s 195 #[.int .i64 2,.int .u64 id])(hE2:bE w P Q R A e2)(hT2:bT w P Q R S t2)(hC2:bC w P Q R S c2)(hA2:bU w P Q R a2 l)(hB2:bU w P Q R b2 hd)(hP2:bU w P Q R p2 at_):
 Calls Tryz.prog 198 #[bp e,bp s,bp t,bp f,bp c,bp a] w (Ak B w P Q R A Ke S nx (Ay X (.free2 l hd at_ id)).1 (Ay X (.free2 l hd at_ id)).2):=by
 have HC0:=Aa h
 have HN:=Aa hN
 obtain⟨y,hy⟩:=Aq (X.sh.a.load (X.place id))
 obtain⟨y0,y1⟩:0≤y∧y<18446744073709551616:=by rw[←hy];exact AG hN.sh.word _
 obtain⟨X1,hX1⟩:=Aq (X.setA (X.sh.a.tick (X.place id)))
 have sl1:0≤X.sh.slots:=by have:=hN.sh.n1;omega
 have s2:=hN.sh.n2
 have hpl:∀id:Int,73+X.sh.slots*3+id=X.place id:=fun _=>rfl
 have HR:Hid (Ay X (.free2 l hd at_ id)=(if y%8=4∨0<y/8∧y/8≤X.t.beg then(X1,some (.freeN l hd at_))else((DA X1 l).1,some (DA X1 l).2))):=Aa (by simp only[Ay,hX1,hy])
 have HF:=Aa (hN.tick (X.place id))
 rw[hX1]at HF
 have HL:Hid (AM X1.sh.slots l∧X1.t=X.t):=Aa (by rw[←hX1];exact⟨hl,rfl⟩)
 have HIN:=Aa (And.intro hE2 (And.intro hT2 (And.intro hC2 (And.intro hA2 (And.intro hB2 hP2)))))
 have ew:IntKind.i64.wrap id=id:=by rw[IntKind.wrap_i64];omega
 clear h hN hl hE2 hT2 hC2 hA2 hB2 hP2
 go_enter Tryz.func198,Tryz.ntmps198
 go_upto_region 1 with(fail)
 have HC:=Aa HC0.out.drew
 have M:=Ag.only0 P Q ((Ac.refl w).drew)
 have fe:=he.move M
 have ft:=ht.move M
 have ff:=hf.move M
 have fc:=hc.move M
 have fa:=ha.move M
 have ce:=fe.c0
 have ct:=ft.c0
 have cf:=ff.c0
 have cc:=fc.c0
 have ca:=fa.c0
 have cA:=HC.out.ca
 have cN:=HC.out.cn
 have fs:=hs.move M
 have s1:=fs.d1
 refine wp_region_held_drew (S:=(fun w'=>Ab w' e 0 (bp A.e)∧Ab w' s 1 (.int .u64 id)∧Ab w' A.e 2 (bp A.a))) (by kernel_rfl) ?_ (fun hHeld=>?_)
 ·exact⟨ce,s1,cA⟩
 refine Af 0 (h:=Af 1 (h:=Af 2 (h:=Af 3 (h:=Af 4 (h:=Af 5 (h:=Af 6 (h:=Af 7 (h:=Ar (i:=8) (h:=fun K hK=>?_)))))))))
 go_simp
 (refine(BS A.e X.sh.slots id _ cN sl1 s2 i0 i1).mono ?_;rintro e1 w1 ⟨rfl,rfl⟩)
 try go_wp2_with fail
 refine AK hK (by exact⟨ce,s1,cA⟩) (h:=fun hHeld=>?_);clear hK K
 refine Ar (i:=9) (h:=fun K hK=>?_)
 try simp only[List.getElem_toArray,List.getElem_cons_zero,List.getElem_cons_succ]
 go_simp
 (refine(Bw HC.out _).mono ?_;rw[hy,hX1];rintro e1 w1 ⟨rfl,h1,m1⟩;have HC:=Aa h1;have M:=M.trans m1;clear h1;have fe:=he.move M;have ft:=ht.move M;have ff:=hf.move M;have fc:=hc.move M;have fa:=ha.move M;have ce:=fe.c0;have ct:=ft.c0;have cf:=ff.c0;have cc:=fc.c0;have ca:=fa.c0;have cA:=HC.out.ca;have cN:=HC.out.cn;have fs:=hs.move M;have s1:=fs.d1;skip)
 try go_wp2_with fail
 refine AK hK (by exact⟨ce,s1,cA⟩) (h:=fun hHeld=>?_);clear hK K
 refine Ar (i:=10) (h:=fun K hK=>?_)
 try simp only[List.getElem_toArray,List.getElem_cons_zero,List.getElem_cons_succ]
 go_simp
 (refine(Dn y _ y0 y1).mono ?_;rintro e1 w1 ⟨rfl,rfl⟩)
 try go_wp2_with fail
 refine AK hK (by exact⟨ce,s1,cA⟩) (h:=fun hHeld=>?_);clear hK K
 refine Af 11 (h:=Af 12 (h:=Af 13 (h:=Af 14 (h:=Af 15 (h:=?_)))))
 refine wpAnyH_done (by kernel_rfl) ?_ _
 skip
 have cB:=HC.out.tbeg
 rw[HL.out.2]at cB
 generalize y/8=en at *
 generalize y%8=st at *
 by_cases e4:st=4
 ·subst e4
  obtain⟨q1,q2,q3,q4,q5,q6⟩:=HIN.out
  have HS:Hid (Ak B w P Q R A Ke S nx X1 (some (.freeN l hd at_)) (.returned (.func (.func 195) #[] #[bp e2,bp t2,bp c2,bp a2,bp b2,bp p2])) _):=Aa ⟨P,Q,A,S,_,rfl,HC.out,⟨e2,t2,c2,a2,b2,p2,rfl,q1.mv M (At.refl A S),q2.mv M (At.refl A S),q3.mv M (At.refl A S),q4.mv M,q5.mv M,q6.mv M⟩,M,At.refl A S⟩
  clear q1 q2 q3 q4 q5 q6
  go_wp2_with fail
  go_ret
  rw[HR.out,if_pos (by first|exact .inl rfl|exact .inl trivial)]
  exact HS.out
 ·have b4:(st==4)=false:=by simpa using e4
  have E4:=Aa e4
  clear e4
  by_cases g0:0<en
  ·have g1:en>0:=g0
   by_cases hle:en≤X.t.beg
   ·skip
    obtain⟨q1,q2,q3,q4,q5,q6⟩:=HIN.out
    have HS:Hid (Ak B w P Q R A Ke S nx X1 (some (.freeN l hd at_)) (.returned (.func (.func 195) #[] #[bp e2,bp t2,bp c2,bp a2,bp b2,bp p2])) _):=Aa ⟨P,Q,A,S,_,rfl,HC.out,⟨e2,t2,c2,a2,b2,p2,rfl,q1.mv M (At.refl A S),q2.mv M (At.refl A S),q3.mv M (At.refl A S),q4.mv M,q5.mv M,q6.mv M⟩,M,At.refl A S⟩
    clear q1 q2 q3 q4 q5 q6
    go_wp2_with fail
    go_ret
    rw[HR.out,if_pos (.inr ⟨g0,hle⟩)]
    exact HS.out
   ·have HLE:=Aa hle
    go_wp2_with fail
    refine(GV HC.out HF.out hB9 l HL.out.1).mono ?_
    rintro e9 w9 r9
    obtain⟨v9,rfl⟩:=r9.ret
    have HS:=Aa (r9.comp M (At.refl A S))
    clear r9
    go_wp2_with fail
    go_ret
    rw[HR.out,if_neg (fun q=>q.elim E4.out (fun q=>by have:=HLE.out;have:=q.2;omega))]
    exact HS.out
  ·have g1:¬en>0:=g0
   have G0:=Aa g0
   go_wp2_with fail
   refine(GV HC.out HF.out hB9 l HL.out.1).mono ?_
   rintro e9 w9 r9
   obtain⟨v9,rfl⟩:=r9.ret
   have HS:=Aa (r9.comp M (At.refl A S))
   clear r9
   go_wp2_with fail
   go_ret
   rw[HR.out,if_neg (fun q=>q.elim E4.out (fun q=>by have:=G0.out;have:=q.1;omega))]
   exact HS.out
end
section
attribute [local go_sem ↓] Go.wp_at_zero Go.wp_at_succ
section
variable {B N:Nat} {w w':World} {P Q R:Nat→Prop} {A:EA} {K:EK} {S:SA} {nx:Value} {X:Cx}
theorem CX.celld(h:CX B w P Q R A K S nx X){k:Nat}{x:Dh}(hk:X.t.cells k=some x)(x':Dh)(o:Ah (fun b=>b=S.x k) w w')(hb:Am w' (S.x k) 250 (Gb x')):
 CX B w' P Q R A K S nx (X.setCell k x')∧Ag w w' P Q P Q:=by
 have hc:=h.tx.cel k x hk
 have t:Aw [250] w w':=Aw.of o hc.2.1
 have oQ:Ah Q w w':=o.mono (fun b _ hb=>by rw[hb];exact hc.2.2)
 have m:Ag w w' P Q P Q:=h.small o (fun b hb=> .inr (by rw[hb];exact hc.2.2))
 have eM:ID S.x (AT X.t.cells k (some x'))=ID S.x X.t.cells:=by
  funext j
  unfold ID
  by_cases e:j=k
  ·subst e;rw[Au,hk];rfl
  ·rw[Ap _ _ _ e]
 have up:∀j y,AT X.t.cells k (some x') j=some y→∃z,X.t.cells j=some z:=fun j y hj=>by
  by_cases e:j=k
  ·subst e;exact⟨x,hk⟩
  ·rw[Ap _ _ _ e]at hj;exact⟨y,hj⟩
 refine⟨h.txn m oQ t (by decide) (by decide) ⟨h.tx.blk.ty t (by decide),?_,fun j y hj=>?_,fun i j y z hi hj e=>?_,AO h.tx.keys t (by decide),AO h.tx.reads t (by decide),AO h.tx.bonds t (by decide),h.tx.kb,h.tx.qt,h.tx.qm,h.tx.qk,h.tx.qr,h.tx.qb⟩ ⟨rfl,rfl,rfl⟩ (fun _ hb=>hb) h.ap (h.uQ.mono o.size) h.aQ,m⟩
 ·obtain⟨D,hm⟩:=h.tx.map.ty t
  refine⟨D,?_⟩
  show Eg Tryz.prog Jh D8 w' S.m (ID S.x (AT X.t.cells k (some x'))) D
  rw[eM];exact hm
 ·have hj':AT X.t.cells k (some x') j=some y:=hj
  by_cases e:j=k
  ·subst e
   rw[Au]at hj';cases hj'
   exact⟨hc.1,hb,hc.2.2⟩
  ·rw[Ap _ _ _ e]at hj'
   have hz:=h.tx.cel j y hj'
   exact⟨hz.1,o.blk hz.2.1 (fun e2=>e (h.tx.xinj j k y x hj' hk e2)),hz.2.2⟩
 ·obtain⟨y',hy⟩:=up i y hi
  obtain⟨z',hz⟩:=up j z hj
  exact h.tx.xinj i j y' z' hy hz e
theorem CX.kind(h:CX B w P Q R A K S nx X):w.cell? ⟨S.c,0,none⟩=some (.int .i64 X.c.op.kind):=h.cl.blk.cell 0
end
theorem Pa{B N:Nat}{w:World}{P Q R:Nat→Prop}{A:EA}{Ke:EK}{S:SA}{nx:Value}{X:Cx}(h:CX B w P Q R A Ke S nx X)(hN:Ax N X)(hB9:N+1≤100000000)(hm:X.sh.p.made=false→X.sh.p.free=[])(l x:Int)(hl:BN X.sh.slots l){e a b t c:Nat}(he:An w P Q R e 39 #[bp A.e])(ha:An w P Q R a 31 #[.int .u64 (l)])(hb:An w P Q R b 31 #[.int .u64 (x)])(ht:An w P Q R t 96 #[bp S.t])(hc:An w P Q R c 101 #[bp S.c]):
 Calls Tryz.prog 199 #[bp e,bp a,bp b,bp t,bp c] w (Ak B w P Q R A Ke S nx (Ay X (.claim l x)).1 (Ay X (.claim l x)).2):=by
 have HC0:=Aa h
 have HN:=Aa hN
 have l0:=hl.1.1
 have i1:=hN.tx.id1
 have i2:=hN.tx.id2
 have hkl:=hN.tx.klen
 obtain⟨ok,hok⟩:=Aq (X.sh.a.casOk (Al l 1) x)
 obtain⟨X1,hX1⟩:=Aq (X.setA (X.sh.a.cas (Al l 1) x (BA X.t.id)))
 have HR:Hid (Ay X (.claim l x)=(if ok=true then(if X.c.op.kind=4 then(X1.take X.key ⟨0,l,false⟩,some (.ends .zero))else((Di (X1.take X.key ⟨0,l,false⟩) true 0 0).1,some (Di (X1.take X.key ⟨0,l,false⟩) true 0 0).2))else(X1,some (.own l)))):=Aa (by rw[←hX1,←hok];rfl)
 have hkey:(X.key:Int)=X.c.op.key:=by have:=hN.cl.key;unfold Cx.key;omega
 have hk64:=hN.key
 have HF:Hid (Ax (N+1) (X1.take X.key ⟨0,l,false⟩)):=Aa (by rw[←hX1];exact(hN.cas (Bv.slot hl (.inr rfl) (DR.mine (by omega)))).take (x:=⟨0,l,false⟩) (AM.zero _) hl.1 (fun e=>by cases e) X.key hk64)
 have HL:Hid (X1.t=X.t∧X1.c=X.c∧((X1.take X.key ⟨0,l,false⟩).sh.p.made=false→(X1.take X.key ⟨0,l,false⟩).sh.p.free=[])):=Aa (by rw[←hX1];exact⟨rfl,rfl,hm⟩)
 have hX1t:X1.t=X.t:=HL.out.1
 have hX1c:X1.c=X.c:=HL.out.2.1
 clear h hN hl hm
 go_enter Tryz.func199,Tryz.ntmps199
 go_upto_region 1 with(fail)
 have HC:=Aa HC0.out.drew
 have M:=Ag.only0 P Q ((Ac.refl w).drew)
 have fe:=he.move M
 have fa:=ha.move M
 have fb:=hb.move M
 have ft:=ht.move M
 have fc:=hc.move M
 have ce:=fe.c0
 have ca:=fa.c0
 have cb:=fb.c0
 have ct:=ft.c0
 have cc:=fc.c0
 have cA:=HC.out.ca
 have cN:=HC.out.cn
 first|have cI:=(show _=some (Value.int .i64 X.t.id) from HC.out.ti)|have cI:=(show _=some (Value.int .i64 X.t.id) from hX1t▸HC.out.ti)
 refine wp_region_held_drew (S:=(fun w'=>Ab w' e 0 (bp A.e)∧Ab w' a 0 (.int .u64 (l))∧Ab w' b 0 (.int .u64 (x))∧Ab w' t 0 (bp S.t)∧Ab w' A.e 2 (bp A.a)∧Ab w' S.t 0 (.int .i64 X.t.id))) (by kernel_rfl) ?_ (fun hHeld=>?_)
 ·exact⟨ce,ca,cb,ct,cA,cI⟩
 refine Af 0 (h:=Af 1 (h:=Af 2 (h:=Af 3 (h:=Af 4 (h:=Af 6 (h:=Af 7 (h:=Ar (i:=5) (h:=fun K hK=>?_))))))))
 go_simp
 (refine(Bb l 1 _ l0 (by omega) (by omega)).mono ?_;rintro e1 w1 ⟨rfl,rfl⟩)
 try go_wp2_with fail
 refine AK hK (by exact⟨ce,ca,cb,ct,cA,cI⟩) (h:=fun hHeld=>?_);clear hK K
 refine Ar (i:=8) (h:=fun K hK=>?_)
 try simp only[List.getElem_toArray,List.getElem_cons_zero,List.getElem_cons_succ]
 go_simp
 (refine(GY S.t X.t.id _ cI i1 (by omega)).mono ?_;rintro e1 w1 ⟨rfl,rfl⟩)
 try go_wp2_with fail
 refine AK hK (by exact⟨ce,ca,cb,ct,cA,cI⟩) (h:=fun hHeld=>?_);clear hK K
 refine Ar (i:=9) (h:=fun K hK=>?_)
 try simp only[List.getElem_toArray,List.getElem_cons_zero,List.getElem_cons_succ]
 go_simp
 (refine(Gr HC.out _ _ _).mono ?_;rw[hok,hX1];rintro e1 w1 ⟨rfl,h1,m1⟩;have HC:=Aa h1;have M:=M.trans m1;clear h1;have fe:=he.move M;have fa:=ha.move M;have fb:=hb.move M;have ft:=ht.move M;have fc:=hc.move M;have ce:=fe.c0;have ca:=fa.c0;have cb:=fb.c0;have ct:=ft.c0;have cc:=fc.c0;have cA:=HC.out.ca;have cN:=HC.out.cn;first|have cI:=(show _=some (Value.int .i64 X.t.id) from HC.out.ti)|have cI:=(show _=some (Value.int .i64 X.t.id) from hX1t▸HC.out.ti);skip)
 try go_wp2_with fail
 refine AK hK (by exact⟨ce,ca,cb,ct,cA,cI⟩) (h:=fun hHeld=>?_);clear hK K
 refine Af 10 (h:=?_)
 refine wpAnyH_done (by kernel_rfl) ?_ _
 skip
 cases ok with
 |false=>
  go_wp2_with fail
  refine(Pn HC.out l).mono ?_
  exact Tp
 |true=>
  go_upto_region 3 with(fail)
  have m9:=Ag.only0 P Q ((Ac.refl w1).drew)
  have M:=M.trans m9
  have HC:=Aa HC.out.drew
  clear m9
  have fe:=he.move M
  have fa:=ha.move M
  have fb:=hb.move M
  have ft:=ht.move M
  have fc:=hc.move M
  have ce:=fe.c0
  have ca:=fa.c0
  have cb:=fb.c0
  have ct:=ft.c0
  have cc:=fc.c0
  have cA:=HC.out.ca
  have cN:=HC.out.cn
  have cK:_=some (Value.int .i64 X.c.op.key):=hX1c▸HC.out.ck
  have CT:=LN HC.out (by rw[hX1t];omega) X.key hk64 l
  rw[hkey]at CT
  refine wp_region_held_drew (S:=(fun w'=>Ab w' t 0 (bp S.t)∧Ab w' c 0 (bp S.c)∧Ab w' a 0 (.int .u64 (l))∧Ab w' S.c 1 (.int .i64 X.c.op.key))) (by kernel_rfl) ?_ (fun hHeld=>?_)
  ·exact⟨ct,cc,ca,cK⟩
  refine Af 0 (h:=Af 1 (h:=Af 2 (h:=Af 3 (h:=Af 4 (h:=Af 5 (h:=Af 6 (h:=Ar (i:=7) (h:=fun K hK=>?_))))))))
  go_simp
  (refine CT.mono ?_;rintro e9 w9 ⟨Q9,S9,rfl,h9,m9,k9⟩;have HC9:=Aa h9;have M9:=M.trans m9;have K9:=Aa k9;have fe:=fe.move m9;have fa:=fa.move m9;have fb:=fb.move m9;have ft:=ft.move m9;have fc:=fc.move m9;have ce:=fe.c0;have ca:=fa.c0;have ct:=ft.c0;have cc:=fc.c0;have cK:=Ae w9 S.c 1 (.int .i64 X.c.op.key) ((by have q:=h9.ck;rw[k9.c]at q;rw[show(X1.take X.key ⟨0,l,false⟩).c=X.c from hX1c]at q;exact q));have cKd:=Ae w9 S.c 0 (.int .i64 X.c.op.kind) ((by have q:=h9.kind;rw[k9.c]at q;rw[show(X1.take X.key ⟨0,l,false⟩).c=X.c from hX1c]at q;exact q));clear h9 m9 k9 CT)
  try go_wp2_with fail
  refine AK hK (by exact⟨ct,cc,ca,cK⟩) (h:=fun hHeld=>?_);clear hK K
  refine Af 8 (h:=?_)
  refine wpAnyH_done (by kernel_rfl) ?_ _
  skip
  by_cases k4:X.c.op.kind=4
  ·have b4:(X.c.op.kind==4)=true:=by simpa using k4
   have K4:=Aa k4
   clear k4
   have CE:=Cg HC9.out 0 0 0 0
   rw[K9.out.c]at CE
   go_wp2_with fail
   refine(CE).mono ?_
   rintro e8 w8 r8
   obtain⟨v8,rfl⟩:=r8.ret
   have HS:=Aa (r8.comp M9 K9.out)
   clear r8
   go_wp2_with fail
   go_ret
   rw[HR.out,if_pos (by trivial),if_pos K4.out]
   exact HS.out
  ·have b4:(X.c.op.kind==4)=false:=by simpa using k4
   have K4:=Aa k4
   clear k4
   have hxk:(X1.take X.key ⟨0,l,false⟩).key=X.key:=by unfold Cx.key;rw[show(X1.take _ ⟨0,l,false⟩).c=X.c from hX1c]
   have CE:=Hn HC9.out HF.out hB9 HL.out.2.2 true 0 0 (AM.zero _) (xq:=some (DP (S9.x X.key))) (ha:=none) (hn:=0) (hc:=0) (by rw[hxk];rfl) (.inl ⟨rfl,rfl,rfl,rfl⟩)
   rw[K9.out.c,K9.out.t]at CE
   go_wp2_with fail
   refine(CE).mono ?_
   rintro e8 w8 r8
   obtain⟨v8,rfl⟩:=r8.ret
   have HS:=Aa (r8.comp M9 K9.out)
   clear r8
   go_wp2_with fail
   go_ret
   rw[HR.out,if_pos (by trivial),if_neg K4.out]
   exact HS.out
theorem Oc{B N:Nat}{w:World}{P Q R:Nat→Prop}{A:EA}{Ke:EK}{S:SA}{nx:Value}{X:Cx}(h:CX B w P Q R A Ke S nx X)(hN:Ax N X)(hB9:N+1≤100000000)(l hd:Int){e c b a t:Nat}(he:An w P Q R e 39 #[bp A.e])(hc:An w P Q R c 101 #[bp S.c])(hb:An w P Q R b 31 #[.int .u64 (hd)])(ha:An w P Q R a 31 #[.int .u64 (l)])(ht:An w P Q R t 96 #[bp S.t]):
 Calls Tryz.prog 221 #[bp e,bp c,bp b,bp a,bp t] w (Ak B w P Q R A Ke S nx (Ay X (.push2 l hd)).1 (Ay X (.push2 l hd)).2):=by
 have HC0:=Aa h
 have HN:=Aa hN
 have hkl:=hN.tx.klen
 have k1:=hN.cl.key.1
 have k2:=hN.cl.key.2
 obtain⟨ok,hok⟩:=Aq (X.sh.a.casOk (9+X.c.op.key) hd)
 obtain⟨X1,hX1⟩:=Aq (X.setA (X.sh.a.cas (9+X.c.op.key) hd l))
 have HR:Hid (Ay X (.push2 l hd)=(if ok=true then(X1.take X.key ⟨l,0,true⟩,some (.ends .zero))else(X1,some (.fresh l)))):=Aa (by rw[←hX1,←hok];rfl)
 have ew:IntKind.i64.wrap (9+X.c.op.key)=9+X.c.op.key:=by rw[IntKind.wrap_i64];omega
 have hkey:(X.key:Int)=X.c.op.key:=by unfold Cx.key;omega
 have hk64:=hN.key
 have hX1t:X1.t=X.t:=by rw[←hX1];rfl
 have hX1c:X1.c=X.c:=by rw[←hX1];rfl
 clear h hN
 go_enter Tryz.func221,Tryz.ntmps221
 go_upto_region 1 with(fail)
 have HC:=Aa HC0.out.drew
 have M:=Ag.only0 P Q ((Ac.refl w).drew)
 have fe:=he.move M
 have fc:=hc.move M
 have fb:=hb.move M
 have fa:=ha.move M
 have ft:=ht.move M
 have ce:=fe.c0
 have cc:=fc.c0
 have cb:=fb.c0
 have ca:=fa.c0
 have ct:=ft.c0
 have cA:=HC.out.ca
 have cN:=HC.out.cn
 first|have cK:=(show _=some (Value.int .i64 X.c.op.key) from HC.out.ck)|have cK:=(show _=some (Value.int .i64 X.c.op.key) from hX1c▸HC.out.ck)
 refine wp_region_held_drew (S:=(fun w'=>Ab w' e 0 (bp A.e)∧Ab w' c 0 (bp S.c)∧Ab w' b 0 (.int .u64 (hd))∧Ab w' a 0 (.int .u64 (l))∧Ab w' A.e 2 (bp A.a)∧Ab w' S.c 1 (.int .i64 X.c.op.key))) (by kernel_rfl) ?_ (fun hHeld=>?_)
 ·exact⟨ce,cc,cb,ca,cA,cK⟩
 refine Af 0 (h:=Af 1 (h:=Af 2 (h:=Af 3 (h:=Af 4 (h:=Af 5 (h:=Af 6 (h:=Af 7 (h:=Af 8 (h:=Af 9 (h:=Af 10 (h:=Af 11 (h:=Ar (i:=12) (h:=fun K hK=>?_)))))))))))))
 go_simp
 (refine(Gr HC.out _ _ _).mono ?_;rw[hok,hX1];rintro e1 w1 ⟨rfl,h1,m1⟩;have HC:=Aa h1;have M:=M.trans m1;clear h1;have fe:=he.move M;have fc:=hc.move M;have fb:=hb.move M;have fa:=ha.move M;have ft:=ht.move M;have ce:=fe.c0;have cc:=fc.c0;have cb:=fb.c0;have ca:=fa.c0;have ct:=ft.c0;have cA:=HC.out.ca;have cN:=HC.out.cn;first|have cK:=(show _=some (Value.int .i64 X.c.op.key) from HC.out.ck)|have cK:=(show _=some (Value.int .i64 X.c.op.key) from hX1c▸HC.out.ck);skip)
 try go_wp2_with fail
 refine AK hK (by exact⟨ce,cc,cb,ca,cA,cK⟩) (h:=fun hHeld=>?_);clear hK K
 refine Af 13 (h:=?_)
 refine wpAnyH_done (by kernel_rfl) ?_ _
 skip
 cases ok with
 |false=>
  go_wp2_with fail
  refine(Kj HC.out l).mono ?_
  exact Tp
 |true=>
  go_upto_region 3 with(fail)
  have m9:=Ag.only0 P Q ((Ac.refl w1).drew)
  have M:=M.trans m9
  have HC:=Aa HC.out.drew
  clear m9
  have fe:=he.move M
  have fc:=hc.move M
  have fb:=hb.move M
  have fa:=ha.move M
  have ft:=ht.move M
  have ce:=fe.c0
  have cc:=fc.c0
  have cb:=fb.c0
  have ca:=fa.c0
  have ct:=ft.c0
  have cA:=HC.out.ca
  have cN:=HC.out.cn
  have cK:_=some (Value.int .i64 X.c.op.key):=hX1c▸HC.out.ck
  have CT:=LN HC.out (by rw[hX1t];omega) X.key hk64 0
  rw[hkey]at CT
  refine wp_region_held_drew (S:=(fun w'=>Ab w' t 0 (bp S.t)∧Ab w' c 0 (bp S.c)∧Ab w' S.c 1 (.int .i64 X.c.op.key))) (by kernel_rfl) ?_ (fun hHeld=>?_)
  ·exact⟨ct,cc,cK⟩
  refine Af 0 (h:=Af 1 (h:=Af 2 (h:=Af 3 (h:=Af 4 (h:=Af 5 (h:=Ar (i:=6) (h:=fun K hK=>?_)))))))
  go_simp
  (refine CT.mono ?_;rintro e9 w9 ⟨Q9,S9,rfl,h9,m9,k9⟩;have HC9:=Aa h9;have M9:=M.trans m9;have K9:=Aa k9;have fe:=fe.move m9;have fa:=fa.move m9;have fc:=fc.move m9;have ft:=ft.move m9;have ce:=fe.c0;have ca:=fa.c0;have ct:=ft.c0;have cc:=fc.c0;have cK:=Ae w9 S.c 1 (.int .i64 X.c.op.key) ((by have q:=h9.ck;rw[k9.c]at q;rw[show(X1.take X.key ⟨0,0,false⟩).c=X.c from hX1c]at q;exact q));clear h9 m9 k9 CT)
  try go_wp2_with fail
  refine AK hK (by exact⟨ct,cc,cK⟩) (h:=fun hHeld=>?_);clear hK K
  refine Af 7 (h:=?_)
  refine wpAnyH_done (by kernel_rfl) ?_ _
  skip
  have hcx:(X1.take X.key ⟨0,0,false⟩).t.cells X.key=some ⟨0,0,false⟩:=Au _ _ _
  have bx:=(HC9.out.tx.cel _ _ hcx).2.1
  have x0:=Ae w9 (S9.x X.key) 0 (.int .u64 0) (bx.cell 0)
  have z0:=bx.free 0
  have b1:=bx.set 0 (.int .u64 l)
  have x2:=Ae (w9.setCell ⟨S9.x X.key,0,none⟩ (.int .u64 l)) (S9.x X.key) 2 (.bool false) (b1.cell 2)
  have z2:=b1.free 2
  have b2:=b1.set 2 (.bool true)
  have hd9:=HC9.out.celld hcx ⟨l,0,true⟩ ((Ah.set1 w9 (S9.x X.key) 0 _).trans (Ah.set1 _ (S9.x X.key) 2 _)) b2
  have eT:(X1.take X.key ⟨0,0,false⟩).setCell X.key ⟨l,0,true⟩=X1.take X.key ⟨l,0,true⟩:=by
   have e:AT (AT X1.t.cells X.key (some (⟨0,0,false⟩:Dh))) X.key (some ⟨l,0,true⟩)=AT X1.t.cells X.key (some ⟨l,0,true⟩):=by funext j;by_cases e:j=X.key<;>simp[AT,e]
   show Cx.setT _ _=Cx.setT _ _
   unfold Cx.setT Cx.take Cx.setT
   simp only[e]
  rw[eT]at hd9
  have HD:=Aa hd9
  have MD:=M9.trans hd9.2
  have fe:=fe.move hd9.2
  have fc:=fc.move hd9.2
  have ce9:=fe.c0
  have cc9:=fc.c0
  have CE:=Cg HD.out.1 0 0 0 0
  rw[K9.out.c]at CE
  clear bx b1 b2 hd9 hcx eT
  go_wp2_with fail
  refine CE.mono ?_
  rintro e8 w8 r8
  obtain⟨v8,rfl⟩:=r8.ret
  have HS:=Aa (r8.comp MD K9.out)
  exact Ul
end
section
attribute [local go_sem ↓] Go.wp_at_zero Go.wp_at_succ
section
variable {B N:Nat} {w w':World} {P Q R:Nat→Prop} {A:EA} {K:EK} {S:SA} {nx:Value} {X:Cx}
theorem CX.setV1n(h:CX B w P Q R A K S nx X){l:Int}{i:Nat}(hi:(A5 l).toNat=i)(hin:i<X.sh.vals.length)(n:Int):
 CX B (w.setCell ⟨A.v,i*2+1,none⟩ (.int .i64 n)) P Q R A K S nx (X.setVal l ((X.sh.vals.getD i (0,0)).1,n))∧Ag w (w.setCell ⟨A.v,i*2+1,none⟩ (.int .i64 n)) P Q P Q:=by
 have o:Ah (fun b=>b=A.v) w (w.setCell ⟨A.v,i*2+1,none⟩ (.int .i64 n)):=Ah.set1 _ A.v (i*2+1) _
 have t:Aw [148] w _:=Aw.of o h.sh.vals
 have B2:=h.sh.vals.set (i*2+1) (.int .i64 n)
 generalize w.setCell ⟨A.v,i*2+1,none⟩ (.int .i64 n)=w2 at *
 have m:Ag w w2 P Q P Q:=h.small o (fun b hb=> .inl (by rw[hb];exact h.sh.pv))
 have el:(X.sh.vals.set i ((X.sh.vals.getD i (0,0)).1,n)).length=X.sh.vals.length:=List.length_set ..
 have ev:(X.setVal l ((X.sh.vals.getD i (0,0)).1,n)).sh.vals=X.sh.vals.set i ((X.sh.vals.getD i (0,0)).1,n):=by show X.sh.vals.set (A5 l).toNat _=_;rw[hi]
 refine⟨⟨⟨?_,h.sh.ar.ty t (by decide) (by decide),h.sh.pool.ty t (by decide) (by decide) (by decide),?_,AO h.sh.tale t (by decide),h.sh.pe,h.sh.pa,h.sh.pp,h.sh.pf,h.sh.pv,h.sh.pt⟩,h.tx.ty t (by decide) (by decide) (by decide) (by decide),h.cl.ty t (by decide) (by decide),h.ap,h.uP.mono o.size,h.uQ.mono o.size,h.aP,h.aQ,h.uR.mono o.size,fun j hj=>(h.prs j hj).move m⟩,m⟩
 ·exact Tf
 ·rw[ev]
  have e2:(DQ X.sh.vals).set (i*2+1) (.int .i64 n)=DQ (X.sh.vals.set i ((X.sh.vals.getD i (0,0)).1,n)):=by
   unfold DQ
   rw[List.length_set]
   exact Eh (w:=2) (c:=fun i=>[Value.int .i64 (X.sh.vals.getD i (0,0)).1,.int .i64 (X.sh.vals.getD i (0,0)).2]) (c':=fun j=>[Value.int .i64 ((X.sh.vals.set i ((X.sh.vals.getD i (0,0)).1,n)).getD j (0,0)).1,.int .i64 ((X.sh.vals.set i ((X.sh.vals.getD i (0,0)).1,n)).getD j (0,0)).2]) (n:=X.sh.vals.length) (i:=i) (f:=1) (fun i=>rfl) hin (by decide) (fun j hj e=>by simp only[B_ X.sh.vals i j _ _ e]) (by simp only[Bm X.sh.vals i _ _ hin];rfl) (fun i=>rfl)
  rw[←e2]
  simpa using B2
end
theorem Ov{B:Nat}{w:World}{P Q R:Nat→Prop}{A:EA}{Ke:EK}{S:SA}{nx:Value}{X:Cx}(h:CX B w P Q R A Ke S nx X){l:Int}{i:Nat}(hi:(A5 l).toNat=i)(l0:0≤l)(i2:(i:Int)=A5 l)(i1:i<X.sh.vals.length):
 Calls Tryz.prog 49 #[bp A.e,.int .u64 l] w fun e w'=>e= .returned (.pointer (some ⟨A.v,i*2,none⟩))∧w=w':=by
 have C:=DL l w l0
 have e4:=Ae w A.e 4 (.slice (some (DP A.v)) X.sh.vals.length X.sh.vals.length) (h.sh.eng.cell 4)
 rw[←i2]at C
 clear h i2 hi
 go_enter Tryz.func49,Tryz.ntmps49
 go_wp2_with fail
 refine C.mono ?_
 rintro e w1 ⟨⟨t,m,rfl⟩,rfl⟩
 clear C
 go_wp2_with fail
 go_ret
 exact⟨rfl,rfl⟩
theorem NE{B N:Nat}{w:World}{P Q R:Nat→Prop}{A:EA}{Ke:EK}{S:SA}{nx:Value}{X:Cx}(h:CX B w P Q R A Ke S nx X)(hN:Ax N X)(l hd:Int){y:Dh}(hy9:X.t.cells X.key=some y){e c b a t x:Nat}(he:An w P Q R e 39 #[bp A.e])(hc:An w P Q R c 101 #[bp S.c])(hb:An w P Q R b 31 #[.int .u64 (hd)])(ha:An w P Q R a 31 #[.int .u64 (l)])(ht:An w P Q R t 96 #[bp S.t])(hx:bX w P Q R S x (some X.key)):
 Calls Tryz.prog 224 #[bp e,bp c,bp b,bp a,bp t,bp x] w (Ak B w P Q R A Ke S nx (Ay X (.over3 l hd)).1 (Ay X (.over3 l hd)).2):=by
 have HC0:=Aa h
 have HN:=Aa hN
 have k1:=hN.cl.key.1
 have k2:=hN.cl.key.2
 obtain⟨ok,hok⟩:=Aq (X.sh.a.casOk (9+X.c.op.key) hd)
 obtain⟨X1,hX1⟩:=Aq (X.setA (X.sh.a.cas (9+X.c.op.key) hd l))
 have HR:Hid (Ay X (.over3 l hd)=(if ok=true then(X1.setCell X.key ⟨l,y.old,true⟩,some (.ends .zero))else(X1,some (.over1 l)))):=Aa (by simp only[Ay,hy9];rw[←hX1,←hok])
 have ew:IntKind.i64.wrap (9+X.c.op.key)=9+X.c.op.key:=by rw[IntKind.wrap_i64];omega
 have hX1t:X1.t=X.t:=by rw[←hX1];rfl
 have hX1c:X1.c=X.c:=by rw[←hX1];rfl
 have hxk:X1.key=X.key:=by unfold Cx.key;rw[hX1c]
 have hcx:X1.t.cells X.key=some y:=by rw[hX1t];exact hy9
 have hx2:An w P Q R x 248 #[.pointer (some (DP (S.x X.key)))]:=hx
 clear h hN hy9 hx
 go_enter Tryz.func224,Tryz.ntmps224
 go_upto_region 1 with(fail)
 have HC:=Aa HC0.out.drew
 have M:=Ag.only0 P Q ((Ac.refl w).drew)
 have fe:=he.move M
 have fc:=hc.move M
 have fb:=hb.move M
 have fa:=ha.move M
 have ft:=ht.move M
 have ce:=fe.c0
 have cc:=fc.c0
 have cb:=fb.c0
 have ca:=fa.c0
 have ct:=ft.c0
 have cA:=HC.out.ca
 have cN:=HC.out.cn
 first|have cK:=(show _=some (Value.int .i64 X.c.op.key) from HC.out.ck)|have cK:=(show _=some (Value.int .i64 X.c.op.key) from hX1c▸HC.out.ck)
 have fx:=hx2.move M
 have cx:=fx.c0
 refine wp_region_held_drew (S:=(fun w'=>Ab w' e 0 (bp A.e)∧Ab w' c 0 (bp S.c)∧Ab w' b 0 (.int .u64 (hd))∧Ab w' a 0 (.int .u64 (l))∧Ab w' A.e 2 (bp A.a)∧Ab w' S.c 1 (.int .i64 X.c.op.key))) (by kernel_rfl) ?_ (fun hHeld=>?_)
 ·exact⟨ce,cc,cb,ca,cA,cK⟩
 refine Af 0 (h:=Af 1 (h:=Af 2 (h:=Af 3 (h:=Af 4 (h:=Af 5 (h:=Af 6 (h:=Af 7 (h:=Af 8 (h:=Af 9 (h:=Af 10 (h:=Af 11 (h:=Ar (i:=12) (h:=fun K hK=>?_)))))))))))))
 go_simp
 (refine(Gr HC.out _ _ _).mono ?_;rw[hok,hX1];rintro e1 w1 ⟨rfl,h1,m1⟩;have HC:=Aa h1;have M:=M.trans m1;clear h1;have fe:=he.move M;have fc:=hc.move M;have fb:=hb.move M;have fa:=ha.move M;have ft:=ht.move M;have ce:=fe.c0;have cc:=fc.c0;have cb:=fb.c0;have ca:=fa.c0;have ct:=ft.c0;have cA:=HC.out.ca;have cN:=HC.out.cn;first|have cK:=(show _=some (Value.int .i64 X.c.op.key) from HC.out.ck)|have cK:=(show _=some (Value.int .i64 X.c.op.key) from hX1c▸HC.out.ck);have fx:=hx2.move M;have cx:=fx.c0;skip)
 try go_wp2_with fail
 refine AK hK (by exact⟨ce,cc,cb,ca,cA,cK⟩) (h:=fun hHeld=>?_);clear hK K
 refine Af 13 (h:=?_)
 refine wpAnyH_done (by kernel_rfl) ?_ _
 skip
 cases ok with
 |false=>
  have CO:=LO HC.out l
  rw[hxk]at CO
  go_wp2_with fail
  refine(CO).mono ?_
  exact Tp
 |true=>
  have bx:=(HC.out.tx.cel _ _ hcx).2.1
  have qx:=(HC.out.tx.cel _ _ hcx).2.2
  have x0:=Ae w1.drew (S.x X.key) 0 (.int .u64 y.own) (bx.cell 0)
  have z0:w1.drew.frozen? ⟨S.x X.key,0,none⟩=false:=bx.free 0
  have b1:=bx.set 0 (.int .u64 l)
  have x2:=Ae (w1.setCell ⟨S.x X.key,0,none⟩ (.int .u64 l)).drew (S.x X.key) 2 (.bool y.there) (b1.cell 2)
  have z2:(w1.setCell ⟨S.x X.key,0,none⟩ (.int .u64 l)).drew.frozen? ⟨S.x X.key,2,none⟩=false:=b1.free 2
  have b2:=b1.set 2 (.bool true)
  have o1:=Ah.set1 w1 (S.x X.key) 0 (.int .u64 l)
  have o2:=o1.trans (Ah.set1 _ (S.x X.key) 2 (.bool true))
  have n0:=Ag.only0 P Q ((Ac.refl w1).drew)
  have n1:=(HC.out.small o1 (fun b hb=> .inr (by rw[hb];exact qx))).trans (Ag.only0 P Q ((Ac.refl _).drew))
  have n2:=(HC.out.small o2 (fun b hb=> .inr (by rw[hb];exact qx))).trans (Ag.only0 P Q ((Ac.refl _).drew))
  have cx0_:=(fx.move n0).c0
  have ca0_:=(fa.move n0).c0
  have cx1_:=(fx.move n1).c0
  have ca1_:=(fa.move n1).c0
  have cx2_:=(fx.move n2).c0
  have ca2_:=(fa.move n2).c0
  have hd9:=HC.out.celld hcx ⟨l,y.old,true⟩ o2 b2
  have HD:=Aa hd9.1.drew
  have MD:=(M.trans hd9.2).trans (Ag.only0 P Q ((Ac.refl _).drew))
  have fe:=fe.move n2
  have fc:=fc.move n2
  have ce9:=fe.c0
  have cc9:=fc.c0
  have CE:=Cg HD.out 0 0 0 0
  clear bx qx b1 b2 o1 o2 n0 n1 n2 hd9 hcx
  go_upto_region 3 with(fail)
  refine wp_region_held_drew (S:=(fun w'=>Ab w' x 0 (.pointer (some (DP (S.x X.key))))∧Ab w' a 0 (.int .u64 l))) (by kernel_rfl) ?_ (fun hHeld=>?_)
  ·first|exact⟨cx0_,ca0_⟩|exact⟨cx1_,ca1_⟩|exact⟨cx2_,ca2_⟩
  refine Af 0 (h:=Af 1 (h:=Af 2 (h:=Af 3 (h:=Af 4 (h:=Ar (i:=5) (h:=fun K hK=>?_))))))
  go_simp
  skip
  try go_wp2_with fail
  refine AK hK (by first|exact⟨cx0_,ca0_⟩|exact⟨cx1_,ca1_⟩|exact⟨cx2_,ca2_⟩) (h:=fun hHeld=>?_);clear hK K
  refine Af 6 (h:=Af 7 (h:=Ar (i:=8) (h:=fun K hK=>?_)))
  go_simp
  skip
  try go_wp2_with fail
  refine AK hK (by first|exact⟨cx0_,ca0_⟩|exact⟨cx1_,ca1_⟩|exact⟨cx2_,ca2_⟩) (h:=fun hHeld=>?_);clear hK K
  refine wpAnyH_done (by kernel_rfl) ?_ _
  skip
  go_wp2_with fail
  refine CE.mono ?_
  rintro e8 w8 r8
  obtain⟨v8,rfl⟩:=r8.ret
  have HS:=Aa (r8.comp MD (At.refl A S))
  exact Ul
theorem Ot{B N:Nat}{w:World}{P Q R:Nat→Prop}{A:EA}{Ke:EK}{S:SA}{nx:Value}{X:Cx}(h:CX B w P Q R A Ke S nx X)(hN:Ax N X)(z:Int){y:Dh}(hy9:X.t.cells X.key=some y)(hy0:y.own≠0){e x a c:Nat}(he:An w P Q R e 39 #[bp A.e])(ha:An w P Q R a 31 #[.int .u64 (z)])(hc:An w P Q R c 101 #[bp S.c])(hx:bX w P Q R S x (some X.key)):
 Calls Tryz.prog 171 #[bp e,bp x,bp a,bp c] w (Ak B w P Q R A Ke S nx (Ay X (.again z)).1 (Ay X (.again z)).2):=by
 have HC0:=Aa h
 have HN:=Aa hN
 have hcl:=hN.tx.cell _ _ hy9
 have l0:=hcl.2.1.1
 obtain⟨X1,hX1⟩:=Aq (X.setA (X.sh.a.store (Al y.own 1) z))
 have HR:Hid (Ay X (.again z)=(if X.c.op.kind≠4 then(X1.setCell X.key {y with there:=decide (X.c.op.kind≠4)}).setVal y.own ((X.val y.own).1,X.c.op.value)else X1.setCell X.key {y with there:=decide (X.c.op.kind≠4)},some (.ends .zero))):=Aa (by simp only[Ay,hy9];rw[←hX1])
 have hX1t:X1.t=X.t:=by rw[←hX1];rfl
 have hX1c:X1.c=X.c:=by rw[←hX1];rfl
 have hxk:X1.key=X.key:=by unfold Cx.key;rw[hX1c]
 have hcx:X1.t.cells X.key=some y:=by rw[hX1t];exact hy9
 have hX1v:X1.sh.vals=X.sh.vals:=by rw[←hX1];rfl
 have HF:=Aa hN
 obtain⟨i1,i2⟩:=hN.ix hcl.2.1 hy0
 obtain⟨iv,hiv⟩:=Aq ((A5 y.own).toNat)
 rw[hiv]at i1 i2
 have hx2:An w P Q R x 248 #[.pointer (some (DP (S.x X.key)))]:=hx
 have HCL:=Aa hcl.2.1
 have HF1:Hid (Ax N (X1.setCell X.key {y with there:=decide (X.c.op.kind≠4)})∨True):=Aa (.inr trivial)
 clear h hN hx hcl
 go_enter Tryz.func171,Tryz.ntmps171
 go_upto_region 1 with(fail)
 have HC:=Aa HC0.out.drew
 have M:=Ag.only0 P Q ((Ac.refl w).drew)
 have fe:=he.move M
 have fa:=ha.move M
 have fc:=hc.move M
 have ce:=fe.c0
 have ca:=fa.c0
 have cc:=fc.c0
 have cA:=HC.out.ca
 have cN:=HC.out.cn
 have fx:=hx2.move M
 have cx:=fx.c0
 first|have cO:=(HC.out.celc hcx).1|have cO:=(HC.out.celc hy9).1
 refine wp_region_held_drew (S:=(fun w'=>Ab w' e 0 (bp A.e)∧Ab w' a 0 (.int .u64 (z))∧Ab w' x 0 (.pointer (some (DP (S.x X.key))))∧Ab w' A.e 2 (bp A.a)∧Ab w' (S.x X.key) 0 (.int .u64 y.own))) (by kernel_rfl) ?_ (fun hHeld=>?_)
 ·exact⟨ce,ca,cx,cA,cO⟩
 refine Af 0 (h:=Af 1 (h:=Af 2 (h:=Af 3 (h:=Af 4 (h:=Af 5 (h:=Af 6 (h:=Af 7 (h:=Af 9 (h:=Ar (i:=8) (h:=fun K hK=>?_))))))))))
 go_simp
 (refine(Bb y.own 1 _ l0 (by omega) (by omega)).mono ?_;rintro e1 w1 ⟨rfl,rfl⟩)
 try go_wp2_with fail
 refine AK hK (by exact⟨ce,ca,cx,cA,cO⟩) (h:=fun hHeld=>?_);clear hK K
 refine Ar (i:=10) (h:=fun K hK=>?_)
 try simp only[List.getElem_toArray,List.getElem_cons_zero,List.getElem_cons_succ]
 go_simp
 (refine(CY HC.out _ _).mono ?_;rw[hX1];rintro e1 w1 ⟨rfl,h1,m1⟩;have HC:=Aa h1;have M:=M.trans m1;clear h1;have fe:=he.move M;have fa:=ha.move M;have fc:=hc.move M;have ce:=fe.c0;have ca:=fa.c0;have cc:=fc.c0;have cA:=HC.out.ca;have cN:=HC.out.cn;have fx:=hx2.move M;have cx:=fx.c0;first|have cO:=(HC.out.celc hcx).1|have cO:=(HC.out.celc hy9).1;skip)
 try go_wp2_with fail
 refine AK hK (by exact⟨ce,ca,cx,cA,cO⟩) (h:=fun hHeld=>?_);clear hK K
 refine wpAnyH_done (by kernel_rfl) ?_ _
 skip
 clear hy9
 have bx:=(HC.out.tx.cel _ _ hcx).2.1
 have qx:=(HC.out.tx.cel _ _ hcx).2.2
 obtain⟨kd,hkd⟩:=Aq ((X.c.op.kind != 4))
 have hkd2:decide (X.c.op.kind≠4)=kd:=by rw[←hkd];by_cases q:X.c.op.kind=4<;>simp[q]
 have x2:=Ae w1.drew (S.x X.key) 2 (.bool y.there) (bx.cell 2)
 have z2:w1.drew.frozen? ⟨S.x X.key,2,none⟩=false:=bx.free 2
 have b1:=bx.set 2 (.bool kd)
 have cKd:=Ae w1.drew S.c 0 (.int .i64 X.c.op.kind) (by have q:=HC.out.drew.kind;rw[hX1c]at q;exact q)
 have n0:=Ag.only0 P Q ((Ac.refl w1).drew)
 have cx0_:=(fx.move n0).c0
 have cc0_:=(fc.move n0).c0
 have o1:=Ah.set1 w1 (S.x X.key) 2 (.bool kd)
 have hd9:=HC.out.celld hcx {y with there:=kd} o1 b1
 have HD:=Aa hd9.1.drew
 have n1:=hd9.2.trans (Ag.only0 P Q ((Ac.refl _).drew))
 have MD:=M.trans n1
 have ge:=fe.move n1
 have de:=ge.c0
 have ga:=fa.move n1
 have da:=ga.c0
 have gc:=fc.move n1
 have dc:=gc.c0
 have gx:=fx.move n1
 have dx:=gx.c0
 have hcy:(X1.setCell X.key {y with there:=kd}).t.cells X.key=some {y with there:=kd}:=Au _ _ _
 obtain⟨y0_,y1_,y2_⟩:=HD.out.celc hcy
 obtain⟨y0_,y1_,y2_⟩:=HD.out.celc hcy
 have HO1:=Aa o1
 clear b1 bx qx hd9 o1
 go_upto_region 2 with(fail)
 refine wp_region_held_drew (S:=(fun w'=>Ab w' x 0 (.pointer (some (DP (S.x X.key))))∧Ab w' c 0 (bp S.c)∧Ab w' S.c 0 (.int .i64 X.c.op.kind))) (by kernel_rfl) ?_ (fun hHeld=>?_)
 ·first|exact⟨cx0_,cc0_,cKd⟩|exact⟨dx,dc,cKd9⟩
 refine Af 0 (h:=Af 1 (h:=Af 2 (h:=Af 3 (h:=Af 4 (h:=Af 5 (h:=Af 6 (h:=Af 7 (h:=Af 8 (h:=Ar (i:=9) (h:=fun K hK=>?_))))))))))
 go_simp
 (have cKd9:=HD.out.kind;rw[show(X1.setCell X.key {y with there:=kd}).c=X.c from hX1c]at cKd9;try rw[hkd])
 try go_wp2_with fail
 refine AK hK (by first|exact⟨cx0_,cc0_,cKd⟩|exact⟨dx,dc,cKd9⟩) (h:=fun hHeld=>?_);clear hK K
 refine wpAnyH_done (by kernel_rfl) ?_ _
 skip
 cases kd with
 |false=>
  have hk4:X.c.op.kind=4:=by simpa using hkd2
  have HK4:=Aa hk4
  have CE:=Cg HD.out 0 0 0 0
  have HRR:Hid (Ay X (.again z)=(X1.setCell X.key {y with there:=false},some (.ends .zero))):=Aa (by rw[HR.out,if_neg (by rw[hk4];simp),hkd2])
  clear hkd hkd2 hk4
  go_wp2_with fail
  refine CE.mono ?_
  rintro e8 w8 r8
  obtain⟨v8,rfl⟩:=r8.ret
  have HS:=Aa (r8.comp MD (At.refl A S))
  clear r8
  go_wp2_with fail
  go_ret
  rw[HRR.out]
  exact HS.out
 |true=>
  have hk4:X.c.op.kind≠4:=by simpa using hkd2
  have HRR:Hid (Ay X (.again z)=((X1.setCell X.key {y with there:=true}).setVal y.own ((X.val y.own).1,X.c.op.value),some (.ends .zero))):=Aa (by rw[HR.out,if_pos hk4,hkd2])
  clear hkd hkd2 hk4
  obtain⟨V,hV⟩:=Ad ((w1.setCell ⟨S.x X.key,2,none⟩ (.bool true)).drew)
  rw[←hV]at HD MD ge ga gc gx de da dc dx y0_ y1_ y2_
  have n0:=Ag.only0 P Q ((Ac.refl V).drew)
  have HZ:=Aa HD.out.drew
  have pe:=(ge.move n0).c0
  have px:=(gx.move n0).c0
  have pc:=(gc.move n0).c0
  have iv2:iv<(X1.setCell X.key {y with there:=true}).sh.vals.length:=by show iv<X1.sh.vals.length;rw[hX1v];exact i1
  have v1:=HZ.out.val1 iv2
  have w0_:=HZ.out.sh.vals.free (iv*2+1)
  have pO:=(HZ.out.celc hcy).1
  have pV:=Ae V.drew S.c 3 (.int .i64 X.c.op.value) (by have q:_=some (Value.int .i64 (X1.setCell X.key {y with there:=true}).c.op.value):=HZ.out.cl.blk.cell 3;rw[show(X1.setCell X.key {y with there:=true}).c=X.c from hX1c]at q;exact q)
  have DT:=Ov HZ.out hiv l0 i2 iv2
  have HV:=Aa (HD.out.setV1n hiv iv2 X.c.op.value)
  have hval:((X1.setCell X.key {y with there:=true}).sh.vals.getD iv (0,0)).1=(X.val y.own).1:=by show(X1.sh.vals.getD iv (0,0)).1=(X.sh.vals.getD (A5 y.own).toNat (0,0)).1;rw[hX1v,hiv]
  rw[hval]at HV
  have n1:=HV.out.2.trans (Ag.only0 P Q ((Ac.refl _).drew))
  have HE:=Aa HV.out.1.drew
  have ME:=MD.trans n1
  have re:=(ge.move n1).c0
  have rx:=(gx.move n1).c0
  have rc:=(gc.move n1).c0
  have rO:=(HE.out.celc (x:={y with there:=true}) (k:=X.key) hcy).1
  have rO:=(HE.out.celc (x:={y with there:=true}) (k:=X.key) hcy).1
  have rV:=HE.out.cl.blk.cell 3
  have eV:(BW S ((X1.setCell X.key {y with there:=true}).setVal y.own ((X.val y.own).1,X.c.op.value)).c nx)[3]? =some (Value.int .i64 X.c.op.value):=by rw[show((X1.setCell X.key {y with there:=true}).setVal y.own ((X.val y.own).1,X.c.op.value)).c=X.c from hX1c];rfl
  rw[eV]at rV
  have CE:=Cg HE.out 0 0 0 0
  clear n0 n1 eV
  go_upto_region 4 with(fail)
  rw[←hV]
  clear hV
  refine wp_region_held_drew (S:=(fun w'=>Ab w' e 0 (bp A.e)∧Ab w' x 0 (.pointer (some (DP (S.x X.key))))∧Ab w' c 0 (bp S.c)∧Ab w' (S.x X.key) 0 (.int .u64 y.own)∧Ab w' S.c 3 (.int .i64 X.c.op.value))) (by kernel_rfl) ?_ (fun hHeld=>?_)
  ·first|exact⟨pe,px,pc,pO,pV⟩|exact⟨re,rx,rc,rO,rV⟩
  refine Af 0 (h:=Af 1 (h:=Af 2 (h:=Af 3 (h:=Af 4 (h:=Af 6 (h:=Af 7 (h:=Af 8 (h:=Af 9 (h:=Af 10 (h:=Ar (i:=5) (h:=fun K hK=>?_)))))))))))
  go_simp
  (refine DT.mono ?_;rintro e1 w2 ⟨rfl,rfl⟩)
  try go_wp2_with fail
  refine AK hK (by first|exact⟨pe,px,pc,pO,pV⟩|exact⟨re,rx,rc,rO,rV⟩) (h:=fun hHeld=>?_);clear hK K
  refine Af 11 (h:=Af 12 (h:=Ar (i:=13) (h:=fun K hK=>?_)))
  go_simp
  skip
  try go_wp2_with fail
  refine AK hK (by first|exact⟨pe,px,pc,pO,pV⟩|exact⟨re,rx,rc,rO,rV⟩) (h:=fun hHeld=>?_);clear hK K
  refine wpAnyH_done (by kernel_rfl) ?_ _
  skip
  go_wp2_with fail
  refine CE.mono ?_
  rintro e8 w8 r8
  obtain⟨v8,rfl⟩:=r8.ret
  have HS:=Aa (r8.comp ME (At.refl A S))
  clear r8
  go_wp2_with fail
  go_ret
  rw[HRR.out]
  exact HS.out
end
section
attribute [local go_sem ↓] Go.wp_at_zero Go.wp_at_succ
def Mr(X:Cx):Cx×Da:=match X.t.cells X.key with
 |some x=>(X,if x.there then .ends ⟨0,(X.val x.own).2,[],0,0⟩else .ends (.err 11))
 |none=>(X,.start ⟨X.key,X.t.beg,.get⟩)
def FZ(X:Cx):Cx×Da:=match X.t.cells X.key with
 |some x=>Cu X x
 |none=>(X,.start ⟨X.key,X.t.beg,.change⟩)
theorem Mi(X:Cx):Cb X=(if X.c.op.kind=1 then Mr X else if X.c.op.kind=5 then E8 X X.key else if X.c.op.kind=6 then(X,.draw)else if X.c.op.kind=7 then(X,.abort 0 1)else FZ X):=rfl
theorem M7{B N:Nat}{w:World}{P Q R:Nat→Prop}{A:EA}{Ke:EK}{S:SA}{nx:Value}{X:Cx}(h:CX B w P Q R A Ke S nx X)(hN:Ax N X)(hB9:N+70≤100000000)(hm:X.sh.p.made=false→X.sh.p.free=[]){y:Dh}(hy:X.t.cells X.key=some y):
 Calls Tryz.prog 144 #[bp A.e,bp S.t,bp S.c,.pointer (some (DP (S.x X.key)))] w (Ak B w P Q R A Ke S nx (Cu X y).1 (some (Cu X y).2)):=by
 have HR:Hid (Cu X y=(if y.there∧X.c.op.kind=2 then(X,.ends (.err 12))else if ¬y.there∧X.c.op.kind≠2 then(X,.ends (.err 11))else if y.own=0 then Di X true 0 0 else(X,.again (if X.c.op.kind=4 then BA X.t.id else Bj)))):=Aa rfl
 have i1:=hN.tx.id1
 have i2:=hN.tx.id2
 have ge:=An.new' (h) (w.heap.size) (by simp) 39 #[bp A.e]
 have C0:=(h).alloc (.cells #[bp A.e] 39)
 have gc:=An.new' (C0) (w.heap.size+1) (by simp) 101 #[bp S.c]
 have C1:=(C0).alloc (.cells #[bp S.c] 101)
 have gx:=An.new' (C1) (w.heap.size+1+1) (by simp) 248 #[.pointer (some (DP (S.x X.key)))]
 have C2:=(C1).alloc (.cells #[.pointer (some (DP (S.x X.key)))] 248)
 have ge:=ge.alloc (.cells #[bp S.c] 101)
 have ge:=ge.alloc (.cells #[.pointer (some (DP (S.x X.key)))] 248)
 have gc:=gc.alloc (.cells #[.pointer (some (DP (S.x X.key)))] 248)
 have MW:Ag w (((w.alloc (.cells #[bp A.e] 39)).alloc (.cells #[bp S.c] 101)).alloc (.cells #[.pointer (some (DP (S.x X.key)))] 248)) P Q P Q:=Ag.only0 P Q ((((Ac.refl w).alloc _).alloc _).alloc _)
 obtain⟨W,hW⟩:=Ad (((w.alloc (.cells #[bp A.e] 39)).alloc (.cells #[bp S.c] 101)).alloc (.cells #[.pointer (some (DP (S.x X.key)))] 248))
 rw[←hW]at MW C2 ge gc gx
 have HCW:=Aa C2
 clear C0 C1 C2
 obtain⟨be,hbe⟩:=Ad w.heap.size
 obtain⟨bc,hbc⟩:=Ad (w.heap.size+1)
 obtain⟨bx,hbx⟩:=Ad (w.heap.size+1+1)
 rw[←hbe]at ge
 rw[←hbc]at gc
 rw[←hbx]at gx
 have HBe:=Aa hbe
 have HBc:=Aa hbc
 have HBx:=Aa hbx
 clear hbe hbc hbx
 have ce:=Ae W be 0 (bp A.e) ge.c0
 have cc:=Ae W bc 0 (bp S.c) gc.c0
 have cx:=Ae W bx 0 (.pointer (some (DP (S.x X.key)))) gx.c0
 obtain⟨y0,y1,y2⟩:=HCW.out.celc hy
 have cK:=HCW.out.kind
 have cI:=HCW.out.ti
 have CS:=Hn HCW.out hN (by omega) hm true 0 0 (AM.zero _) (xq:=some (DP (S.x X.key))) (ha:=none) (hn:=0) (hc:=0) rfl (.inl ⟨rfl,rfl,rfl,rfl⟩)
 clear h hN hm hy
 obtain⟨own,old,th⟩:=y
 dsimp only at y0 y1 y2 HR
 generalize X.c.op.kind=kd at *
 cases th with
 |true=>
  by_cases h2:kd=2
  ·subst h2
   have HRR:Hid (Cu X ⟨own,old,true⟩=(X,.ends (.err 12))):=Aa (by rw[HR.out];simp)
   have CE:=Cg HCW.out 12 0 0 0
   exact S0
  ·have b2:(kd==2)=false:=by simpa using h2
   have b22:(kd != 2)=true:=by simpa using h2
   by_cases h0:own=0
   ·subst h0
    have HRR:Hid (Cu X ⟨0,old,true⟩=Di X true 0 0):=Aa (by rw[HR.out];simp[h2])
    exact TD
   ·have b0:(own==0)=false:=by simpa using h0
    by_cases k4:kd=4
    ·skip
     have HRR:Hid (Cu X ⟨own,old,true⟩=(X,.again (BA X.t.id))):=Aa (by rw[HR.out];simp[h0,k4])
     clear HR h0
     have gz:=An.new' HCW.out W.heap.size rfl 31 #[.int .u64 (BA X.t.id)]
     have oG:=(Ac.refl W).alloc (.cells #[.int .u64 (BA X.t.id)] 31)
     have mG:=Ag.only0 P Q oG
     have HS:Hid (Ak B w P Q R A Ke S nx X (some (.again (BA X.t.id))) (.returned (.func (.func 171) #[] #[bp be,bp bx,bp W.heap.size,bp bc])) _):=Aa ⟨P,Q,A,S,_,rfl,HCW.out.only0 oG,⟨be,bx,W.heap.size,bc,rfl,ge.move mG,gx.move mG,gz,gc.move mG⟩,MW.trans mG,At.refl A S⟩
     clear CS mG oG gz
     subst k4
     have CM:=fun wz hc=>GY S.t X.t.id wz hc i1 (by omega)
     have q0:=Ae (W.alloc (.cells #[.int .u64 Bj] 31)) W.heap.size 0 (.int .u64 Bj) ((An.new' HCW.out W.heap.size rfl 31 #[.int .u64 Bj]).c0)
     have z0:=(An.new' HCW.out W.heap.size rfl 31 #[.int .u64 Bj]).zf 0
     have HA:=Aa (HCW.out.alloc (.cells #[.int .u64 Bj] 31))
     have cI2:=HA.out.ti
     skip
     have gca:=Ae (W.alloc (.cells #[.int .u64 Bj] 31)) bc 0 (bp S.c) ((gc.alloc _).c0)
     have cK2:=Ae (W.alloc (.cells #[.int .u64 Bj] 31)) S.c 0 (.int .i64 4) ((World.cell?_alloc_some _ _ _ (by rw[cK];rfl)).trans cK)
     go_enter Tryz.func144,Tryz.ntmps144
     go_upto_region 1 with(fail)
     rw[←hW,←HBx.out,←HBc.out,←HBe.out]
     clear hW
     go_wp2_with fail
     refine(Dw _).mono ?_
     rintro e1 w1 ⟨rfl,rfl⟩
     go_wp2_with fail
     refine(CM _ cI2).mono ?_
     rintro e1 w1 ⟨rfl,rfl⟩
     go_wp2_with fail
     go_ret
     rw[HRR.out]
     exact HS.out
    ·have b4:(kd==4)=false:=by simpa using k4
     have HRR:Hid (Cu X ⟨own,old,true⟩=(X,.again (Bj))):=Aa (by rw[HR.out];simp[h0,k4,h2])
     clear HR h0
     have gz:=An.new' HCW.out W.heap.size rfl 31 #[.int .u64 (Bj)]
     have oG:=(Ac.refl W).alloc (.cells #[.int .u64 (Bj)] 31)
     have mG:=Ag.only0 P Q oG
     have HS:Hid (Ak B w P Q R A Ke S nx X (some (.again (Bj))) (.returned (.func (.func 171) #[] #[bp be,bp bx,bp W.heap.size,bp bc])) _):=Aa ⟨P,Q,A,S,_,rfl,HCW.out.only0 oG,⟨be,bx,W.heap.size,bc,rfl,ge.move mG,gx.move mG,gz,gc.move mG⟩,MW.trans mG,At.refl A S⟩
     clear CS mG oG gz
     have gca:=Ae (W.alloc (.cells #[.int .u64 Bj] 31)) bc 0 (bp S.c) ((gc.alloc _).c0)
     have cK2:=Ae (W.alloc (.cells #[.int .u64 Bj] 31)) S.c 0 (.int .i64 kd) ((World.cell?_alloc_some _ _ _ (by rw[cK];rfl)).trans cK)
     exact UH
 |false=>
  by_cases h2:kd=2
  ·subst h2
   by_cases h0:own=0
   ·subst h0
    have HRR:Hid (Cu X ⟨0,old,false⟩=Di X true 0 0):=Aa (by rw[HR.out];simp)
    exact TD
   ·have b0:(own==0)=false:=by simpa using h0
    have HRR:Hid (Cu X ⟨own,old,false⟩=(X,.again (Bj))):=Aa (by rw[HR.out];simp[h0])
    clear HR h0
    have gz:=An.new' HCW.out W.heap.size rfl 31 #[.int .u64 (Bj)]
    have oG:=(Ac.refl W).alloc (.cells #[.int .u64 (Bj)] 31)
    have mG:=Ag.only0 P Q oG
    have HS:Hid (Ak B w P Q R A Ke S nx X (some (.again (Bj))) (.returned (.func (.func 171) #[] #[bp be,bp bx,bp W.heap.size,bp bc])) _):=Aa ⟨P,Q,A,S,_,rfl,HCW.out.only0 oG,⟨be,bx,W.heap.size,bc,rfl,ge.move mG,gx.move mG,gz,gc.move mG⟩,MW.trans mG,At.refl A S⟩
    clear CS mG oG gz
    have gca:=Ae (W.alloc (.cells #[.int .u64 Bj] 31)) bc 0 (bp S.c) ((gc.alloc _).c0)
    have cK2:=Ae (W.alloc (.cells #[.int .u64 Bj] 31)) S.c 0 (.int .i64 2) ((World.cell?_alloc_some _ _ _ (by rw[cK];rfl)).trans cK)
    exact UH
  ·have b2:(kd==2)=false:=by simpa using h2
   have b22:(kd != 2)=true:=by simpa using h2
   have HRR:Hid (Cu X ⟨own,old,false⟩=(X,.ends (.err 11))):=Aa (by rw[HR.out];simp[h2])
   have CE:=Cg HCW.out 11 0 0 0
   exact S0
theorem QT{B N:Nat}{w:World}{P Q R:Nat→Prop}{A:EA}{Ke:EK}{S:SA}{nx:Value}{X:Cx}(h:CX B w P Q R A Ke S nx X)(hN:Ax N X)(hB9:N+70≤100000000)(hm:X.sh.p.made=false→X.sh.p.free=[]):
 Calls Tryz.prog 104 #[bp A.e,bp S.t,bp S.c] w (Ak B w P Q R A Ke S nx (Mr X).1 (some (Mr X).2)):=by
 have hkey:X.c.op.key=(X.key:Int):=by have:=hN.cl.key;unfold Cx.key;omega
 have hk64:=hN.key
 have HN:=Aa hN
 have ge:=An.new' (h) (w.heap.size) (by simp) 39 #[bp A.e]
 have C0:=(h).alloc (.cells #[bp A.e] 39)
 have gt:=An.new' (C0) (w.heap.size+1) (by simp) 96 #[bp S.t]
 have C1:=(C0).alloc (.cells #[bp S.t] 96)
 have gc:=An.new' (C1) (w.heap.size+1+1) (by simp) 101 #[bp S.c]
 have C2:=(C1).alloc (.cells #[bp S.c] 101)
 have ge:=ge.alloc (.cells #[bp S.t] 96)
 have ge:=ge.alloc (.cells #[bp S.c] 101)
 have gt:=gt.alloc (.cells #[bp S.c] 101)
 have MW:Ag w (((w.alloc (.cells #[bp A.e] 39)).alloc (.cells #[bp S.t] 96)).alloc (.cells #[bp S.c] 101)) P Q P Q:=Ag.only0 P Q ((((Ac.refl w).alloc _).alloc _).alloc _)
 obtain⟨W,hW⟩:=Ad (((w.alloc (.cells #[bp A.e] 39)).alloc (.cells #[bp S.t] 96)).alloc (.cells #[bp S.c] 101))
 rw[←hW]at MW C2 ge gt gc
 have HCW:=Aa C2
 clear C0 C1 C2
 obtain⟨be,hbe⟩:=Ad w.heap.size
 obtain⟨bt,hbt⟩:=Ad (w.heap.size+1)
 obtain⟨bc,hbc⟩:=Ad (w.heap.size+1+1)
 rw[←hbe]at ge
 rw[←hbt]at gt
 rw[←hbc]at gc
 have HBe:=Aa hbe
 have HBt:=Aa hbt
 have HBc:=Aa hbc
 clear hbe hbt hbc
 have aae:=Ae W be 0 (bp A.e) ge.c0
 have aat:=Ae W bt 0 (bp S.t) gt.c0
 have aac:=Ae W bc 0 (bp S.c) gc.c0
 have cK:=HCW.out.ck
 rw[hkey]at cK
 have gk:=An.new' HCW.out W.heap.size rfl 3 #[.int .i64 (X.key:Int)]
 have ok:=(Ac.refl W).alloc (.cells #[.int .i64 (X.key:Int)] 3)
 have mk:=Ag.only0 P Q ok
 have HCV:=Aa (HCW.out.only0 ok)
 have MV:=MW.trans mk
 have ge:=ge.move mk
 have gt:=gt.move mk
 have gc:=gc.move mk
 obtain⟨V,hV⟩:=Ad (W.alloc (.cells #[.int .i64 (X.key:Int)] 3))
 obtain⟨bk,hbk⟩:=Ad W.heap.size
 rw[←hV]at HCV MV ge gt gc gk
 rw[←hbk]at gk
 have HBk:=Aa hbk
 clear ok mk hbk
 have GE:=Aa ge
 have GT:=Aa gt
 have GC:=Aa gc
 have GK:=Aa gk
 have ct1:=Ae V.drew bt 0 (bp S.t) gt.c0
 have ck1:=Ae V.drew bk 0 (.int .i64 (X.key:Int)) gk.c0
 have tm:=HCV.out.drew.tm
 have LK:=HCV.out.drew.lk X.key (by omega)
 unfold H_ at LK
 clear h hN ge gt gc gk
 have oz:=(Ac.refl V).drew
 have mz:=Ag.only0 P Q oz
 have HZ:=Aa (HCV.out.only0 oz)
 have MZ:=MV.trans mz
 have fe:=GE.out.move mz
 have ce:=fe.c0
 have ft:=GT.out.move mz
 have ct:=ft.c0
 have fc:=GC.out.move mz
 have cc:=fc.c0
 have fk:=GK.out.move mz
 have ck:=fk.c0
 cases hcx:X.t.cells X.key with
 |none=>
  rw[hcx]at LK
  simp only[Option.map_none]at LK
  have HR:Hid (Mr X=(X,.start ⟨X.key,X.t.beg,.get⟩)):=Aa (by show(match X.t.cells X.key with|some x=>_|none=>_)=_;rw[hcx])
  go_enter Tryz.func104,Tryz.ntmps104
  go_upto_region 1 with(fail)
  rw[←hW,←HBc.out,←HBt.out,←HBe.out]
  clear hW
  go_upto_region 2 with(fail)
  rw[←hV,←HBk.out]
  clear hV
  refine wp_region_held_drew (S:=(fun w'=>Ab w' bt 0 (bp S.t)∧Ab w' S.t 7 (.map (some S.m))∧Ab w' bk 0 (.int .i64 (X.key:Int)))) (by kernel_rfl) ?_ (fun hHeld=>?_)
  ·exact⟨ct1,tm,ck1⟩
  refine Af 0 (h:=Af 1 (h:=Af 2 (h:=Af 3 (h:=Af 4 (h:=Ar (i:=5) (h:=fun K hK=>?_))))))
  go_simp
  skip
  try go_wp2_with fail
  refine AK hK (by exact⟨ct1,tm,ck1⟩) (h:=fun hHeld=>?_);clear hK K
  refine Af 6 (h:=?_)
  refine wpAnyH_done (by kernel_rfl) ?_ _
  clear ct1 ck1 tm LK hHeld
  have oy:=oz.drew
  have my:=Ag.only0 P Q ((Ac.refl V.drew).drew)
  have HY:=Aa (HZ.out.drew)
  have MY:=MZ.trans my
  have ye:=fe.move my
  have de:=ye.c0
  have yt:=ft.move my
  have dt:=yt.c0
  have yc:=fc.move my
  have dc:=yc.c0
  have yk:=fk.move my
  have dk:=yk.c0
  have tg:=HY.out.tbeg
  have CE:=GU HY.out X.key X.t.beg .get (.func (.func 130) #[] #[bp bt,bp bk,bp be,bp bc]) ⟨bt,bk,be,bc,rfl,yt,yk,ye,yc⟩
  go_wp2_with fail
  go_upto_region 7 with(fail)
  exact Ui
 |some y=>
  rw[hcx]at LK
  simp only[Option.map_some]at LK
  obtain⟨x0,x1,x2⟩:=HZ.out.celc hcx
  have hcl:=HN.out.tx.cell _ _ hcx
  cases hth:y.there with
  |false=>
   rw[hth]at x2
   have HR:Hid (Mr X=(X,.ends (.err 11))):=Aa (by show(match X.t.cells X.key with|some x=>_|none=>_)=_;rw[hcx];show(X,if y.there=true then _ else _)=_;rw[hth];rfl)
   have CE:=Cg HZ.out 11 0 0 0
   clear hcx hth hcl
   go_enter Tryz.func104,Tryz.ntmps104
   exact SO
  |true=>
   rw[hth]at x2
   have hown:=hcl.2.2.2 hth
   have HR:Hid (Mr X=(X,.ends ⟨0,(X.val y.own).2,[],0,0⟩)):=Aa (by show(match X.t.cells X.key with|some x=>_|none=>_)=_;rw[hcx];show(X,if y.there=true then _ else _)=_;rw[hth];rfl)
   obtain⟨i1,i2⟩:=HN.out.ix hcl.2.1 hown
   have oy:=oz.drew
   have my:=Ag.only0 P Q ((Ac.refl V.drew).drew)
   have HY:=Aa (HZ.out.drew)
   have MY:=MZ.trans my
   have ye:=fe.move my
   have de:=ye.c0
   have yt:=ft.move my
   have dt:=yt.c0
   have yc:=fc.move my
   have dc:=yc.c0
   have yk:=fk.move my
   have dk:=yk.c0
   obtain⟨z0,z1,z2⟩:=HY.out.celc hcx
   have v1:=HY.out.val1 i1
   have D1:=Fz HY.out HN.out y.own hcl.2.1 hown
   obtain⟨vv,hvv⟩:=Aq ((X.val y.own).2)
   rw[show(X.sh.vals.getD (A5 y.own).toNat (0,0)).2=vv from hvv]at v1
   rw[hvv]at HR
   have HVV:Hid (∀(wz:World) (Pz Qz:Nat→Prop) (Az:EA) (Sz:SA),CX B wz Pz Qz R Az Ke Sz nx X→At A Az S Sz→wz.cell? ⟨A.v,(A5 y.own).toNat*2+1,none⟩=some (.int .i64 vv)):=Aa (fun wz Pz Qz Az Sz hz kz=>by have q:=hz.val1 i1;rw[show(X.sh.vals.getD (A5 y.own).toNat (0,0)).2=vv from hvv,kz.v]at q;exact q)
   generalize(A5 y.own).toNat=iv at *
   have CE:=Hz HY.out ⟨0,vv,[],0,0⟩ none 0 (EC.nil S X 0 vv 0 0)
   unfold I0 at CE
   clear i1 i2 hvv hcl hth hown hcx
   go_enter Tryz.func104,Tryz.ntmps104
   go_upto_region 1 with(fail)
   rw[←hW,←HBc.out,←HBt.out,←HBe.out]
   clear hW
   go_upto_region 2 with(fail)
   rw[←hV,←HBk.out]
   clear hV
   refine wp_region_held_drew (S:=(fun w'=>Ab w' bt 0 (bp S.t)∧Ab w' S.t 7 (.map (some S.m))∧Ab w' bk 0 (.int .i64 (X.key:Int)))) (by kernel_rfl) ?_ (fun hHeld=>?_)
   ·exact⟨ct1,tm,ck1⟩
   refine Af 0 (h:=Af 1 (h:=Af 2 (h:=Af 3 (h:=Af 4 (h:=Ar (i:=5) (h:=fun K hK=>?_))))))
   go_simp
   skip
   try go_wp2_with fail
   refine AK hK (by exact⟨ct1,tm,ck1⟩) (h:=fun hHeld=>?_);clear hK K
   refine Af 6 (h:=?_)
   refine wpAnyH_done (by kernel_rfl) ?_ _
   clear ct1 ck1 tm LK hHeld
   go_wp2_with fail
   go_upto_region 6 with(fail)
   refine wp_region_held_drew (S:=(fun w'=>Ab w' be 0 (bp A.e)∧Ab w' bc 0 (bp S.c)∧Ab w' (S.x X.key) 0 (.int .u64 y.own)∧Ab w' A.v (iv*2+1) (.int .i64 vv))) (by kernel_rfl) ?_ (fun hHeld=>?_)
   ·exact⟨de,dc,z0,v1⟩
   refine Af 0 (h:=Af 1 (h:=Af 2 (h:=Af 3 (h:=Af 4 (h:=Af 5 (h:=Af 6 (h:=Ar (i:=7) (h:=fun K hK=>?_))))))))
   go_simp
   (refine D1.mono ?_;rintro e1 w1 ⟨rfl,rfl⟩)
   try go_wp2_with fail
   refine AK hK (by exact⟨de,dc,z0,v1⟩) (h:=fun hHeld=>?_);clear hK K
   refine Af 8 (h:=Af 9 (h:=Af 10 (h:=Af 11 (h:=Ar (i:=12) (h:=fun K hK=>?_)))))
   go_simp
   (refine CE.mono ?_;rintro e9 w9 ⟨q9,o9⟩;obtain⟨v9,rfl⟩:=q9.ret;have HS:=Aa (q9.comp MY (At.refl A S));have de:=Ai o9 de;have dc:=Ai o9 dc;have z0:=Ai o9 z0;have v1:=Ai o9 v1;clear q9 o9)
   try go_wp2_with fail
   refine AK hK (by exact⟨de,dc,z0,v1⟩) (h:=fun hHeld=>?_);clear hK K
   refine Af 13 (h:=?_)
   exact Ux
theorem KN{B N:Nat}{w:World}{P Q R:Nat→Prop}{A:EA}{Ke:EK}{S:SA}{nx:Value}{X:Cx}(h:CX B w P Q R A Ke S nx X)(hN:Ax N X)(hB9:N+70≤100000000)(hm:X.sh.p.made=false→X.sh.p.free=[]):
 Calls Tryz.prog 108 #[bp A.e,bp S.t,bp S.c] w (Ak B w P Q R A Ke S nx (FZ X).1 (some (FZ X).2)):=by
 have hkey:X.c.op.key=(X.key:Int):=by have:=hN.cl.key;unfold Cx.key;omega
 have hk64:=hN.key
 have HN:=Aa hN
 have ge:=An.new' (h) (w.heap.size) (by simp) 39 #[bp A.e]
 have C0:=(h).alloc (.cells #[bp A.e] 39)
 have gt:=An.new' (C0) (w.heap.size+1) (by simp) 96 #[bp S.t]
 have C1:=(C0).alloc (.cells #[bp S.t] 96)
 have gc:=An.new' (C1) (w.heap.size+1+1) (by simp) 101 #[bp S.c]
 have C2:=(C1).alloc (.cells #[bp S.c] 101)
 have ge:=ge.alloc (.cells #[bp S.t] 96)
 have ge:=ge.alloc (.cells #[bp S.c] 101)
 have gt:=gt.alloc (.cells #[bp S.c] 101)
 have MW:Ag w (((w.alloc (.cells #[bp A.e] 39)).alloc (.cells #[bp S.t] 96)).alloc (.cells #[bp S.c] 101)) P Q P Q:=Ag.only0 P Q ((((Ac.refl w).alloc _).alloc _).alloc _)
 obtain⟨W,hW⟩:=Ad (((w.alloc (.cells #[bp A.e] 39)).alloc (.cells #[bp S.t] 96)).alloc (.cells #[bp S.c] 101))
 rw[←hW]at MW C2 ge gt gc
 have HCW:=Aa C2
 clear C0 C1 C2
 obtain⟨be,hbe⟩:=Ad w.heap.size
 obtain⟨bt,hbt⟩:=Ad (w.heap.size+1)
 obtain⟨bc,hbc⟩:=Ad (w.heap.size+1+1)
 rw[←hbe]at ge
 rw[←hbt]at gt
 rw[←hbc]at gc
 have HBe:=Aa hbe
 have HBt:=Aa hbt
 have HBc:=Aa hbc
 clear hbe hbt hbc
 have aae:=Ae W be 0 (bp A.e) ge.c0
 have aat:=Ae W bt 0 (bp S.t) gt.c0
 have aac:=Ae W bc 0 (bp S.c) gc.c0
 have cK:=HCW.out.ck
 rw[hkey]at cK
 have gk:=An.new' HCW.out W.heap.size rfl 3 #[.int .i64 (X.key:Int)]
 have ok:=(Ac.refl W).alloc (.cells #[.int .i64 (X.key:Int)] 3)
 have mk:=Ag.only0 P Q ok
 have HCV:=Aa (HCW.out.only0 ok)
 have MV:=MW.trans mk
 have ge:=ge.move mk
 have gt:=gt.move mk
 have gc:=gc.move mk
 obtain⟨V,hV⟩:=Ad (W.alloc (.cells #[.int .i64 (X.key:Int)] 3))
 obtain⟨bk,hbk⟩:=Ad W.heap.size
 rw[←hV]at HCV MV ge gt gc gk
 rw[←hbk]at gk
 have HBk:=Aa hbk
 clear ok mk hbk
 have GE:=Aa ge
 have GT:=Aa gt
 have GC:=Aa gc
 have GK:=Aa gk
 have ct1:=Ae V.drew bt 0 (bp S.t) gt.c0
 have ck1:=Ae V.drew bk 0 (.int .i64 (X.key:Int)) gk.c0
 have tm:=HCV.out.drew.tm
 have LK:=HCV.out.drew.lk X.key (by omega)
 unfold H_ at LK
 clear h hN ge gt gc gk
 have oz:=(Ac.refl V).drew
 have mz:=Ag.only0 P Q oz
 have HZ:=Aa (HCV.out.only0 oz)
 have MZ:=MV.trans mz
 have fe:=GE.out.move mz
 have ce:=fe.c0
 have ft:=GT.out.move mz
 have ct:=ft.c0
 have fc:=GC.out.move mz
 have cc:=fc.c0
 have fk:=GK.out.move mz
 have ck:=fk.c0
 cases hcx:X.t.cells X.key with
 |none=>
  rw[hcx]at LK
  simp only[Option.map_none]at LK
  have HR:Hid (FZ X=(X,.start ⟨X.key,X.t.beg,.change⟩)):=Aa (by show(match X.t.cells X.key with|some x=>_|none=>_)=_;rw[hcx])
  go_enter Tryz.func108,Tryz.ntmps108
  go_upto_region 1 with(fail)
  rw[←hW,←HBc.out,←HBt.out,←HBe.out]
  clear hW
  go_upto_region 2 with(fail)
  rw[←hV,←HBk.out]
  clear hV
  refine wp_region_held_drew (S:=(fun w'=>Ab w' bt 0 (bp S.t)∧Ab w' S.t 7 (.map (some S.m))∧Ab w' bk 0 (.int .i64 (X.key:Int)))) (by kernel_rfl) ?_ (fun hHeld=>?_)
  ·exact⟨ct1,tm,ck1⟩
  refine Af 0 (h:=Af 1 (h:=Af 2 (h:=Af 3 (h:=Af 4 (h:=Ar (i:=5) (h:=fun K hK=>?_))))))
  go_simp
  skip
  try go_wp2_with fail
  refine AK hK (by exact⟨ct1,tm,ck1⟩) (h:=fun hHeld=>?_);clear hK K
  refine Af 6 (h:=?_)
  refine wpAnyH_done (by kernel_rfl) ?_ _
  clear ct1 ck1 tm LK hHeld
  have oy:=oz.drew
  have my:=Ag.only0 P Q ((Ac.refl V.drew).drew)
  have HY:=Aa (HZ.out.drew)
  have MY:=MZ.trans my
  have ye:=fe.move my
  have de:=ye.c0
  have yt:=ft.move my
  have dt:=yt.c0
  have yc:=fc.move my
  have dc:=yc.c0
  have yk:=fk.move my
  have dk:=yk.c0
  have tg:=HY.out.tbeg
  have CE:=GU HY.out X.key X.t.beg .change (.func (.func 145) #[] #[bp bc,bp bt,bp bk,bp be]) ⟨bc,bt,bk,be,rfl,yc,yt,yk,ye⟩
  go_wp2_with fail
  go_upto_region 5 with(fail)
  exact Ui
 |some y=>
  rw[hcx]at LK
  simp only[Option.map_some]at LK
  have HR:Hid (FZ X=Cu X y):=Aa (by show(match X.t.cells X.key with|some x=>_|none=>_)=_;rw[hcx])
  have CE:=M7 HZ.out HN.out hB9 hm hcx
  go_enter Tryz.func108,Tryz.ntmps108
  exact SO
theorem IP{B N:Nat}{w:World}{P Q R:Nat→Prop}{A:EA}{Ke:EK}{S:SA}{nx:Value}{X:Cx}(h:CX B w P Q R A Ke S nx X)(hN:Ax N X)(hB9:N+70≤100000000)(hm:X.sh.p.made=false→X.sh.p.free=[]):
 Calls Tryz.prog 80 #[bp A.e,bp S.t,bp S.c] w (Ak B w P Q R A Ke S nx (Cb X).1 (some (Cb X).2)):=by
 have hkey:X.c.op.key=(X.key:Int):=by have:=hN.cl.key;unfold Cx.key;omega
 have hk64:=hN.key
 have cD:=h.kind
 have cK:=h.ck
 rw[hkey]at cK
 have HR:=Aa (Mi X)
 have C1:=QT h hN hB9 hm
 have C5:=I6 h hN (by omega) X.key (by omega)
 have C6:=Lv h
 have C7:=Dr h 0 1
 have C9:=KN h hN hB9 hm
 clear h hN hm
 generalize X.c.op.kind=kd at *
 by_cases h1:kd=1
 ·subst h1
  clear C5 C6 C7 C9
  go_enter Tryz.func80,Tryz.ntmps80
  go_wp2_with fail
  refine C1.mono ?_
  exact TN
 ·have n1:(kd==1)=false:=by simpa using h1
  by_cases h5:kd=5
  ·subst h5
   clear C1 C6 C7 C9
   go_enter Tryz.func80,Tryz.ntmps80
   go_wp2_with fail
   refine C5.mono ?_
   exact TN
  ·have n5:(kd==5)=false:=by simpa using h5
   by_cases h6:kd=6
   ·subst h6
    clear C1 C5 C7 C9
    go_enter Tryz.func80,Tryz.ntmps80
    go_wp2_with fail
    refine C6.mono ?_
    exact TN
   ·have n6:(kd==6)=false:=by simpa using h6
    by_cases h7:kd=7
    ·subst h7
     clear C1 C5 C6 C9
     go_enter Tryz.func80,Tryz.ntmps80
     go_wp2_with fail
     refine C7.mono ?_
     exact TN
    ·have n7:(kd==7)=false:=by simpa using h7
     clear C1 C5 C6 C7
     rw[if_neg h1,if_neg h5,if_neg h6,if_neg h7]at HR
     go_enter Tryz.func80,Tryz.ntmps80
     go_wp2_with fail
     refine C9.mono ?_
     exact TN
theorem Qy{B:Nat}{w:World}{P Q R:Nat→Prop}{A:EA}{Ke:EK}{S:SA}{nx:Value}{X:Cx}(h:CX B w P Q R A Ke S nx X)(r:Dt){e c y:Nat}(he:bE w P Q R A e)(hc:bC w P Q R S c)(hy:bR w P Q R S X y r):
 Calls Tryz.prog 159 #[bp e,bp c,bp y] w (Ak B w P Q R A Ke S nx (Ay X (.ends r)).1 (Ay X (.ends r)).2):=by
 obtain⟨pa,pc,hf,hr⟩:=hy
 have ce:=Ae w e 0 (bp A.e) (An.c0 he)
 have cc:=Ae w c 0 (bp S.c) (An.c0 hc)
 have q0:=Ae w y 0 (.int .i64 r.e) (hf.1.cell 0)
 have q1:=Ae w y 1 (.int .i64 r.value) (hf.1.cell 1)
 have q2:=Ae w y 2 (.slice pa r.pairs.length pc) (hf.1.cell 2)
 have q3:=Ae w y 3 (.int .i64 r.over) (hf.1.cell 3)
 have q4:=Ae w y 4 (.int .i64 r.reason) (hf.1.cell 4)
 have CF:=IY h r pa pc hr
 unfold I0 at CF
 clear h hf hr he hc
 go_enter Tryz.func159,Tryz.ntmps159
 go_wp2_with fail
 refine CF.mono ?_
 rintro e8 w8 r8
 obtain⟨v8,rfl⟩:=r8.ret
 have HS:=Aa r8
 clear r8
 go_wp2_with fail
 go_ret
 exact HS.out
end
section
attribute [local go_sem ↓] Go.wp_at_zero Go.wp_at_succ
structure Gy(A A':EA):Prop where
 e:A'.e=A.e
 a:A'.a=A.a
 v:A'.v=A.v
structure EX(B:Nat)(w:World)(P Q R:Nat→Prop)(A:EA)(K:EK)(s:Sh):Prop where
 sh:JC B w P A K s
 uP:Bo P w.heap.size
 aP:Cz P B
 prs:∀i,i<s.tale.length→AU w P Q R (A.pa i) (s.tale.getD i default).res.pairs
section
variable {B:Nat} {w w':World} {P Q R:Nat→Prop} {A:EA} {K:EK} {S:SA} {nx:Value} {X:Cx} {s:Sh}
theorem CX.toEX(h:CX B w P Q R A K S nx X):EX B w P Q R A K X.sh:=⟨h.sh,h.uP,h.aP,h.prs⟩
theorem EX.hB(h:EX B w P Q R A K s):B≤w.heap.size:=by have:=h.aP _ h.sh.pe;have:=h.sh.eng.lt;omega
theorem EX.only0(h:EX B w P Q R A K s)(o:Ac w w'):EX B w' P Q R A K s:=by
 have t:Aw [] w w':=Aw.zero o []
 exact⟨h.sh.ty t (by simp) (by simp) (by simp) (by simp) (by simp) (by simp) (by simp) (by simp),h.uP.mono o.size,h.aP,fun i hi=>(h.prs i hi).move (Ag.only0 P Q o)⟩
theorem EX.far(h:EX B w P Q R A K s){T:Nat→Prop}(o:Ah T w w')(ap:AR P T)(hT:∀b,T b→Q b∨R b):EX B w' P Q R A K s:=by
 refine⟨h.sh.far o ap,h.uP.mono o.size,h.aP,fun i hi=>?_⟩
 rcases h.prs i hi with e|⟨b,off,cs,h1,h2,h3,h4,h5,h6⟩
 ·exact .inl e
 ·have nT:¬T b:=fun hb=>(hT b hb).elim h3 h4
  have e:w'.heap[b]? =w.heap[b]? :=o.block b h5.lt nT
  exact .inr ⟨b,off,cs,h1,h2,h3,h4,o.blk h5 nT,fun i hi=>⟨(World.cell?_of_block e).trans (h6 i hi).1,(World.cell?_of_block e).trans (h6 i hi).2⟩⟩
theorem EX.evd(h:EX B w P Q R A K s)(v:Ev)(pa:Option Addr)(pc:Nat)(hp:AU w P Q R pa v.res.pairs){gg cap:Nat}{w1:World}
 (hown:w1.ownsRow B 153 12 (.slice (some ⟨gg,0,none⟩) (s.tale.length+1) cap) (s.tale.length+1) (Dm s.tale A.pa A.pc++EQ v pa pc)) (hg:w.grownBy w1 (Value.slice A.ta s.tale.length A.tc).ownBlock)
 (hat:(Value.slice A.ta s.tale.length A.tc).ownBlock=some gg∨w.heap.size≤gg) (hlt:gg<w1.heap.size):
 ∃P' A',EX B (w1.setCell ⟨A.e,24,none⟩ (.slice (some ⟨gg,0,none⟩) (s.tale.length+1) cap)) P' Q R A' K {s with tale:=s.tale++[v]}∧Ag w (w1.setCell ⟨A.e,24,none⟩ (.slice (some ⟨gg,0,none⟩) (s.tale.length+1) cap)) P Q P' Q∧Ah P w (w1.setCell ⟨A.e,24,none⟩ (.slice (some ⟨gg,0,none⟩) (s.tale.length+1) cap))∧Gy A A':=by
 have o1:=Ah.grownRow hg
 have t1:Aw [153] w w1:=Aw.row h.sh.tale o1
 have be:=h.sh.eng.ty t1 (by decide)
 have o2:Ah (fun b=>b=A.e) w1 (w1.setCell ⟨A.e,24,none⟩ (.slice (some ⟨gg,0,none⟩) (s.tale.length+1) cap)):=Ah.setCell (S:=fun b=>b=A.e) (Ah.refl _ w1) (fun _=>rfl) _
 have t2:Aw [107] w1 _:=Aw.of o2 be
 have B2:=be.set 24 (.slice (some ⟨gg,0,none⟩) (s.tale.length+1) cap)
 generalize w1.setCell ⟨A.e,24,none⟩ (.slice (some ⟨gg,0,none⟩) (s.tale.length+1) cap)=w2 at *
 have gp:AC w.heap.size P (fun b=>P b∨b=gg):=by
  exact TC
 have oP:Ah P w w2:=by
  refine⟨o2.os.trans o1.os,o2.tape.trans o1.tape,o2.output.trans o1.output,Nat.le_trans o1.size o2.size,fun b hb hn=>?_⟩
  rw[o2.block b (Nat.lt_of_lt_of_le hb o1.size) (fun e=>hn (by rw[e];exact h.sh.pe)),o1.block b hb (fun e=>hn (h.sh.pt b e))]
 have m:Ag w w2 P Q (fun b=>P b∨b=gg) Q:=⟨oP.mono (fun _ _ hb=> .inl hb),gp,AC.refl _ _⟩
 have hsz:=Nat.le_trans o1.size o2.size
 have hn:(s.tale++[v]).length=s.tale.length+1:=by simp
 refine⟨fun b=>P b∨b=gg,{A with ta:=some ⟨gg,0,none⟩,tc:=cap,pa:=AT A.pa s.tale.length pa,pc:=AT A.pc s.tale.length pc},⟨⟨?_,?_,?_,?_,?_,.inl h.sh.pe,⟨.inl h.sh.pa.1,.inl h.sh.pa.2⟩,⟨.inl h.sh.pp.1,.inl h.sh.pp.2⟩,fun b hb=> .inl (h.sh.pf b hb),.inl h.sh.pv,fun b hb=> .inr (AE.1 hb)⟩,?_,?_,?_⟩,m,oP,⟨rfl,rfl,rfl⟩⟩
 ·show Am w2 A.e _ (Fd _ K {s with tale:=s.tale++[v]})
  unfold Fd
  rw[show({s with tale:=s.tale++[v]}:Sh).tale.length=s.tale.length+1 from hn]
  exact B2
 ·exact UB
 ·exact U_
 ·exact(h.sh.vals.ty t1 (by decide)).ty t2 (by decide)
 ·show w2.ownsRow B _ 12 (.slice (some ⟨gg,0,none⟩) (s.tale++[v]).length cap) (s.tale++[v]).length (Dm (s.tale++[v]) (AT A.pa s.tale.length pa) (AT A.pc s.tale.length pc))
  rw[FO,hn]
  exact AO hown t2 (by decide)
 ·exact Ty
 ·exact UL
 ·intro i hi
  have hi':i<s.tale.length+1:=by rw[←hn];exact hi
  show AU w2 _ Q R (AT A.pa s.tale.length pa i) ((s.tale++[v]).getD i default).res.pairs
  by_cases e:i=s.tale.length
  ·exact U8
  ·exact EH
theorem CX.told(h:CX B w P Q R A K S nx X){P':Nat→Prop}{A':EA}{s':Sh}(hx:EX B w' P' Q R A' K s')(o:Ah (fun b=>P b∨b=S.t) w w')(gp:AC w.heap.size P P')(hb:Am w' S.t 123 (Ep S {X.t with over:=true})):
 CX B w' P' Q R A' K S nx ⟨s',{X.t with over:=true},X.c⟩∧Ag w w' P Q P' Q:=by
 have oo:∀b,Q b→b≠S.t→¬(P b∨b=S.t):=fun b hq hn e=>e.elim (fun hp=>h.ap b hp hq) hn
 have nb:∀{b:Nat} {t:TypeId} {cs:Array Value},Am w b t cs→t≠123→b≠S.t:=fun hb ht=>hb.ne h.tx.blk ht
 have nr:∀{e:TypeId} {sz:Nat} {v:Value} {n:Nat} {xs:List Value},w.ownsRow B e sz v n xs→e≠123→(∀b,AA v b→Q b)→w'.ownsRow B e sz v n xs:=fun hr he hq=>AD hr o (fun b hb=>oo b (hq b hb) (fun e=>by
  obtain⟨cur,hc⟩:=Er hr hb
  exact nb hc he e))
 have m:Ag w w' P Q P' Q:=⟨o.mono (fun b _ hb=>hb.elim .inl (fun e=> .inr (by rw[e];exact h.tx.qt))),gp,AC.refl _ _⟩
 refine⟨⟨hx.sh,⟨hb,h.tx.map.only o (oo _ h.tx.qm (h.tx.map.ne h.tx.blk)),fun k x hk=>⟨(h.tx.cel k x hk).1,o.blk (h.tx.cel k x hk).2.1 (oo _ (h.tx.cel k x hk).2.2 (nb (h.tx.cel k x hk).2.1 (by decide))),(h.tx.cel k x hk).2.2⟩,h.tx.xinj,nr h.tx.keys (by decide) h.tx.qk,nr h.tx.reads (by decide) h.tx.qr,nr h.tx.bonds (by decide) h.tx.qb,h.tx.kb,h.tx.qt,h.tx.qm,h.tx.qk,h.tx.qr,h.tx.qb⟩,
  ⟨o.blk h.cl.blk (oo _ h.cl.qc (nb h.cl.blk (by decide))),nr h.cl.prs (by decide) h.cl.qp,h.cl.qc,h.cl.qp⟩,?_,hx.uP,h.uQ.mono o.size,hx.aP,h.aQ,h.uR.mono o.size,hx.prs⟩,m⟩
 intro b hp hq
 rcases gp b hp with e|e
 ·exact h.ap b e hq
 ·have:=h.uQ b hq;omega
end
theorem IZ{B:Nat}{w:World}{P Q R:Nat→Prop}{A:EA}{Ke:EK}{s:Sh}(h:EX B w P Q R A Ke s)(hl:s.tale.length≤1000000000)(v:Ev)(pa:Option Addr)(pc:Nat)(hp:AU w P Q R pa v.res.pairs):
 Calls Tryz.prog 77 #[bp A.e,KY v pa pc] w fun e w'=>e= .returned (.tuple #[])∧∃P' A',EX B w' P' Q R A' Ke {s with tale:=s.tale++[v]}∧Ag w w' P Q P' Q∧Ah P w w'∧Gy A A':=by
 have hBw:=h.hB
 obtain⟨W,hW⟩:=Ad (w.alloc (.cells (EQ v pa pc).toArray 153))
 obtain⟨n0,hn0⟩:=Ad w.heap.size
 have oW:Ac w W:=by rw[hW];exact(Ac.refl w).alloc _
 have BX:Am W n0 153 (EQ v pa pc).toArray:=by rw[hW,hn0];exact Am.new _ _ _
 have hpW:AU W P Q R pa v.res.pairs:=hp.move (Ag.only0 P Q oW)
 have hC:=h.only0 oW
 obtain⟨rb,hrb⟩:=Ad W.drew.heap.size
 obtain⟨W6,hW6⟩:=Ad (W.drew.alloc (.cells (EQ v pa pc).toArray 153))
 have oW6:Ac W W6:=by rw[hW6];exact((Ac.refl W).drew).alloc _
 have hC6:=hC.only0 oW6
 have hp6:AU W6 P Q R pa v.res.pairs:=hpW.move (Ag.only0 P Q oW6)
 have m6:Ag w W6 P Q P Q∧Ah P w W6:=⟨Ag.only0 P Q (oW.trans oW6),(oW.trans oW6).any _⟩
 have n0R:¬AA (.slice A.ta s.tale.length A.tc) n0:=fun hb=>by have:=h.uP n0 (h.sh.pt n0 hb);omega
 have HE:=Aa (fun(gg cap:Nat) (w1:World) (h1:w1.ownsRow B 153 12 (.slice (some ⟨gg,0,none⟩) (s.tale.length+1) cap) (s.tale.length+1) (Dm s.tale A.pa A.pc++EQ v pa pc)) (h2:W6.grownBy w1 (Value.slice A.ta s.tale.length A.tc).ownBlock) (h3:(Value.slice A.ta s.tale.length A.tc).ownBlock=some gg∨gg=rb+1) (h4:gg<w1.heap.size)=>
  hC6.evd v pa pc hp6 h1 h2 (h3.imp (fun x=>x) (fun e=>by rw[e,hrb,hW6];simp)) h4)
 have hB6:B≤W6.heap.size:=Nat.le_trans hBw (Nat.le_trans oW.size oW6.size)
 have R6:=hC6.sh.tale
 have e24:=Ae W.drew A.e 24 (.slice A.ta s.tale.length A.tc) (hC.sh.eng.cell 24)
 have e26:=Ae W6 A.e 24 (.slice A.ta s.tale.length A.tc) (hC6.sh.eng.cell 24)
 have f26:W6.frozen? ⟨A.e,24,none⟩=false:=hC6.sh.eng.free 24
 have lt6:A.e<W6.heap.size:=hC6.sh.eng.lt
 have ne6:¬AA (.slice A.ta s.tale.length A.tc) A.e:=Bn R6 hC6.sh.eng (by decide)
 have B6:Am W6 n0 153 (EQ v pa pc).toArray:=oW6.blk BX (fun h=>h)
 have ln6:n0<W6.heap.size:=B6.lt
 have KB:Hid (∀(wx:World),Am wx n0 153 (EQ v pa pc).toArray→Ab wx n0 0 (.int .i64 v.kind)∧Ab wx n0 1 (.int .i64 v.t)∧Ab wx n0 2 (.int .u64 v.n)∧Ab wx n0 3 (.int .i64 v.op.kind)∧Ab wx n0 4 (.int .i64 v.op.key)∧Ab wx n0 5 (.int .i64 v.op.hi)∧Ab wx n0 6 (.int .i64 v.op.value)∧Ab wx n0 7 (.int .i64 v.res.e)∧Ab wx n0 8 (.int .i64 v.res.value)∧Ab wx n0 9 (.slice pa v.res.pairs.length pc)∧Ab wx n0 10 (.int .i64 v.res.over)∧Ab wx n0 11 (.int .i64 v.res.reason)):=Aa (fun wx hb=>⟨hb.cell 0,hb.cell 1,hb.cell 2,hb.cell 3,hb.cell 4,hb.cell 5,hb.cell 6,hb.cell 7,hb.cell 8,hb.cell 9,hb.cell 10,hb.cell 11⟩)
 have HB0:=Aa (show Am W.drew n0 153 (EQ v pa pc).toArray from BX)
 have HB6:=Aa B6
 have HN:=Aa hn0
 have HM6:=Aa m6
 obtain⟨i0,hi0,hz0,hz1,hz2⟩:=info_parts Jl
 clear h hC hp hpW hp6 hC6 BX B6 oW oW6 m6 hn0
 unfold KY
 go_enter Tryz.func77,Tryz.ntmps77
 go_upto_region 1 with(fail)
 rw[show w.alloc (.cells #[Value.int .i64 v.kind,v.t,.int .u64 v.n,v.op.kind,v.op.key,v.op.hi,v.op.value,v.res.e,v.res.value,.slice pa v.res.pairs.length pc,v.res.over,v.res.reason] 153)=W from hW.symm,←HN.out]
 clear hW
 have K0:=KB.out _ HB0.out
 have K6:=KB.out _ HB6.out
 have hW6':W6=W.drew.alloc (.cells #[Value.int .i64 v.kind,v.t,.int .u64 v.n,v.op.kind,v.op.key,v.op.hi,v.op.value,v.res.e,v.res.value,.slice pa v.res.pairs.length pc,v.res.over,v.res.reason] 153):=hW6
 rw[hW6']at e26 f26 lt6 R6 K6 ln6 hB6 HE HB6 HM6
 clear hW6 hW6'
 rw[hrb]at HE
 refine Ao (S:=(fun w'=>Ab w' A.e 24 (.slice A.ta s.tale.length A.tc)∧Ab w' n0 0 (.int .i64 v.kind)∧Ab w' n0 1 (.int .i64 v.t)∧Ab w' n0 2 (.int .u64 v.n)∧Ab w' n0 3 (.int .i64 v.op.kind)∧Ab w' n0 4 (.int .i64 v.op.key)∧Ab w' n0 5 (.int .i64 v.op.hi)∧Ab w' n0 6 (.int .i64 v.op.value)∧Ab w' n0 7 (.int .i64 v.res.e)∧Ab w' n0 8 (.int .i64 v.res.value)∧Ab w' n0 9 (.slice pa v.res.pairs.length pc)∧Ab w' n0 10 (.int .i64 v.res.over)∧Ab w' n0 11 (.int .i64 v.res.reason))) 10 (by kernel_rfl) ?_ (fun hHeld=>?_)
 ·first|exact⟨e24,K0⟩|exact⟨e26,K6⟩|exact⟨e2z,Kz⟩
 refine Av 0 [10] (h:=Av 1 [10] (h:=Av 2 [10] (h:=Av 3 [10] (h:=Av 4 [10] (h:=Av 5 [10] (h:=Bx (i:=6) (h:=fun K hK=>?_)))))))
 go_simp
 skip
 try go_wp2_with fail
 refine D_ hK (by first|exact⟨e24,K0⟩|exact⟨e26,K6⟩|exact⟨e2z,Kz⟩) (h:=fun hHeld=>?_);clear hK K
 refine Bx (i:=7) (h:=fun K hK=>?_)
 try simp only[List.getElem_toArray,List.getElem_cons_zero,List.getElem_cons_succ]
 (rw[if_pos (by simp[Region.wanted])];refine wp_append_lies _ _ _ _ (by rfl) B 153 i0 _ 12 112 Tryz.underlying74 hi0 hz0 hz1 hz2 rfl (by omega) (.slice A.ta s.tale.length A.tc) s.tale.length (Dm s.tale A.pa A.pc) (by rfl) R6 ⟨W.heap.size,0,none⟩ 1 1 (EQ v pa pc) (by rfl) (by rfl) (World.news_of_block (cs:=(EQ v pa pc).toArray) (t:=153) (fr:=(0,0)) (heap_alloc_new W.drew _)) (by simp[EQ,Value.oneCell']) (by omega) (by unfold maxLen;omega) (by omega) hB6 (W.heap.size+1) (by simp) ?_;intro gg cap w1 hown2 hgrow hat hlt2;have e2z:=Ae w1 A.e 24 (.slice A.ta s.tale.length A.tc) ((hgrow.cell_far ⟨A.e,24,none⟩ lt6 (fun e=>ne6 e.symm)).trans e26);have f2z:w1.frozen? ⟨A.e,24,none⟩=false:=(hgrow.frozen_far ⟨A.e,24,none⟩ lt6 (fun e=>ne6 e.symm)).trans f26;have Kz:=KB.out w1 ((hgrow.block n0 ln6 (fun e=>n0R e.symm)).trans HB6.out))
 refine D_ hK (by first|exact⟨e24,K0⟩|exact⟨e26,K6⟩|exact⟨e2z,Kz⟩) (h:=fun hHeld=>?_);clear hK K
 refine Av 8 [9,10] (h:=Av 9 [10] (h:=?_))
 refine AI (by kernel_rfl) rfl (by kernel_rfl) (fun K hK=>?_)
 try simp only[List.getElem_toArray,List.getElem_cons_zero,List.getElem_cons_succ]
 go_simp
 skip
 try go_wp2_with fail
 refine hK.out _ _ ?_
 clear hK K
 try simp only[Act.put,List.getElem_toArray,List.getElem_cons_zero,List.getElem_cons_succ,List.setIfInBounds_toArray,List.set_cons_zero,List.set_cons_succ]
 obtain⟨P7,A7,h7,m7,q7,k7⟩:=HE.out gg cap w1 hown2 hgrow hat hlt2
 have HX:=Aa (show EX B _ P7 Q R A7 Ke {s with tale:=s.tale++[v]}∧Ag w _ P Q P7 Q∧Ah P w _∧Gy A A7 from⟨h7,HM6.out.1.trans m7,HM6.out.2.trans q7,k7⟩)
 clear h7 m7 q7 k7
 go_end0
 exact⟨rfl,P7,A7,HX.out⟩
end
section
attribute [local go_sem ↓] Go.wp_at_zero Go.wp_at_succ
def Iz(S:SA)(t:Dq)(d:Nat)(m:Int)(ov:Bool):Array Value:=#[.int .i64 t.id,.int .i64 t.level,.int .i64 t.s,.int .u64 t.beg,.int .u64 t.fin,.int .i64 t.ops,.slice S.ka t.keys.length S.kc,.map (some S.m),.slice S.ra t.reads.length S.rc,.slice S.ba t.bonds.length S.bc,
 .int .u32 (d:Int),.int .i32 m,.int .u32 0,.bool ov]
theorem M_{B:Nat}{w:World}{P Q R:Nat→Prop}{A:EA}{Ke:EK}{s:Sh}{S:SA}{t:Dq}(h:EX B w P Q R A Ke s)(hl:s.tale.length≤1000000000)(ht:Am w S.t 123 (Iz S t 0 1 false))(hP:¬P S.t)(hQ:Q S.t)(v:Ev)(hv:v.res.pairs=[]){bt be bx:Nat}
 (gt:Am w bt 96 #[bp S.t]) (ge:Am w be 39 #[bp A.e]) (gx:Am w bx 153 (EQ v none 0).toArray) (ne:¬P be) (nq:¬P bx):
 Calls Tryz.prog 166 #[bp bt,bp be,bp bx] w fun e w'=>e= .returned (.tuple #[])∧∃P' A',EX B w' P' Q R A' Ke {s with tale:=s.tale++[v]}∧Ah (fun b=>P b∨b=S.t) w w'∧AC w.heap.size P P'∧Gy A A'∧Am w' S.t 123 (Iz S t 0 1 true):=by
 have ct:=Ae w bt 0 (bp S.t) (gt.cell 0)
 have x13:=Ae w S.t 13 (.bool false) (ht.cell 13)
 have z13:w.frozen? ⟨S.t,13,none⟩=false:=ht.free 13
 obtain⟨W,hW⟩:=Ad (w.setCell ⟨S.t,13,none⟩ (.bool true))
 have o1:Ah (fun b=>b=S.t) w W:=by rw[hW];exact Ah.set1 w S.t 13 _
 have hX:=h.far o1 (fun b hp e=>hP (by rw[←e];exact hp)) (fun b hb=> .inl (by rw[hb];exact hQ))
 have ht1:Am W S.t 123 (Iz S t 0 1 true):=by rw[hW];exact ht.set 13 (.bool true)
 have tt:Aw [123] w W:=Aw.of o1 ht
 have ge1:=ge.ty tt (by decide)
 have gx1:=gx.ty tt (by decide)
 have ce:=Ae W be 0 (bp A.e) (ge1.cell 0)
 have KB:Hid (Ab W bx 0 (.int .i64 v.kind)∧Ab W bx 1 (.int .i64 v.t)∧Ab W bx 2 (.int .u64 v.n)∧Ab W bx 3 (.int .i64 v.op.kind)∧Ab W bx 4 (.int .i64 v.op.key)∧Ab W bx 5 (.int .i64 v.op.hi)∧Ab W bx 6 (.int .i64 v.op.value)∧Ab W bx 7 (.int .i64 v.res.e)∧Ab W bx 8 (.int .i64 v.res.value)∧Ab W bx 9 (.slice none v.res.pairs.length 0)∧Ab W bx 10 (.int .i64 v.res.over)∧Ab W bx 11 (.int .i64 v.res.reason)):=Aa ⟨gx1.cell 0,gx1.cell 1,gx1.cell 2,gx1.cell 3,gx1.cell 4,gx1.cell 5,gx1.cell 6,gx1.cell 7,gx1.cell 8,gx1.cell 9,gx1.cell 10,gx1.cell 11⟩
 have CE:=IZ hX hl v none 0 (.inl hv)
 unfold KY at CE
 have HO:=Aa o1
 have HT1:=Aa ht1
 have HP:=Aa hP
 obtain⟨q0,q1,q2,q3,q4,q5,q6,q7,q8,q9,q10,q11⟩:=KB.out
 clear h hX gt ge gx ht ht1 tt ge1 gx1 o1 KB hv
 go_enter Tryz.func166,Tryz.ntmps166
 go_upto_region 1 with(fail)
 rw[←hW]
 clear hW
 go_wp2_with fail
 refine CE.mono ?_
 rintro e1 w1 ⟨rfl,P',A',h9,m9,o9,k9⟩
 have HX:Hid (∃P' A',EX B w1 P' Q R A' Ke {s with tale:=s.tale++[v]}∧Ah (fun b=>P b∨b=S.t) w w1∧AC w.heap.size P P'∧Gy A A'∧Am w1 S.t 123 (Iz S t 0 1 true)):=Aa ⟨P',A',h9,(HO.out.mono (fun b _ hb=> .inr hb)).trans (o9.mono (fun b _ hb=> .inl hb)),fun b hb=>(m9.gp b hb).imp (fun x=>x) (fun x=>Nat.le_trans HO.out.size x),k9,o9.blk HT1.out HP.out⟩
 clear h9 m9 o9 k9 CE
 go_wp2_with fail
 go_end0
 exact⟨rfl,HX.out⟩
theorem JD{B:Nat}{w:World}{P Q R:Nat→Prop}{A:EA}{Ke:EK}{S:SA}{nx:Value}{X:Cx}(h:CX B w P Q R A Ke S nx X)(hl:X.sh.tale.length≤1000000000)(v:Ev)(hv:v.res.pairs=[]):
 Calls Tryz.prog 140 #[bp A.e,bp S.t,KY v none 0] w fun e w'=>e= .returned (.tuple #[])∧∃P' A',CX B w' P' Q R A' Ke S nx (X.over v)∧Ag w w' P Q P' Q∧At A A' S S:=by
 obtain⟨W,hW⟩:=Ad (((w.alloc (.cells #[bp A.e] 39)).alloc (.cells #[bp S.t] 96)).alloc (.cells (EQ v none 0).toArray 153))
 obtain⟨be,hbe⟩:=Ad w.heap.size
 obtain⟨bt,hbt⟩:=Ad (w.heap.size+1)
 obtain⟨bx,hbx⟩:=Ad (w.heap.size+1+1)
 have oW:Ac w W:=by rw[hW];exact(((Ac.refl w).alloc _).alloc _).alloc _
 have hC:=h.only0 oW
 have ge:Am W be 39 #[bp A.e]:=by rw[hW,hbe];exact((Am.new w _ _).alloc _).alloc _
 have gt:Am W bt 96 #[bp S.t]:=by rw[hW,hbt];exact(Am.new' _ _ _ _ (by simp)).alloc _
 have gx:Am W bx 153 (EQ v none 0).toArray:=by rw[hW,hbx];exact Am.new' _ _ _ _ (by simp)
 have ce:=Ae W be 0 (bp A.e) (ge.cell 0)
 have ct:=Ae W bt 0 (bp S.t) (gt.cell 0)
 have HBe:=Aa hbe
 have HBt:=Aa hbt
 have HBx:=Aa hbx
 have HM:=Aa (Ag.only0 P Q oW)
 cases hov:X.t.over with
 |true=>
  have HX:=Aa (show CX B W P Q R A Ke S nx (X.over v) from by unfold Cx.over;rw[if_pos hov];exact hC)
  have c10:=Ae W S.t 10 (.int .u32 1) (by have:=hC.tx.blk.cell 10;rw[this];simp[Ep,hov])
  have CO:=fun fv=>Gd ⟨S.t,10,none⟩ 1 (by decide) fv W c10
  clear h hC oW ge gt gx hbe hbt hbx hov hv
  unfold KY
  go_enter Tryz.func140,Tryz.ntmps140
  go_upto_region 1 with(fail)
  rw[show((w.alloc (.cells #[bp A.e] 39)).alloc (.cells #[bp S.t] 96)).alloc (.cells #[Value.int .i64 v.kind,v.t,.int .u64 v.n,v.op.kind,v.op.key,v.op.hi,v.op.value,v.res.e,v.res.value,.slice none v.res.pairs.length 0,v.res.over,v.res.reason] 153)=W from hW.symm,←HBx.out,←HBt.out,←HBe.out]
  clear hW
  go_wp2_with fail
  refine(CO _).mono ?_
  rintro e w1 ⟨rfl,rfl⟩
  clear CO
  go_wp2_with fail
  go_end0
  exact⟨rfl,P,A,HX.out,HM.out,At.refl A S⟩
 |false=>
  have e4:Ep S X.t=Iz S X.t 0 0 false:=by simp[Ep,Iz,hov]
  have pb:=hC.tx.blk
  rw[e4]at pb
  have c10:=Ae W S.t 10 (.int .u32 0) (pb.cell 10)
  have c11:=Ae W S.t (10+1) (.int .i32 0) (pb.cell 11)
  have f10:W.frozen? ⟨S.t,10,none⟩=false:=pb.free 10
  have f11:W.frozen? ⟨S.t,10+1,none⟩=false:=pb.free 11
  obtain⟨W5,hW5⟩:=Ad (W.setCell ⟨S.t,10+1,none⟩ (.int .i32 1))
  have o5:Ah (fun b=>b=S.t) W W5:=by rw[hW5];exact Ah.set1 W S.t 11 _
  have pb5:Am W5 S.t 123 (Iz S X.t 0 1 false):=by rw[hW5];exact pb.set 11 _
  have nP:¬P S.t:=fun hp=>h.ap _ hp h.tx.qt
  have hX5:=hC.toEX.far o5 (fun b hp e=>nP (by rw[←e];exact hp)) (fun b hb=> .inl (by rw[hb];exact h.tx.qt))
  have t5:Aw [123] W W5:=Aw.of o5 pb
  have nne:¬P be:=fun hp=>by have:=h.uP _ hp;omega
  have nnx:¬P bx:=fun hp=>by have:=h.uP _ hp;omega
  have CF:=M_ hX5 hl pb5 nP h.tx.qt v hv (gt.ty t5 (by decide)) (ge.ty t5 (by decide)) (gx.ty t5 (by decide)) nne nnx
  have CO:=FG S.t 10 166 #[bp bt,bp be,bp bx] (fun w1=>∃P' A',EX B w1 P' Q R A' Ke {X.sh with tale:=X.sh.tale++[v]}∧Ah (fun b=>P b∨b=S.t) W5 w1∧AC W5.heap.size P P'∧Gy A A'∧Am w1 S.t 123 (Iz S X.t 0 1 true)) W (fun wz=>rfl) c10 c11 f10 f11 (by
   rw[←hW5]
   refine CF.mono ?_
   rintro e w1 ⟨h1,P',A',hM⟩
   exact⟨h1,⟨P',A',hM⟩,hM.2.2.2.2.cell 10,hM.2.2.2.2.cell 11,hM.2.2.2.2.free 10,hM.2.2.2.2.free 11⟩)
  have HX:Hid (∀(w1:World) (P':Nat→Prop) (A':EA),EX B w1 P' Q R A' Ke {X.sh with tale:=X.sh.tale++[v]}→Ah (fun b=>P b∨b=S.t) W5 w1→AC W5.heap.size P P'→Gy A A'→Am w1 S.t 123 (Iz S X.t 0 1 true)→
   ∃P' A',CX B ((w1.drew.setCell ⟨S.t,10,none⟩ (.int .u32 1)).setCell ⟨S.t,10+1,none⟩ (.int .i32 0)) P' Q R A' Ke S nx (X.over v)∧Ag w ((w1.drew.setCell ⟨S.t,10,none⟩ (.int .u32 1)).setCell ⟨S.t,10+1,none⟩ (.int .i32 0)) P Q P' Q∧At A A' S S):=Aa (fun w1 P' A' g1 g2 g3 g4 g5=>by
   have er:X.over v=⟨{X.sh with tale:=X.sh.tale++[v]},{X.t with over:=true},X.c⟩:=by unfold Cx.over;rw[hov];rfl
   have oD:Ac w1 w1.drew:=(Ac.refl w1).drew
   have bD:Am w1.drew S.t 123 (Iz S X.t 0 1 true):=g5
   have B8:=(bD.set 10 (.int .u32 1)).set (10+1) (.int .i32 0)
   have o8:Ah (fun b=>b=S.t) w1.drew ((w1.drew.setCell ⟨S.t,10,none⟩ (.int .u32 1)).setCell ⟨S.t,10+1,none⟩ (.int .i32 0)):=(Ah.set1 w1.drew S.t 10 _).trans (Ah.set1 _ S.t 11 _)
   generalize(w1.drew.setCell ⟨S.t,10,none⟩ (.int .u32 1)).setCell ⟨S.t,10+1,none⟩ (.int .i32 0)=w8 at *
   have nP':¬P' S.t:=fun hp=>by
    rcases g3 _ hp with e|e
    ·exact nP e
    ·have:=pb5.lt;omega
   have gX:=(g1.only0 oD).far o8 (fun b hp e=>nP' (by rw[←e];exact hp)) (fun b hb=> .inl (by rw[hb];exact h.tx.qt))
   have oA:Ah (fun b=>P b∨b=S.t) W w8:=((o5.mono (fun b _ hb=> .inr hb)).trans g2).trans ((oD.any _).trans (o8.mono (fun b _ hb=> .inr hb)))
   obtain⟨c9,m9⟩:=hC.told gX oA (fun b hb=>(g3 b hb).imp (fun x=>x) (fun x=>Nat.le_trans o5.size x)) B8
   rw[er]
   exact⟨P',A',c9,HM.out.trans m9,⟨g4.e,g4.a,g4.v,rfl,rfl⟩⟩)
  clear h hC oW ge gt gx hbe hbt hbx e4 pb pb5 o5 nP hX5 t5 nne nnx CF hW5 c10 c11 f10 f11 hov hv
  unfold KY
  go_enter Tryz.func140,Tryz.ntmps140
  go_upto_region 1 with(fail)
  rw[show((w.alloc (.cells #[bp A.e] 39)).alloc (.cells #[bp S.t] 96)).alloc (.cells #[Value.int .i64 v.kind,v.t,.int .u64 v.n,v.op.kind,v.op.key,v.op.hi,v.op.value,v.res.e,v.res.value,.slice none v.res.pairs.length 0,v.res.over,v.res.reason] 153)=W from hW.symm,←HBx.out,←HBt.out,←HBe.out]
  clear hW
  go_wp2_with fail
  refine CO.mono ?_
  rintro e w2 ⟨rfl,w1,⟨P',A',g1,g2,g3,g4,g5⟩,rfl⟩
  have HY:=Aa (HX.out w1 P' A' g1 g2 g3 g4 g5)
  clear CO g1 g2 g3 g4 g5
  go_wp2_with fail
  go_end0
  exact⟨rfl,HY.out⟩
end
section
attribute [local go_sem ↓] Go.wp_at_zero Go.wp_at_succ
theorem Co.mv{w w':World}{P Q R P' Q':Nat→Prop}{a:Option Addr}{l:List Cs}(h:Co w P Q R a l)(m:Ag w w' P Q P' Q'):Co w' P' Q' R a l:=by
 rcases h with h|⟨g,off,h1,h2,h3,h4,h5,h6⟩
 ·exact .inl h
 ·have f:=m.far h5 h2 h3
  have e:w'.heap[g]? =w.heap[g]? :=m.o.block g h5 (fun x=>x.elim h2 h3)
  exact .inr ⟨g,off,h1,f.1,f.2,h4,Nat.lt_of_lt_of_le h5 m.o.size,fun i hi=>⟨(World.cell?_of_block e).trans (h6 i hi).1,(World.cell?_of_block e).trans (h6 i hi).2.1,(World.cell?_of_block e).trans (h6 i hi).2.2⟩⟩
theorem Co.tail{w:World}{P Q R:Nat→Prop}{g off:Nat}{x:Cs}{l:List Cs}(h:Co w P Q R (some ⟨g,off*3,none⟩) (x::l)):Co w P Q R (some ⟨g,off*3+3,none⟩) l:=by
 rcases h with h|⟨g',off',h1,h2,h3,h4,h5,h6⟩
 ·cases h
 ·have e:g=g'∧off*3=off'*3:=by injection h1 with e;injection e with e1 e2;exact⟨e1,e2⟩
  obtain⟨rfl,e2⟩:=e
  have e3:off=off':=by omega
  subst e3
  refine .inr ⟨g,off+1,by rw[show(off+1)*3=off*3+3 by omega],h2,h3,h4,h5,fun i hi=>?_⟩
  have:=h6 (i+1) (by rw[List.length_cons];omega)
  rw[show off+1+i=off+(i+1) by omega]
  simpa using this
theorem Co.first{w:World}{P Q R:Nat→Prop}{a:Option Addr}{x:Cs}{l:List Cs}(h:Co w P Q R a (x::l)):∃g off,a=some ⟨g,off*3,none⟩∧w.cell? ⟨g,off*3,none⟩=some (.int .i64 x.at_)∧w.cell? ⟨g,off*3+1,none⟩=some (.int .u64 x.old)∧w.cell? ⟨g,off*3+2,none⟩=some (.int .u64 x.new):=by
 rcases h with h|⟨g,off,h1,h2,h3,h4,h5,h6⟩
 ·cases h
 ·exact⟨g,off,h1,by simpa using h6 0 (by simp)⟩
theorem FA{B:Nat}{w:World}{P Q R:Nat→Prop}{A:EA}{Ke:EK}{S:SA}{nx:Value}{X:Cx}(h:CX B w P Q R A Ke S nx X)(l:List Cs){a:Option Addr}{cc n:Nat}(hn:l.length=n)(ht:Co w P Q R a l)(hc1:n≤cc)(hc2:cc≤9223372036854775807)(r:Dt)(pa:Option Addr)(pc:Nat)(hr:EC S X r pa pc):
 Calls Tryz.prog 143 #[bp A.e,bp S.t,bp S.c,.slice a n cc,.agg #[r.e,r.value,.slice pa r.pairs.length pc,r.over,r.reason]] w (Ak B w P Q R A Ke S nx X (some (.turns l r))):=by
 have ge:=An.new' (h) (w.heap.size) (by simp) 39 #[bp A.e]
 have C0:=(h).alloc (.cells #[bp A.e] 39)
 have gt:=An.new' (C0) (w.heap.size+1) (by simp) 96 #[bp S.t]
 have C1:=(C0).alloc (.cells #[bp S.t] 96)
 have gc:=An.new' (C1) (w.heap.size+1+1) (by simp) 101 #[bp S.c]
 have C2:=(C1).alloc (.cells #[bp S.c] 101)
 have gl:=An.new' (C2) (w.heap.size+1+1+1) (by simp) 257 #[.slice a n cc]
 have C3:=(C2).alloc (.cells #[.slice a n cc] 257)
 have gz:=An.new' (C3) (w.heap.size+1+1+1+1) (by simp) 64 #[r.e,r.value,.slice pa r.pairs.length pc,r.over,r.reason]
 have C4:=(C3).alloc (.cells #[r.e,r.value,.slice pa r.pairs.length pc,r.over,r.reason] 64)
 replace ge:=ge.alloc (.cells #[bp S.t] 96)
 replace ge:=ge.alloc (.cells #[bp S.c] 101)
 replace ge:=ge.alloc (.cells #[.slice a n cc] 257)
 replace ge:=ge.alloc (.cells #[r.e,r.value,.slice pa r.pairs.length pc,r.over,r.reason] 64)
 replace gt:=gt.alloc (.cells #[bp S.c] 101)
 replace gt:=gt.alloc (.cells #[.slice a n cc] 257)
 replace gt:=gt.alloc (.cells #[r.e,r.value,.slice pa r.pairs.length pc,r.over,r.reason] 64)
 replace gc:=gc.alloc (.cells #[.slice a n cc] 257)
 replace gc:=gc.alloc (.cells #[r.e,r.value,.slice pa r.pairs.length pc,r.over,r.reason] 64)
 replace gl:=gl.alloc (.cells #[r.e,r.value,.slice pa r.pairs.length pc,r.over,r.reason] 64)
 have MW:Ag w (((((w.alloc (.cells #[bp A.e] 39)).alloc (.cells #[bp S.t] 96)).alloc (.cells #[bp S.c] 101)).alloc (.cells #[.slice a n cc] 257)).alloc (.cells #[r.e,r.value,.slice pa r.pairs.length pc,r.over,r.reason] 64)) P Q P Q:=Ag.only0 P Q ((((((Ac.refl w).alloc _).alloc _).alloc _).alloc _).alloc _)
 obtain⟨W,hW⟩:=Ad (((((w.alloc (.cells #[bp A.e] 39)).alloc (.cells #[bp S.t] 96)).alloc (.cells #[bp S.c] 101)).alloc (.cells #[.slice a n cc] 257)).alloc (.cells #[r.e,r.value,.slice pa r.pairs.length pc,r.over,r.reason] 64))
 rw[←hW]at MW C4 ge gt gc gl gz
 have HCW:=Aa C4
 clear C0 C1 C2 C3 C4
 obtain⟨be,hbe⟩:=Ad w.heap.size
 obtain⟨bt,hbt⟩:=Ad (w.heap.size+1)
 obtain⟨bc,hbc⟩:=Ad (w.heap.size+1+1)
 obtain⟨bl,hbl⟩:=Ad (w.heap.size+1+1+1)
 obtain⟨bz,hbz⟩:=Ad (w.heap.size+1+1+1+1)
 rw[←hbe]at ge
 rw[←hbt]at gt
 rw[←hbc]at gc
 rw[←hbl]at gl
 rw[←hbz]at gz
 have HBe:=Aa hbe
 have HBt:=Aa hbt
 have HBc:=Aa hbc
 have HBl:=Aa hbl
 have HBz:=Aa hbz
 clear hbe hbt hbc hbl hbz
 have cl:=Ae W bl 0 (.slice a n cc) gl.c0
 by_cases h0:n=0
 ·subst h0
  have hl:l=[]:=List.eq_nil_of_length_eq_zero hn
  subst hl
  have HS:Hid (Ak B w P Q R A Ke S nx X (some (.turns [] r)) (.returned (.func (.func 168) #[] #[bp be,bp bt,bp bc,bp bz])) W):=Aa ⟨P,Q,A,S,_,rfl,HCW.out,⟨be,bt,bc,bz,rfl,ge,gt,gc,⟨pa,pc,gz,hr⟩⟩,MW,At.refl A S⟩
  exact Ss
 ·have b0:((n:Int)==0)=false:=by simp;omega
  cases l with
  |nil=>exact absurd hn.symm h0
  |cons x l=>
   have HS:Hid (Ak B w P Q R A Ke S nx X (some (.turns (x::l) r)) (.returned (.func (.func 169) #[] #[bp bl,bp be,bp bt,bp bc,bp bz])) W):=Aa ⟨P,Q,A,S,_,rfl,HCW.out,⟨bl,be,bt,bc,bz,rfl,⟨a,cc,by rw[hn];exact gl,by rw[hn];exact hc1,hc2,ht.mv MW⟩,ge,gt,gc,⟨pa,pc,gz,hr⟩⟩,MW,At.refl A S⟩
   exact Ss
theorem CX.ts{B:Nat}{w:World}{P Q R:Nat→Prop}{A:EA}{Ke:EK}{S:SA}{nx:Value}{X:Cx}(h:CX B w P Q R A Ke S nx X):w.cell? ⟨S.t,2,none⟩=some (.int .i64 X.t.s):=h.tx.blk.cell 2
theorem Md{B N:Nat}{w:World}{P Q R:Nat→Prop}{A:EA}{Ke:EK}{S:SA}{nx:Value}{X:Cx}(h:CX B w P Q R A Ke S nx X)(hN:Ax N X)(r:Dt){e t c z:Nat}(he:An w P Q R e 39 #[bp A.e])(ht:An w P Q R t 96 #[bp S.t])(hc:An w P Q R c 101 #[bp S.c])(hz:bR w P Q R S X z r):
 Calls Tryz.prog 168 #[bp e,bp t,bp c,bp z] w (Ak B w P Q R A Ke S nx (Ay X (.turns [] r)).1 (Ay X (.turns [] r)).2):=by
 have HC0:=Aa h
 have HN:=Aa hN
 have s1:=hN.tx.s1
 have ew:IntKind.i64.wrap (1+X.t.s)=1+X.t.s:=by rw[IntKind.wrap_i64];omega
 obtain⟨pa,pc,hf,hr⟩:=hz
 obtain⟨X1,hX1⟩:=Aq (X.setA (X.sh.a.store (1+X.t.s) 0))
 have HR:Hid (Ay X (.turns [] r)=(X1.finish r,none)):=Aa (by rw[←hX1];rfl)
 have HR1:Hid (EC S X1 r pa pc):=Aa (by rw[←hX1];exact hr)
 have hX1t:X1.t=X.t:=by rw[←hX1];rfl
 clear h hN hr s1
 go_enter Tryz.func168,Tryz.ntmps168
 go_upto_region 1 with(fail)
 have HC:=Aa HC0.out.drew
 have M:=Ag.only0 P Q ((Ac.refl w).drew)
 have fe:=he.move M
 have ft:=ht.move M
 have fc:=hc.move M
 have ce:=fe.c0
 have ct:=ft.c0
 have cc:=fc.c0
 have cA:=HC.out.ca
 have cN:=HC.out.cn
 have fz:=hf.move M
 have cS:_=some (Value.int .i64 X.t.s):=HC.out.tx.blk.cell 2
 refine wp_region_held_drew (S:=(fun w'=>Ab w' e 0 (bp A.e)∧Ab w' t 0 (bp S.t)∧Ab w' A.e 2 (bp A.a)∧Ab w' S.t 2 (.int .i64 X.t.s))) (by kernel_rfl) ?_ (fun hHeld=>?_)
 ·exact⟨ce,ct,cA,cS⟩
 refine Af 0 (h:=Af 1 (h:=Af 2 (h:=Af 3 (h:=Af 4 (h:=Af 5 (h:=Af 6 (h:=Af 7 (h:=Af 8 (h:=Ar (i:=9) (h:=fun K hK=>?_))))))))))
 go_simp
 (refine(CY HC.out _ _).mono ?_;rw[hX1];rintro e1 w1 ⟨rfl,h1,m1⟩;have HC:=Aa h1;have M:=M.trans m1;clear h1;have fe:=he.move M;have ft:=ht.move M;have fc:=hc.move M;have ce:=fe.c0;have ct:=ft.c0;have cc:=fc.c0;have cA:=HC.out.ca;have cN:=HC.out.cn;have fz:=hf.move M;have cS:=HC.out.ts;rw[hX1t]at cS;skip)
 try go_wp2_with fail
 refine AK hK (by exact⟨ce,ct,cA,cS⟩) (h:=fun hHeld=>?_);clear hK K
 refine wpAnyH_done (by kernel_rfl) ?_ _
 skip
 have q0:_=some (Value.int .i64 r.e):=fz.1.cell 0
 have q1:_=some (Value.int .i64 r.value):=fz.1.cell 1
 have q2:_=some (Value.slice pa r.pairs.length pc):=fz.1.cell 2
 have q3:_=some (Value.int .i64 r.over):=fz.1.cell 3
 have q4:_=some (Value.int .i64 r.reason):=fz.1.cell 4
 have CF:=IY HC.out r pa pc HR1.out
 unfold I0 at CF
 go_wp2_with fail
 refine(CF).mono ?_
 rintro e9 w9 r9
 obtain⟨v9,rfl⟩:=r9.ret
 have HS:=Aa (r9.comp M (At.refl A S))
 clear r9
 go_wp2_with fail
 go_ret
 rw[HR.out]
 exact HS.out
theorem Ng{B N:Nat}{w:World}{P Q R:Nat→Prop}{A:EA}{Ke:EK}{S:SA}{nx:Value}{X:Cx}(h:CX B w P Q R A Ke S nx X)(hN:Ax N X)(y:Cs)(l:List Cs)(r:Dt){a e t c z:Nat}(he:An w P Q R e 39 #[bp A.e])(ht:An w P Q R t 96 #[bp S.t])(hc:An w P Q R c 101 #[bp S.c])(ha:bL w P Q R a (y::l))(hz:bR w P Q R S X z r):
 Calls Tryz.prog 169 #[bp a,bp e,bp t,bp c,bp z] w (Ak B w P Q R A Ke S nx (Ay X (.turns (y::l) r)).1 (Ay X (.turns (y::l) r)).2):=by
 have HC0:=Aa h
 have HN:=Aa hN
 obtain⟨pa,pc,hf,hr⟩:=hz
 obtain⟨sa,kp,ha,hc1,hc2,hta⟩:=ha
 rw[List.length_cons]at ha hc1
 obtain⟨tg,off,rfl,t0,t1,t2⟩:=hta.first
 have HTA:=Aa hta
 have HR1:Hid (∀(X1:Cx),X1.c=X.c→EC S X1 r pa pc):=Aa (fun X1 e=>by unfold EC;rw[e];exact hr)
 obtain⟨n,hn⟩:=Aq (l.length)
 rw[hn]at ha hc1
 have HLN:=Aa hn
 have HR:Hid (Ay X (.turns (y::l) r)=(X.setA (if y.old=0 then X.sh.a.store y.at_ y.new else X.sh.a.cas y.at_ y.old y.new),some (.turns l r))):=Aa rfl
 have ca:=Ae w a 0 (.slice (some ⟨tg,off*3,none⟩) (n+1) kp) ha.c0
 have f0:=An.new' h w.heap.size rfl 259 #[y.at_,.int .u64 y.old,.int .u64 y.new]
 obtain⟨W,hW⟩:=Ad (w.alloc (.cells #[y.at_,.int .u64 y.old,.int .u64 y.new] 259))
 obtain⟨bv,hbv⟩:=Ad w.heap.size
 have oW:Ac w W:=by rw[hW];exact(Ac.refl w).alloc _
 rw[←hW,←hbv]at f0
 have HBV:=Aa hbv
 have MW:=Ag.only0 P Q oW
 have HCW:=Aa (h.only0 oW)
 have v1:=Ae W bv 1 (.int .u64 y.old) (f0.1.cell 1)
 clear h hN hr hta oW hbv hn
 by_cases h0:y.old=0
 ·have b0:(y.old==0)=true:=by simpa using h0
  obtain⟨X1,hX1⟩:=Aq (X.setA (X.sh.a.store y.at_ y.new))
  have hX1c:X1.c=X.c:=by rw[←hX1];rfl
  have HRR:Hid (Ay X (.turns (y::l) r)=(X1,some (.turns l r))):=Aa (by rw[HR.out,if_pos h0,←hX1])
  have H0:=Aa h0
  clear h0
  go_enter Tryz.func169,Tryz.ntmps169
  go_upto_region 2 with(fail)
  rw[←hW,←HBV.out]
  clear hW
  go_upto_region 3 with(fail)
  have HC:=Aa HCW.out.drew
  have M:=MW.trans (Ag.only0 P Q ((Ac.refl W).drew))
  have fe:=he.move M
  have ft:=ht.move M
  have fc:=hc.move M
  have ce:=fe.c0
  have ct:=ft.c0
  have cc:=fc.c0
  have cA:=HC.out.ca
  have cN:=HC.out.cn
  have fz:=hf.move M
  have fa:=ha.move M
  have ca:=fa.c0
  have fv:=f0.move (Ag.only0 P Q ((Ac.refl W).drew))
  have v0_:=Ae W.drew bv 0 (.int .i64 y.at_) (fv.1.cell 0)
  have v1_:=Ae W.drew bv 1 (.int .u64 y.old) (fv.1.cell 1)
  have v2_:=Ae W.drew bv 2 (.int .u64 y.new) (fv.1.cell 2)
  refine wp_region_held_drew (S:=(fun w'=>Ab w' e 0 (bp A.e)∧Ab w' A.e 2 (bp A.a)∧Ab w' bv 0 (.int .i64 y.at_)∧Ab w' bv 2 (.int .u64 y.new))) (by kernel_rfl) ?_ (fun hHeld=>?_)
  ·exact⟨ce,cA,v0_,v2_⟩
  refine Af 0 (h:=Af 1 (h:=Af 2 (h:=Af 3 (h:=Af 4 (h:=Af 5 (h:=Af 6 (h:=Af 7 (h:=Ar (i:=8) (h:=fun K hK=>?_)))))))))
  go_simp
  (refine(CY HC.out _ _).mono ?_;rw[hX1];rintro e1 w1 ⟨rfl,h1,m1⟩;have HC:=Aa h1;have M:=M.trans m1;clear h1;have fe:=he.move M;have ft:=ht.move M;have fc:=hc.move M;have ce:=fe.c0;have ct:=ft.c0;have cc:=fc.c0;have cA:=HC.out.ca;have cN:=HC.out.cn;have fz:=hf.move M;have fa:=ha.move M;have ca:=fa.c0;skip;have fv:=fv.move m1;have v0_:=Ae w1 bv 0 (.int .i64 y.at_) (fv.1.cell 0);have v1_:=Ae w1 bv 1 (.int .u64 y.old) (fv.1.cell 1);have v2_:=Ae w1 bv 2 (.int .u64 y.new) (fv.1.cell 2))
  try go_wp2_with fail
  refine AK hK (by exact⟨ce,cA,v0_,v2_⟩) (h:=fun hHeld=>?_);clear hK K
  exact UR
 ·have b0:(y.old==0)=false:=by simpa using h0
  obtain⟨X1,hX1⟩:=Aq (X.setA (X.sh.a.cas y.at_ y.old y.new))
  have hX1c:X1.c=X.c:=by rw[←hX1];rfl
  have HRR:Hid (Ay X (.turns (y::l) r)=(X1,some (.turns l r))):=Aa (by rw[HR.out,if_neg h0,←hX1])
  have H0:=Aa h0
  clear h0
  go_enter Tryz.func169,Tryz.ntmps169
  go_upto_region 2 with(fail)
  rw[←hW,←HBV.out]
  clear hW
  go_upto_region 4 with(fail)
  have HC:=Aa HCW.out.drew
  have M:=MW.trans (Ag.only0 P Q ((Ac.refl W).drew))
  have fe:=he.move M
  have ft:=ht.move M
  have fc:=hc.move M
  have ce:=fe.c0
  have ct:=ft.c0
  have cc:=fc.c0
  have cA:=HC.out.ca
  have cN:=HC.out.cn
  have fz:=hf.move M
  have fa:=ha.move M
  have ca:=fa.c0
  have fv:=f0.move (Ag.only0 P Q ((Ac.refl W).drew))
  have v0_:=Ae W.drew bv 0 (.int .i64 y.at_) (fv.1.cell 0)
  have v1_:=Ae W.drew bv 1 (.int .u64 y.old) (fv.1.cell 1)
  have v2_:=Ae W.drew bv 2 (.int .u64 y.new) (fv.1.cell 2)
  refine wp_region_held_drew (S:=(fun w'=>Ab w' e 0 (bp A.e)∧Ab w' A.e 2 (bp A.a)∧Ab w' bv 0 (.int .i64 y.at_)∧Ab w' bv 1 (.int .u64 y.old)∧Ab w' bv 2 (.int .u64 y.new))) (by kernel_rfl) ?_ (fun hHeld=>?_)
  ·exact⟨ce,cA,v0_,v1_,v2_⟩
  refine Af 0 (h:=Af 1 (h:=Af 2 (h:=Af 3 (h:=Af 4 (h:=Af 5 (h:=Af 6 (h:=Af 7 (h:=Af 8 (h:=Af 9 (h:=Ar (i:=10) (h:=fun K hK=>?_)))))))))))
  go_simp
  (refine(Gr HC.out _ _ _).mono ?_;rw[hX1];generalize X.sh.a.casOk y.at_ y.old=ok9;rintro e1 w1 ⟨rfl,h1,m1⟩;have HC:=Aa h1;have M:=M.trans m1;clear h1;have fe:=he.move M;have ft:=ht.move M;have fc:=hc.move M;have ce:=fe.c0;have ct:=ft.c0;have cc:=fc.c0;have cA:=HC.out.ca;have cN:=HC.out.cn;have fz:=hf.move M;have fa:=ha.move M;have ca:=fa.c0;skip;have fv:=fv.move m1;have v0_:=Ae w1 bv 0 (.int .i64 y.at_) (fv.1.cell 0);have v1_:=Ae w1 bv 1 (.int .u64 y.old) (fv.1.cell 1);have v2_:=Ae w1 bv 2 (.int .u64 y.new) (fv.1.cell 2))
  try go_wp2_with fail
  refine AK hK (by exact⟨ce,cA,v0_,v1_,v2_⟩) (h:=fun hHeld=>?_);clear hK K
  exact UR
end
section
attribute [local go_sem ↓] Go.wp_at_zero Go.wp_at_succ
theorem IV:(Tryz.prog.info? 259).map (fun i=>(i.zero,i.size,i.bytes))=some (some (.agg #[.int .i64 0,.int .u64 0,.int .u64 0]),3,24):=by kernel_rfl
theorem Ky(l:List Cs)(r:Cs):El (l++[r])=El l++[.int .i64 r.at_,.int .u64 r.old,.int .u64 r.new]:=by
 unfold El
 exact U7
structure Eo(B:Nat)(w0 w:World)(acc:List Cs)(m:Nat)(a:Option Addr)(c:Nat):Prop where
 o:Ac w0 w
 row:w.ownsRow B 259 3 (.slice a m c) m (El acc)
 len:acc.length=m
 new:∀b,AA (.slice a m c) b→w0.heap.size≤b
 hB:B≤w.heap.size
theorem Eo.nil{B:Nat}{w:World}(h:B≤w.heap.size):Eo B w w [] 0 none 0:=⟨Ah.refl _ _,World.ownsRow_nil _ _ _ _,rfl,fun b hb=>absurd hb (Ce _ _ _),h⟩
theorem Eo.draw{B:Nat}{w0 w:World}{acc:List Cs}{m:Nat}{a:Option Addr}{c:Nat}(h:Eo B w0 w acc m a c):Eo B w0 w.drew acc m a c:=⟨h.o.drew,AO h.row (Aw.zero ((Ac.refl w).drew) []) (by simp),h.len,h.new,h.hB⟩
theorem Eo.app{B:Nat}{w0 w w6 w1:World}{acc:List Cs}{m:Nat}{a:Option Addr}{c:Nat}(h:Eo B w0 w acc m a c)(o6:Ac w w6)(x:Cs){gg cap:Nat}
 (hown:w1.ownsRow B 259 3 (.slice (some ⟨gg,0,none⟩) (m+1) cap) (m+1) (El acc++[.int .i64 x.at_,.int .u64 x.old,.int .u64 x.new])) (hg:w6.grownBy w1 (Value.slice a m c).ownBlock)
 (hat:(Value.slice a m c).ownBlock=some gg∨w6.heap.size≤gg):Eo B w0 w1 (acc++[x]) (m+1) (some ⟨gg,0,none⟩) cap:=by
 have o1:=Ah.grownRow hg
 have s0:=h.o.size
 have s1:=o6.size
 have s2:=o1.size
 refine⟨⟨o1.os.trans (o6.os.trans h.o.os),o1.tape.trans (o6.tape.trans h.o.tape),o1.output.trans (o6.output.trans h.o.output),by omega,fun b hb _=>?_⟩,by rw[Ky];exact hown,by rw[List.length_append,h.len];rfl,fun b hb=>?_,by have:=h.hB;omega⟩
 ·rw[o1.block b (by omega) (fun e=>by have:=h.new b e;omega),o6.block b (by omega) (fun hf=>hf),h.o.block b hb (fun hf=>hf)]
 ·have e:=AE.1 hb
  subst e
  rcases hat with e|e
  ·exact h.new b e
  ·omega
theorem Eo.turns{B:Nat}{w0 w:World}{P Q R:Nat→Prop}{acc:List Cs}{m:Nat}{a:Option Addr}{c:Nat}(h:Eo B w0 w acc m a c)(hp:Bo P w0.heap.size)(hq:Bo Q w0.heap.size)(hr:Bo R w0.heap.size):Co w P Q R a acc∧m≤c∧c≤9223372036854775807:=by
 have hrow:=h.row
 rcases hrow.2 with⟨hv,h0⟩|⟨g,cap,cur,hv,hbg,hg,hnc,hcm,hcs,htake⟩
 ·injection hv with e1 e2 e3
  refine⟨.inl (List.eq_nil_of_length_eq_zero (by rw[h.len];omega)),by omega,by omega⟩
 ·injection hv with e1 e2 e3
  subst e1 e3
  have hn:=h.new g (AE.2 rfl)
  refine⟨.inr ⟨g,0,rfl,fun hx=>by have:=hp g hx;omega,fun hx=>by have:=hq g hx;omega,fun hx=>by have:=hr g hx;omega,(hrow.lt g (AE.2 rfl)).2,fun i hi=>?_⟩,hnc,by unfold maxLen at hcm;omega⟩
  have hl:(El acc).length=m*3:=by unfold El;rw[BF (w:=3) (fun i=>rfl),h.len]
  have hi':i<m:=by rw[←h.len];exact hi
  have G:=fun f (hf:f<3)=>Bu (w:=3) (c:=fun i=>[Value.int .i64 (acc.getD i ⟨0,0,0⟩).at_,.int .u64 (acc.getD i ⟨0,0,0⟩).old,.int .u64 (acc.getD i ⟨0,0,0⟩).new]) (fun i=>rfl) acc.length i f hi hf
  rw[show(0+i)*3=i*3 by omega]
  refine⟨?_,?_,?_⟩
  ·rw[hrow.cellAt (i*3) (by omega)];exact G 0 (by decide)
  ·rw[hrow.cellAt (i*3+1) (by omega)];exact G 1 (by decide)
  ·rw[hrow.cellAt (i*3+2) (by omega)];exact G 2 (by decide)
def Db(x:Dh)(fn:Int):List Cs:=if x.own≠0 then⟨Al x.own 0,0,fn⟩::(if x.there then[]else[⟨Al x.own 1,0,fn⟩])else[]
def Gg(x:Dh)(fn:Int):List Cs:=if x.old≠0 then[⟨Al x.old 1,0,fn⟩]else[]
def Fm(x:Dh)(id:Int):List Cs:=if x.old≠0 then[⟨Al x.old 1,BA id,Bj⟩]else[]
theorem GB(t:Dq):∀l1 l2:List Nat,Bs t (l1++l2)=Bs t l1++Bs t l2
 |[],l2=>rfl
 |k::l1,l2=>by show _++Bs t (l1++l2)=_;rw[GB t l1 l2];show _=(_++Bs t l1)++Bs t l2;rw[List.append_assoc]
theorem Hc(t:Dq):∀l1 l2:List Nat,BM t (l1++l2)=BM t l1++BM t l2
 |[],l2=>rfl
 |k::l1,l2=>by show _++BM t (l1++l2)=_;rw[Hc t l1 l2];show _=(_++BM t l1)++BM t l2;rw[List.append_assoc]
theorem Kf{l:List Nat}{q:Nat}(h:q<l.length):l.take (q+1)=l.take q++[l.getD q 0]:=by
 rw[List.take_add_one,List.getElem?_eq_getElem h,List.getD_eq_getElem?_getD,List.getElem?_eq_getElem h];rfl
theorem Jb{t:Dq}{q:Nat}(h:q<t.keys.length){x:Dh}(hx:t.cells (t.keys.getD q 0)=some x):Bs t (t.keys.take (q+1))=(Bs t (t.keys.take q)++Db x (Es t.fin))++Gg x (Es t.fin):=by
 rw[Kf h,GB]
 show Bs t (t.keys.take q)++(_++[])=_
 rw[List.append_nil,List.append_assoc,hx]
 rfl
theorem JO{t:Dq}{q:Nat}(h:q<t.keys.length){x:Dh}(hx:t.cells (t.keys.getD q 0)=some x):BM t (t.keys.take (q+1))=BM t (t.keys.take q)++Fm x t.id:=by
 rw[Kf h,Hc]
 show BM t (t.keys.take q)++(_++[])=_
 rw[List.append_nil,hx]
 rfl
section
variable {B:Nat} {w:World} {P Q R:Nat→Prop} {A:EA} {Ke:EK} {S:SA} {nx:Value} {X:Cx}
theorem CX.tk6(h:CX B w P Q R A Ke S nx X):w.cell? ⟨S.t,6,none⟩=some (.slice S.ka X.t.keys.length S.kc):=h.tx.blk.cell 6
theorem CX.tfn(h:CX B w P Q R A Ke S nx X):w.cell? ⟨S.t,4,none⟩=some (.int .u64 X.t.fin):=h.tx.blk.cell 4
theorem CX.key0(h:CX B w P Q R A Ke S nx X){i:Nat}(hi:i<X.t.keys.length):∃g,S.ka=some ⟨g,0,none⟩:=by
 rcases h.tx.keys.2 with⟨e,h0⟩|⟨g,cap,cur,hv,_⟩
 ·omega
 ·injection hv with e1 e2 e3;exact⟨g,e1⟩
theorem CX.keyc(h:CX B w P Q R A Ke S nx X){g i:Nat}(hg:S.ka=some ⟨g,0,none⟩)(hi:i<X.t.keys.length):w.cell? ⟨g,i,none⟩=some (.int .i64 ((X.t.keys.getD i 0:Nat):Int)):=by
 have hb:=h.tx.keys
 rw[hg]at hb
 rw[hb.cellAt i (by simp[Dz];exact hi)]
 exact Pw hi
end
theorem MF{B N:Nat}{w:World}{P Q R:Nat→Prop}{A:EA}{Ke:EK}{S:SA}{nx:Value}{X:Cx}(h:CX B w P Q R A Ke S nx X)(hN:Ax N X)(hB9:N≤100000000){e t c:Nat}(he:An w P Q R e 39 #[bp A.e])(ht:An w P Q R t 96 #[bp S.t])(hc:An w P Q R c 101 #[bp S.c]):
 Calls Tryz.prog 213 #[bp e,bp t,bp c] w (Ak B w P Q R A Ke S nx (Ay X (.commit)).1 (Ay X (.commit)).2):=by
 have HC0:=Aa h
 have HN:=Aa hN
 have i1:=hN.tx.id1
 have i2:=hN.tx.id2
 have e1:=hN.tx.fin.1
 have e2:=hN.tx.fin.2
 have hkl:=hN.tx.klen
 have s1:0≤X.sh.slots:=by have:=hN.sh.n1;omega
 have s2:=hN.sh.n2
 have hpl:∀id:Int,73+X.sh.slots*3+id=X.place id:=fun _=>rfl
 obtain⟨X1,hX1⟩:=Aq (X.setA (X.sh.a.store (X.place X.t.id) (Bc 3 X.t.fin)))
 have hX1t:X1.t=X.t:=by rw[←hX1];rfl
 have hX1c:X1.c=X.c:=by rw[←hX1];rfl
 have hX1l:X1.sh.tale.length≤1000000000:=by rw[←hX1];have:=hN.sh.tlen;show X.sh.tale.length≤_;omega
 obtain⟨X2,hX2⟩:=Aq (X1.over (.mk3 5 X.t.id 0))
 have hX2c:X2.c=X.c:=by rw[←hX2];unfold Cx.over;split<;>exact hX1c
 have hX2t:X2.t.keys=X.t.keys∧X2.t.cells=X.t.cells∧X2.t.fin=X.t.fin∧X2.t.id=X.t.id:=by rw[←hX2];unfold Cx.over;split<;>(rw[←hX1t];exact⟨rfl,rfl,rfl,rfl⟩)
 obtain⟨t1_,t2_,t3_,t4_⟩:=hX2t
 have HKY:=Aa hN.tx.keys
 have HCE:=Aa hN.tx.cell
 have HR:Hid (Ay X .commit=(X2,some (.turns (Bs X.t X.t.keys) ⟨0,0,[],3,0⟩))):=Aa (by rw[←hX2,←hX1];rfl)
 have etw:Es X.t.fin=X.t.fin:=by unfold Es;rw[if_pos e2]
 clear h hN
 go_enter Tryz.func213,Tryz.ntmps213
 go_upto_region 1 with(fail)
 have HC:=Aa HC0.out.drew
 have M:=Ag.only0 P Q ((Ac.refl w).drew)
 have fe:=he.move M
 have ft:=ht.move M
 have fc:=hc.move M
 have ce:=fe.c0
 have ct:=ft.c0
 have cc:=fc.c0
 have cA:=HC.out.ca
 have cN:=HC.out.cn
 first|have cI:=(show _=some (Value.int .i64 X.t.id) from HC.out.ti)|have cI:=(show _=some (Value.int .i64 X.t.id) from hX1t▸HC.out.ti)
 first|have cF:=(show _=some (Value.int .u64 X.t.fin) from HC.out.tfn)|have cF:=(show _=some (Value.int .u64 X.t.fin) from hX1t▸HC.out.tfn)
 refine wp_region_held_drew (S:=(fun w'=>Ab w' e 0 (bp A.e)∧Ab w' t 0 (bp S.t)∧Ab w' A.e 2 (bp A.a)∧Ab w' S.t 0 (.int .i64 X.t.id)∧Ab w' S.t 4 (.int .u64 X.t.fin))) (by kernel_rfl) ?_ (fun hHeld=>?_)
 ·exact⟨ce,ct,cA,cI,cF⟩
 refine Af 0 (h:=Af 1 (h:=Af 2 (h:=Af 3 (h:=Af 4 (h:=Af 5 (h:=Af 6 (h:=Af 7 (h:=Af 8 (h:=Af 10 (h:=Af 11 (h:=Af 12 (h:=?_))))))))))))
 refine Af 13 (h:=Ar (i:=9) (h:=fun K hK=>?_))
 go_simp
 (refine(BS A.e X.sh.slots X.t.id _ cN s1 s2 (by omega) (by omega)).mono ?_;rintro e1 w1 ⟨rfl,rfl⟩)
 try go_wp2_with fail
 refine AK hK (by exact⟨ce,ct,cA,cI,cF⟩) (h:=fun hHeld=>?_);clear hK K
 refine Ar (i:=14) (h:=fun K hK=>?_)
 try simp only[List.getElem_toArray,List.getElem_cons_zero,List.getElem_cons_succ]
 go_simp
 (refine(EW 3 X.t.fin _ (by omega) (by omega) e1 (by omega)).mono ?_;rintro e1 w1 ⟨rfl,rfl⟩)
 try go_wp2_with fail
 refine AK hK (by exact⟨ce,ct,cA,cI,cF⟩) (h:=fun hHeld=>?_);clear hK K
 refine Ar (i:=15) (h:=fun K hK=>?_)
 try simp only[List.getElem_toArray,List.getElem_cons_zero,List.getElem_cons_succ]
 go_simp
 (refine(CY HC.out _ _).mono ?_;rw[hX1];rintro e1 w1 ⟨rfl,h1,m1⟩;have HC:=Aa h1;have M:=M.trans m1;clear h1;have fe:=he.move M;have ft:=ht.move M;have fc:=hc.move M;have ce:=fe.c0;have ct:=ft.c0;have cc:=fc.c0;have cA:=HC.out.ca;have cN:=HC.out.cn;first|have cI:=(show _=some (Value.int .i64 X.t.id) from HC.out.ti)|have cI:=(show _=some (Value.int .i64 X.t.id) from hX1t▸HC.out.ti);first|have cF:=(show _=some (Value.int .u64 X.t.fin) from HC.out.tfn)|have cF:=(show _=some (Value.int .u64 X.t.fin) from hX1t▸HC.out.tfn);skip)
 try go_wp2_with fail
 refine AK hK (by exact⟨ce,ct,cA,cI,cF⟩) (h:=fun hHeld=>?_);clear hK K
 refine wpAnyH_done (by kernel_rfl) ?_ _
 skip
 go_upto_region 2 with(fail)
 have m9:=Ag.only0 P Q ((Ac.refl w1).drew)
 have M:=M.trans m9
 have HC:=Aa HC.out.drew
 clear m9
 have fe:=he.move M
 have ft:=ht.move M
 have fc:=hc.move M
 have ce:=fe.c0
 have ct:=ft.c0
 have cc:=fc.c0
 have cA:=HC.out.ca
 have cN:=HC.out.cn
 first|have cI:=(show _=some (Value.int .i64 X.t.id) from HC.out.ti)|have cI:=(show _=some (Value.int .i64 X.t.id) from hX1t▸HC.out.ti)
 first|have cF:=(show _=some (Value.int .u64 X.t.fin) from HC.out.tfn)|have cF:=(show _=some (Value.int .u64 X.t.fin) from hX1t▸HC.out.tfn)
 refine wp_region_held_drew (S:=(fun w'=>Ab w' e 0 (bp A.e)∧Ab w' t 0 (bp S.t)∧Ab w' S.t 0 (.int .i64 X.t.id))) (by kernel_rfl) ?_ (fun hHeld=>?_)
 ·exact⟨ce,ct,cI⟩
 refine Af 0 (h:=Af 1 (h:=Af 2 (h:=Af 3 (h:=Af 4 (h:=Af 5 (h:=Af 6 (h:=Ar (i:=7) (h:=fun K hK=>?_))))))))
 go_simp
 (refine(JD HC.out hX1l (.mk3 5 X.t.id 0) rfl).mono ?_;rintro e9 w9 ⟨rfl,P9,A9,h9,m9,k9⟩;rw[hX2]at h9;have HC9:=Aa h9;have M9:=M.trans m9;have K9:=Aa k9;have fe:=fe.move m9;have ft:=ft.move m9;have fc:=fc.move m9;have ce:=fe.c0;have ct:=ft.c0;have cc:=fc.c0;have cI:=Ae w9 S.t 0 (.int .i64 X.t.id) ((by have q:=h9.ti;rw[t4_]at q;exact q));clear h9 m9 k9)
 try go_wp2_with fail
 refine AK hK (by exact⟨ce,ct,cI⟩) (h:=fun hHeld=>?_);clear hK K
 refine wpAnyH_done (by kernel_rfl) ?_ _
 skip
 have cF:=HC9.out.tfn
 have c6:=HC9.out.tk6
 rw[t3_]at cF
 rw[t1_]at c6
 go_wp2_with fail
 refine(LU X.t.fin _ e2).mono ?_
 rintro e1_ w1_ ⟨rfl,rfl⟩
 obtain⟨i0,hi0,hz0,hz1,hz2⟩:=info_parts IV
 have HR0:=Aa (Eo.nil HC9.out.hB)
 obtain⟨n,hn⟩:=Aq (X.t.keys.length)
 rw[hn]at c6 hkl
 have HNN:=Aa hn
 have hUP:=HC9.out.uP
 have hUQ:=HC9.out.uQ
 have hUR:=HC9.out.uR
 have HU:=Aa (And.intro hUP (And.intro hUQ hUR))
 clear hUP hUQ hUR hn
 go_wp2_with fail
 go_loopw [6,47] (fun s6 s47 wr=>∃(q m:Nat) (a:Option Addr) (c:Nat),q≤n∧m≤3*q∧s6= .slice a m c∧s47= .int .i64 q∧Hid (Eo B w9 wr (Bs X.t (X.t.keys.take q)) m a c)) (fun _ i _=>n-(intOf i).toNat)
 case atStart=>exact⟨0,0,none,0,by omega,by omega,rfl,rfl,by rw[List.take_zero];exact HR0⟩
 case round=>
  obtain⟨q,m,a,cp,hq,hm,rfl,rfl,HRr⟩:=hrel
  by_cases hlt:q<n
  ·skip
   have hqk:q<X.t.keys.length:=by rw[HNN.out];exact hlt
   have hCr:=HC9.out.only0 HRr.out.o
   obtain⟨kg,hkg⟩:=hCr.key0 (i:=q) (by rw[t1_];exact hqk)
   have ckq:=hCr.keyc hkg (by rw[t1_];exact hqk)
   rw[t1_]at ckq
   have hmem:X.t.keys.getD q 0∈X.t.keys:=by rw[List.getD_eq_getElem?_getD,List.getElem?_eq_getElem hqk];exact List.getElem_mem _
   obtain⟨x,hx⟩:=Option.isSome_iff_exists.1 (HKY.out _ hmem)
   have HTT:=Aa (Jb hqk hx)
   rw[etw]at HTT
   obtain⟨k,hk⟩:=Aq (X.t.keys.getD q 0)
   rw[hk]at ckq hx
   have hce:=HCE.out k x hx
   have LK:=hCr.lk k (by omega)
   unfold H_ at LK
   rw[t2_,hx]at LK
   simp only[Option.map_some]at LK
   obtain⟨y0,y1,y2⟩:=hCr.celc (k:=k) (by rw[t2_];exact hx)
   have cTr:=Ae wr S.t 7 (.map (some S.m)) hCr.tm
   have ctr:=Ae wr t 0 (bp S.t) ((Ai HRr.out.o ct))
   have l0:=hce.2.1.1
   have l1:=hce.2.2.1.1
   have HY:=Aa (fun(wz:World) (oz:Ac w9 wz)=>(HC9.out.only0 oz).celc (k:=k) (x:=x) (by rw[t2_];exact hx))
   rw[hkg]
   obtain⟨acc,hacc⟩:=Aq (Bs X.t (X.t.keys.take q))
   rw[hacc]at HRr HTT
   clear hacc hce hCr hqk hk hkg hmem
   obtain⟨own,old,th⟩:=x
   dsimp only at y0 y1 y2 l0 l1 HY
   have HX:=Aa hx
   clear hx
   go_upto_if 61 with(fail)
   go_cut [6] (fun s6 wx=>∃(m1:Nat) (a1:Option Addr) (c1:Nat),m1≤3*q+2∧s6= .slice a1 m1 c1∧Hid (Eo B w9 wx (acc++Db ⟨own,old,th⟩ X.t.fin) m1 a1 c1))
   case first=>
    by_cases h0:own=0
    ·subst h0
     have HZ:Hid (Eo B w9 wr (acc++Db ⟨0,old,th⟩ X.t.fin) m a cp):=Aa (by rw[show Db ⟨0,old,th⟩ X.t.fin=[] from by simp[Db],List.append_nil];exact HRr.out)
     go_wp2_with fail
     go_meet
     case rel=>exact⟨m,a,cp,by omega,rfl,HZ⟩
    ·have b0:(own==0)=false:=by simpa using h0
     have b1:(own != 0)=true:=by simpa using h0
     have H0:=Aa h0
     clear h0
     go_wp2_with fail
     refine(Bb own 0 _ l0 (by omega) (by omega)).mono ?_
     rintro e3 w3 ⟨rfl,rfl⟩
     have o6:=(Ac.refl (wr)).alloc (.cells #[.int .i64 (Al own 0),.int .u64 (0),.int .u64 (X.t.fin)] 259)
     have R6:=AO HRr.out.row (Aw.zero o6 []) (by simp)
     have hB6:B≤((wr).alloc (.cells #[.int .i64 (Al own 0),.int .u64 (0),.int .u64 (X.t.fin)] 259)).heap.size:=Nat.le_trans HRr.out.hB o6.size
     have HE:=Aa (fun(ggn capn:Nat) (w1:World) (h1:w1.ownsRow B 259 3 (.slice (some ⟨ggn,0,none⟩) (m+1) capn) (m+1) (El (acc)++[.int .i64 (Al own 0),.int .u64 (0),.int .u64 (X.t.fin)])) (h2:((wr).alloc (.cells #[.int .i64 (Al own 0),.int .u64 (0),.int .u64 (X.t.fin)] 259)).grownBy w1 (Value.slice a m cp).ownBlock) (h3:(Value.slice a m cp).ownBlock=some ggn∨ggn=(wr).heap.size+1)=>HRr.out.app o6 ⟨Al own 0,0,X.t.fin⟩ h1 h2 (h3.imp (fun x=>x) (fun e=>by rw[e];simp)))
     clear o6
     go_wp2_with (at_builtin;refine wpList_append_lies _ rfl _ _ 257 rfl B 259 i0 _ 3 24 Tryz.underlying257 hi0 hz0 hz1 hz2 rfl (by omega) (.slice a m cp) m (El (acc)) rfl R6 ⟨(wr).heap.size,0,none⟩ 1 1 [.int .i64 (Al own 0),.int .u64 0,.int .u64 X.t.fin] rfl rfl (World.news_of_block (cs:=#[.int .i64 (Al own 0),.int .u64 0,.int .u64 X.t.fin]) (t:=259) (fr:=(0,0)) (heap_alloc_new (wr) _)) (by simp[Value.oneCell']) (by omega) (by unfold maxLen;omega) (by omega) hB6 ((wr).heap.size+1) (by simp) ?_)
     intro gg cap w4 hown hgrow hat hlt4
     have HR4:=Aa (HE.out gg cap w4 hown hgrow hat)
     clear hown hgrow hat hlt4 R6 hB6 HE
     obtain⟨y04,y14,y24⟩:=HY.out w4 HR4.out.o
     cases th with
     |true=>
      have HZ:Hid (Eo B w9 w4 (acc++Db ⟨own,old,true⟩ X.t.fin) (m+1) (some ⟨gg,0,none⟩) cap):=Aa (by rw[show Db ⟨own,old,true⟩ X.t.fin=[⟨Al own 0,0,X.t.fin⟩] from by simp[Db,H0.out]];exact HR4.out)
      go_wp2_with fail
      go_meet
      case rel=>exact⟨m+1,_,_,by omega,rfl,HZ⟩
     |false=>
      go_wp2_with fail
      refine(Bb own 1 _ l0 (by omega) (by omega)).mono ?_
      rintro e3 w3 ⟨rfl,rfl⟩
      have o6:=(Ac.refl (w4)).alloc (.cells #[.int .i64 (Al own 1),.int .u64 (0),.int .u64 (X.t.fin)] 259)
      have R6:=AO HR4.out.row (Aw.zero o6 []) (by simp)
      have hB6:B≤((w4).alloc (.cells #[.int .i64 (Al own 1),.int .u64 (0),.int .u64 (X.t.fin)] 259)).heap.size:=Nat.le_trans HR4.out.hB o6.size
      have HE:=Aa (fun(ggn capn:Nat) (w1:World) (h1:w1.ownsRow B 259 3 (.slice (some ⟨ggn,0,none⟩) ((m+1)+1) capn) ((m+1)+1) (El (acc++[⟨Al own 0,0,X.t.fin⟩])++[.int .i64 (Al own 1),.int .u64 (0),.int .u64 (X.t.fin)])) (h2:((w4).alloc (.cells #[.int .i64 (Al own 1),.int .u64 (0),.int .u64 (X.t.fin)] 259)).grownBy w1 (Value.slice (some ⟨gg,0,none⟩) (m+1) cap).ownBlock) (h3:(Value.slice (some ⟨gg,0,none⟩) (m+1) cap).ownBlock=some ggn∨ggn=(w4).heap.size+1)=>HR4.out.app o6 ⟨Al own 1,0,X.t.fin⟩ h1 h2 (h3.imp (fun x=>x) (fun e=>by rw[e];simp)))
      clear o6
      go_wp2_with (at_builtin;refine wpList_append_lies _ rfl _ _ 257 rfl B 259 i0 _ 3 24 Tryz.underlying257 hi0 hz0 hz1 hz2 rfl (by omega) (.slice (some ⟨gg,0,none⟩) (m+1) cap) (m+1) (El (acc++[⟨Al own 0,0,X.t.fin⟩])) rfl R6 ⟨(w4).heap.size,0,none⟩ 1 1 [.int .i64 (Al own 1),.int .u64 0,.int .u64 X.t.fin] rfl rfl (World.news_of_block (cs:=#[.int .i64 (Al own 1),.int .u64 0,.int .u64 X.t.fin]) (t:=259) (fr:=(0,0)) (heap_alloc_new (w4) _)) (by simp[Value.oneCell']) (by omega) (by unfold maxLen;omega) (by omega) hB6 ((w4).heap.size+1) (by simp) ?_)
      intro gg5 cap5 w5 hown hgrow hat hlt4
      have HR5:=Aa (HE.out gg5 cap5 w5 hown hgrow hat)
      clear hown hgrow hat hlt4 R6 hB6 HE
      have HZ:Hid (Eo B w9 w5 (acc++Db ⟨own,old,false⟩ X.t.fin) (m+1+1) (some ⟨gg5,0,none⟩) cap5):=Aa (by rw[show Db ⟨own,old,false⟩ X.t.fin=[⟨Al own 0,0,X.t.fin⟩]++[⟨Al own 1,0,X.t.fin⟩] from by simp[Db,H0.out],←List.append_assoc];exact HR5.out)
      go_wp2_with fail
      go_meet
      case rel=>exact⟨m+1+1,_,_,by omega,rfl,HZ⟩
   case rest=>
    obtain⟨m1,a1,c1,hm1,rfl,HRc⟩:=hcut
    obtain⟨y05,y15,y25⟩:=HY.out wc HRc.out.o
    obtain⟨acc1,hacc1⟩:=Aq (acc++Db ⟨own,old,th⟩ X.t.fin)
    rw[hacc1]at HRc HTT
    clear hacc1
    by_cases h0:old=0
    ·subst h0
     have HZ:Hid (Eo B w9 wc (Bs X.t (X.t.keys.take (q+1))) m1 a1 c1):=Aa (by rw[HTT.out,show Gg ⟨own,0,th⟩ X.t.fin=[] from by simp[Gg],List.append_nil];exact HRc.out)
     go_wp2_with fail
     go_roundw
     case rel=>exact⟨q+1,m1,a1,c1,by omega,by omega,rfl,by go_num,HZ⟩
     case measure=>simp[intOf];omega
    ·have b0:(old==0)=false:=by simpa using h0
     have b1:(old != 0)=true:=by simpa using h0
     have H0:=Aa h0
     clear h0
     go_wp2_with fail
     refine(Bb old 1 _ l1 (by omega) (by omega)).mono ?_
     rintro e3 w3 ⟨rfl,rfl⟩
     have o6:=(Ac.refl (wc)).alloc (.cells #[.int .i64 (Al old 1),.int .u64 (0),.int .u64 (X.t.fin)] 259)
     have R6:=AO HRc.out.row (Aw.zero o6 []) (by simp)
     have hB6:B≤((wc).alloc (.cells #[.int .i64 (Al old 1),.int .u64 (0),.int .u64 (X.t.fin)] 259)).heap.size:=Nat.le_trans HRc.out.hB o6.size
     have HE:=Aa (fun(ggn capn:Nat) (w1:World) (h1:w1.ownsRow B 259 3 (.slice (some ⟨ggn,0,none⟩) (m1+1) capn) (m1+1) (El (acc1)++[.int .i64 (Al old 1),.int .u64 (0),.int .u64 (X.t.fin)])) (h2:((wc).alloc (.cells #[.int .i64 (Al old 1),.int .u64 (0),.int .u64 (X.t.fin)] 259)).grownBy w1 (Value.slice a1 m1 c1).ownBlock) (h3:(Value.slice a1 m1 c1).ownBlock=some ggn∨ggn=(wc).heap.size+1)=>HRc.out.app o6 ⟨Al old 1,0,X.t.fin⟩ h1 h2 (h3.imp (fun x=>x) (fun e=>by rw[e];simp)))
     clear o6
     go_wp2_with (at_builtin;refine wpList_append_lies _ rfl _ _ 257 rfl B 259 i0 _ 3 24 Tryz.underlying257 hi0 hz0 hz1 hz2 rfl (by omega) (.slice a1 m1 c1) m1 (El (acc1)) rfl R6 ⟨(wc).heap.size,0,none⟩ 1 1 [.int .i64 (Al old 1),.int .u64 0,.int .u64 X.t.fin] rfl rfl (World.news_of_block (cs:=#[.int .i64 (Al old 1),.int .u64 0,.int .u64 X.t.fin]) (t:=259) (fr:=(0,0)) (heap_alloc_new (wc) _)) (by simp[Value.oneCell']) (by omega) (by unfold maxLen;omega) (by omega) hB6 ((wc).heap.size+1) (by simp) ?_)
     intro gg cap w4 hown hgrow hat hlt4
     have HR4:=Aa (HE.out gg cap w4 hown hgrow hat)
     clear hown hgrow hat hlt4 R6 hB6 HE
     have HZ:Hid (Eo B w9 w4 (Bs X.t (X.t.keys.take (q+1))) (m1+1) (some ⟨gg,0,none⟩) cap):=Aa (by rw[HTT.out,show Gg ⟨own,old,th⟩ X.t.fin=[⟨Al old 1,0,X.t.fin⟩] from by simp[Gg,H0.out]];exact HR4.out)
     go_wp2_with fail
     go_roundw
     case rel=>exact⟨q+1,m1+1,_,_,by omega,by omega,rfl,by go_num,HZ⟩
     case measure=>simp[intOf];omega
  ·have hqn:q=n:=by omega
   obtain⟨g1,g2,g3⟩:=HRr.out.turns HU.out.1 HU.out.2.1 HU.out.2.2
   have HZ:=HC9.out.only0 HRr.out.o
   have mz:=Ag.only0 P9 Q HRr.out.o
   have MZ:=M9.trans mz
   have he9:=(fe.move mz).c0
   have ht9:=(ft.move mz).c0
   have hc9:=(fc.move mz).c0
   have CE:=FA HZ (Bs X.t (X.t.keys.take q)) (n:=m) HRr.out.len g1 g2 g3 ⟨0,0,[],3,0⟩ none 0 (EC.nil S X2 _ _ _ _)
   rw[K9.out.e]at CE
   rw[show X.t.keys.take q=X.t.keys from by rw[hqn,←HNN.out,List.take_length]]at CE
   clear HZ mz g1 g2 g3
   have hqn2:(q:Int)=n:=by omega
   have hnlt:¬(q:Int)<n:=by omega
   exact SZ
end
end Go.Proofs.YtoakelhnhkilcaaGreat

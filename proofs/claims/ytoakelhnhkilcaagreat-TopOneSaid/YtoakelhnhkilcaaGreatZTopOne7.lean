/-
  TopOne:what its proof rests on,part 7.
-/
import Derived.Deep.RegionHeld3
import Derived.Deep.DrawnRows
import Derived.Deep.Cut
import Derived.Deep.QuietTactic
import Derived.BigQuiet
import Derived.Test.YtoakelhnhkilcaaGreatZTopOne1
import Derived.Test.YtoakelhnhkilcaaGreatZTopOne5
import Derived.Test.YtoakelhnhkilcaaGreatZTopOne6
set_option linter.unusedVariables false
set_option linter.unusedSimpArgs false
set_option maxRecDepth 100000
set_option maxHeartbeats 64000000
namespace Go.Proofs.YtoakelhnhkilcaaGreat
open Go.RowKit
section
def Cq(k:Nat):Sw:=if 63<k then .idle else .head k
def DX(s:Nat):Sw:=if s=8 then Cq 0 else .live s
def A4(k:Nat)(a l:Int):Sw:=if l=0 then Cq (k+1)else .visit k a l
def En.at_(E:En)(a:AS)(k:Sw):En:={E with sh:={E.sh with a:=a},sw:=k}
def En.lowTo(E:En)(v:Int):En:={E with low:=v}
def En.limbo(E:En)(l:Int):En:={E with lim:=E.lim++[(l,E.seq)]}
def En.calmAt(E:En)(q:Int)(j:Nat):Bool:=match E.ses j with|some ⟨_,some (c,_)⟩=>decide (q<c.seq)|_=>true
def En.calm(E:En)(q:Int):Bool:=(List.range 8).all (E.calmAt q)
def En.give(E:En):Option En:=match E.lim with
 |[]=>none
 |p::l=>if E.calm p.2 then some {E with sh:={E.sh with p:=E.sh.p.give p.1},lim:=l}else none
def En.clocked(E:En):Bool×En:=(false,(E.at_ (E.sh.a.tick 0) (DX 0)).lowTo (E.sh.a.load 0/65536))
def En.sweep1(E:En):Sw→Bool×En
 | .idle=>E.clocked
 | .now=>E.clocked
 | .live s=>(false,(E.at_ (E.sh.a.tick (1+s)) (DX (s+1))).lowTo (if 0<E.sh.a.load (1+s)then min E.low (E.sh.a.load (1+s))else E.low))
 | .head k=>(false,E.at_ (E.sh.a.tick (9+k)) (A4 k 0 (E.sh.a.load (9+k))))
 | .visit k a l=>(false,E.at_ (E.sh.a.tick (Al l 0)) (if BD (E.sh.a.load (Al l 0))=2 then .maker k a l (Br (E.sh.a.load (Al l 0)))else .garbage k a l (E.sh.a.load (Al l 0))))
 | .maker k a l id=>(false,E.at_ (E.sh.a.tick (E.sh.pl id)) (if E.sh.a.load (E.sh.pl id)%8=4 then .unlink k a l else .on k l))
 | .garbage k a l _=>(false,E.at_ (E.sh.a.tick (Al l 1)) (if BD (E.sh.a.load (Al l 1))=1∧1≤Br (E.sh.a.load (Al l 1))∧Br (E.sh.a.load (Al l 1))≤E.low then .unlink k a l else .on k l))
 | .on k l=>(false,E.at_ (E.sh.a.tick (Al l 2)) (A4 k l (E.sh.a.load (Al l 2))))
 | .unlink k a l=>(true,E.at_ (E.sh.a.tick (Al l 2)) (.cut k a l (E.sh.a.load (Al l 2))))
 | .cut k a l n=>(true,if a≠0 then(E.at_ (E.sh.a.store (Al a 2) n) (A4 k a n)).limbo l
  else if E.sh.a.casOk (9+k) l then(E.at_ (E.sh.a.cas (9+k) l n) (A4 k a n)).limbo l
  else E.at_ (E.sh.a.cas (9+k) l n) (Cq k))
def En.sweepRaw(E:En):Bool×En:=match E.give with
 |some E'=>(true,E')
 |none=>E.sweep1 E.sw
def En.sweep(E:En):Bool×En:=(E.sweepRaw.1,{E.sweepRaw.2 with looks:=wrap64 (E.looks+wrap64 (E.sweepRaw.2.sh.a.cnt-E.sh.a.cnt))})
theorem TE{P:Prop}(h:P:=by
 go_enter Tryz.func17,Tryz.ntmps17
 go_upto_region 1 with(fail)
 rw[←hW,←HN.out.1]
 clear hW
 go_wp2_with fail
 refine CS.mono ?_
 rintro r w1 ⟨rfl,o1⟩
 clear CS
 obtain⟨n1,hn1⟩:=Ad w1.heap.size
 obtain⟨W1,hW1⟩:=Ad (w1.alloc (.cells #[.bool a1,.bool a2,.bool a3,a4,a5,a6,.int .u64 a7,.int .u64 a8,a9] 46))
 have B1:Am W1 n1 46 #[.bool a1,.bool a2,.bool a3,a4,a5,a6,.int .u64 a7,.int .u64 a8,a9]:=by rw[hW1,hn1];exact Am.new _ _ _
 have nn1:W.heap.size≤n1:=by rw[hn1];exact o1.size
 have o01:Ac W W1:=by rw[hW1];exact o1.alloc _
 have hC1:=HH.out.1.only0 o01
 have BX1:=o01.blk HH.out.2.1 (fun f=>f)
 have nT1:¬Bl U x M n1:=fun q=>by
  exact Uu
 have CI:=DN (hC1.only0 ((Ac.refl W1).drew)).en HH.out.2.2.2 hN hN2 s kind key hh value
 rw[HI.out]at CI
 have f0:Ab W1 x 0 (bp e)∧Ab W1 n0 0 (.int .i64 kind)∧Ab W1 n0 1 (.int .i64 key)∧Ab W1 n0 2 (.int .i64 hh)∧Ab W1 n0 3 (.int .i64 value):=⟨hC1.cE,Gj BX1⟩
 have H1:=Aa (And.intro hC1 (And.intro BX1 (And.intro B1 (And.intro nT1 o01))))
 clear hC1 BX1 B1 nT1 o01 o1 nn1 cE
 go_upto_region 2 with(fail)
 rw[←hW1,←hn1]
 clear hn1 hW1
 refine wp_region_held_drew (S:=(fun w'=>Ab w' x 0 (bp e)∧Ab w' n0 0 (.int .i64 kind)∧Ab w' n0 1 (.int .i64 key)∧Ab w' n0 2 (.int .i64 hh)∧Ab w' n0 3 (.int .i64 value))) (by kernel_rfl) ?_ (fun hHeld=>?_)
 ·first|exact f0|exact f5
 refine Af 0 (h:=Af 1 (h:=Af 2 (h:=Af 3 (h:=Af 4 (h:=Af 5 (h:=Ar (i:=6) (h:=fun K hK=>?_)))))))
 go_simp
 (refine CI.mono ?_;rintro r w2 ⟨rfl,g2⟩;obtain⟨U2,h2,o2,k2⟩:=Bd.eng (H1.out.1.only0 ((Ac.refl W1).drew)) g2;have d1:=(Ac.refl W1).drew;have oz:=(d1.any (Bl U x M)).trans o2;have X2:=oz.blk H1.out.2.1 HH.out.2.2.1;have Y2:=oz.blk H1.out.2.2.1 H1.out.2.2.2.1;have f5:=And.intro h2.cE (Gj X2);have H2:=Aa (And.intro h2 (And.intro oz (And.intro k2 (And.intro X2 Y2))));clear h2 o2 k2 oz X2 Y2 d1 g2 CI)
 try go_wp2_with fail
 refine AK hK (by first|exact f0|exact f5) (h:=fun hHeld=>?_);clear hK K
 refine Af 7 (h:=?_)
 refine wpAnyH_done (by kernel_rfl) ?_ _
 clear f0 hHeld
 clear f5
 obtain⟨p1,p2,p3,p4⟩:=Gj H2.out.2.2.2.1
 obtain⟨r1,r2,r3,r4,r5,r6,r7,r8,r9⟩:=Ch H2.out.2.2.2.2
 have qe:=H2.out.1.cE
 go_upto_region 19 with(fail)
 clear p1 p2 p3 p4 r1 r2 r3 r4 r5 r6 r7 r8 r9 qe
 have q0:=And.intro H2.out.1.cE (Ch H2.out.2.2.2.2)
 have CS2:=AQ (H2.out.1.only0 ((Ac.refl _).drew)).en s
 rw[HST.out,show Cv.row ⟨a1,a2,a3,a4,a5,a6,a7,a8,a9⟩=#[.bool a1,.bool a2,.bool a3,.int .i64 a4,.int .i64 a5,.int .i64 a6,.int .u64 a7,.int .u64 a8,.int .i64 a9] from rfl]at CS2
 refine wp_region_held_drew (S:=(fun w'=>Ab w' x 0 (bp e)∧Ab w' n1 0 (.bool a1)∧Ab w' n1 1 (.bool a2)∧Ab w' n1 2 (.bool a3)∧Ab w' n1 3 (.int .i64 a4)∧Ab w' n1 4 (.int .i64 a5)∧Ab w' n1 5 (.int .i64 a6)∧Ab w' n1 6 (.int .u64 a7)∧Ab w' n1 7 (.int .u64 a8)∧Ab w' n1 8 (.int .i64 a9))) (by kernel_rfl) ?_ (fun hHeld=>?_)
 ·first|exact q0|exact q9
 refine Af 0 (h:=Af 1 (h:=Af 2 (h:=Af 3 (h:=Af 4 (h:=Af 6 (h:=Ar (i:=5) (h:=fun K hK=>?_)))))))
 go_simp
 (refine CS2.mono ?_;rintro r w3 ⟨rfl,o3⟩;have d2:=((Ac.refl _).drew).trans o3;have h3:=H2.out.1.only0 d2;have q9:=And.intro h3.cE (Ch (d2.blk H2.out.2.2.2.2 (fun f=>f)));have H3:=Aa (And.intro h3 d2);clear h3 d2 o3 CS2)
 try go_wp2_with fail
 refine AK hK (by first|exact q0|exact q9) (h:=fun hHeld=>?_);clear hK K
 refine Af 7 (h:=Af 8 (h:=?_))
 refine wpAnyH_done (by kernel_rfl) ?_ _
 clear hHeld q0 q9
 go_wp2_with fail
 go_ret
 exact⟨rfl,Bd.end3 HN.out.2 H1.out.2.2.2.2 H2.out.2.1 H2.out.2.2.1 H3.out.1 H3.out.2⟩):P:=h
theorem UF{P:Prop}(h:P:=by
 go_enter Tryz.func16,Tryz.ntmps16
 go_wp2_with fail
 refine CS.mono ?_
 rintro r w1 ⟨rfl,o1⟩
 clear CS
 obtain⟨n1,hn1⟩:=Ad w1.heap.size
 obtain⟨W1,hW1⟩:=Ad (w1.alloc (.cells #[.bool a1,.bool a2,.bool a3,a4,a5,a6,.int .u64 a7,.int .u64 a8,a9] 46))
 have B1:Am W1 n1 46 #[.bool a1,.bool a2,.bool a3,a4,a5,a6,.int .u64 a7,.int .u64 a8,a9]:=by rw[hW1,hn1];exact Am.new _ _ _
 have nn1:w.heap.size≤n1:=by rw[hn1];exact o1.size
 have o01:Ac w W1:=by rw[hW1];exact o1.alloc _
 have hC1:=HH.out.1.only0 o01
 have nT1:¬Bl U x M n1:=fun q=>by
  exact Uu
 have CL:=Bf hC1.en
 obtain⟨L0,hL0⟩:=Ad X.E.looks
 rw[←hL0]at CL
 have HL0:=Aa hL0
 have CI:=Eu hC1.en HH.out.2 hN hN2 s
 rw[HI.out]at CI
 replace CI:Calls Tryz.prog 36 #[bp e,s] W1 (EY B W1 U (IC x M) e ⟨0,⟨0,0,[],0,0⟩⟩ 1 X.E):=CI
 have cE1:=hC1.cE
 have H1:=Aa (And.intro hC1 (And.intro B1 (And.intro nT1 o01)))
 clear hC1 B1 nT1 o01 o1 nn1 cE hL0
 go_upto_region 2 with(fail)
 rw[←hW1,←hn1]
 clear hn1 hW1
 go_wp2_with fail
 refine CL.mono ?_
 rintro r w1b ⟨rfl,rfl⟩
 clear CL
 go_wp2_with fail
 refine CI.mono ?_
 rintro r w2 ⟨pa,pc,U2,rfl,en2,ou2,g2,pi2,pf2⟩
 clear CI
 obtain⟨U2',h2,o2,k2⟩:∃U2',AY B w2 U2' x e M {X with E:=X.E}∧Ah (Bl U x M) W1 w2∧AC W1.heap.size (Bl U x M) (Bl U2' x M):=Bd.eng H1.out.1 ⟨U2,en2,ou2,g2⟩
 obtain⟨n2,hn2⟩:=Ad w2.heap.size
 obtain⟨W2,hW2⟩:=Ad (w2.alloc (.cells #[.int .i64 0,.int .i64 0,.int .i64 0,.slice pa 0 pc,.int .i64 0,.int .i64 0] 129))
 have B2:Am W2 n2 129 #[.int .i64 0,.int .i64 0,.int .i64 0,.slice pa 0 pc,.int .i64 0,.int .i64 0]:=by rw[hW2,hn2];exact Am.new _ _ _
 have o2W:Ac w2 W2:=by rw[hW2];exact(Ac.refl w2).alloc _
 have hC2:=h2.only0 o2W
 have oV:=o2.trans (o2W.any (Bl U x M))
 have Y1:=oV.blk H1.out.2.1 H1.out.2.2.1
 obtain⟨d1,d2,d3,d4,d5,d6⟩:=GQ B2
 obtain⟨r1,r2,r3,r4,r5,r6,r7,r8,r9⟩:=Ch Y1
 have cE2:=hC2.cE
 have CL2:=Bf hC2.en
 have H2:=Aa (And.intro hC2 (And.intro oV k2))
 clear hC2 oV Y1 B2 o2W h2 o2 k2 en2 ou2 g2 pi2 pf2
 go_upto_region 4 with(fail)
 rw[←hW2,←hn2]
 clear hW2 hn2
 go_wp2_with fail
 go_ret
 refine⟨rfl,U2',M,H2.out.1,(H1.out.2.2.2.any (Bl U x M)).trans H2.out.2.1,fun b hb=>(H2.out.2.2 b hb).imp (fun y=>y) (fun y=>Nat.le_trans H1.out.2.2.2.size y)⟩):P:=h
theorem Un{P:Prop}(h:P:=by
 have hk:key<0∨(0≤key∧63<key)∨(0≤key∧key≤63):=by omega
 have hv:value<0∨(0≤value∧65535<value)∨(0≤value∧value≤65535):=by omega
 rcases hk with a1|⟨a1,a2⟩|⟨a1,a2⟩
 ·exact SY
 ·exact SY
 ·rcases hv with v1|⟨v1,v2⟩|⟨v1,v2⟩
  ·exact UA
  ·exact UA
  ·by_cases e1:hi=0
   ·subst e1
    obtain rfl:b=true:=by rw[←hb];simp[AF,A0];omega
    clear hb
    exact Ut
   ·have e1b:(hi==0)=false:=by simpa using e1
    obtain rfl:b=false:=by rw[←hb];simp[AF,A0,e1];skip
    clear hb
    clear e1
    exact Ut):P:=h
theorem To{P:Prop}(h:P:=by
 have hy':E'.ses j=some y:=hy
 show _∧_≤E'.made
 rw[hmd]
 by_cases q:j=s.toNat
 ·subst q
  rw[hme]at hy';cases hy'
  show 1≤t'.id∧t'.id≤_
  rw[hid];exact hk
 ·rw[hoth j q]at hy';exact h.idr j y hy'):P:=h
theorem SY{P:Prop}(h:P:=by
 obtain rfl:b=false:=by rw[←hb];simp[AF,A0];omega
 clear hb
 rcases hv with v1|⟨v1,v2⟩|⟨v1,v2⟩
 all_goals
  go_enter Tryz.func38,Tryz.ntmps38
  go_wp2_with fail
  go_ret;exact⟨rfl,(Ac.refl w).alloc _⟩):P:=h
theorem Tc{P:Prop}(h:P:=by
 clear hb
 rcases hk with a1|⟨a1,a2⟩|⟨a1,a2⟩
 all_goals rcases hv with v1|⟨v1,v2⟩|⟨v1,v2⟩
 all_goals
  go_enter Tryz.func38,Tryz.ntmps38
  go_wp2_with fail
  go_ret;exact⟨rfl,(Ac.refl w).alloc _⟩):P:=h
theorem Tb{P:Prop}(h:P:=by
 rcases hb with y|y|y|y
 ·exact .inl (.inl y)
 ·exact .inl (.inr (.inl y))
 ·exact(gR b y).imp (fun z=> .inr (.inr (.inl z))) (fun z=>z)
 ·exact .inl (.inr (.inr (.inr y)))):P:=h
theorem Tj{P:Prop}(h:P:=by
 obtain rfl:b=true:=by rw[←hb];simp[AF,A0];omega
 clear hb
 clear hv
 go_enter Tryz.func38,Tryz.ntmps38
 go_wp2_with fail
 go_ret;exact⟨rfl,(Ac.refl w).alloc _⟩):P:=h
theorem TW{P:Prop}(h:P:=by
 clear hb
 clear e1
 rcases hv with v1|⟨v1,v2⟩|⟨v1,v2⟩
 all_goals
  go_enter Tryz.func38,Tryz.ntmps38
  go_wp2_with fail
  go_ret;exact⟨rfl,(Ac.refl w).alloc _⟩):P:=h
theorem TT{P:Prop}(h:P:=by
 have hk:key<0∨(0≤key∧63<key)∨(0≤key∧key≤63):=by omega
 have hv:value<0∨(0≤value∧65535<value)∨(0≤value∧value≤65535):=by omega
 rcases hk with a1|⟨a1,a2⟩|⟨a1,a2⟩
 ·exact SY
 ·exact SY
 ·by_cases e1:hi=0
  ·subst e1
   by_cases e2:value=0
   ·subst e2
    exact Tj
   ·have e2b:(value==0)=false:=by simpa using e2
    obtain rfl:b=false:=by rw[←hb];simp[AF,A0,e2];skip
    clear hb
    clear e2
    exact TB
  ·have e1b:(hi==0)=false:=by simpa using e1
   obtain rfl:b=false:=by rw[←hb];simp[AF,A0,e1];skip
   exact TW):P:=h
theorem SN{P:Prop}(h:P:=by
 have e:∀(x y:Int),(Op.equalIn 9999 3 (.int .i64 x) (.int .i64 y)).run Tryz.prog w= .ok (x==y) w:=fun x y=>run_equalIn_int w 9998 _ _ _ x y Tryz.underlying3
 unfold Program.fieldsOf
 rw[Tryz.underlying77]
 by_cases e1:a=c<;>by_cases e2:b=d<;>simp[Op.eqFields,R8,R9,e,e1,e2,Result.andThen]):P:=h
theorem zB{P:Prop}(h:P:=by
 show X.id j=match E'.ses j with|none=>0|some x=>x.t.id
 by_cases q:j=s.toNat
 ·subst q
  rw[hme,h.id _ hj,he]
  exact hid.symm
 ·rw[hoth j q];exact h.id j hj):P:=h
theorem UA{P:Prop}(h:P:=by
 obtain rfl:b=false:=by rw[←hb];simp[AF,A0];omega
 clear hb
 go_enter Tryz.func38,Tryz.ntmps38
 go_wp2_with fail
 go_ret;exact⟨rfl,(Ac.refl w).alloc _⟩):P:=h
theorem TB{P:Prop}(h:P:=by
 rcases hv with v1|⟨v1,v2⟩|⟨v1,v2⟩
 all_goals
  go_enter Tryz.func38,Tryz.ntmps38
  go_wp2_with fail
  go_ret;exact⟨rfl,(Ac.refl w).alloc _⟩):P:=h
theorem Te{P:Prop}(h:P:=by
 refine⟨up (h.at_ (tk _) ?_),⟨rfl,rfl,rfl,rfl,AZ.tick _ _,rfl⟩⟩
 split
 ·exact⟨hk.1,hk.2.1,hk.2.2.1⟩
 ·exact⟨hk.1,hk.2.2.1⟩):P:=h
theorem SJ{P:Prop}(h:P:=by
 show X'.c.r.pairs.length≤N+81
 have:X'.c.r.pairs.length≤N+80:=hp
 omega):P:=h
theorem TF{P:Prop}(h:P:=by
 rcases q with y|y
 ·have:=h.en.under n0 y;omega
 ·have:=h.under n0 y;omega):P:=h
theorem Ut{P:Prop}(h:P:=by
 go_enter Tryz.func38,Tryz.ntmps38
 go_wp2_with fail
 go_ret;exact⟨rfl,(Ac.refl w).alloc _⟩):P:=h
theorem Uu{P:Prop}(h:P:=by
 rcases q with y|y
 ·have:=HH.out.1.en.under n1 y;omega
 ·have:=HH.out.1.under n1 y;omega):P:=h
theorem Uz{P:Prop}(h:P:=by
 rw[he]at hb
 exact .inl ⟨⟨s0,s8⟩,hb,by unfold En.step;rw[he,hs];rfl⟩):P:=h
theorem SW{P:Prop}(h:P:=by
 injection e1 with e1
 injection e1 with e1 _ _
 subst e1
 exact e2 _):P:=h
theorem AW.hd{N:Nat}{s:Sh}(h:AW N s){k:Nat}(hk:k<64):AM s.slots (s.a.load (9+k)):=by
 unfold AS.load
 split
 ·rw[show((9:Int)+(k:Int)).toNat=9+k by omega];exact h.head k hk
 ·exact AM.zero _
theorem AW.nx{N:Nat}{s:Sh}(h:AW N s){l:Int}(hl:BN s.slots l):AM s.slots (s.a.load (Al l 2)):=by
 have h1:=hl.ix
 have h2:=h.vlen
 unfold AS.load
 split
 ·rw[show(Al l 2).toNat=73+(A5 l).toNat*3+2 by unfold Al;omega];exact h.next _ (by omega)
 ·exact AM.zero _
theorem AW.store{N:Nat}{s:Sh}(h:AW N s){i v:Int}(hv:Bv s.slots i v):AW N {s with a:=s.a.store i v}:=h.ws (AS.store_len _ _ _) hv (AS.store_get _ _ _)
theorem AW.cas{N:Nat}{s:Sh}(h:AW N s){i o v:Int}(hv:Bv s.slots i v):AW N {s with a:=s.a.cas i o v}:=h.ws (AS.cas_len _ _ _ _) hv (AS.cas_get _ _ _ _)
theorem FM{n:Int}{k:Nat}:Fl n (Cq k):=by
 unfold Cq
 split
 ·trivial
 ·show k<64;omega
theorem Ho{n:Int}{s:Nat}(h:s≤8):Fl n (DX s):=by
 unfold DX
 split
 ·exact FM
 ·show s<8;omega
theorem EB{n:Int}{k:Nat}{a l:Int}(hk:k<64)(ha:AM n a)(hl:AM n l):Fl n (A4 k a l):=by
 unfold A4
 split
 ·exact FM
 ·next e=>exact⟨hk,ha,hl,e⟩
section
variable {N:Nat} {E:En}
theorem As.at_(h:As N E){a:AS}(hs:AW N {E.sh with a:=a}){k:Sw}(hk:Fl E.sh.slots k):As N (E.at_ a k):=
 ⟨hs,h.pm,h.made,h.seq,h.looks,h.none,h.tx,fun s t c k he=>(h.cl s t c k he).step (s':={E.sh with a:=a}) (Nat.le_refl _) rfl (Int.le_refl _),hk,h.low,h.lim,h.llen⟩
theorem As.lowTo(h:As N E){v:Int}(hv:0≤v∧v<281474976710656):As N (E.lowTo v):=
 ⟨h.sh,h.pm,h.made,h.seq,h.looks,h.none,h.tx,h.cl,h.sw,hv,h.lim,h.llen⟩
theorem As.limbo(h:As N E){l:Int}(hl:BN E.sh.slots l):As (N+1) (E.limbo l):=by
 have H:=h.mono (M:=N+1) (by omega)
 refine⟨H.sh,H.pm,H.made,H.seq,H.looks,H.none,H.tx,H.cl,H.sw,H.low,fun p hp=>?_,?_⟩
 ·rcases List.mem_append.1 hp with q|q
  ·exact h.lim p q
  ·simp at q;subst q;exact⟨hl,h.seq.1,Int.le_refl _⟩
 ·show(E.lim++[_]).length≤N+1
  have:=h.llen
  rw[List.length_append,List.length_singleton];omega
theorem As.gave(h:As N E){p:Int×Int}{l:List (Int×Int)}(hp:E.lim=p::l):As (N+1) {E with sh:={E.sh with p:=E.sh.p.give p.1},lim:=l}:=by
 have H:=h.mono (M:=N+1) (by omega)
 have P:=h.sh.pl.give p.1
 have S:=H.sh
 refine⟨⟨S.n1,S.n2,S.l1,S.l2,S.alen,S.word,S.vlen,P.plen,P.tags,P.free,P.flen,P.worn,S.tlen,S.head,S.next⟩,h.pm.rel (.inr (.inr ⟨_,rfl⟩)),H.made,H.seq,H.looks,H.none,H.tx,fun s t c k he=>(H.cl s t c k he).step (s':={E.sh with p:=E.sh.p.give p.1}) (Nat.le_refl _) rfl (Int.le_refl _),H.sw,H.low,fun q hq=>h.lim q (by rw[hp];exact List.mem_cons_of_mem _ hq),?_⟩
 have:=h.llen
 rw[hp,List.length_cons]at this
 show l.length≤N+1
 omega
structure Lc(E E':En):Prop where
 ses:E'.ses=E.ses
 made:E'.made=E.made
 seq:E'.seq=E.seq
 looks:E'.looks=E.looks
 cnt:AZ E.sh.a E'.sh.a
 limit:E'.sh.limit=E.sh.limit
theorem As.clocked(h:As N E):As (N+1) E.clocked.2:=by
 have hw:=AG h.sh.word 0
 exact((h.at_ (h.sh.tick 0) (Ho (by omega))).lowTo (by omega)).mono (by omega)
theorem Kc(h:As N E)(hN:256≤N){k:Sw}(hk:Fl E.sh.slots k):As (N+1) (E.sweep1 k).2∧Lc E (E.sweep1 k).2:=by
 have tk:=fun i=>h.sh.tick i
 have up:∀{E':En},As N E'→As (N+1) E':=fun q=>q.mono (by omega)
 cases k with
 |idle=>exact⟨h.clocked,⟨rfl,rfl,rfl,rfl,AZ.tick _ _,rfl⟩⟩
 |now=>exact⟨h.clocked,⟨rfl,rfl,rfl,rfl,AZ.tick _ _,rfl⟩⟩
 |live s=>
  have hl:=h.low
  have hw:=AG h.sh.word (1+s)
  have hk':s<8:=hk
  refine⟨up ((h.at_ (tk _) (Ho (by omega))).lowTo ?_),⟨rfl,rfl,rfl,rfl,AZ.tick _ _,rfl⟩⟩
  split<;>omega
 |head k=>
  have hk':k<64:=hk
  exact⟨up (h.at_ (tk _) (EB hk' (AM.zero _) (h.sh.hd hk'))),⟨rfl,rfl,rfl,rfl,AZ.tick _ _,rfl⟩⟩
 |visit k a l=>
  have hw:=AG h.sh.word (Al l 0)
  refine⟨up (h.at_ (tk _) ?_),⟨rfl,rfl,rfl,rfl,AZ.tick _ _,rfl⟩⟩
  split
  ·next e=>exact⟨hk.1,hk.2.1,hk.2.2,Ef.rd e⟩
  ·exact⟨hk.1,hk.2.1,hk.2.2,hw⟩
 |maker k a l id=>
  exact Te
 |garbage k a l b=>
  exact Te
 |on k l=>exact⟨up (h.at_ (tk _) (EB hk.1 hk.2.1 (h.sh.nx hk.2))),⟨rfl,rfl,rfl,rfl,AZ.tick _ _,rfl⟩⟩
 |unlink k a l=>exact⟨up (h.at_ (tk _) ⟨hk.1,hk.2.1,hk.2.2,h.sh.nx hk.2.2⟩),⟨rfl,rfl,rfl,rfl,AZ.tick _ _,rfl⟩⟩
 |cut k a l n=>
  obtain⟨h1,h2,h3,h4⟩:=hk
  show As (N+1) (if a≠0 then(E.at_ (E.sh.a.store (Al a 2) n) (A4 k a n)).limbo l else if E.sh.a.casOk (9+k) l then(E.at_ (E.sh.a.cas (9+k) l n) (A4 k a n)).limbo l else E.at_ (E.sh.a.cas (9+k) l n) (Cq k))∧Lc E (if a≠0 then(E.at_ (E.sh.a.store (Al a 2) n) (A4 k a n)).limbo l else if E.sh.a.casOk (9+k) l then(E.at_ (E.sh.a.cas (9+k) l n) (A4 k a n)).limbo l else E.at_ (E.sh.a.cas (9+k) l n) (Cq k))
  split
  ·next e=>exact⟨(h.at_ (h.sh.store (Bv.slot2 ⟨h2,e⟩ h4)) (EB h1 h2 h4)).limbo h3,⟨rfl,rfl,rfl,rfl,AZ.store _ _ _,rfl⟩⟩
  ·split
   ·exact⟨(h.at_ (h.sh.cas (Bv.hd9 h4)) (EB h1 h2 h4)).limbo h3,⟨rfl,rfl,rfl,rfl,AZ.cas _ _ _ _,rfl⟩⟩
   ·exact⟨up (h.at_ (h.sh.cas (Bv.hd9 h4)) FM),⟨rfl,rfl,rfl,rfl,AZ.cas _ _ _ _,rfl⟩⟩
theorem FJ(h:As N E)(hN:256≤N):As (N+1) E.sweepRaw.2∧Lc E E.sweepRaw.2:=by
 unfold En.sweepRaw
 cases hg:E.give with
 |none=>exact Kc h hN h.sw
 |some E'=>
  unfold En.give at hg
  cases hl:E.lim with
  |nil=>rw[hl]at hg;cases hg
  |cons p l=>
   rw[hl]at hg
   simp only at hg
   split at hg
   ·cases hg
    exact⟨h.gave hl,⟨rfl,rfl,rfl,rfl,.inl rfl,rfl⟩⟩
   ·cases hg
theorem EU(h:As N E)(hN:256≤N)(hN2:N≤30000000):As (N+1) E.sweep.2∧(E.sweep.2.looks=E.looks∨E.sweep.2.looks=E.looks+1)∧E.sweep.2.ses=E.ses∧E.sweep.2.made=E.made:=by
 obtain⟨h1,h2⟩:=FJ h hN
 have hl:=h.looks
 have hlk:=Hr h2.cnt hl.1 (by omega)
 refine⟨⟨h1.sh,h1.pm,h1.made,h1.seq,⟨?_,?_⟩,h1.none,h1.tx,h1.cl,h1.sw,h1.low,h1.lim,h1.llen⟩,hlk,h2.ses,h2.made⟩
 ·show 0≤wrap64 _;omega
 ·show wrap64 _≤_;omega
end
end
section
structure Bh where
 E:En
 ds:List Dl
 id:Nat→Int
 op:Nat→DS
 gone:List Int
def Ls(slots limit:Int):Bh:=⟨E9 slots limit,[],fun _=>0,fun _=>⟨0,0,0,0⟩,[]⟩
def Bh.eng(X:Bh)(E:En):Bh:={X with E:=E}
def Bh.begin(X:Bh)(s level:Int):Bh:=
 if(X.E.begin s level).2.1≠0 then X.eng (X.E.begin s level).2.2
 else{X with E:=(X.E.begin s level).2.2,id:=AT X.id s.toNat ((X.ds.length:Int)+1),ds:=X.ds++[⟨(X.ds.length:Int)+1,level,1,X.E.now+1,0,[]⟩]}
def Bh.issue(X:Bh)(s:Int)(o:DS):Bh:=
 if(X.E.issue s o).1≠0 then X else{X with E:=(X.E.issue s o).2,op:=AT X.op s.toNat o}
def Bh.at_(X:Bh)(s:Nat):Nat:=(X.id s-1).toNat
def Dl.more(d:Dl)(c:Cl):Dl:={d with ops:=d.ops++[c]}
def Dl.ended(d:Dl)(state fin:Int):Dl:={d with state:=state,fin:=fin}
def Bh.told(X:Bh)(E:En)(s:Nat)(r:Dt):Bh:={X with E:=E,ds:=X.ds.set (X.at_ s) ((Ba X.ds (X.at_ s)).more ⟨X.op s,r⟩)}
def Bh.over(X:Bh)(E:En)(s:Nat)(r:Dt)(fin:Int):Bh:=
 {X with E:=E,ds:=X.ds.set (X.at_ s) ((Ba X.ds (X.at_ s)).ended r.over fin),gone:=if r.over=4 then X.gone++[r.reason]else X.gone,id:=AT X.id s 0}
def Bh.step(X:Bh)(s:Int):Bh:=
 if(X.E.step s).2.1≠0 then X
 else if(X.E.step s).1.kind≠3 then X.eng (X.E.step s).2.2
 else if(X.E.step s).1.r.over=0 then X.told (X.E.step s).2.2 s.toNat (X.E.step s).1.r
 else X.over (X.E.step s).2.2 s.toNat (X.E.step s).1.r (X.E.status s).fin
def Bh.sweep(X:Bh):Bh:=X.eng X.E.sweep.2
structure Ci(N:Nat)(X:Bh):Prop where
 fine:As N X.E
 len:(X.ds.length:Int)=X.E.made
 id:∀j,j<8→X.id j=match X.E.ses j with|none=>0|some x=>x.t.id
 idr:∀j x,X.E.ses j=some x→1≤x.t.id∧x.t.id≤X.E.made
 glen:X.gone.length≤N
 ops:∀k,(Ba X.ds k).ops.length≤N
section
variable {N:Nat} {E:En} {X:Bh}
theorem Gv(h:As N E)(s level:Int):
 ((∃er,er≠0∧E.begin s level=(0,er,(E.begin s level).2.2))∧(E.begin s level).2.2.now=E.now∧(E.begin s level).2.2.ses=E.ses∧(E.begin s level).2.2.made=E.made)∨
 ((0≤s∧s<8)∧(1≤level∧level≤3)∧E.ses s.toNat=none∧(0≤E.now∧E.now≤1099511627776)∧E.made<2000∧E.begin s level=(E.made+1,0,(E.begin s level).2.2)∧(E.begin s level).2.2.now=E.now+1∧(E.begin s level).2.2.made=E.made+1∧
  (E.begin s level).2.2.ses=AT E.ses s.toNat (some ⟨Dd (E.made+1) level s (E.now+1),none⟩)):=by
 have hw:=AG h.sh.word 0
 have l2:=h.sh.l2
 have n1:=h.sh.n1
 have alen:=h.sh.alen
 have hmd:=h.made
 have hon:E.sh.a.on 0=true:=AS.onIff.2 ⟨by omega,by omega⟩
 unfold En.begin
 split
 ·exact .inl ⟨⟨1,by decide,rfl⟩,rfl,rfl,rfl⟩
 ·next hsl=>
  have hsl':Be s=true∧DV level=true:=by simpa using hsl
  obtain⟨s0,s8⟩:0≤s∧s<8:=by simpa[Be]using hsl'.1
  obtain⟨v0,v1⟩:1≤level∧level≤3:=by simpa[DV]using hsl'.2
  split
  ·exact .inl ⟨⟨9,by decide,rfl⟩,rfl,rfl,rfl⟩
  ·next hu=>
   have hu':E.ses s.toNat=none:=by simpa using hu
   split
   ·exact .inl ⟨⟨65,by decide,rfl⟩,rfl,rfl,rfl⟩
   ·next hm=>
    simp only
    split
    ·refine .inl ⟨⟨16,by decide,rfl⟩,?_,rfl,rfl⟩
     show(E.sh.a.tick 0).load 0/65536=E.sh.a.load 0/65536
     rw[AS.load_tick]
    ·next hlim=>
     refine .inr ⟨⟨s0,s8⟩,⟨v0,v1⟩,hu',⟨by unfold En.now;omega,by unfold En.now;omega⟩,by omega,rfl,?_,rfl,rfl⟩
     obtain⟨a,ha⟩:=Ad ((if 0<E.sh.a.load 0%65536 then(E.sh.a.tick 0).cas (E.sh.pl (E.sh.a.load 0%65536)) (Bc 1 0) (Bc 2 (E.sh.a.load 0/65536))else E.sh.a.tick 0))
     rw[←ha]
     have hp:∀i,0≤i→E.sh.pl i≠0:=fun i hi=>by unfold Sh.pl;omega
     have la:a.load 0=E.sh.a.load 0:=by
      rw[ha]
      split
      ·rw[AS.load_cas_other (Ne.symm (hp _ (by omega))),AS.load_tick]
      ·rw[AS.load_tick]
     have oa:a.on 0=true:=by
      rw[ha]
      split
      ·rw[AS.on_cas,AS.on_tick];exact hon
      ·rw[AS.on_tick];exact hon
     have hc:a.casOk 0 (E.sh.a.load 0)=true:=(AS.casOk_iff oa).2 la
     show(((a.cas 0 (E.sh.a.load 0) (Bp (E.sh.a.load 0/65536+1) 0)).store (E.sh.pl (E.made+1)) (Bc 1 0)).store (1+s) (E.sh.a.load 0/65536+1)).load 0/65536=E.sh.a.load 0/65536+1
     rw[AS.load_other (by omega),AS.load_other (Ne.symm (hp _ (by omega))),AS.cas_yes hc,AS.load_same oa]
     unfold Bp;omega
theorem DK{s:Int}(hs:Be s=true):(E.status s).busy=match E.ses s.toNat with|some ⟨_,some _⟩=>true|_=>false:=by
 unfold En.status
 rw[if_pos hs]
 cases h:E.ses s.toNat with
 |none=>rfl
 |some x=>obtain⟨t,c⟩:=x;cases c<;>rfl
theorem Ej(h:As N E)(hN:256≤N)(hN2:N≤30000000)(s:Int):
 ((s<0∨7<s)∧E.step s=(.zero,1,E))∨
 ((0≤s∧s<8)∧(E.status s).busy=false∧E.step s=(.zero,9,E))∨
 ((0≤s∧s<8)∧(E.status s).busy=true∧∃t c k d E',E.ses s.toNat=some ⟨t,some (c,k)⟩∧E.step s=(d,0,E')∧As (N+81) E'∧(0≤E.looks∧E.looks≤1000000000∧E.looks≤E'.looks∧E'.looks≤E.looks+1)∧E'.made=E.made∧(∀j,j≠s.toNat→E'.ses j=E.ses j)∧
  ((d.r= .zero∧∃t' c' k',E'.ses s.toNat=some ⟨t',some (c',k')⟩∧t'.id=t.id∧((d.kind=2∧c'.waits=true)∨(d.kind=1∧c'.waits=false)))∨
   (d.kind=3∧d.r.over=0∧d.r.pairs.length≤N+81∧∃t',E'.ses s.toNat=some ⟨t',none⟩∧t'.id=t.id)∨
   (d.kind=3∧(d.r.over=3∨d.r.over=4)∧d.r.pairs.length≤N+81∧E'.ses s.toNat=none))):=by
 by_cases hs:Be s=true
 ·obtain⟨s0,s8⟩:0≤s∧s<8:=by simpa[Be]using hs
  refine .inr ?_
  have hb:=DK (E:=E) hs
  cases he:E.ses s.toNat with
  |none=>
   exact Uz
  |some x=>
   obtain⟨t,c⟩:=x
   cases c with
   |none=>
    exact Uz
   |some ck=>
    obtain⟨c,k⟩:=ck
    rw[he]at hb
    obtain⟨h1,h2,h3⟩:=Hg h hN hN2 he
    have hl:=h.looks
    have hst:E.step s=((E.stepped s.toNat t (Ay ⟨E.sh,t,{c with waits:=false}⟩ k) (RowKit.wrap64 (E.looks+RowKit.wrap64 ((Ay ⟨E.sh,t,{c with waits:=false}⟩ k).1.sh.a.cnt-E.sh.a.cnt)))).1,0,(E.stepped s.toNat t (Ay ⟨E.sh,t,{c with waits:=false}⟩ k) (RowKit.wrap64 (E.looks+RowKit.wrap64 ((Ay ⟨E.sh,t,{c with waits:=false}⟩ k).1.sh.a.cnt-E.sh.a.cnt)))).2):=by
     unfold En.step;rw[he,hs];rfl
    refine .inr ⟨⟨s0,s8⟩,hb,t,c,k,_,_,rfl,hst,h1,?_,?_⟩
    ·generalize RowKit.wrap64 (E.looks+RowKit.wrap64 ((Ay ⟨E.sh,t,{c with waits:=false}⟩ k).1.sh.a.cnt-E.sh.a.cnt))=L at h2 ⊢
     have:(E.stepped s.toNat t (Ay ⟨E.sh,t,{c with waits:=false}⟩ k) L).2.looks=L:=by
      unfold En.stepped
      simp only
      split
      ·rfl
      ·split<;>rfl
     rw[this];omega
    ·generalize RowKit.wrap64 (E.looks+RowKit.wrap64 ((Ay ⟨E.sh,t,{c with waits:=false}⟩ k).1.sh.a.cnt-E.sh.a.cnt))=L at h2 ⊢
     have hp:=h3.fine.cl.plen
     have hid:=h3.id
     have o1:=h3.over1
     generalize Ay ⟨E.sh,t,{c with waits:=false}⟩ k=r at hp hid o1 ⊢
     obtain⟨X',o⟩:=r
     cases o with
     |some k'=>
      refine⟨rfl,fun j hj=>Ap _ _ _ hj,.inl ⟨rfl,X'.t,X'.c,k',Au _ _ _,hid,?_⟩⟩
      show((if X'.c.waits=true then(2:Int)else 1)=2∧X'.c.waits=true)∨((if X'.c.waits=true then(2:Int)else 1)=1∧X'.c.waits=false)
      cases X'.c.waits<;>simp
     |none=>
      have ov:=(o1 rfl).2.2
      simp only at ov
      unfold En.stepped
      simp only
      by_cases e:X'.c.r.over=0
      ·rw[if_neg (by rw[e];simp)]
       refine⟨rfl,fun j hj=>Ap _ _ _ hj,.inr (.inl ⟨rfl,e,?_,X'.t,Au _ _ _,hid⟩)⟩
       exact SJ
      ·rw[if_pos e]
       refine⟨rfl,fun j hj=>Ap _ _ _ hj,.inr (.inr ⟨rfl,?_,?_,Au _ _ _⟩)⟩
       ·show X'.c.r.over=3∨X'.c.r.over=4
        rcases ov with q|q
        ·exact absurd q e
        ·exact q
       ·exact SJ
 ·refine .inl ⟨?_,by unfold En.step;simp[hs]⟩
  have:¬(0≤s∧s<8):=fun q=>hs (by simpa[Be]using q)
  omega
theorem PK{slots limit:Int}(h1:1≤slots)(h2:slots≤256)(h3:1≤limit)(h4:limit≤1099511627776):Ci 256 (Ls slots limit):=
 ⟨Ir h1 h2 h3 h4,rfl,fun _ _=>rfl,fun j x hx=>(by cases hx),Nat.zero_le _,fun k=>by show(Ba [] k).ops.length≤256;unfold Ba;simp;exact Nat.zero_le _⟩
theorem Ci.begin(h:Ci N X)(s level:Int):Ci (N+1) (X.begin s level):=by
 have hf:=D7 h.fine s level
 have hg:=h.glen
 rcases Gv h.fine s level with⟨⟨er,he,h1⟩,h2,h3,h4⟩|⟨hs,hv,h1,h2,h3,h4,h5,h6,h7⟩
 ·have e:(X.E.begin s level).2.1≠0:=by rw[h1];exact he
  unfold Bh.begin
  rw[if_pos e]
  refine⟨hf,?_,fun j hj=>?_,fun j x hx=>?_,by show X.gone.length≤_;omega,fun k=>Nat.le_trans (h.ops k) (by omega)⟩
  ·show(X.ds.length:Int)=(X.E.begin s level).2.2.made
   rw[h4];exact h.len
  ·show X.id j=match(X.E.begin s level).2.2.ses j with|none=>0|some x=>x.t.id
   rw[h3];exact h.id j hj
  ·have hx':(X.E.begin s level).2.2.ses j=some x:=hx
   rw[h3]at hx'
   show _∧_≤(X.E.begin s level).2.2.made
   rw[h4];exact h.idr j x hx'
 ·have e:¬(X.E.begin s level).2.1≠0:=by rw[h4];simp
  have hmd:=h.fine.made
  unfold Bh.begin
  rw[if_neg e]
  refine⟨hf,?_,fun j hj=>?_,fun j x hx=>?_,by show X.gone.length≤_;omega,fun k=>?_⟩
  ·show((X.ds++[_]).length:Int)=(X.E.begin s level).2.2.made
   rw[h6,List.length_append,List.length_singleton,←h.len];omega
  ·show AT X.id s.toNat ((X.ds.length:Int)+1) j=match(X.E.begin s level).2.2.ses j with|none=>0|some x=>x.t.id
   rw[h7]
   by_cases q:j=s.toNat
   ·subst q;rw[Au,Au];show(X.ds.length:Int)+1=X.E.made+1;rw[h.len]
   ·rw[Ap _ _ _ q,Ap _ _ _ q];exact h.id j hj
  ·have hx':(X.E.begin s level).2.2.ses j=some x:=hx
   rw[h7]at hx'
   show _∧_≤(X.E.begin s level).2.2.made
   rw[h6]
   by_cases q:j=s.toNat
   ·subst q;rw[Au]at hx';cases hx'
    show 1≤X.E.made+1∧X.E.made+1≤X.E.made+1
    omega
   ·rw[Ap _ _ _ q]at hx';have:=h.idr j x hx';omega
  ·show(Ba (X.ds++[_]) k).ops.length≤N+1
   have:=h.ops k
   unfold Ba at this ⊢
   rw[List.getD_eq_getElem?_getD]at this ⊢
   by_cases q:k<X.ds.length
   ·rw[List.getElem?_append_left q];omega
   ·by_cases q2:k=X.ds.length
    ·subst q2;simp
    ·rw[List.getElem?_eq_none (by simp;omega)];exact Nat.zero_le _
theorem As.more(h:As N E){s:Nat}{t:Dq}(he:E.ses s=some ⟨t,.none⟩)(o:DS)(hm:¬(12≤t.ops∧DY o=false)):Dy N E.sh.slots (t.more o):=by
 have htx:=h.tx _ _ he
 unfold Dq.more
 split
 ·exact htx.1
 ·next e=>
  have q:=htx.1
  exact Ly
theorem Fh(h:As N E)(hN:256≤N)(s:Int)(o:DS):
 ((s<0∨7<s)∧E.issue s o=(1,E))∨
 ((0≤s∧s<8)∧E.ses s.toNat=none∧E.issue s o=(9,E))∨
 ((0≤s∧s<8)∧∃x,E.ses s.toNat=some x∧(
  (AF o=false∧E.issue s o=(9,E))∨
  (AF o=true∧(E.status s).busy=true∧E.issue s o=(9,E))∨
  (AF o=true∧(E.status s).busy=false∧o.kind<6∧12≤(E.status s).ops∧E.issue s o=(65,E))∨
  (AF o=true∧(E.status s).busy=false∧(¬o.kind<6∨(o.kind<6∧(E.status s).ops<12))∧∃E',E.issue s o=(0,E')∧As (N+80) E'∧(E'.status s).busy=true∧E'.made=E.made∧E'.looks=E.looks∧(∀j,j≠s.toNat→E'.ses j=E.ses j)∧∃t' c' k',E'.ses s.toNat=some ⟨t',some (c',k')⟩∧t'.id=x.t.id))):=by
 by_cases hs:Be s=true
 ·obtain⟨s0,s8⟩:0≤s∧s<8:=by simpa[Be]using hs
  refine .inr ?_
  have hb:=DK (E:=E) hs
  cases he:E.ses s.toNat with
  |none=>exact .inl ⟨⟨s0,s8⟩,rfl,by unfold En.issue;rw[he,hs];rfl⟩
  |some x=>
   refine .inr ⟨⟨s0,s8⟩,x,rfl,?_⟩
   rw[he]at hb
   have hops:(E.status s).ops=x.t.ops:=by unfold En.status;rw[if_pos hs,he];rfl
   have hfine:=Du h hN s o
   cases hok:AF o with
   |false=>exact .inl ⟨rfl,by unfold En.issue;rw[he,hs];simp[hok]⟩
   |true=>
    refine .inr ?_
    obtain⟨t,c⟩:=x
    cases c with
    |some ck=>exact .inl ⟨rfl,hb,by unfold En.issue;rw[he,hs];simp⟩
    |none=>
     refine .inr ?_
     have hends:DY o=false↔o.kind<6:=by
      unfold AF at hok
      unfold DY
      rw[Bool.or_eq_false_iff,decide_eq_false_iff_not,decide_eq_false_iff_not]
      split at hok
      ·omega
      ·split at hok
       ·omega
       ·split at hok
        ·omega
        ·split at hok
         ·omega
         ·cases hok
     rw[hops]
     by_cases hm:12≤t.ops∧DY o=false
     ·exact .inl ⟨rfl,hb,hends.1 hm.2,hm.1,by unfold En.issue;rw[he,hs];simp[hok,hm.1,hm.2]⟩
     ·have hX:Ax N ⟨E.sh,t.more o,Bz o (E.seq+1)⟩:=⟨h.sh,h.more he o hm,IJ hok _⟩
      have R:=IU hX hN rfl
      have hi:E.issue s o=(0,{E with sh:=(Cb ⟨E.sh,t.more o,Bz o (E.seq+1)⟩).1.sh,seq:=E.seq+1,ses:=AT E.ses s.toNat (some ⟨(Cb ⟨E.sh,t.more o,Bz o (E.seq+1)⟩).1.t,some ((Cb ⟨E.sh,t.more o,Bz o (E.seq+1)⟩).1.c,(Cb ⟨E.sh,t.more o,Bz o (E.seq+1)⟩).2)⟩)}):=by
       unfold En.issue
       rw[he,hs]
       simp only[Bool.not_true,Bool.false_eq_true,if_false,hok,Option.isSome_none,Bool.or_false]
       rw[if_neg hm]
      rw[hi]at hfine
      generalize Cb ⟨E.sh,t.more o,Bz o (E.seq+1)⟩=r at hi R hfine
      refine .inr ⟨rfl,hb,?_,_,hi,hfine,?_,rfl,rfl,fun j hj=>Ap _ _ _ hj,r.1.t,r.1.c,r.2,Au _ _ _,?_⟩
      ·by_cases q:o.kind<6
       ·refine .inr ⟨q,?_⟩
        have:¬12≤t.ops:=fun e=>hm ⟨e,hends.2 q⟩
        show t.ops<12
        omega
       ·exact .inl q
      ·rw[DK hs]
       show(match AT E.ses s.toNat (some ⟨r.1.t,some (r.1.c,r.2)⟩) s.toNat with|some ⟨_,some _⟩=>true|_=>false)=true
       rw[Au]
      ·rw[R.same.id]
       unfold Dq.more
       split<;>rfl
 ·refine .inl ⟨?_,by unfold En.issue;simp[hs]⟩
  have:¬(0≤s∧s<8):=fun q=>hs (by simpa[Be]using q)
  omega
theorem Ci.issue(h:Ci N X)(hN:256≤N)(s:Int)(o:DS):Ci (N+80) (X.issue s o):=by
 have hg:=h.glen
 have same:Ci (N+80) X:=⟨h.fine.mono (by omega),h.len,h.id,h.idr,by omega,fun k=>Nat.le_trans (h.ops k) (by omega)⟩
 unfold Bh.issue
 have no:∀er E',er≠0→X.E.issue s o=(er,E')→Ci (N+80) (if(X.E.issue s o).1≠0 then X else{X with E:=(X.E.issue s o).2,op:=AT X.op s.toNat o}):=fun er E' he hi=>by
  rw[hi,if_pos he];exact same
 rcases Fh h.fine hN s o with⟨_,hi⟩|⟨_,_,hi⟩|⟨hs,x,hx,⟨_,hi⟩|⟨_,_,hi⟩|⟨_,_,_,_,hi⟩|⟨_,_,_,E',hi,hf,_,hmd,_,hoth,t',c',k',hme,hid⟩⟩
 ·exact no 1 _ (by decide) hi
 ·exact no 9 _ (by decide) hi
 ·exact no 9 _ (by decide) hi
 ·exact no 9 _ (by decide) hi
 ·exact no 65 _ (by decide) hi
 ·rw[hi,if_neg (by simp)]
  refine⟨hf,?_,fun j hj=>?_,fun j y hy=>?_,by show X.gone.length≤_;omega,fun k=>Nat.le_trans (h.ops k) (by omega)⟩
  ·show(X.ds.length:Int)=E'.made
   rw[hmd];exact h.len
  ·show X.id j=match E'.ses j with|none=>0|some x=>x.t.id
   by_cases q:j=s.toNat
   ·subst q
    rw[hme,h.id _ hj,hx]
    exact hid.symm
   ·rw[hoth j q];exact h.id j hj
  ·have hy':E'.ses j=some y:=hy
   show _∧_≤E'.made
   rw[hmd]
   by_cases q:j=s.toNat
   ·subst q
    rw[hme]at hy';cases hy'
    show 1≤t'.id∧t'.id≤_
    rw[hid];exact h.idr _ x hx
   ·rw[hoth j q]at hy';exact h.idr j y hy'
theorem GD{l:List Dl}{i k M:Nat}{d:Dl}(h:(Ba l k).ops.length≤M)(hd:d.ops.length≤M):(Ba (l.set i d) k).ops.length≤M:=by
 unfold Ba at *
 rw[List.getD_eq_getElem?_getD]at *
 rw[List.getElem?_set]
 split
 ·split
  ·exact hd
  ·exact Nat.zero_le _
 ·exact h
theorem Ci.step(h:Ci N X)(hN:256≤N)(hN2:N≤30000000)(s:Int):Ci (N+81) (X.step s):=by
 have hg:=h.glen
 have same:Ci (N+81) X:=⟨h.fine.mono (by omega),h.len,h.id,h.idr,by omega,fun k=>Nat.le_trans (h.ops k) (by omega)⟩
 unfold Bh.step
 rcases Ej h.fine hN hN2 s with⟨_,hi⟩|⟨_,_,hi⟩|⟨hs,hb,t,c,k,d,E',he,hi,hf,hlk,hmd,hoth,hd⟩
 ·rw[hi,if_pos (by simp)];exact same
 ·rw[hi,if_pos (by simp)];exact same
 ·rw[hi,if_neg (by simp)]
  have hk:=h.idr _ _ he
  rcases hd with⟨_,t',c',k',hme,hid,hw⟩|⟨hkd,ho,hpl,t',hme,hid⟩|⟨hkd,ho,hpl,hme⟩
  ·have hne:d.kind≠3:=by omega
   rw[if_pos hne]
   refine⟨hf,by show(X.ds.length:Int)=E'.made;rw[hmd];exact h.len,fun j hj=>?_,fun j y hy=>?_,by show X.gone.length≤_;omega,fun k=>Nat.le_trans (h.ops k) (by omega)⟩
   ·exact zB
   ·exact To
  ·rw[if_neg (show ¬d.kind≠3 by omega),if_pos ho]
   refine⟨hf,by show((X.ds.set _ _).length:Int)=E'.made;rw[hmd,List.length_set];exact h.len,fun j hj=>?_,fun j y hy=>?_,by show X.gone.length≤_;omega,fun k=>?_⟩
   ·exact zB
   ·exact To
   ·refine GD (Nat.le_trans (h.ops k) (by omega)) ?_
    show((Ba X.ds (X.at_ s.toNat)).ops++[_]).length≤_
    have:=h.ops (X.at_ s.toNat)
    rw[List.length_append,List.length_singleton];omega
  ·rw[if_neg (show ¬d.kind≠3 by omega),if_neg (show ¬d.r.over=0 by omega)]
   refine⟨hf,by show((X.ds.set _ _).length:Int)=E'.made;rw[hmd,List.length_set];exact h.len,fun j hj=>?_,fun j y hy=>?_,?_,fun k=>?_⟩
   ·show AT X.id s.toNat 0 j=match E'.ses j with|none=>0|some x=>x.t.id
    by_cases q:j=s.toNat
    ·subst q
     rw[hme,Au]
    ·rw[hoth j q,Ap _ _ _ q];exact h.id j hj
   ·have hy':E'.ses j=some y:=hy
    show _∧_≤E'.made
    rw[hmd]
    by_cases q:j=s.toNat
    ·subst q
     rw[hme]at hy';cases hy'
    ·rw[hoth j q]at hy';exact h.idr j y hy'
   ·show(if d.r.over=4 then X.gone++[d.r.reason]else X.gone).length≤N+81
    split
    ·rw[List.length_append,List.length_singleton];omega
    ·omega
   ·exact GD (Nat.le_trans (h.ops k) (by omega)) (Nat.le_trans (h.ops _) (by omega))
theorem Ci.sweep(h:Ci N X)(hN:256≤N)(hN2:N≤30000000):Ci (N+1) X.sweep:=by
 obtain⟨h1,h2,h3,h4⟩:=EU h.fine hN hN2
 have hg:=h.glen
 refine⟨h1,?_,fun j hj=>?_,fun j x hx=>?_,by show X.gone.length≤_;omega,fun k=>Nat.le_trans (h.ops k) (by omega)⟩
 ·show(X.ds.length:Int)=X.E.sweep.2.made
  rw[h4];exact h.len
 ·show X.id j=match X.E.sweep.2.ses j with|none=>0|some x=>x.t.id
  rw[h3];exact h.id j hj
 ·have hx':X.E.sweep.2.ses j=some x:=hx
  rw[h3]at hx'
  show _∧_≤X.E.sweep.2.made
  rw[h4];exact h.idr j x hx'
theorem Ci.mono{M:Nat}(h:Ci N X)(hm:N≤M):Ci M X:=⟨h.fine.mono hm,h.len,h.id,h.idr,Nat.le_trans h.glen hm,fun k=>Nat.le_trans (h.ops k) hm⟩
end
end
section
structure GR where
 R:Nat→Prop
 S:Nat→Prop
 va:Option Addr
 vc:Nat
 A:GN
 ga:Option Addr
 gc:Nat
def J7(e:Nat)(M:GR)(X:Bh):Array Value:=#[bp e,.slice M.va X.ds.length M.vc,.int .i64 (X.id 0),.int .i64 (X.id 1),.int .i64 (X.id 2),.int .i64 (X.id 3),.int .i64 (X.id 4),.int .i64 (X.id 5),.int .i64 (X.id 6),.int .i64 (X.id 7),
 .int .i64 (X.op 0).kind,.int .i64 (X.op 0).key,.int .i64 (X.op 0).hi,.int .i64 (X.op 0).value,.int .i64 (X.op 1).kind,.int .i64 (X.op 1).key,.int .i64 (X.op 1).hi,.int .i64 (X.op 1).value,.int .i64 (X.op 2).kind,.int .i64 (X.op 2).key,.int .i64 (X.op 2).hi,.int .i64 (X.op 2).value,.int .i64 (X.op 3).kind,.int .i64 (X.op 3).key,.int .i64 (X.op 3).hi,.int .i64 (X.op 3).value,.int .i64 (X.op 4).kind,.int .i64 (X.op 4).key,.int .i64 (X.op 4).hi,.int .i64 (X.op 4).value,.int .i64 (X.op 5).kind,.int .i64 (X.op 5).key,.int .i64 (X.op 5).hi,.int .i64 (X.op 5).value,.int .i64 (X.op 6).kind,.int .i64 (X.op 6).key,.int .i64 (X.op 6).hi,.int .i64 (X.op 6).value,.int .i64 (X.op 7).kind,.int .i64 (X.op 7).key,.int .i64 (X.op 7).hi,.int .i64 (X.op 7).value,.slice M.ga X.gone.length M.gc]
def FU(l:List Int):List Value:=l.map (Value.int .i64)
def gB(M:GR):Nat→Prop:=AL M.ga
def IC(x:Nat)(M:GR):Nat→Prop:=fun b=>b=x∨M.R b∨gB M b
structure AY(B:Nat)(w:World)(U:Nat→Prop)(x e:Nat)(M:GR)(X:Bh):Prop where
 en:DG B w U (IC x M) e X.E
 blk:Am w x 44 (J7 e M X)
 dd:DO B w M.R M.S M.va M.vc X.ds M.A
 gn:w.ownsRow B 3 1 (.slice M.ga X.gone.length M.gc) X.gone.length (FU X.gone)
 xR:¬M.R x
 xS:¬M.S x
 xG:¬gB M x
 gR:AR (gB M) M.R
 gS:AR (gB M) M.S
 uS:AR U M.S
theorem FT{M:GR}{n c:Nat}{b:Nat}(h:AA (.slice M.ga n c) b):gB M b:=by
 unfold AA Value.ownBlock at h
 cases e:M.ga with
 |none=>rw[e]at h;cases h
 |some a=>rw[e]at h;cases h;exact⟨a,e,rfl⟩
section
variable {B x e:Nat} {w w':World} {U:Nat→Prop} {M:GR} {X:Bh}
theorem AY.under(h:AY B w U x e M X):Bo (IC x M) w.heap.size:=h.en.underT
theorem AY.only0(h:AY B w U x e M X)(o:Ac w w'):AY B w' U x e M X:=
 ⟨h.en.only0 o,o.blk h.blk (fun f=>f),h.dd.only0 o,AD (S:=fun _=>False) h.gn o (fun _ _ f=>f),h.xR,h.xS,h.xG,h.gR,h.gS,h.uS⟩
theorem AY.eng(h:AY B w U x e M X){U':Nat→Prop}{E':En}(en:DG B w' U' (IC x M) e E')(o:Ah U w w')(g:AC w.heap.size U U'):AY B w' U' x e M {X with E:=E'}:=by
 have ap:=h.en.apart
 refine⟨en,o.blk h.blk (fun hu=>ap x hu (.inl rfl)),h.dd.only o (fun b hr hu=>ap b hu (.inr (.inl hr))) (fun b hs hu=>h.uS b hu hs),AD h.gn o (fun b hb hu=>ap b hu (.inr (.inr (FT hb)))),h.xR,h.xS,h.xG,h.gR,h.gS,fun b hu hs=>?_⟩
 rcases g b hu with y|y
 ·exact h.uS b y hs
 ·have:=h.dd.uS b hs;omega
theorem AY.deal(h:AY B w U x e M X){R2 S2:Nat→Prop}{va2:Option Addr}{vc2:Nat}{ds2:List Dl}{A2:GN}{id2:Nat→Int}{op2:Nat→DS}(D:DO B w' R2 S2 va2 vc2 ds2 A2)(o:Ah (fun b=>b=x∨M.R b) w w')(gR:AC w.heap.size M.R R2)
 (gS:∀b,S2 b→M.S b∨(¬U b∧b≠x∧¬gB M b)) (hb:Am w' x 44 (J7 e {M with R:=R2,S:=S2,va:=va2,vc:=vc2,A:=A2} {X with ds:=ds2,id:=id2,op:=op2})):
 AY B w' U x e {M with R:=R2,S:=S2,va:=va2,vc:=vc2,A:=A2} {X with ds:=ds2,id:=id2,op:=op2}:=by
 have uT:=h.under
 have oT:Ah (IC x M) w w':=o.mono (fun b _ hb=>hb.elim .inl (fun y=> .inr (.inl y)))
 have ap:=h.en.apart
 refine⟨h.en.turn oT (fun b hb=>?_) (fun b hb=>?_),hb,D,AD h.gn o (fun b hb ho=>?_),fun hr=>?_,fun hs=>?_,h.xG,fun b hg hr=>?_,fun b hg hs=>?_,fun b hu hs=>?_⟩
 ·rcases hb with y|y|y
  ·exact .inl (.inl y)
  ·exact(gR b y).imp (fun z=> .inr (.inl z)) (fun z=>z)
  ·exact .inl (.inr (.inr y))
 ·rcases hb with y|y|y
  ·exact Nat.lt_of_lt_of_le (uT b (.inl y)) o.size
  ·exact D.uR b y
  ·exact Nat.lt_of_lt_of_le (uT b (.inr (.inr y))) o.size
 ·rcases ho with y|y
  ·exact h.xG (y▸FT hb)
  ·exact h.gR b (FT hb) y
 ·rcases gR x hr with y|y
  ·exact h.xR y
  ·have:=uT x (.inl rfl);omega
 ·rcases gS x hs with y|y
  ·exact h.xS y
  ·exact y.2.1 rfl
 ·rcases gR b hr with y|y
  ·exact h.gR b hg y
  ·have:=uT b (.inr (.inr hg));omega
 ·rcases gS b hs with y|y
  ·exact h.gS b hg y
  ·exact y.2.2 hg
 ·rcases gS b hs with y|y
  ·exact h.uS b hu y
  ·exact y.1 hu
theorem AY.cell(h:AY B w U x e M X)(o:Nat)(v:Value){id2:Nat→Int}{op2:Nat→DS}(hc:J7 e M {X with id:=id2,op:=op2}=(J7 e M X).setIfInBounds o v):AY B (w.setCell ⟨x,o,none⟩ v) U x e M {X with id:=id2,op:=op2}:=by
 have o1:Ah (fun b=>b=x) w (w.setCell ⟨x,o,none⟩ v):=Ah.setCell (S:=fun b=>b=x) (Ah.refl _ w) (fun _=>rfl) _
 have B2:=h.blk.set o v
 rw[←hc]at B2
 exact h.deal (id2:=id2) (op2:=op2) (h.dd.only o1 (fun b hr e=>h.xR (e▸hr)) (fun b hs e=>h.xS (e▸hs))) (o1.mono (fun b _ hb=> .inl hb)) (AC.refl _ _) (fun b hb=> .inl hb) B2
theorem KZ(e:Nat)(M:GR)(X:Bh)(j:Nat)(hj:j<8)(v:Int):J7 e M {X with id:=AT X.id j v}=(J7 e M X).setIfInBounds (2+j) (.int .i64 v):=by
 match j,hj with
 |0,_=>rfl
 |1,_=>rfl
 |2,_=>rfl
 |3,_=>rfl
 |4,_=>rfl
 |5,_=>rfl
 |6,_=>rfl
 |7,_=>rfl
theorem RI(e:Nat)(M:GR)(X:Bh)(j:Nat)(hj:j<8)(o:DS):J7 e M {X with op:=AT X.op j o}=((((J7 e M X).setIfInBounds (10+j*4) (.int .i64 o.kind)).setIfInBounds (10+j*4+1) (.int .i64 o.key)).setIfInBounds (10+j*4+2) (.int .i64 o.hi)).setIfInBounds (10+j*4+3) (.int .i64 o.value):=by
 match j,hj with
 |0,_=>rfl
 |1,_=>rfl
 |2,_=>rfl
 |3,_=>rfl
 |4,_=>rfl
 |5,_=>rfl
 |6,_=>rfl
 |7,_=>rfl
theorem AY.cE(h:AY B w U x e M X):w.cell? ⟨x,0,none⟩=some (bp e):=h.blk.cell 0
theorem AY.cD(h:AY B w U x e M X):w.cell? ⟨x,1,none⟩=some (.slice M.va X.ds.length M.vc):=h.blk.cell 1
theorem AY.cI(h:AY B w U x e M X)(j:Nat)(hj:j<8):w.cell? ⟨x,2+j,none⟩=some (.int .i64 (X.id j)):=by
 match j,hj with
 |0,_=>exact h.blk.cell 2
 |1,_=>exact h.blk.cell 3
 |2,_=>exact h.blk.cell 4
 |3,_=>exact h.blk.cell 5
 |4,_=>exact h.blk.cell 6
 |5,_=>exact h.blk.cell 7
 |6,_=>exact h.blk.cell 8
 |7,_=>exact h.blk.cell 9
theorem AY.cO(h:AY B w U x e M X)(j:Nat)(hj:j<8):w.cell? ⟨x,10+j*4,none⟩=some (.int .i64 (X.op j).kind)∧w.cell? ⟨x,10+j*4+1,none⟩=some (.int .i64 (X.op j).key)∧w.cell? ⟨x,10+j*4+2,none⟩=some (.int .i64 (X.op j).hi)∧w.cell? ⟨x,10+j*4+3,none⟩=some (.int .i64 (X.op j).value):=by
 match j,hj with
 |0,_=>exact⟨h.blk.cell 10,h.blk.cell 11,h.blk.cell 12,h.blk.cell 13⟩
 |1,_=>exact⟨h.blk.cell 14,h.blk.cell 15,h.blk.cell 16,h.blk.cell 17⟩
 |2,_=>exact⟨h.blk.cell 18,h.blk.cell 19,h.blk.cell 20,h.blk.cell 21⟩
 |3,_=>exact⟨h.blk.cell 22,h.blk.cell 23,h.blk.cell 24,h.blk.cell 25⟩
 |4,_=>exact⟨h.blk.cell 26,h.blk.cell 27,h.blk.cell 28,h.blk.cell 29⟩
 |5,_=>exact⟨h.blk.cell 30,h.blk.cell 31,h.blk.cell 32,h.blk.cell 33⟩
 |6,_=>exact⟨h.blk.cell 34,h.blk.cell 35,h.blk.cell 36,h.blk.cell 37⟩
 |7,_=>exact⟨h.blk.cell 38,h.blk.cell 39,h.blk.cell 40,h.blk.cell 41⟩
theorem AY.cG(h:AY B w U x e M X):w.cell? ⟨x,42,none⟩=some (.slice M.ga X.gone.length M.gc):=h.blk.cell 42
end
end
section
attribute [local go_sem ↓] Go.wp_at_zero Go.wp_at_succ
def Bl(U:Nat→Prop)(x:Nat)(M:GR):Nat→Prop:=fun b=>U b∨IC x M b
def Bd(B:Nat)(w:World)(U:Nat→Prop)(x e:Nat)(M:GR)(X':Bh)(w':World):Prop:=∃U' M',AY B w' U' x e M' X'∧Ah (Bl U x M) w w'∧AC w.heap.size (Bl U x M) (Bl U' x M')
def PN:GR:=⟨fun _=>False,fun _=>False,none,0,⟨fun _=>none,fun _=>0,fun _ _=>none,fun _ _=>0⟩,none,0⟩
def R3(w:World)(slots limit:Int)(r:Ending)(w':World):Prop:=∃x e U,r= .returned (bp x)∧AY w.heap.size w' U x e PN (Ls slots limit)∧Ac w w'∧w.heap.size≤x∧Cz U w.heap.size
theorem Rs{slots limit:Int}(hc:GI slots limit=true)(w:World):
 Calls Tryz.prog 13 #[slots,.int .u64 limit] w (R3 w slots limit):=by
 have CN:=fun wz=>OM hc wz (B:=w.heap.size)
 clear hc
 go_enter Tryz.func13,Tryz.ntmps13
 go_wp2_with fail
 refine(CN w (Nat.le_refl _)).mono ?_
 rintro r w1 ⟨e,U,rfl,h1,o1,a1⟩
 have H1:=Aa (And.intro h1 (And.intro o1 a1))
 clear h1 o1 a1 CN
 go_wp2_with fail
 go_ret
 obtain⟨h1,o1,a1⟩:=H1.out
 refine⟨w1.heap.size,e,U,rfl,⟨?_,Am.new _ _ _,DO.nil _ _,World.ownsRow_nil _ _ _ _,fun f=>f,fun f=>f,fun⟨_,q,_⟩=>(by cases q),fun _ _ f=>f,fun _ _ f=>f,fun _ _ f=>f⟩,o1.alloc _,o1.size,a1⟩
 refine h1.turn (((Ac.refl w1).alloc _).any _) (fun b hb=>?_) (fun b hb=>?_)
 ·rcases hb with y|y|⟨_,q,_⟩
  ·exact .inr (by omega)
  ·exact y.elim
  ·cases q
 ·rcases hb with y|y|⟨_,q,_⟩
  ·subst y;simp
  ·exact y.elim
  ·cases q
section
variable {B N x e:Nat} {w w':World} {U:Nat→Prop} {M:GR} {X:Bh}
theorem Bd.eng(h:AY B w U x e M X){E':En}(g:KQ B w U (IC x M) e E' w'):∃U',AY B w' U' x e M {X with E:=E'}∧Ah (Bl U x M) w w'∧AC w.heap.size (Bl U x M) (Bl U' x M):=by
 obtain⟨U',h',o,k⟩:=g
 exact⟨U',h.eng h' o k,o.mono (fun b _ hb=> .inl hb),fun b hb=>hb.elim (fun y=>(k b y).imp .inl (fun z=>z)) (fun y=> .inl (.inr y))⟩
theorem Bd.then{X2:Bh}{w1 w2:World}{U1:Nat→Prop}{M1:GR}(o:Ah (Bl U x M) w w1)(g:AC w.heap.size (Bl U x M) (Bl U1 x M1))(k:Bd B w1 U1 x e M1 X2 w2):Bd B w U x e M X2 w2:=by
 obtain⟨U2,M2,h2,o2,g2⟩:=k
 exact⟨U2,M2,h2,o.grewTrans g o2,g.trans g2 o.size⟩
theorem L3(h:AY B w U x e M X)(hf:As N X.E)(hN2:N≤30000000)(s level:Int){er:Int}{E':En}(hb:X.E.begin s level=(0,er,E'))(he:er≠0)(hf':As N E')(hn:E'.now=X.E.now):
 Calls Tryz.prog 14 #[bp x,s,level] w fun r w'=>r= .returned (.bool true)∧Bd B w U x e M {X with E:=E'} w':=by
 have CB:=Ht h.en hf hN2 s level
 rw[hb]at CB
 have CN:=I3 h.en hf
 have cE:=h.cE
 have HH:=Aa h
 clear h hb
 go_enter Tryz.func14,Tryz.ntmps14
 go_wp2_with fail
 refine CN.mono ?_
 rintro r w1 ⟨rfl,rfl⟩
 clear CN
 go_wp2_with fail
 refine CB.mono ?_
 rintro r w2 ⟨rfl,g2⟩
 obtain⟨U2,h2,o2,k2⟩:=Bd.eng HH.out g2
 have CN2:=I3 h2.en hf'
 rw[hn]at CN2
 have cE2:=h2.cE
 have H2:=Aa (And.intro h2 (And.intro o2 k2))
 clear h2 o2 k2 g2 CB cE
 go_wp2_with fail
 refine CN2.mono ?_
 rintro r w3 ⟨rfl,rfl⟩
 clear CN2
 go_wp2_with fail
 go_ret
 refine⟨by simp,U2,M,H2.out⟩
theorem AY.push(h:AY B w U x e M X){d:Dl}(hd:d.ops=[]){gg cap:Nat}{w1:World}(hown:w1.ownsRow B 57 6 (.slice (some ⟨gg,0,none⟩) (X.ds.length+1) cap) (X.ds.length+1) (CQ X.ds M.A.oa M.A.oc++By d none 0))(hg:w.grownBy w1 (Value.slice M.va X.ds.length M.vc).ownBlock)
 (hat:(Value.slice M.va X.ds.length M.vc).ownBlock=some gg∨w.heap.size≤gg) (hlt:gg<w1.heap.size):
 ∃M',AY B (w1.setCell ⟨x,1,none⟩ (.slice (some ⟨gg,0,none⟩) (X.ds.length+1) cap)) U x e M' {X with ds:=X.ds++[d]}∧Ah (Bl U x M) w (w1.setCell ⟨x,1,none⟩ (.slice (some ⟨gg,0,none⟩) (X.ds.length+1) cap))∧AC w.heap.size (Bl U x M) (Bl U x M'):=by
 obtain⟨A',D',O'⟩:=h.dd.push hd hown hg hat hlt
 have gR:AC w.heap.size M.R (fun b=>M.R b∨b=gg):=fun b hb=>by
  rcases hb with y|y
  ·exact .inl y
  ·rcases hat with z|z
   ·exact .inl (h.dd.rR b (by rw[y];exact z))
   ·exact .inr (by omega)
 have hx:x<w.heap.size:=h.under x (.inl rfl)
 have B1:Am w1 x 44 (J7 e M X):=O'.blk h.blk h.xR
 have o2:Ah (fun b=>b=x) w1 (w1.setCell ⟨x,1,none⟩ (.slice (some ⟨gg,0,none⟩) (X.ds.length+1) cap)):=Ah.setCell (S:=fun b=>b=x) (Ah.refl _ w1) (fun _=>rfl) _
 have B2:=B1.set 1 (.slice (some ⟨gg,0,none⟩) (X.ds.length+1) cap)
 have oo:Ah (fun b=>b=x∨M.R b) w (w1.setCell ⟨x,1,none⟩ (.slice (some ⟨gg,0,none⟩) (X.ds.length+1) cap)):=(O'.mono (fun b _ hb=> .inr hb)).trans (o2.mono (fun b _ hb=> .inl hb))
 have xg:¬(M.R x∨x=gg):=fun q=>by
  rcases gR x q with y|y
  ·exact h.xR y
  ·omega
 refine⟨{M with R:=fun b=>M.R b∨b=gg,va:=some ⟨gg,0,none⟩,vc:=cap,A:=A'},h.deal (id2:=X.id) (op2:=X.op) (D'.only o2 (fun b hb q=>xg (q▸hb)) (fun b hb q=>h.xS (q▸hb))) oo gR (fun b hb=> .inl hb) ?_,oo.mono (fun b _ hb=> .inr (hb.elim .inl (fun y=> .inr (.inl y)))),fun b hb=>?_⟩
 ·have hl:(X.ds++[d]).length=X.ds.length+1:=by simp
  have:J7 e {M with R:=fun b=>M.R b∨b=gg,va:=some ⟨gg,0,none⟩,vc:=cap,A:=A'} {X with ds:=X.ds++[d],id:=X.id,op:=X.op}=(J7 e M X).setIfInBounds 1 (.slice (some ⟨gg,0,none⟩) (X.ds.length+1) cap):=by
   unfold J7
   rw[hl]
   rfl
  rw[this];exact B2
 ·exact Tb
theorem MA(h:AY B w U x e M X)(hf:As N X.E)(hN2:N≤30000000)(j:Nat)(hj:j<8)(level:Int){E':En}(hb:X.E.begin (j:Int) level=((X.ds.length:Int)+1,0,E'))(hf':As N E')(hn:E'.now=X.E.now+1)(hnow:0≤X.E.now∧X.E.now≤1099511627776)(hid:X.id j=0)(hl:X.ds.length≤1000000):
 Calls Tryz.prog 14 #[bp x,.int .i64 (j:Int),level] w fun r w'=>r= .returned (.bool true)∧Bd B w U x e M {X with E:=E',id:=AT X.id j ((X.ds.length:Int)+1),ds:=X.ds++[⟨(X.ds.length:Int)+1,level,1,X.E.now+1,0,[]⟩]} w':=by
 have CB:=Ht h.en hf hN2 (j:Int) level
 rw[hb]at CB
 have CN:=I3 h.en hf
 have cE:=h.cE
 have HH:=Aa h
 obtain⟨n,hnn⟩:=Ad X.ds.length
 obtain⟨now,hnw⟩:=Ad X.E.now
 rw[←hnn]at CB hl ⊢
 rw[←hnw]at CN hnow hn ⊢
 have HNN:=Aa (And.intro hnn hnw)
 obtain⟨i0,hi0,hz0,hz1,hz2⟩:=info_parts IL
 have j8:(j:Int)<8:=by omega
 have g1:¬((j:Int)<0):=by omega
 have g2:¬((j:Int)>7):=by omega
 have w1n:IntKind.i64.wrap ((n:Int)+1)=(n:Int)+1:=by rw[IntKind.wrap_i64];omega
 have w2n:IntKind.u64.wrap (now+1)=now+1:=by rw[IntKind.wrap_u64];omega
 have HID:=Aa hid
 clear h hb hnn hnw hid
 go_enter Tryz.func14,Tryz.ntmps14
 go_wp2_with fail
 refine CN.mono ?_
 rintro r w1 ⟨rfl,rfl⟩
 clear CN
 go_wp2_with fail
 refine CB.mono ?_
 rintro r w2 ⟨rfl,g2'⟩
 obtain⟨U2,h2,o2,k2⟩:=Bd.eng HH.out g2'
 have CN2:=I3 h2.en hf'
 rw[hn]at CN2
 have cE2:=h2.cE
 have cD2:=h2.cD
 rw[show({X with E:=E'}:Bh).ds.length=n from HNN.out.1.symm]at cD2
 have cI2:=h2.cI j hj
 rw[show({X with E:=E'}:Bh).id j=0 from HID.out]at cI2
 have fI2:=h2.blk.free (2+j)
 have H2:=Aa (And.intro h2 (And.intro o2 k2))
 clear h2 o2 k2 g2' CB cE
 go_upto_region 5 with(fail)
 go_wp2_with fail
 refine CN2.mono ?_
 rintro r w3 ⟨rfl,rfl⟩
 clear CN2
 go_upto_region 7 with(fail)
 obtain⟨wI,hwI⟩:=Ad (w2.setCell ⟨x,2+j,none⟩ (.int .i64 ((n:Int)+1)))
 have hI:AY B wI U2 x e M {X with E:=E',id:=AT X.id j ((n:Int)+1)}:=by rw[hwI];exact H2.out.1.cell (op2:=X.op) _ _ (KZ e M _ j hj _)
 have oI:Ah (Bl U2 x M) w2 wI:=by rw[hwI];exact Ah.setCell (S:=Bl U2 x M) (Ah.refl _ w2) (fun _=> .inr (.inl rfl)) _
 obtain⟨d,hd⟩:∃d:Dl,d=⟨(n:Int)+1,level,1,now+1,0,[]⟩:=⟨_,rfl⟩
 obtain⟨W,hW⟩:=Ad (wI.alloc (.cells #[.int .i64 ((n:Int)+1),level,.int .i64 1,.int .u64 (now+1),.int .u64 0,.slice none 0 0] 57))
 have oW:Ac wI W:=by rw[hW];exact(Ac.refl wI).alloc _
 have hC:=hI.only0 oW
 have cDI:=hI.cD
 rw[show({X with E:=E',id:=AT X.id j ((n:Int)+1)}:Bh).ds.length=n from HNN.out.1.symm]at cDI
 have e1:=hC.cD
 rw[show({X with E:=E',id:=AT X.id j ((n:Int)+1)}:Bh).ds.length=n from HNN.out.1.symm]at e1
 have f1:W.frozen? ⟨x,1,none⟩=false:=hC.blk.free 1
 have lt1:x<W.heap.size:=hC.blk.lt
 have R6:W.ownsRow B 57 6 (.slice M.va n M.vc) n (CQ X.ds M.A.oa M.A.oc):=by have:=hC.dd.row;rw[show({X with E:=E',id:=AT X.id j ((n:Int)+1)}:Bh).ds.length=n from HNN.out.1.symm]at this;exact this
 have nx:¬AA (.slice M.va n M.vc) x:=fun q=>hC.xR (hC.dd.rR x (by rw[show({X with E:=E',id:=AT X.id j ((n:Int)+1)}:Bh).ds.length=n from HNN.out.1.symm];exact q))
 have hB6:B≤W.heap.size:=hC.en.base
 have HE:=Aa (fun(gg cap:Nat) (w1:World) (h1:w1.ownsRow B 57 6 (.slice (some ⟨gg,0,none⟩) (n+1) cap) (n+1) (CQ X.ds M.A.oa M.A.oc++[.int .i64 ((n:Int)+1),.int .i64 level,.int .i64 1,.int .u64 (now+1),.int .u64 0,.slice none 0 0])) (h2:W.grownBy w1 (Value.slice M.va n M.vc).ownBlock) (h3:(Value.slice M.va n M.vc).ownBlock=some gg∨gg=wI.heap.size+1) (h4:gg<w1.heap.size)=>(by
  have en:=HNN.out.1
  have hp:=hC.push (d:=d) (by rw[hd]) (gg:=gg) (cap:=cap) (w1:=w1)
  rw[show({X with E:=E',id:=AT X.id j ((n:Int)+1)}:Bh).ds.length=n from en.symm,show By d none 0=[.int .i64 ((n:Int)+1),.int .i64 level,.int .i64 1,.int .u64 (now+1),.int .u64 0,.slice none 0 0] by rw[hd];rfl]at hp
  obtain⟨M',q1,q2,q3⟩:=hp h1 h2 (h3.imp (fun y=>y) (fun y=>by rw[y,hW];simp)) h4
  refine Bd.then H2.out.2.1 H2.out.2.2 (Bd.then oI (AC.refl _ _) (Bd.then (oW.any _) (AC.refl _ _) ⟨U2,M',?_,q2,q3⟩))
  rw[hd]at q1
  exact q1:Bd B w U x e M {X with E:=E',id:=AT X.id j ((n:Int)+1),ds:=X.ds++[⟨(n:Int)+1,level,1,now+1,0,[]⟩]} (w1.setCell ⟨x,1,none⟩ (.slice (some ⟨gg,0,none⟩) (n+1) cap))))
 rw[hW]at e1 f1 lt1 R6 hB6 HE
 clear oW hC hd hW hI oI
 go_upto_region 8 with(fail)
 rw[←hwI]
 clear hwI cE2 cD2 cI2 fI2
 trace_state
 go_wp2_with (at_builtin;refine wpList_append_lies _ rfl _ _ 40 rfl B 57 i0 _ 6 64 Tryz.underlying40 hi0 hz0 hz1 hz2 rfl (by omega) (.slice M.va n M.vc) n (CQ X.ds M.A.oa M.A.oc) rfl R6 ⟨wI.heap.size,0,none⟩ 1 1 [.int .i64 ((n:Int)+1),.int .i64 level,.int .i64 1,.int .u64 (now+1),.int .u64 0,.slice none 0 0] rfl rfl (World.news_of_block (cs:=#[.int .i64 ((n:Int)+1),.int .i64 level,.int .i64 1,.int .u64 (now+1),.int .u64 0,.slice none 0 0]) (t:=57) (fr:=(0,0)) (heap_alloc_new wI _)) (by simp[Value.oneCell']) (by omega) (by unfold maxLen;omega) (by omega) hB6 (wI.heap.size+1) (by simp) ?_)
 intro gg cap w1 hown hgrow hat hlt
 have e9:=Ae w1 x 1 (.slice M.va n M.vc) ((hgrow.cell_far ⟨x,1,none⟩ lt1 (fun q=>nx q.symm)).trans e1)
 have f9:w1.frozen? ⟨x,1,none⟩=false:=(hgrow.frozen_far ⟨x,1,none⟩ lt1 (fun q=>nx q.symm)).trans f1
 have HX:=Aa (HE.out gg cap w1 hown hgrow hat hlt)
 clear hown hgrow hat hlt e1 f1 R6 HE
 go_wp2_with fail
 go_ret
 exact⟨rfl,HX.out⟩
end
end
section
theorem RJ(a b c d:Int)(w:World):(part 3 #[.int .i64 a,.int .i64 b,.int .i64 c,.int .i64 d] 0).run Tryz.prog w= .ok (.int .i64 a) w:=by kernel_rfl
theorem Rh(a b c d:Int)(w:World):(part 3 #[.int .i64 a,.int .i64 b,.int .i64 c,.int .i64 d] 1).run Tryz.prog w= .ok (.int .i64 b) w:=by kernel_rfl
theorem RK(a b c d:Int)(w:World):(part 3 #[.int .i64 a,.int .i64 b,.int .i64 c,.int .i64 d] 2).run Tryz.prog w= .ok (.int .i64 c) w:=by kernel_rfl
theorem Rj(a b c d:Int)(w:World):(part 3 #[.int .i64 a,.int .i64 b,.int .i64 c,.int .i64 d] 3).run Tryz.prog w= .ok (.int .i64 d) w:=by kernel_rfl
theorem NW:Tryz.prog.stoodInHeld 37=false:=by kernel_rfl
theorem LT:Tryz.prog.underlying 37=some (.struct (Tryz.prog.fieldsOf 37)):=by kernel_rfl
theorem Oa(k a b c:Int)(w:World):(binOp .eql 37 (.agg #[k,a,b,c]) (.agg #[k,.int .i64 0,.int .i64 0,.int .i64 0])).run Tryz.prog w= .ok (.bool (decide (a=0)&&decide (b=0)&&decide (c=0))) w:=by
 rw[run_eql_struct,run_equalIn_agg w 9999 _ _ _ LT NW]
 have e:∀(x y:Int),(Op.equalIn 9999 3 (.int .i64 x) (.int .i64 y)).run Tryz.prog w= .ok (x==y) w:=fun x y=>run_equalIn_int w 9998 _ _ _ x y Tryz.underlying3
 unfold Program.fieldsOf
 rw[Tryz.underlying37]
 by_cases e1:a=0<;>by_cases e2:b=0<;>by_cases e3:c=0<;>simp[Op.eqFields,RJ,Rh,RK,Rj,e,e1,e2,e3,Result.andThen]
theorem Qd(key hi value:Int)(w:World)(b:Bool)(hb:AF ⟨1,key,hi,value⟩=b):Calls Tryz.prog 38 #[.agg #[.int .i64 1,key,hi,value]] w fun e w'=>e= .returned (.bool b)∧Ac w w':=by
 exact TT
theorem Qc(key hi value:Int)(w:World)(b:Bool)(hb:AF ⟨4,key,hi,value⟩=b):Calls Tryz.prog 38 #[.agg #[.int .i64 4,key,hi,value]] w fun e w'=>e= .returned (.bool b)∧Ac w w':=by
 exact TT
theorem Qj(key hi value:Int)(w:World)(b:Bool)(hb:AF ⟨2,key,hi,value⟩=b):Calls Tryz.prog 38 #[.agg #[.int .i64 2,key,hi,value]] w fun e w'=>e= .returned (.bool b)∧Ac w w':=by
 exact Un
theorem Qg(key hi value:Int)(w:World)(b:Bool)(hb:AF ⟨3,key,hi,value⟩=b):Calls Tryz.prog 38 #[.agg #[.int .i64 3,key,hi,value]] w fun e w'=>e= .returned (.bool b)∧Ac w w':=by
 exact Un
theorem Qv(key hi value:Int)(w:World)(b:Bool)(hb:AF ⟨5,key,hi,value⟩=b):Calls Tryz.prog 38 #[.agg #[.int .i64 5,key,hi,value]] w fun e w'=>e= .returned (.bool b)∧Ac w w':=by
 have hk:key<0∨(0≤key∧63<key)∨(0≤key∧key≤63):=by omega
 have hv:value<0∨(0≤value∧65535<value)∨(0≤value∧value≤65535):=by omega
 rcases hk with a1|⟨a1,a2⟩|⟨a1,a2⟩
 ·exact SY
 ·exact SY
 ·by_cases e1:hi<key
  ·exact SY
  ·have f1:key≤hi:=by omega
   by_cases e2:63<hi
   ·obtain rfl:b=false:=by rw[←hb];simp[AF,A0];omega
    exact TW
   ·have f2:hi≤63:=by omega
    clear e1 e2
    by_cases e3:value=0
    ·subst e3
     exact Tj
    ·have e3b:(value==0)=false:=by simpa using e3
     obtain rfl:b=false:=by rw[←hb];simp[AF,A0,e3];skip
     clear hb
     clear e3
     exact TB
theorem Qm(key hi value:Int)(w:World)(b:Bool)(hb:AF ⟨6,key,hi,value⟩=b):Calls Tryz.prog 38 #[.agg #[.int .i64 6,key,hi,value]] w fun e w'=>e= .returned (.bool b)∧Ac w w':=by
 have hk:key<0∨(0≤key∧63<key)∨(0≤key∧key≤63):=by omega
 have hv:value<0∨(0≤value∧65535<value)∨(0≤value∧value≤65535):=by omega
 obtain rfl:b=(decide (key=0)&&decide (hi=0)&&decide (value=0)):=by rw[←hb];simp[AF]
 have hq:=Oa 6 key hi value
 exact Tc
theorem QS(key hi value:Int)(w:World)(b:Bool)(hb:AF ⟨7,key,hi,value⟩=b):Calls Tryz.prog 38 #[.agg #[.int .i64 7,key,hi,value]] w fun e w'=>e= .returned (.bool b)∧Ac w w':=by
 have hk:key<0∨(0≤key∧63<key)∨(0≤key∧key≤63):=by omega
 have hv:value<0∨(0≤value∧65535<value)∨(0≤value∧value≤65535):=by omega
 obtain rfl:b=(decide (key=0)&&decide (hi=0)&&decide (value=0)):=by rw[←hb];simp[AF]
 have hq:=Oa 7 key hi value
 exact Tc
theorem Qw(kind key hi value:Int)(w:World)(b1:(kind==1)=false)(b2:(kind==2)=false)(b3:(kind==3)=false)(b4:(kind==4)=false)(b5:(kind==5)=false)(b6:(kind==6)=false)(b7:(kind==7)=false)(b:Bool)(hb:AF ⟨kind,key,hi,value⟩=b):Calls Tryz.prog 38 #[.agg #[kind,key,hi,value]] w fun e w'=>e= .returned (.bool b)∧Ac w w':=by
 have hk:key<0∨(0≤key∧63<key)∨(0≤key∧key≤63):=by omega
 have hv:value<0∨(0≤value∧65535<value)∨(0≤value∧value≤65535):=by omega
 obtain rfl:b=false:=by rw[←hb];simp at b1 b2 b3 b4 b5 b6 b7;simp[AF,b1,b2,b3,b4,b5,b6,b7]
 exact Tc
theorem Fo(kind key hi value:Int)(w:World):Calls Tryz.prog 38 #[.agg #[kind,key,hi,value]] w fun e w'=>e= .returned (.bool (AF ⟨kind,key,hi,value⟩))∧Ac w w':=by
 by_cases h1:kind=1
 ·subst h1;exact Qd _ _ _ w _ rfl
 by_cases h2:kind=2
 ·subst h2;exact Qj _ _ _ w _ rfl
 by_cases h3:kind=3
 ·subst h3;exact Qg _ _ _ w _ rfl
 by_cases h4:kind=4
 ·subst h4;exact Qc _ _ _ w _ rfl
 by_cases h5:kind=5
 ·subst h5;exact Qv _ _ _ w _ rfl
 by_cases h6:kind=6
 ·subst h6;exact Qm _ _ _ w _ rfl
 by_cases h7:kind=7
 ·subst h7;exact QS _ _ _ w _ rfl
 exact Qw _ _ _ _ w (by simpa using h1) (by simpa using h2) (by simpa using h3) (by simpa using h4) (by simpa using h5) (by simpa using h6) (by simpa using h7) _ rfl
end
section
attribute [local go_sem ↓] Go.wp_at_zero Go.wp_at_succ
section
variable {B N x e:Nat} {w w':World} {U:Nat→Prop} {M:GR} {X:Bh}
theorem Bd.end3{W W1 w2 w3:World}{U2:Nat→Prop}{X2:Bh}(o1:Ac w W)(o2:Ac W W1)(o3:Ah (Bl U x M) W1 w2)(g:AC W1.drew.heap.size (Bl U x M) (Bl U2 x M))(h:AY B w3 U2 x e M X2)(o4:Ac w2 w3):Bd B w U x e M X2 w3:=
 ⟨U2,M,h,(((o1.any _).trans (o2.any _)).trans o3).trans (o4.any _),fun b hb=>(g b hb).imp (fun y=>y) (fun y=>Nat.le_trans (Nat.le_trans o1.size o2.size) (Nat.le_trans (by simp) y))⟩
theorem Ch{w:World}{n:Nat}{t:TypeId}{a1 a2 a3:Bool}{a4 a5 a6 a7 a8 a9:Int}(h:Am w n t #[.bool a1,.bool a2,.bool a3,a4,a5,a6,.int .u64 a7,.int .u64 a8,a9]):w.cell? ⟨n,0,none⟩=some (.bool a1)∧w.cell? ⟨n,1,none⟩=some (.bool a2)∧w.cell? ⟨n,2,none⟩=some (.bool a3)∧w.cell? ⟨n,3,none⟩=some (.int .i64 a4)∧w.cell? ⟨n,4,none⟩=some (.int .i64 a5)∧w.cell? ⟨n,5,none⟩=some (.int .i64 a6)∧w.cell? ⟨n,6,none⟩=some (.int .u64 a7)∧w.cell? ⟨n,7,none⟩=some (.int .u64 a8)∧w.cell? ⟨n,8,none⟩=some (.int .i64 a9):=⟨h.cell 0,h.cell 1,h.cell 2,h.cell 3,h.cell 4,h.cell 5,h.cell 6,h.cell 7,h.cell 8⟩
theorem Gj{w:World}{n:Nat}{t:TypeId}{a b c d:Int}(h:Am w n t #[a,b,c,d]):w.cell? ⟨n,0,none⟩=some (.int .i64 a)∧w.cell? ⟨n,1,none⟩=some (.int .i64 b)∧w.cell? ⟨n,2,none⟩=some (.int .i64 c)∧w.cell? ⟨n,3,none⟩=some (.int .i64 d):=⟨h.cell 0,h.cell 1,h.cell 2,h.cell 3⟩
theorem J1(h:AY B w U x e M X)(hf:As N X.E)(hN:256≤N)(hN2:N≤30000000)(s kind key hh value:Int)(hs:s<0∨7<s)(hi:X.E.issue s ⟨kind,key,hh,value⟩=(1,X.E)):
 Calls Tryz.prog 17 #[bp x,.int .i64 s,.agg #[kind,key,hh,value]] w fun r w'=>r= .returned (.bool true)∧Bd B w U x e M X w':=by
 obtain⟨W,hW⟩:=Ad (w.alloc (.cells #[kind,key,hh,value] 37))
 have oW:Ac w W:=by rw[hW];exact(Ac.refl w).alloc _
 have BX:Am W w.heap.size 37 #[kind,key,hh,value]:=by rw[hW];exact Am.new _ _ _
 obtain⟨n0,hn0⟩:=Ad w.heap.size
 rw[←hn0]at BX
 have HN:=Aa (And.intro hn0 oW)
 have hC:=h.only0 oW
 have nT:¬Bl U x M n0:=fun q=>by
  exact TF
 have CS:=AQ hC.en s
 have cE:=hC.cE
 have HH:=Aa (And.intro hC (And.intro BX (And.intro nT hf)))
 rcases hst:X.E.status s with⟨a1,a2,a3,a4,a5,a6,a7,a8,a9⟩
 rw[hst,show Cv.row ⟨a1,a2,a3,a4,a5,a6,a7,a8,a9⟩=#[.bool a1,.bool a2,.bool a3,.int .i64 a4,.int .i64 a5,.int .i64 a6,.int .u64 a7,.int .u64 a8,.int .i64 a9] from rfl]at CS
 have HST:=Aa hst
 have HI:=Aa hi
 clear h hC BX nT hn0 oW hst hi hf
 have e1:¬(0≤s∧s≤7):=by omega
 rcases hs with hs|hs
 ·exact TE
 ·have hs0:¬s<0:=by omega
  exact TE
theorem IE(h:AY B w U x e M X)(hf:As N X.E)(hN:256≤N)(hN2:N≤30000000)(s kind key hh value:Int)(hs:0≤s∧s<8)(hid:X.id s.toNat=0)(hi:X.E.issue s ⟨kind,key,hh,value⟩=(9,X.E)):
 Calls Tryz.prog 17 #[bp x,.int .i64 s,.agg #[kind,key,hh,value]] w fun r w'=>r= .returned (.bool true)∧Bd B w U x e M X w':=by
 obtain⟨W,hW⟩:=Ad (w.alloc (.cells #[kind,key,hh,value] 37))
 have oW:Ac w W:=by rw[hW];exact(Ac.refl w).alloc _
 have BX:Am W w.heap.size 37 #[kind,key,hh,value]:=by rw[hW];exact Am.new _ _ _
 obtain⟨n0,hn0⟩:=Ad w.heap.size
 rw[←hn0]at BX
 have HN:=Aa (And.intro hn0 oW)
 have hC:=h.only0 oW
 have nT:¬Bl U x M n0:=fun q=>by
  exact TF
 have CS:=AQ hC.en s
 have cE:=hC.cE
 have HH:=Aa (And.intro hC (And.intro BX (And.intro nT hf)))
 rcases hst:X.E.status s with⟨a1,a2,a3,a4,a5,a6,a7,a8,a9⟩
 rw[hst,show Cv.row ⟨a1,a2,a3,a4,a5,a6,a7,a8,a9⟩=#[.bool a1,.bool a2,.bool a3,.int .i64 a4,.int .i64 a5,.int .i64 a6,.int .u64 a7,.int .u64 a8,.int .i64 a9] from rfl]at CS
 have HST:=Aa hst
 have HI:=Aa hi
 clear h hC BX nT hn0 oW hst hi hf
 obtain⟨s0,s1⟩:=hs
 obtain⟨j,hsj⟩:=Int.eq_ofNat_of_zero_le s0
 subst hsj
 have hj:j<8:=by omega
 have j8:(j:Int)<8:=by omega
 have g1:¬((j:Int)<0):=by omega
 have g2:¬((j:Int)>7):=by omega
 have HID:Hid (X.id j=0):=Aa hid
 clear hid
 go_enter Tryz.func17,Tryz.ntmps17
 go_upto_region 1 with(fail)
 rw[←hW,←HN.out.1]
 clear hW
 go_wp2_with fail
 refine CS.mono ?_
 rintro r w1 ⟨rfl,o1⟩
 clear CS
 obtain⟨n1,hn1⟩:=Ad w1.heap.size
 obtain⟨W1,hW1⟩:=Ad (w1.alloc (.cells #[.bool a1,.bool a2,.bool a3,a4,a5,a6,.int .u64 a7,.int .u64 a8,a9] 46))
 have B1:Am W1 n1 46 #[.bool a1,.bool a2,.bool a3,a4,a5,a6,.int .u64 a7,.int .u64 a8,a9]:=by rw[hW1,hn1];exact Am.new _ _ _
 have nn1:W.heap.size≤n1:=by rw[hn1];exact o1.size
 have o01:Ac W W1:=by rw[hW1];exact o1.alloc _
 have hC1:=HH.out.1.only0 o01
 have BX1:=o01.blk HH.out.2.1 (fun f=>f)
 have nT1:¬Bl U x M n1:=fun q=>by
  exact Uu
 have CI:=DN (hC1.only0 ((Ac.refl W1).drew)).en HH.out.2.2.2 hN hN2 (j:Int) kind key hh value
 rw[HI.out]at CI
 have f0:Ab W1 x 0 (bp e)∧Ab W1 n0 0 (.int .i64 kind)∧Ab W1 n0 1 (.int .i64 key)∧Ab W1 n0 2 (.int .i64 hh)∧Ab W1 n0 3 (.int .i64 value):=⟨hC1.cE,Gj BX1⟩
 have H1:=Aa (And.intro hC1 (And.intro BX1 (And.intro B1 (And.intro nT1 o01))))
 clear hC1 BX1 B1 nT1 o01 o1 nn1 cE
 go_upto_region 2 with(fail)
 rw[←hW1,←hn1]
 clear hn1 hW1
 refine wp_region_held_drew (S:=(fun w'=>Ab w' x 0 (bp e)∧Ab w' n0 0 (.int .i64 kind)∧Ab w' n0 1 (.int .i64 key)∧Ab w' n0 2 (.int .i64 hh)∧Ab w' n0 3 (.int .i64 value))) (by kernel_rfl) ?_ (fun hHeld=>?_)
 ·first|exact f0|exact f5
 refine Af 0 (h:=Af 1 (h:=Af 2 (h:=Af 3 (h:=Af 4 (h:=Af 5 (h:=Ar (i:=6) (h:=fun K hK=>?_)))))))
 go_simp
 (refine CI.mono ?_;rintro r w2 ⟨rfl,g2⟩;obtain⟨U2,h2,o2,k2⟩:=Bd.eng (H1.out.1.only0 ((Ac.refl W1).drew)) g2;have d1:=(Ac.refl W1).drew;have oz:=(d1.any (Bl U x M)).trans o2;have X2:=oz.blk H1.out.2.1 HH.out.2.2.1;have Y2:=oz.blk H1.out.2.2.1 H1.out.2.2.2.1;have f5:=And.intro h2.cE (Gj X2);have H2:=Aa (And.intro h2 (And.intro oz (And.intro k2 (And.intro X2 Y2))));clear h2 o2 k2 oz X2 Y2 d1 g2 CI)
 try go_wp2_with fail
 refine AK hK (by first|exact f0|exact f5) (h:=fun hHeld=>?_);clear hK K
 refine Af 7 (h:=?_)
 refine wpAnyH_done (by kernel_rfl) ?_ _
 clear f0 hHeld
 clear f5
 obtain⟨p1,p2,p3,p4⟩:=Gj H2.out.2.2.2.1
 obtain⟨r1,r2,r3,r4,r5,r6,r7,r8,r9⟩:=Ch H2.out.2.2.2.2
 have qe:=H2.out.1.cE
 have cI:=H2.out.1.cI j hj
 rw[show({X with E:=X.E}:Bh).id j=0 from HID.out]at cI
 go_upto_region 19 with(fail)
 clear p1 p2 p3 p4 r1 r2 r3 r4 r5 r6 r7 r8 r9 qe cI
 have q0:=And.intro H2.out.1.cE (Ch H2.out.2.2.2.2)
 have CS2:=AQ (H2.out.1.only0 ((Ac.refl _).drew)).en (j:Int)
 rw[HST.out,show Cv.row ⟨a1,a2,a3,a4,a5,a6,a7,a8,a9⟩=#[.bool a1,.bool a2,.bool a3,.int .i64 a4,.int .i64 a5,.int .i64 a6,.int .u64 a7,.int .u64 a8,.int .i64 a9] from rfl]at CS2
 refine wp_region_held_drew (S:=(fun w'=>Ab w' x 0 (bp e)∧Ab w' n1 0 (.bool a1)∧Ab w' n1 1 (.bool a2)∧Ab w' n1 2 (.bool a3)∧Ab w' n1 3 (.int .i64 a4)∧Ab w' n1 4 (.int .i64 a5)∧Ab w' n1 5 (.int .i64 a6)∧Ab w' n1 6 (.int .u64 a7)∧Ab w' n1 7 (.int .u64 a8)∧Ab w' n1 8 (.int .i64 a9))) (by kernel_rfl) ?_ (fun hHeld=>?_)
 ·first|exact q0|exact q9
 refine Af 0 (h:=Af 1 (h:=Af 2 (h:=Af 3 (h:=Af 4 (h:=Af 6 (h:=Ar (i:=5) (h:=fun K hK=>?_)))))))
 go_simp
 (refine CS2.mono ?_;rintro r w3 ⟨rfl,o3⟩;have d2:=((Ac.refl _).drew).trans o3;have h3:=H2.out.1.only0 d2;have q9:=And.intro h3.cE (Ch (d2.blk H2.out.2.2.2.2 (fun f=>f)));have H3:=Aa (And.intro h3 d2);clear h3 d2 o3 CS2)
 try go_wp2_with fail
 refine AK hK (by first|exact q0|exact q9) (h:=fun hHeld=>?_);clear hK K
 refine Af 7 (h:=Af 8 (h:=?_))
 refine wpAnyH_done (by kernel_rfl) ?_ _
 clear hHeld q0 q9
 go_wp2_with fail
 go_ret
 exact⟨rfl,Bd.end3 HN.out.2 H1.out.2.2.2.2 H2.out.2.1 H2.out.2.2.1 H3.out.1 H3.out.2⟩
theorem I1(h:AY B w U x e M X)(hf:As N X.E)(hN:256≤N)(hN2:N≤30000000)(s kind key hh value:Int)(hs:0≤s∧s<8)(hid:X.id s.toNat≠0)(hop:AF ⟨kind,key,hh,value⟩=false)(hi:X.E.issue s ⟨kind,key,hh,value⟩=(9,X.E)):
 Calls Tryz.prog 17 #[bp x,.int .i64 s,.agg #[kind,key,hh,value]] w fun r w'=>r= .returned (.bool true)∧Bd B w U x e M X w':=by
 obtain⟨W,hW⟩:=Ad (w.alloc (.cells #[kind,key,hh,value] 37))
 have oW:Ac w W:=by rw[hW];exact(Ac.refl w).alloc _
 have BX:Am W w.heap.size 37 #[kind,key,hh,value]:=by rw[hW];exact Am.new _ _ _
 obtain⟨n0,hn0⟩:=Ad w.heap.size
 rw[←hn0]at BX
 have HN:=Aa (And.intro hn0 oW)
 have hC:=h.only0 oW
 have nT:¬Bl U x M n0:=fun q=>by
  exact TF
 have CS:=AQ hC.en s
 have cE:=hC.cE
 have HH:=Aa (And.intro hC (And.intro BX (And.intro nT hf)))
 rcases hst:X.E.status s with⟨a1,a2,a3,a4,a5,a6,a7,a8,a9⟩
 rw[hst,show Cv.row ⟨a1,a2,a3,a4,a5,a6,a7,a8,a9⟩=#[.bool a1,.bool a2,.bool a3,.int .i64 a4,.int .i64 a5,.int .i64 a6,.int .u64 a7,.int .u64 a8,.int .i64 a9] from rfl]at CS
 have HST:=Aa hst
 have HI:=Aa hi
 clear h hC BX nT hn0 oW hst hi hf
 obtain⟨s0,s1⟩:=hs
 obtain⟨j,hsj⟩:=Int.eq_ofNat_of_zero_le s0
 subst hsj
 have hj:j<8:=by omega
 have j8:(j:Int)<8:=by omega
 have g1:¬((j:Int)<0):=by omega
 have g2:¬((j:Int)>7):=by omega
 obtain⟨idv,hidv⟩:∃v,X.id j=v:=⟨_,rfl⟩
 have HID:Hid (X.id j=idv∧idv≠0):=Aa ⟨hidv,by rw[←hidv];exact hid⟩
 have b0:(idv==0)=false:=by simpa using HID.out.2
 have HOP:=Aa hop
 clear hid hidv hop
 go_enter Tryz.func17,Tryz.ntmps17
 go_upto_region 1 with(fail)
 rw[←hW,←HN.out.1]
 clear hW
 go_wp2_with fail
 refine CS.mono ?_
 rintro r w1 ⟨rfl,o1⟩
 clear CS
 obtain⟨n1,hn1⟩:=Ad w1.heap.size
 obtain⟨W1,hW1⟩:=Ad (w1.alloc (.cells #[.bool a1,.bool a2,.bool a3,a4,a5,a6,.int .u64 a7,.int .u64 a8,a9] 46))
 have B1:Am W1 n1 46 #[.bool a1,.bool a2,.bool a3,a4,a5,a6,.int .u64 a7,.int .u64 a8,a9]:=by rw[hW1,hn1];exact Am.new _ _ _
 have nn1:W.heap.size≤n1:=by rw[hn1];exact o1.size
 have o01:Ac W W1:=by rw[hW1];exact o1.alloc _
 have hC1:=HH.out.1.only0 o01
 have BX1:=o01.blk HH.out.2.1 (fun f=>f)
 have nT1:¬Bl U x M n1:=fun q=>by
  exact Uu
 have CI:=DN (hC1.only0 ((Ac.refl W1).drew)).en HH.out.2.2.2 hN hN2 (j:Int) kind key hh value
 rw[HI.out]at CI
 have f0:Ab W1 x 0 (bp e)∧Ab W1 n0 0 (.int .i64 kind)∧Ab W1 n0 1 (.int .i64 key)∧Ab W1 n0 2 (.int .i64 hh)∧Ab W1 n0 3 (.int .i64 value):=⟨hC1.cE,Gj BX1⟩
 have H1:=Aa (And.intro hC1 (And.intro BX1 (And.intro B1 (And.intro nT1 o01))))
 clear hC1 BX1 B1 nT1 o01 o1 nn1 cE
 go_upto_region 2 with(fail)
 rw[←hW1,←hn1]
 clear hn1 hW1
 refine wp_region_held_drew (S:=(fun w'=>Ab w' x 0 (bp e)∧Ab w' n0 0 (.int .i64 kind)∧Ab w' n0 1 (.int .i64 key)∧Ab w' n0 2 (.int .i64 hh)∧Ab w' n0 3 (.int .i64 value))) (by kernel_rfl) ?_ (fun hHeld=>?_)
 ·first|exact f0|exact f5
 refine Af 0 (h:=Af 1 (h:=Af 2 (h:=Af 3 (h:=Af 4 (h:=Af 5 (h:=Ar (i:=6) (h:=fun K hK=>?_)))))))
 go_simp
 (refine CI.mono ?_;rintro r w2 ⟨rfl,g2⟩;obtain⟨U2,h2,o2,k2⟩:=Bd.eng (H1.out.1.only0 ((Ac.refl W1).drew)) g2;have d1:=(Ac.refl W1).drew;have oz:=(d1.any (Bl U x M)).trans o2;have X2:=oz.blk H1.out.2.1 HH.out.2.2.1;have Y2:=oz.blk H1.out.2.2.1 H1.out.2.2.2.1;have f5:=And.intro h2.cE (Gj X2);have H2:=Aa (And.intro h2 (And.intro oz (And.intro k2 (And.intro X2 Y2))));clear h2 o2 k2 oz X2 Y2 d1 g2 CI)
 try go_wp2_with fail
 refine AK hK (by first|exact f0|exact f5) (h:=fun hHeld=>?_);clear hK K
 refine Af 7 (h:=?_)
 refine wpAnyH_done (by kernel_rfl) ?_ _
 clear f0 hHeld
 clear f5
 obtain⟨p1,p2,p3,p4⟩:=Gj H2.out.2.2.2.1
 obtain⟨r1,r2,r3,r4,r5,r6,r7,r8,r9⟩:=Ch H2.out.2.2.2.2
 have qe:=H2.out.1.cE
 have cI:=H2.out.1.cI j hj
 rw[show({X with E:=X.E}:Bh).id j=idv from HID.out.1]at cI
 have CO:=Fo kind key hh value w2
 rw[HOP.out]at CO
 go_wp2_with fail
 refine CO.mono ?_
 rintro r w2b ⟨rfl,oo⟩
 have oz:=H2.out.2.1.trans (oo.any (Bl U x M))
 have H2b:=Aa (And.intro (H2.out.1.only0 oo) (And.intro oz (And.intro H2.out.2.2.1 (And.intro (oo.blk H2.out.2.2.2.1 (fun f=>f)) (oo.blk H2.out.2.2.2.2 (fun f=>f))))))
 clear oo oz CO H2
 clear p1 p2 p3 p4 r1 r2 r3 r4 r5 r6 r7 r8 r9 qe cI
 have H2:=H2b
 clear H2b
 obtain⟨p1,p2,p3,p4⟩:=Gj H2.out.2.2.2.1
 obtain⟨r1,r2,r3,r4,r5,r6,r7,r8,r9⟩:=Ch H2.out.2.2.2.2
 have qe:=H2.out.1.cE
 go_upto_region 19 with(fail)
 clear p1 p2 p3 p4 r1 r2 r3 r4 r5 r6 r7 r8 r9 qe
 have q0:=And.intro H2.out.1.cE (Ch H2.out.2.2.2.2)
 have CS2:=AQ (H2.out.1.only0 ((Ac.refl _).drew)).en (j:Int)
 rw[HST.out,show Cv.row ⟨a1,a2,a3,a4,a5,a6,a7,a8,a9⟩=#[.bool a1,.bool a2,.bool a3,.int .i64 a4,.int .i64 a5,.int .i64 a6,.int .u64 a7,.int .u64 a8,.int .i64 a9] from rfl]at CS2
 refine wp_region_held_drew (S:=(fun w'=>Ab w' x 0 (bp e)∧Ab w' n1 0 (.bool a1)∧Ab w' n1 1 (.bool a2)∧Ab w' n1 2 (.bool a3)∧Ab w' n1 3 (.int .i64 a4)∧Ab w' n1 4 (.int .i64 a5)∧Ab w' n1 5 (.int .i64 a6)∧Ab w' n1 6 (.int .u64 a7)∧Ab w' n1 7 (.int .u64 a8)∧Ab w' n1 8 (.int .i64 a9))) (by kernel_rfl) ?_ (fun hHeld=>?_)
 ·first|exact q0|exact q9
 refine Af 0 (h:=Af 1 (h:=Af 2 (h:=Af 3 (h:=Af 4 (h:=Af 6 (h:=Ar (i:=5) (h:=fun K hK=>?_)))))))
 go_simp
 (refine CS2.mono ?_;rintro r w3 ⟨rfl,o3⟩;have d2:=((Ac.refl _).drew).trans o3;have h3:=H2.out.1.only0 d2;have q9:=And.intro h3.cE (Ch (d2.blk H2.out.2.2.2.2 (fun f=>f)));have H3:=Aa (And.intro h3 d2);clear h3 d2 o3 CS2)
 try go_wp2_with fail
 refine AK hK (by first|exact q0|exact q9) (h:=fun hHeld=>?_);clear hK K
 refine Af 7 (h:=Af 8 (h:=?_))
 refine wpAnyH_done (by kernel_rfl) ?_ _
 clear hHeld q0 q9
 go_wp2_with fail
 go_ret
 exact⟨rfl,Bd.end3 HN.out.2 H1.out.2.2.2.2 H2.out.2.1 H2.out.2.2.1 H3.out.1 H3.out.2⟩
theorem Iy(h:AY B w U x e M X)(hf:As N X.E)(hN:256≤N)(hN2:N≤30000000)(s kind key hh value:Int)(hs:0≤s∧s<8)(hid:X.id s.toNat≠0)(hop:AF ⟨kind,key,hh,value⟩=true)(hb:(X.E.status s).busy=true)(hi:X.E.issue s ⟨kind,key,hh,value⟩=(9,X.E)):
 Calls Tryz.prog 17 #[bp x,.int .i64 s,.agg #[kind,key,hh,value]] w fun r w'=>r= .returned (.bool true)∧Bd B w U x e M X w':=by
 obtain⟨W,hW⟩:=Ad (w.alloc (.cells #[kind,key,hh,value] 37))
 have oW:Ac w W:=by rw[hW];exact(Ac.refl w).alloc _
 have BX:Am W w.heap.size 37 #[kind,key,hh,value]:=by rw[hW];exact Am.new _ _ _
 obtain⟨n0,hn0⟩:=Ad w.heap.size
 rw[←hn0]at BX
 have HN:=Aa (And.intro hn0 oW)
 have hC:=h.only0 oW
 have nT:¬Bl U x M n0:=fun q=>by
  exact TF
 have CS:=AQ hC.en s
 have cE:=hC.cE
 have HH:=Aa (And.intro hC (And.intro BX (And.intro nT hf)))
 rcases hst:X.E.status s with⟨a1,a2,a3,a4,a5,a6,a7,a8,a9⟩
 rw[hst,show Cv.row ⟨a1,a2,a3,a4,a5,a6,a7,a8,a9⟩=#[.bool a1,.bool a2,.bool a3,.int .i64 a4,.int .i64 a5,.int .i64 a6,.int .u64 a7,.int .u64 a8,.int .i64 a9] from rfl]at CS
 have HST:=Aa hst
 have HI:=Aa hi
 clear h hC BX nT hn0 oW hst hi hf
 obtain⟨s0,s1⟩:=hs
 obtain⟨j,hsj⟩:=Int.eq_ofNat_of_zero_le s0
 subst hsj
 have hj:j<8:=by omega
 have j8:(j:Int)<8:=by omega
 have g1:¬((j:Int)<0):=by omega
 have g2:¬((j:Int)>7):=by omega
 obtain⟨idv,hidv⟩:∃v,X.id j=v:=⟨_,rfl⟩
 have HID:Hid (X.id j=idv∧idv≠0):=Aa ⟨hidv,by rw[←hidv];exact hid⟩
 have b0:(idv==0)=false:=by simpa using HID.out.2
 have HOP:=Aa hop
 clear hid hidv hop
 have ha:a2=true:=by rw[show X.E.status (j:Int)=_ from HST.out]at hb;exact hb
 have HA:=Aa ha
 clear hb ha
 go_enter Tryz.func17,Tryz.ntmps17
 go_upto_region 1 with(fail)
 rw[←hW,←HN.out.1]
 clear hW
 go_wp2_with fail
 refine CS.mono ?_
 rintro r w1 ⟨rfl,o1⟩
 clear CS
 obtain⟨n1,hn1⟩:=Ad w1.heap.size
 obtain⟨W1,hW1⟩:=Ad (w1.alloc (.cells #[.bool a1,.bool a2,.bool a3,a4,a5,a6,.int .u64 a7,.int .u64 a8,a9] 46))
 have B1:Am W1 n1 46 #[.bool a1,.bool a2,.bool a3,a4,a5,a6,.int .u64 a7,.int .u64 a8,a9]:=by rw[hW1,hn1];exact Am.new _ _ _
 have nn1:W.heap.size≤n1:=by rw[hn1];exact o1.size
 have o01:Ac W W1:=by rw[hW1];exact o1.alloc _
 have hC1:=HH.out.1.only0 o01
 have BX1:=o01.blk HH.out.2.1 (fun f=>f)
 have nT1:¬Bl U x M n1:=fun q=>by
  exact Uu
 have CI:=DN (hC1.only0 ((Ac.refl W1).drew)).en HH.out.2.2.2 hN hN2 (j:Int) kind key hh value
 rw[HI.out]at CI
 have f0:Ab W1 x 0 (bp e)∧Ab W1 n0 0 (.int .i64 kind)∧Ab W1 n0 1 (.int .i64 key)∧Ab W1 n0 2 (.int .i64 hh)∧Ab W1 n0 3 (.int .i64 value):=⟨hC1.cE,Gj BX1⟩
 have H1:=Aa (And.intro hC1 (And.intro BX1 (And.intro B1 (And.intro nT1 o01))))
 clear hC1 BX1 B1 nT1 o01 o1 nn1 cE
 go_upto_region 2 with(fail)
 rw[←hW1,←hn1]
 clear hn1 hW1
 refine wp_region_held_drew (S:=(fun w'=>Ab w' x 0 (bp e)∧Ab w' n0 0 (.int .i64 kind)∧Ab w' n0 1 (.int .i64 key)∧Ab w' n0 2 (.int .i64 hh)∧Ab w' n0 3 (.int .i64 value))) (by kernel_rfl) ?_ (fun hHeld=>?_)
 ·first|exact f0|exact f5
 refine Af 0 (h:=Af 1 (h:=Af 2 (h:=Af 3 (h:=Af 4 (h:=Af 5 (h:=Ar (i:=6) (h:=fun K hK=>?_)))))))
 go_simp
 (refine CI.mono ?_;rintro r w2 ⟨rfl,g2⟩;obtain⟨U2,h2,o2,k2⟩:=Bd.eng (H1.out.1.only0 ((Ac.refl W1).drew)) g2;have d1:=(Ac.refl W1).drew;have oz:=(d1.any (Bl U x M)).trans o2;have X2:=oz.blk H1.out.2.1 HH.out.2.2.1;have Y2:=oz.blk H1.out.2.2.1 H1.out.2.2.2.1;have f5:=And.intro h2.cE (Gj X2);have H2:=Aa (And.intro h2 (And.intro oz (And.intro k2 (And.intro X2 Y2))));clear h2 o2 k2 oz X2 Y2 d1 g2 CI)
 try go_wp2_with fail
 refine AK hK (by first|exact f0|exact f5) (h:=fun hHeld=>?_);clear hK K
 refine Af 7 (h:=?_)
 refine wpAnyH_done (by kernel_rfl) ?_ _
 clear f0 hHeld
 clear f5
 obtain⟨p1,p2,p3,p4⟩:=Gj H2.out.2.2.2.1
 obtain⟨r1,r2,r3,r4,r5,r6,r7,r8,r9⟩:=Ch H2.out.2.2.2.2
 have qe:=H2.out.1.cE
 have cI:=H2.out.1.cI j hj
 rw[show({X with E:=X.E}:Bh).id j=idv from HID.out.1]at cI
 have CO:=Fo kind key hh value w2
 rw[HOP.out]at CO
 go_wp2_with fail
 refine CO.mono ?_
 rintro r w2b ⟨rfl,oo⟩
 have oz:=H2.out.2.1.trans (oo.any (Bl U x M))
 have H2b:=Aa (And.intro (H2.out.1.only0 oo) (And.intro oz (And.intro H2.out.2.2.1 (And.intro (oo.blk H2.out.2.2.2.1 (fun f=>f)) (oo.blk H2.out.2.2.2.2 (fun f=>f))))))
 clear oo oz CO H2
 clear p1 p2 p3 p4 r1 r2 r3 r4 r5 r6 r7 r8 r9 qe cI
 have H2:=H2b
 clear H2b
 obtain⟨p1,p2,p3,p4⟩:=Gj H2.out.2.2.2.1
 obtain⟨r1,r2,r3,r4,r5,r6,r7,r8,r9⟩:=Ch H2.out.2.2.2.2
 have qe:=H2.out.1.cE
 rw[HA.out]at r2
 go_upto_region 19 with(fail)
 clear p1 p2 p3 p4 r1 r2 r3 r4 r5 r6 r7 r8 r9 qe
 have q0:=And.intro H2.out.1.cE (Ch H2.out.2.2.2.2)
 have CS2:=AQ (H2.out.1.only0 ((Ac.refl _).drew)).en (j:Int)
 rw[HST.out,show Cv.row ⟨a1,a2,a3,a4,a5,a6,a7,a8,a9⟩=#[.bool a1,.bool a2,.bool a3,.int .i64 a4,.int .i64 a5,.int .i64 a6,.int .u64 a7,.int .u64 a8,.int .i64 a9] from rfl]at CS2
 refine wp_region_held_drew (S:=(fun w'=>Ab w' x 0 (bp e)∧Ab w' n1 0 (.bool a1)∧Ab w' n1 1 (.bool a2)∧Ab w' n1 2 (.bool a3)∧Ab w' n1 3 (.int .i64 a4)∧Ab w' n1 4 (.int .i64 a5)∧Ab w' n1 5 (.int .i64 a6)∧Ab w' n1 6 (.int .u64 a7)∧Ab w' n1 7 (.int .u64 a8)∧Ab w' n1 8 (.int .i64 a9))) (by kernel_rfl) ?_ (fun hHeld=>?_)
 ·first|exact q0|exact q9
 refine Af 0 (h:=Af 1 (h:=Af 2 (h:=Af 3 (h:=Af 4 (h:=Af 6 (h:=Ar (i:=5) (h:=fun K hK=>?_)))))))
 go_simp
 (refine CS2.mono ?_;rintro r w3 ⟨rfl,o3⟩;have d2:=((Ac.refl _).drew).trans o3;have h3:=H2.out.1.only0 d2;have q9:=And.intro h3.cE (Ch (d2.blk H2.out.2.2.2.2 (fun f=>f)));have H3:=Aa (And.intro h3 d2);clear h3 d2 o3 CS2)
 try go_wp2_with fail
 refine AK hK (by first|exact q0|exact q9) (h:=fun hHeld=>?_);clear hK K
 refine Af 7 (h:=Af 8 (h:=?_))
 refine wpAnyH_done (by kernel_rfl) ?_ _
 clear hHeld q0 q9
 go_wp2_with fail
 go_ret
 exact⟨rfl,Bd.end3 HN.out.2 H1.out.2.2.2.2 H2.out.2.1 H2.out.2.2.1 H3.out.1 H3.out.2⟩
theorem IB(h:AY B w U x e M X)(hf:As N X.E)(hN:256≤N)(hN2:N≤30000000)(s kind key hh value:Int)(hs:0≤s∧s<8)(hid:X.id s.toNat≠0)(hop:AF ⟨kind,key,hh,value⟩=true)(hb:(X.E.status s).busy=false)(hk:kind<6)(hm:12≤(X.E.status s).ops)(hi:X.E.issue s ⟨kind,key,hh,value⟩=(65,X.E)):
 Calls Tryz.prog 17 #[bp x,.int .i64 s,.agg #[kind,key,hh,value]] w fun r w'=>r= .returned (.bool true)∧Bd B w U x e M X w':=by
 obtain⟨W,hW⟩:=Ad (w.alloc (.cells #[kind,key,hh,value] 37))
 have oW:Ac w W:=by rw[hW];exact(Ac.refl w).alloc _
 have BX:Am W w.heap.size 37 #[kind,key,hh,value]:=by rw[hW];exact Am.new _ _ _
 obtain⟨n0,hn0⟩:=Ad w.heap.size
 rw[←hn0]at BX
 have HN:=Aa (And.intro hn0 oW)
 have hC:=h.only0 oW
 have nT:¬Bl U x M n0:=fun q=>by
  exact TF
 have CS:=AQ hC.en s
 have cE:=hC.cE
 have HH:=Aa (And.intro hC (And.intro BX (And.intro nT hf)))
 rcases hst:X.E.status s with⟨a1,a2,a3,a4,a5,a6,a7,a8,a9⟩
 rw[hst,show Cv.row ⟨a1,a2,a3,a4,a5,a6,a7,a8,a9⟩=#[.bool a1,.bool a2,.bool a3,.int .i64 a4,.int .i64 a5,.int .i64 a6,.int .u64 a7,.int .u64 a8,.int .i64 a9] from rfl]at CS
 have HST:=Aa hst
 have HI:=Aa hi
 clear h hC BX nT hn0 oW hst hi hf
 obtain⟨s0,s1⟩:=hs
 obtain⟨j,hsj⟩:=Int.eq_ofNat_of_zero_le s0
 subst hsj
 have hj:j<8:=by omega
 have j8:(j:Int)<8:=by omega
 have g1:¬((j:Int)<0):=by omega
 have g2:¬((j:Int)>7):=by omega
 obtain⟨idv,hidv⟩:∃v,X.id j=v:=⟨_,rfl⟩
 have HID:Hid (X.id j=idv∧idv≠0):=Aa ⟨hidv,by rw[←hidv];exact hid⟩
 have b0:(idv==0)=false:=by simpa using HID.out.2
 have HOP:=Aa hop
 clear hid hidv hop
 have ha:a2=false:=by rw[show X.E.status (j:Int)=_ from HST.out]at hb;exact hb
 have h9:12≤a9:=by rw[show X.E.status (j:Int)=_ from HST.out]at hm;exact hm
 have HA:=Aa ha
 clear hb hm ha
 go_enter Tryz.func17,Tryz.ntmps17
 go_upto_region 1 with(fail)
 rw[←hW,←HN.out.1]
 clear hW
 go_wp2_with fail
 refine CS.mono ?_
 rintro r w1 ⟨rfl,o1⟩
 clear CS
 obtain⟨n1,hn1⟩:=Ad w1.heap.size
 obtain⟨W1,hW1⟩:=Ad (w1.alloc (.cells #[.bool a1,.bool a2,.bool a3,a4,a5,a6,.int .u64 a7,.int .u64 a8,a9] 46))
 have B1:Am W1 n1 46 #[.bool a1,.bool a2,.bool a3,a4,a5,a6,.int .u64 a7,.int .u64 a8,a9]:=by rw[hW1,hn1];exact Am.new _ _ _
 have nn1:W.heap.size≤n1:=by rw[hn1];exact o1.size
 have o01:Ac W W1:=by rw[hW1];exact o1.alloc _
 have hC1:=HH.out.1.only0 o01
 have BX1:=o01.blk HH.out.2.1 (fun f=>f)
 have nT1:¬Bl U x M n1:=fun q=>by
  exact Uu
 have CI:=DN (hC1.only0 ((Ac.refl W1).drew)).en HH.out.2.2.2 hN hN2 (j:Int) kind key hh value
 rw[HI.out]at CI
 have f0:Ab W1 x 0 (bp e)∧Ab W1 n0 0 (.int .i64 kind)∧Ab W1 n0 1 (.int .i64 key)∧Ab W1 n0 2 (.int .i64 hh)∧Ab W1 n0 3 (.int .i64 value):=⟨hC1.cE,Gj BX1⟩
 have H1:=Aa (And.intro hC1 (And.intro BX1 (And.intro B1 (And.intro nT1 o01))))
 clear hC1 BX1 B1 nT1 o01 o1 nn1 cE
 go_upto_region 2 with(fail)
 rw[←hW1,←hn1]
 clear hn1 hW1
 refine wp_region_held_drew (S:=(fun w'=>Ab w' x 0 (bp e)∧Ab w' n0 0 (.int .i64 kind)∧Ab w' n0 1 (.int .i64 key)∧Ab w' n0 2 (.int .i64 hh)∧Ab w' n0 3 (.int .i64 value))) (by kernel_rfl) ?_ (fun hHeld=>?_)
 ·first|exact f0|exact f5
 refine Af 0 (h:=Af 1 (h:=Af 2 (h:=Af 3 (h:=Af 4 (h:=Af 5 (h:=Ar (i:=6) (h:=fun K hK=>?_)))))))
 go_simp
 (refine CI.mono ?_;rintro r w2 ⟨rfl,g2⟩;obtain⟨U2,h2,o2,k2⟩:=Bd.eng (H1.out.1.only0 ((Ac.refl W1).drew)) g2;have d1:=(Ac.refl W1).drew;have oz:=(d1.any (Bl U x M)).trans o2;have X2:=oz.blk H1.out.2.1 HH.out.2.2.1;have Y2:=oz.blk H1.out.2.2.1 H1.out.2.2.2.1;have f5:=And.intro h2.cE (Gj X2);have H2:=Aa (And.intro h2 (And.intro oz (And.intro k2 (And.intro X2 Y2))));clear h2 o2 k2 oz X2 Y2 d1 g2 CI)
 try go_wp2_with fail
 refine AK hK (by first|exact f0|exact f5) (h:=fun hHeld=>?_);clear hK K
 refine Af 7 (h:=?_)
 refine wpAnyH_done (by kernel_rfl) ?_ _
 clear f0 hHeld
 clear f5
 obtain⟨p1,p2,p3,p4⟩:=Gj H2.out.2.2.2.1
 obtain⟨r1,r2,r3,r4,r5,r6,r7,r8,r9⟩:=Ch H2.out.2.2.2.2
 have qe:=H2.out.1.cE
 have cI:=H2.out.1.cI j hj
 rw[show({X with E:=X.E}:Bh).id j=idv from HID.out.1]at cI
 have CO:=Fo kind key hh value w2
 rw[HOP.out]at CO
 go_wp2_with fail
 refine CO.mono ?_
 rintro r w2b ⟨rfl,oo⟩
 have oz:=H2.out.2.1.trans (oo.any (Bl U x M))
 have H2b:=Aa (And.intro (H2.out.1.only0 oo) (And.intro oz (And.intro H2.out.2.2.1 (And.intro (oo.blk H2.out.2.2.2.1 (fun f=>f)) (oo.blk H2.out.2.2.2.2 (fun f=>f))))))
 clear oo oz CO H2
 clear p1 p2 p3 p4 r1 r2 r3 r4 r5 r6 r7 r8 r9 qe cI
 have H2:=H2b
 clear H2b
 obtain⟨p1,p2,p3,p4⟩:=Gj H2.out.2.2.2.1
 obtain⟨r1,r2,r3,r4,r5,r6,r7,r8,r9⟩:=Ch H2.out.2.2.2.2
 have qe:=H2.out.1.cE
 rw[HA.out]at r2
 go_upto_region 19 with(fail)
 clear p1 p2 p3 p4 r1 r2 r3 r4 r5 r6 r7 r8 r9 qe
 have q0:=And.intro H2.out.1.cE (Ch H2.out.2.2.2.2)
 have CS2:=AQ (H2.out.1.only0 ((Ac.refl _).drew)).en (j:Int)
 rw[HST.out,show Cv.row ⟨a1,a2,a3,a4,a5,a6,a7,a8,a9⟩=#[.bool a1,.bool a2,.bool a3,.int .i64 a4,.int .i64 a5,.int .i64 a6,.int .u64 a7,.int .u64 a8,.int .i64 a9] from rfl]at CS2
 refine wp_region_held_drew (S:=(fun w'=>Ab w' x 0 (bp e)∧Ab w' n1 0 (.bool a1)∧Ab w' n1 1 (.bool a2)∧Ab w' n1 2 (.bool a3)∧Ab w' n1 3 (.int .i64 a4)∧Ab w' n1 4 (.int .i64 a5)∧Ab w' n1 5 (.int .i64 a6)∧Ab w' n1 6 (.int .u64 a7)∧Ab w' n1 7 (.int .u64 a8)∧Ab w' n1 8 (.int .i64 a9))) (by kernel_rfl) ?_ (fun hHeld=>?_)
 ·first|exact q0|exact q9
 refine Af 0 (h:=Af 1 (h:=Af 2 (h:=Af 3 (h:=Af 4 (h:=Af 6 (h:=Ar (i:=5) (h:=fun K hK=>?_)))))))
 go_simp
 (refine CS2.mono ?_;rintro r w3 ⟨rfl,o3⟩;have d2:=((Ac.refl _).drew).trans o3;have h3:=H2.out.1.only0 d2;have q9:=And.intro h3.cE (Ch (d2.blk H2.out.2.2.2.2 (fun f=>f)));have H3:=Aa (And.intro h3 d2);clear h3 d2 o3 CS2)
 try go_wp2_with fail
 refine AK hK (by first|exact q0|exact q9) (h:=fun hHeld=>?_);clear hK K
 refine Af 7 (h:=Af 8 (h:=?_))
 refine wpAnyH_done (by kernel_rfl) ?_ _
 clear hHeld q0 q9
 go_wp2_with fail
 go_ret
 exact⟨rfl,Bd.end3 HN.out.2 H1.out.2.2.2.2 H2.out.2.1 H2.out.2.2.1 H3.out.1 H3.out.2⟩
end
end
section
attribute [local go_sem ↓] Go.wp_at_zero Go.wp_at_succ
section
variable {B N x e:Nat} {w w':World} {U:Nat→Prop} {M:GR} {X:Bh}
theorem AY.opSet(h:AY B w U x e M X)(j:Nat)(hj:j<8)(o:DS):AY B ((((w.setCell ⟨x,10+j*4,none⟩ (.int .i64 o.kind)).setCell ⟨x,10+j*4+1,none⟩ (.int .i64 o.key)).setCell ⟨x,10+j*4+2,none⟩ (.int .i64 o.hi)).setCell ⟨x,10+j*4+3,none⟩ (.int .i64 o.value)) U x e M {X with op:=AT X.op j o}∧
 Ah (fun b=>b=x) w ((((w.setCell ⟨x,10+j*4,none⟩ (.int .i64 o.kind)).setCell ⟨x,10+j*4+1,none⟩ (.int .i64 o.key)).setCell ⟨x,10+j*4+2,none⟩ (.int .i64 o.hi)).setCell ⟨x,10+j*4+3,none⟩ (.int .i64 o.value)):=by
 have o1:Ah (fun b=>b=x) w ((((w.setCell ⟨x,10+j*4,none⟩ (.int .i64 o.kind)).setCell ⟨x,10+j*4+1,none⟩ (.int .i64 o.key)).setCell ⟨x,10+j*4+2,none⟩ (.int .i64 o.hi)).setCell ⟨x,10+j*4+3,none⟩ (.int .i64 o.value)):=
  (((Ah.set1 w x _ _).trans (Ah.set1 _ x _ _)).trans (Ah.set1 _ x _ _)).trans (Ah.set1 _ x _ _)
 have B2:=(((h.blk.set (10+j*4) (.int .i64 o.kind)).set (10+j*4+1) (.int .i64 o.key)).set (10+j*4+2) (.int .i64 o.hi)).set (10+j*4+3) (.int .i64 o.value)
 rw[←RI e M X j hj o]at B2
 exact⟨h.deal (id2:=X.id) (op2:=AT X.op j o) (h.dd.only o1 (fun b hr e=>h.xR (e▸hr)) (fun b hs e=>h.xS (e▸hs))) (o1.mono (fun b _ hb=> .inl hb)) (AC.refl _ _) (fun b hb=> .inl hb) B2,o1⟩
theorem I4(h:AY B w U x e M X)(hf:As N X.E)(hN:256≤N)(hN2:N≤30000000)(s kind key hh value:Int)(hs:0≤s∧s<8)(hid:X.id s.toNat≠0)(hop:AF ⟨kind,key,hh,value⟩=true)(hb:(X.E.status s).busy=false)(hk:¬kind<6){E':En}(hi:X.E.issue s ⟨kind,key,hh,value⟩=(0,E'))(hb2:(E'.status s).busy=true):
 Calls Tryz.prog 17 #[bp x,.int .i64 s,.agg #[kind,key,hh,value]] w fun r w'=>r= .returned (.bool true)∧Bd B w U x e M {X with E:=E',op:=AT X.op s.toNat ⟨kind,key,hh,value⟩} w':=by
 obtain⟨W,hW⟩:=Ad (w.alloc (.cells #[kind,key,hh,value] 37))
 have oW:Ac w W:=by rw[hW];exact(Ac.refl w).alloc _
 have BX:Am W w.heap.size 37 #[kind,key,hh,value]:=by rw[hW];exact Am.new _ _ _
 obtain⟨n0,hn0⟩:=Ad w.heap.size
 rw[←hn0]at BX
 have HN:=Aa (And.intro hn0 oW)
 have hC:=h.only0 oW
 have nT:¬Bl U x M n0:=fun q=>by
  exact TF
 have CS:=AQ hC.en s
 have cE:=hC.cE
 have HH:=Aa (And.intro hC (And.intro BX (And.intro nT hf)))
 rcases hst:X.E.status s with⟨a1,a2,a3,a4,a5,a6,a7,a8,a9⟩
 rw[hst,show Cv.row ⟨a1,a2,a3,a4,a5,a6,a7,a8,a9⟩=#[.bool a1,.bool a2,.bool a3,.int .i64 a4,.int .i64 a5,.int .i64 a6,.int .u64 a7,.int .u64 a8,.int .i64 a9] from rfl]at CS
 have HST:=Aa hst
 have HI:=Aa hi
 clear h hC BX nT hn0 oW hst hi hf
 obtain⟨s0,s1⟩:=hs
 obtain⟨j,hsj⟩:=Int.eq_ofNat_of_zero_le s0
 subst hsj
 have hj:j<8:=by omega
 have j8:(j:Int)<8:=by omega
 have g1:¬((j:Int)<0):=by omega
 have g2:¬((j:Int)>7):=by omega
 obtain⟨idv,hidv⟩:∃v,X.id j=v:=⟨_,rfl⟩
 have HID:Hid (X.id j=idv∧idv≠0):=Aa ⟨hidv,by rw[←hidv];exact hid⟩
 have b0:(idv==0)=false:=by simpa using HID.out.2
 have HOP:=Aa hop
 clear hid hidv hop
 have ha:a2=false:=by rw[show X.E.status (j:Int)=_ from HST.out]at hb;exact hb
 have k6:¬kind<6:=hk
 clear hk
 have HA:=Aa ha
 have HB2:=Aa hb2
 clear hb ha hb2
 go_enter Tryz.func17,Tryz.ntmps17
 go_upto_region 1 with(fail)
 rw[←hW,←HN.out.1]
 clear hW
 go_wp2_with fail
 refine CS.mono ?_
 rintro r w1 ⟨rfl,o1⟩
 clear CS
 obtain⟨n1,hn1⟩:=Ad w1.heap.size
 obtain⟨W1,hW1⟩:=Ad (w1.alloc (.cells #[.bool a1,.bool a2,.bool a3,a4,a5,a6,.int .u64 a7,.int .u64 a8,a9] 46))
 have B1:Am W1 n1 46 #[.bool a1,.bool a2,.bool a3,a4,a5,a6,.int .u64 a7,.int .u64 a8,a9]:=by rw[hW1,hn1];exact Am.new _ _ _
 have nn1:W.heap.size≤n1:=by rw[hn1];exact o1.size
 have o01:Ac W W1:=by rw[hW1];exact o1.alloc _
 have hC1:=HH.out.1.only0 o01
 have BX1:=o01.blk HH.out.2.1 (fun f=>f)
 have nT1:¬Bl U x M n1:=fun q=>by
  exact Uu
 have CI:=DN (hC1.only0 ((Ac.refl W1).drew)).en HH.out.2.2.2 hN hN2 (j:Int) kind key hh value
 rw[HI.out]at CI
 have f0:Ab W1 x 0 (bp e)∧Ab W1 n0 0 (.int .i64 kind)∧Ab W1 n0 1 (.int .i64 key)∧Ab W1 n0 2 (.int .i64 hh)∧Ab W1 n0 3 (.int .i64 value):=⟨hC1.cE,Gj BX1⟩
 have H1:=Aa (And.intro hC1 (And.intro BX1 (And.intro B1 (And.intro nT1 o01))))
 clear hC1 BX1 B1 nT1 o01 o1 nn1 cE
 go_upto_region 2 with(fail)
 rw[←hW1,←hn1]
 clear hn1 hW1
 refine wp_region_held_drew (S:=(fun w'=>Ab w' x 0 (bp e)∧Ab w' n0 0 (.int .i64 kind)∧Ab w' n0 1 (.int .i64 key)∧Ab w' n0 2 (.int .i64 hh)∧Ab w' n0 3 (.int .i64 value))) (by kernel_rfl) ?_ (fun hHeld=>?_)
 ·first|exact f0|exact f5
 refine Af 0 (h:=Af 1 (h:=Af 2 (h:=Af 3 (h:=Af 4 (h:=Af 5 (h:=Ar (i:=6) (h:=fun K hK=>?_)))))))
 go_simp
 (refine CI.mono ?_;rintro r w2 ⟨rfl,g2⟩;obtain⟨U2,h2,o2,k2⟩:=Bd.eng (H1.out.1.only0 ((Ac.refl W1).drew)) g2;have d1:=(Ac.refl W1).drew;have oz:=(d1.any (Bl U x M)).trans o2;have X2:=oz.blk H1.out.2.1 HH.out.2.2.1;have Y2:=oz.blk H1.out.2.2.1 H1.out.2.2.2.1;have f5:=And.intro h2.cE (Gj X2);have H2:=Aa (And.intro h2 (And.intro oz (And.intro k2 (And.intro X2 Y2))));clear h2 o2 k2 oz X2 Y2 d1 g2 CI)
 try go_wp2_with fail
 refine AK hK (by first|exact f0|exact f5) (h:=fun hHeld=>?_);clear hK K
 refine Af 7 (h:=?_)
 refine wpAnyH_done (by kernel_rfl) ?_ _
 clear f0 hHeld
 clear f5
 obtain⟨p1,p2,p3,p4⟩:=Gj H2.out.2.2.2.1
 obtain⟨r1,r2,r3,r4,r5,r6,r7,r8,r9⟩:=Ch H2.out.2.2.2.2
 have qe:=H2.out.1.cE
 have cI:=H2.out.1.cI j hj
 rw[show({X with E:=E'}:Bh).id j=idv from HID.out.1]at cI
 have CO:=Fo kind key hh value w2
 rw[HOP.out]at CO
 go_wp2_with fail
 refine CO.mono ?_
 rintro r w2b ⟨rfl,oo⟩
 have oz:=H2.out.2.1.trans (oo.any (Bl U x M))
 have H2b:=Aa (And.intro (H2.out.1.only0 oo) (And.intro oz (And.intro H2.out.2.2.1 (And.intro (oo.blk H2.out.2.2.2.1 (fun f=>f)) (oo.blk H2.out.2.2.2.2 (fun f=>f))))))
 clear oo oz CO H2
 clear p1 p2 p3 p4 r1 r2 r3 r4 r5 r6 r7 r8 r9 qe cI
 have H2:=H2b
 clear H2b
 obtain⟨p1,p2,p3,p4⟩:=Gj H2.out.2.2.2.1
 obtain⟨r1,r2,r3,r4,r5,r6,r7,r8,r9⟩:=Ch H2.out.2.2.2.2
 have qe:=H2.out.1.cE
 rw[HA.out]at r2
 go_upto_region 17 with(fail)
 obtain⟨z1,z2,z3,z4⟩:w2b.frozen? ⟨x,10+j*4,none⟩=false∧w2b.frozen? ⟨x,10+j*4+1,none⟩=false∧w2b.frozen? ⟨x,10+j*4+2,none⟩=false∧w2b.frozen? ⟨x,10+j*4+3,none⟩=false:=⟨H2.out.1.blk.free _,H2.out.1.blk.free _,H2.out.1.blk.free _,H2.out.1.blk.free _⟩
 obtain⟨y1,y2,y3,y4⟩:=H2.out.1.cO j hj
 obtain⟨w4,hw4⟩:=Ad (((((w2b.setCell ⟨x,10+j*4,none⟩ (.int .i64 kind)).setCell ⟨x,10+j*4+1,none⟩ (.int .i64 key)).setCell ⟨x,10+j*4+2,none⟩ (.int .i64 hh)).setCell ⟨x,10+j*4+3,none⟩ (.int .i64 value)).drew)
 have hS:=H2.out.1.opSet j hj ⟨kind,key,hh,value⟩
 have h4:AY B w4 U2 x e M {X with E:=E',op:=AT X.op j ⟨kind,key,hh,value⟩}:=by rw[hw4];exact hS.1.only0 ((Ac.refl _).drew)
 have o4:Ah (Bl U2 x M) w2b w4:=by rw[hw4];exact(hS.2.mono (fun b _ hb=> .inr (.inl hb))).trans (((Ac.refl _).drew).any _)
 have CS3:=AQ h4.en (j:Int)
 rcases hst3:E'.status (j:Int)with⟨b1,b2,b3,b4,b5,b6,b7,b8,b9⟩
 have hb2:b2=true:=by have:=HB2.out;rw[hst3]at this;exact this
 subst hb2
 rw[show({X with E:=E',op:=AT X.op j ⟨kind,key,hh,value⟩}:Bh).E.status (j:Int)=_ from hst3,show Cv.row ⟨b1,true,b3,b4,b5,b6,b7,b8,b9⟩=#[.bool b1,.bool true,.bool b3,.int .i64 b4,.int .i64 b5,.int .i64 b6,.int .u64 b7,.int .u64 b8,.int .i64 b9] from rfl]at CS3
 have qe4:=h4.cE
 have hfl:∀wx,(Instr.field 46 (.agg #[.bool b1,.bool true,.bool b3,b4,b5,b6,.int .u64 b7,.int .u64 b8,b9]) 1).run Tryz.prog wx= .ok (.bool true) wx:=fun wx=>by kernel_rfl
 have H4:=Aa (And.intro h4 o4)
 clear h4 o4 hS hst3
 go_region
 go_upto_region 18 with(fail)
 rw[←hw4]
 clear hw4
 go_wp2_with fail
 refine CS3.mono ?_
 rintro r w5 ⟨rfl,o5⟩
 have HF:=Aa (And.intro (H4.out.1.only0 o5) (H4.out.2.trans (o5.any _)))
 clear CS3 o5
 go_wp2_with fail
 trace_state
 go_ret
 refine⟨rfl,?_⟩
 have hz:AC W1.drew.heap.size (Bl U x M) (Bl U2 x M):=H2.out.2.2.1
 have hb1:=(HN.out.2.any (Bl U x M)).trans ((H1.out.2.2.2.2.any (Bl U x M)).trans H2.out.2.1)
 have gz:AC w.heap.size (Bl U x M) (Bl U2 x M):=fun b hb=>(hz b hb).imp (fun y=>y) (fun y=>Nat.le_trans (Nat.le_trans HN.out.2.size H1.out.2.2.2.2.size) (Nat.le_trans (by simp) y))
 exact Bd.then hb1 gz ⟨U2,M,HF.out.1,HF.out.2,AC.refl _ _⟩
theorem Jo(h:AY B w U x e M X)(hf:As N X.E)(hN:256≤N)(hN2:N≤30000000)(s kind key hh value:Int)(hs:0≤s∧s<8)(hid:X.id s.toNat≠0)(hop:AF ⟨kind,key,hh,value⟩=true)(hb:(X.E.status s).busy=false)(hk:kind<6∧(X.E.status s).ops<12){E':En}(hi:X.E.issue s ⟨kind,key,hh,value⟩=(0,E'))(hb2:(E'.status s).busy=true):
 Calls Tryz.prog 17 #[bp x,.int .i64 s,.agg #[kind,key,hh,value]] w fun r w'=>r= .returned (.bool true)∧Bd B w U x e M {X with E:=E',op:=AT X.op s.toNat ⟨kind,key,hh,value⟩} w':=by
 obtain⟨W,hW⟩:=Ad (w.alloc (.cells #[kind,key,hh,value] 37))
 have oW:Ac w W:=by rw[hW];exact(Ac.refl w).alloc _
 have BX:Am W w.heap.size 37 #[kind,key,hh,value]:=by rw[hW];exact Am.new _ _ _
 obtain⟨n0,hn0⟩:=Ad w.heap.size
 rw[←hn0]at BX
 have HN:=Aa (And.intro hn0 oW)
 have hC:=h.only0 oW
 have nT:¬Bl U x M n0:=fun q=>by
  exact TF
 have CS:=AQ hC.en s
 have cE:=hC.cE
 have HH:=Aa (And.intro hC (And.intro BX (And.intro nT hf)))
 rcases hst:X.E.status s with⟨a1,a2,a3,a4,a5,a6,a7,a8,a9⟩
 rw[hst,show Cv.row ⟨a1,a2,a3,a4,a5,a6,a7,a8,a9⟩=#[.bool a1,.bool a2,.bool a3,.int .i64 a4,.int .i64 a5,.int .i64 a6,.int .u64 a7,.int .u64 a8,.int .i64 a9] from rfl]at CS
 have HST:=Aa hst
 have HI:=Aa hi
 clear h hC BX nT hn0 oW hst hi hf
 obtain⟨s0,s1⟩:=hs
 obtain⟨j,hsj⟩:=Int.eq_ofNat_of_zero_le s0
 subst hsj
 have hj:j<8:=by omega
 have j8:(j:Int)<8:=by omega
 have g1:¬((j:Int)<0):=by omega
 have g2:¬((j:Int)>7):=by omega
 obtain⟨idv,hidv⟩:∃v,X.id j=v:=⟨_,rfl⟩
 have HID:Hid (X.id j=idv∧idv≠0):=Aa ⟨hidv,by rw[←hidv];exact hid⟩
 have b0:(idv==0)=false:=by simpa using HID.out.2
 have HOP:=Aa hop
 clear hid hidv hop
 have ha:a2=false:=by rw[show X.E.status (j:Int)=_ from HST.out]at hb;exact hb
 have k6:kind<6:=hk.1
 have a9n:¬12≤a9:=by have:=hk.2;rw[show X.E.status (j:Int)=_ from HST.out]at this;exact Int.not_le.2 this
 clear hk
 have HA:=Aa ha
 have HB2:=Aa hb2
 clear hb ha hb2
 go_enter Tryz.func17,Tryz.ntmps17
 go_upto_region 1 with(fail)
 rw[←hW,←HN.out.1]
 clear hW
 go_wp2_with fail
 refine CS.mono ?_
 rintro r w1 ⟨rfl,o1⟩
 clear CS
 obtain⟨n1,hn1⟩:=Ad w1.heap.size
 obtain⟨W1,hW1⟩:=Ad (w1.alloc (.cells #[.bool a1,.bool a2,.bool a3,a4,a5,a6,.int .u64 a7,.int .u64 a8,a9] 46))
 have B1:Am W1 n1 46 #[.bool a1,.bool a2,.bool a3,a4,a5,a6,.int .u64 a7,.int .u64 a8,a9]:=by rw[hW1,hn1];exact Am.new _ _ _
 have nn1:W.heap.size≤n1:=by rw[hn1];exact o1.size
 have o01:Ac W W1:=by rw[hW1];exact o1.alloc _
 have hC1:=HH.out.1.only0 o01
 have BX1:=o01.blk HH.out.2.1 (fun f=>f)
 have nT1:¬Bl U x M n1:=fun q=>by
  exact Uu
 have CI:=DN (hC1.only0 ((Ac.refl W1).drew)).en HH.out.2.2.2 hN hN2 (j:Int) kind key hh value
 rw[HI.out]at CI
 have f0:Ab W1 x 0 (bp e)∧Ab W1 n0 0 (.int .i64 kind)∧Ab W1 n0 1 (.int .i64 key)∧Ab W1 n0 2 (.int .i64 hh)∧Ab W1 n0 3 (.int .i64 value):=⟨hC1.cE,Gj BX1⟩
 have H1:=Aa (And.intro hC1 (And.intro BX1 (And.intro B1 (And.intro nT1 o01))))
 clear hC1 BX1 B1 nT1 o01 o1 nn1 cE
 go_upto_region 2 with(fail)
 rw[←hW1,←hn1]
 clear hn1 hW1
 refine wp_region_held_drew (S:=(fun w'=>Ab w' x 0 (bp e)∧Ab w' n0 0 (.int .i64 kind)∧Ab w' n0 1 (.int .i64 key)∧Ab w' n0 2 (.int .i64 hh)∧Ab w' n0 3 (.int .i64 value))) (by kernel_rfl) ?_ (fun hHeld=>?_)
 ·first|exact f0|exact f5
 refine Af 0 (h:=Af 1 (h:=Af 2 (h:=Af 3 (h:=Af 4 (h:=Af 5 (h:=Ar (i:=6) (h:=fun K hK=>?_)))))))
 go_simp
 (refine CI.mono ?_;rintro r w2 ⟨rfl,g2⟩;obtain⟨U2,h2,o2,k2⟩:=Bd.eng (H1.out.1.only0 ((Ac.refl W1).drew)) g2;have d1:=(Ac.refl W1).drew;have oz:=(d1.any (Bl U x M)).trans o2;have X2:=oz.blk H1.out.2.1 HH.out.2.2.1;have Y2:=oz.blk H1.out.2.2.1 H1.out.2.2.2.1;have f5:=And.intro h2.cE (Gj X2);have H2:=Aa (And.intro h2 (And.intro oz (And.intro k2 (And.intro X2 Y2))));clear h2 o2 k2 oz X2 Y2 d1 g2 CI)
 try go_wp2_with fail
 refine AK hK (by first|exact f0|exact f5) (h:=fun hHeld=>?_);clear hK K
 refine Af 7 (h:=?_)
 refine wpAnyH_done (by kernel_rfl) ?_ _
 clear f0 hHeld
 clear f5
 obtain⟨p1,p2,p3,p4⟩:=Gj H2.out.2.2.2.1
 obtain⟨r1,r2,r3,r4,r5,r6,r7,r8,r9⟩:=Ch H2.out.2.2.2.2
 have qe:=H2.out.1.cE
 have cI:=H2.out.1.cI j hj
 rw[show({X with E:=E'}:Bh).id j=idv from HID.out.1]at cI
 have CO:=Fo kind key hh value w2
 rw[HOP.out]at CO
 go_wp2_with fail
 refine CO.mono ?_
 rintro r w2b ⟨rfl,oo⟩
 have oz:=H2.out.2.1.trans (oo.any (Bl U x M))
 have H2b:=Aa (And.intro (H2.out.1.only0 oo) (And.intro oz (And.intro H2.out.2.2.1 (And.intro (oo.blk H2.out.2.2.2.1 (fun f=>f)) (oo.blk H2.out.2.2.2.2 (fun f=>f))))))
 clear oo oz CO H2
 clear p1 p2 p3 p4 r1 r2 r3 r4 r5 r6 r7 r8 r9 qe cI
 have H2:=H2b
 clear H2b
 obtain⟨p1,p2,p3,p4⟩:=Gj H2.out.2.2.2.1
 obtain⟨r1,r2,r3,r4,r5,r6,r7,r8,r9⟩:=Ch H2.out.2.2.2.2
 have qe:=H2.out.1.cE
 rw[HA.out]at r2
 go_upto_region 17 with(fail)
 obtain⟨z1,z2,z3,z4⟩:w2b.frozen? ⟨x,10+j*4,none⟩=false∧w2b.frozen? ⟨x,10+j*4+1,none⟩=false∧w2b.frozen? ⟨x,10+j*4+2,none⟩=false∧w2b.frozen? ⟨x,10+j*4+3,none⟩=false:=⟨H2.out.1.blk.free _,H2.out.1.blk.free _,H2.out.1.blk.free _,H2.out.1.blk.free _⟩
 obtain⟨y1,y2,y3,y4⟩:=H2.out.1.cO j hj
 obtain⟨w4,hw4⟩:=Ad (((((w2b.setCell ⟨x,10+j*4,none⟩ (.int .i64 kind)).setCell ⟨x,10+j*4+1,none⟩ (.int .i64 key)).setCell ⟨x,10+j*4+2,none⟩ (.int .i64 hh)).setCell ⟨x,10+j*4+3,none⟩ (.int .i64 value)).drew)
 have hS:=H2.out.1.opSet j hj ⟨kind,key,hh,value⟩
 have h4:AY B w4 U2 x e M {X with E:=E',op:=AT X.op j ⟨kind,key,hh,value⟩}:=by rw[hw4];exact hS.1.only0 ((Ac.refl _).drew)
 have o4:Ah (Bl U2 x M) w2b w4:=by rw[hw4];exact(hS.2.mono (fun b _ hb=> .inr (.inl hb))).trans (((Ac.refl _).drew).any _)
 have CS3:=AQ h4.en (j:Int)
 rcases hst3:E'.status (j:Int)with⟨b1,b2,b3,b4,b5,b6,b7,b8,b9⟩
 have hb2:b2=true:=by have:=HB2.out;rw[hst3]at this;exact this
 subst hb2
 rw[show({X with E:=E',op:=AT X.op j ⟨kind,key,hh,value⟩}:Bh).E.status (j:Int)=_ from hst3,show Cv.row ⟨b1,true,b3,b4,b5,b6,b7,b8,b9⟩=#[.bool b1,.bool true,.bool b3,.int .i64 b4,.int .i64 b5,.int .i64 b6,.int .u64 b7,.int .u64 b8,.int .i64 b9] from rfl]at CS3
 have qe4:=h4.cE
 have hfl:∀wx,(Instr.field 46 (.agg #[.bool b1,.bool true,.bool b3,b4,b5,b6,.int .u64 b7,.int .u64 b8,b9]) 1).run Tryz.prog wx= .ok (.bool true) wx:=fun wx=>by kernel_rfl
 have H4:=Aa (And.intro h4 o4)
 clear h4 o4 hS hst3
 go_region
 go_upto_region 18 with(fail)
 rw[←hw4]
 clear hw4
 go_wp2_with fail
 refine CS3.mono ?_
 rintro r w5 ⟨rfl,o5⟩
 have HF:=Aa (And.intro (H4.out.1.only0 o5) (H4.out.2.trans (o5.any _)))
 clear CS3 o5
 go_wp2_with fail
 trace_state
 go_ret
 refine⟨rfl,?_⟩
 have hz:AC W1.drew.heap.size (Bl U x M) (Bl U2 x M):=H2.out.2.2.1
 have hb1:=(HN.out.2.any (Bl U x M)).trans ((H1.out.2.2.2.2.any (Bl U x M)).trans H2.out.2.1)
 have gz:AC w.heap.size (Bl U x M) (Bl U2 x M):=fun b hb=>(hz b hb).imp (fun y=>y) (fun y=>Nat.le_trans (Nat.le_trans HN.out.2.size H1.out.2.2.2.2.size) (Nat.le_trans (by simp) y))
 exact Bd.then hb1 gz ⟨U2,M,HF.out.1,HF.out.2,AC.refl _ _⟩
end
end
section
attribute [local go_sem ↓] Go.wp_at_zero Go.wp_at_succ
section
variable {B N x e:Nat} {w w':World} {U:Nat→Prop} {M:GR} {X:Bh}
theorem GQ{w:World}{n:Nat}{t:TypeId}{kd re rv ro rn:Int}{v:Value}(h:Am w n t #[kd,re,rv,v,ro,rn]):w.cell? ⟨n,0,none⟩=some (.int .i64 kd)∧w.cell? ⟨n,1,none⟩=some (.int .i64 re)∧w.cell? ⟨n,2,none⟩=some (.int .i64 rv)∧w.cell? ⟨n,3,none⟩=some v∧w.cell? ⟨n,4,none⟩=some (.int .i64 ro)∧w.cell? ⟨n,5,none⟩=some (.int .i64 rn):=⟨h.cell 0,h.cell 1,h.cell 2,h.cell 3,h.cell 4,h.cell 5⟩
theorem KD(h:AY B w U x e M X)(hf:As N X.E)(hN:256≤N)(hN2:N≤30000000)(s:Int)(hs:s<0∨7<s)(hi:X.E.step s=(LH.zero,1,X.E)):
 Calls Tryz.prog 16 #[bp x,s] w fun r w'=>r= .returned (.bool true)∧Bd B w U x e M X w':=by
 have CS:=AQ h.en s
 have cE:=h.cE
 have HH:=Aa (And.intro h hf)
 rcases hst:X.E.status s with⟨a1,a2,a3,a4,a5,a6,a7,a8,a9⟩
 rw[hst,show Cv.row ⟨a1,a2,a3,a4,a5,a6,a7,a8,a9⟩=#[.bool a1,.bool a2,.bool a3,.int .i64 a4,.int .i64 a5,.int .i64 a6,.int .u64 a7,.int .u64 a8,.int .i64 a9] from rfl]at CS
 have HST:=Aa hst
 have HI:=Aa hi
 clear h hf hst hi
 rcases hs with hs|hs
 ·exact UF
 ·have hs0:¬s<0:=by omega
  exact UF
theorem Jv(h:AY B w U x e M X)(hf:As N X.E)(hN:256≤N)(hN2:N≤30000000)(s:Int)(hs:0≤s∧s<8)(hb:(X.E.status s).busy=false)(hi:X.E.step s=(LH.zero,9,X.E)):
 Calls Tryz.prog 16 #[bp x,s] w fun r w'=>r= .returned (.bool true)∧Bd B w U x e M X w':=by
 have CS:=AQ h.en s
 have cE:=h.cE
 have HH:=Aa (And.intro h hf)
 rcases hst:X.E.status s with⟨a1,a2,a3,a4,a5,a6,a7,a8,a9⟩
 rw[hst,show Cv.row ⟨a1,a2,a3,a4,a5,a6,a7,a8,a9⟩=#[.bool a1,.bool a2,.bool a3,.int .i64 a4,.int .i64 a5,.int .i64 a6,.int .u64 a7,.int .u64 a8,.int .i64 a9] from rfl]at CS
 have HST:=Aa hst
 have HI:=Aa hi
 clear h hf hst hi
 obtain⟨s0,s1⟩:=hs
 obtain⟨j,hsj⟩:=Int.eq_ofNat_of_zero_le s0
 subst hsj
 have hj:j<8:=by omega
 have j8:(j:Int)<8:=by omega
 have g1:¬((j:Int)<0):=by omega
 have g2':¬((j:Int)>7):=by omega
 have ha:a2=false:=by rw[show X.E.status (j:Int)=_ from HST.out]at hb;exact hb
 have HA:=Aa ha
 clear hb ha
 go_enter Tryz.func16,Tryz.ntmps16
 go_wp2_with fail
 refine CS.mono ?_
 rintro r w1 ⟨rfl,o1⟩
 clear CS
 obtain⟨n1,hn1⟩:=Ad w1.heap.size
 obtain⟨W1,hW1⟩:=Ad (w1.alloc (.cells #[.bool a1,.bool a2,.bool a3,a4,a5,a6,.int .u64 a7,.int .u64 a8,a9] 46))
 have B1:Am W1 n1 46 #[.bool a1,.bool a2,.bool a3,a4,a5,a6,.int .u64 a7,.int .u64 a8,a9]:=by rw[hW1,hn1];exact Am.new _ _ _
 have nn1:w.heap.size≤n1:=by rw[hn1];exact o1.size
 have o01:Ac w W1:=by rw[hW1];exact o1.alloc _
 have hC1:=HH.out.1.only0 o01
 have nT1:¬Bl U x M n1:=fun q=>by
  exact Uu
 have CL:=Bf hC1.en
 obtain⟨L0,hL0⟩:=Ad X.E.looks
 rw[←hL0]at CL
 have HL0:=Aa hL0
 have CI:=Eu hC1.en HH.out.2 hN hN2 (j:Int)
 rw[HI.out]at CI
 replace CI:Calls Tryz.prog 36 #[bp e,.int .i64 (j:Int)] W1 (EY B W1 U (IC x M) e ⟨0,⟨0,0,[],0,0⟩⟩ 9 X.E):=CI
 have cE1:=hC1.cE
 have H1:=Aa (And.intro hC1 (And.intro B1 (And.intro nT1 o01)))
 clear hC1 B1 nT1 o01 o1 nn1 cE hL0
 go_upto_region 2 with(fail)
 rw[←hW1,←hn1]
 clear hn1 hW1
 go_wp2_with fail
 refine CL.mono ?_
 rintro r w1b ⟨rfl,rfl⟩
 clear CL
 go_wp2_with fail
 refine CI.mono ?_
 rintro r w2 ⟨pa,pc,U2,rfl,en2,ou2,g2,pi2,pf2⟩
 clear CI
 obtain⟨U2',h2,o2,k2⟩:∃U2',AY B w2 U2' x e M {X with E:=X.E}∧Ah (Bl U x M) W1 w2∧AC W1.heap.size (Bl U x M) (Bl U2' x M):=Bd.eng H1.out.1 ⟨U2,en2,ou2,g2⟩
 obtain⟨n2,hn2⟩:=Ad w2.heap.size
 obtain⟨W2,hW2⟩:=Ad (w2.alloc (.cells #[.int .i64 0,.int .i64 0,.int .i64 0,.slice pa 0 pc,.int .i64 0,.int .i64 0] 129))
 have B2:Am W2 n2 129 #[.int .i64 0,.int .i64 0,.int .i64 0,.slice pa 0 pc,.int .i64 0,.int .i64 0]:=by rw[hW2,hn2];exact Am.new _ _ _
 have o2W:Ac w2 W2:=by rw[hW2];exact(Ac.refl w2).alloc _
 have hC2:=h2.only0 o2W
 have oV:=o2.trans (o2W.any (Bl U x M))
 have Y1:=oV.blk H1.out.2.1 H1.out.2.2.1
 obtain⟨d1,d2,d3,d4,d5,d6⟩:=GQ B2
 obtain⟨r1,r2,r3,r4,r5,r6,r7,r8,r9⟩:=Ch Y1
 have cE2:=hC2.cE
 have CL2:=Bf hC2.en
 have H2:=Aa (And.intro hC2 (And.intro oV k2))
 clear hC2 oV Y1 B2 o2W h2 o2 k2 en2 ou2 g2 pi2 pf2
 go_upto_region 4 with(fail)
 rw[←hW2,←hn2]
 clear hW2 hn2
 rw[HA.out]at r2
 rw[show({X with E:=X.E}:Bh).E.looks=L0 from HL0.out.symm]at CL2
 go_wp2_with fail
 refine CL2.mono ?_
 rintro r w3 ⟨rfl,rfl⟩
 clear CL2
 go_wp2_with fail
 go_ret
 refine⟨rfl,U2',M,H2.out.1,(H1.out.2.2.2.any (Bl U x M)).trans H2.out.2.1,fun b hb=>(H2.out.2.2 b hb).imp (fun y=>y) (fun y=>Nat.le_trans H1.out.2.2.2.size y)⟩
end
end
section
theorem R8(a b:Int)(w:World):(Go.part 3 #[.int .i64 a,.int .i64 b] 0).run Tryz.prog w= .ok (.int .i64 a) w:=by kernel_rfl
theorem R9(a b:Int)(w:World):(Go.part 3 #[.int .i64 a,.int .i64 b] 1).run Tryz.prog w= .ok (.int .i64 b) w:=by kernel_rfl
theorem Ip:Tryz.prog.stoodInHeld 77=false:=by kernel_rfl
theorem Gz:Tryz.prog.underlying 77=some (.struct (Tryz.prog.fieldsOf 77)):=by kernel_rfl
theorem Ks:Tryz.prog.eqGuardType Tryz.prog.depth 77=false:=by kernel_rfl
theorem Pg(a b c d:Int)(w:World):(binOp .neq 77 (.agg #[a,b]) (.agg #[c,d])).run Tryz.prog w= .ok (.bool (!(decide (a=c)&&decide (b=d)))) w:=by
 rw[run_neq_struct,run_equalIn_agg w 9999 _ _ _ Gz Ip]
 exact SN
theorem Jy(a b c d:Int)(w:World):(Op.equalIn 10000 77 (.agg #[a,b]) (.agg #[c,d])).run Tryz.prog w= .ok (decide (a=c)&&decide (b=d)) w:=by
 rw[run_equalIn_agg w 9999 _ _ _ Gz Ip]
 exact SN
theorem AV.at{w:World}{a:Option Addr}{ps:List (Int×Int)}(h:AV w a ps)(hn:0<ps.length):
 ∃b off,a=some ⟨b,off,none⟩∧∀i,i<ps.length→Ab w b (off+i*2) (.int .i64 (ps.getD i (0,0)).1)∧Ab w b (off+(i*2+1)) (.int .i64 (ps.getD i (0,0)).2):=by
 rcases h with rfl|h
 ·simp at hn
 ·exact h
def Kp(xs ys:List (Int×Int))(k:Nat):Prop:=∀j,j<k→xs.getD j (0,0)=ys.getD j (0,0)
theorem Ml{xs ys:List (Int×Int)}(h:xs.length=ys.length)(hu:Kp xs ys xs.length):xs=ys:=by
 apply List.ext_getElem h
 intro i h1 h2
 have:=hu i h1
 simpa[List.getD_eq_getElem?_getD,h1,h2]using this
theorem KO{xs ys:List (Int×Int)}{k:Nat}(h:Kp xs ys k)(h1:xs.getD k (0,0)=ys.getD k (0,0)):Kp xs ys (k+1):=by
 intro j hj
 rcases Nat.lt_or_ge j k with h2|h2
 ·exact h j h2
 ·obtain rfl:j=k:=by omega
  exact h1
theorem IF(a a':Option Addr)(c c':Nat)(xs ys:List (Int×Int))(w:World)(hx:AV w a xs)(hy:AV w a' ys)(lx:xs.length≤1000000)(ly:ys.length≤1000000):
 Calls Tryz.prog 45 #[.slice a xs.length c,.slice a' ys.length c'] w fun e w'=>e= .returned (.bool (decide (xs=ys)))∧∃n,w'=w.drewN n:=by
 by_cases hl:xs.length=ys.length
 ·have hl1:((xs.length:Int) != (ys.length:Int))=false:=by simp[hl]
  have H:=Aa hl
  clear hl
  go_enter Tryz.func45,Tryz.ntmps45
  go_wp2_with fail
  go_loopw [5] (fun i wr=>∃k m:Nat,k≤xs.length∧i= .int .i64 k∧wr=w.drewN m∧Hid (Kp xs ys k)) (fun i _=>xs.length-(intOf i).toNat)
  case atStart=>exact⟨0,0,Nat.zero_le _,rfl,rfl,Aa (fun j hj=>by omega)⟩
  case round=>
   obtain⟨k,m,hk,rfl,rfl,HU⟩:=hrel
   by_cases hlt:k<xs.length
   ·have hly:k<ys.length:=by have:=H.out;omega
    obtain⟨b,off,rfl,hc⟩:=hx.at (by omega)
    obtain⟨b',off',rfl,hc'⟩:=hy.at (by omega)
    obtain⟨h1,h1'⟩:=hc k hlt
    obtain⟨h2,h2'⟩:=hc' k hly
    have U1:=Aa (show xs.getD k (0,0)=ys.getD k (0,0)→Kp xs ys (k+1) from fun e=>KO HU.out e)
    have U2:=Aa (show xs.getD k (0,0)≠ys.getD k (0,0)→decide (xs=ys)=false from fun e=>decide_eq_false (fun e'=>e (by rw[e'])))
    generalize xs.getD k (0,0)=x at h1 h1' U1 U2
    generalize ys.getD k (0,0)=y at h2 h2' U1 U2
    obtain⟨x1,x2⟩:=x
    obtain⟨y1,y2⟩:=y
    have hq:∀n,(binOp .neq 77 (.agg #[x1,x2]) (.agg #[y1,y2])).run Tryz.prog ((w.drewN m).drewN n)= .ok (.bool (!(decide (x1=y1)&&decide (x2=y2)))) ((w.drewN m).drewN n):=fun n=>Pg _ _ _ _ _
    have hq2:∀n,(Op.equalIn 10000 77 (.agg #[x1,x2]) (.agg #[y1,y2])).run Tryz.prog ((w.drewN m).drewN n)= .ok (decide (x1=y1)&&decide (x2=y2)) ((w.drewN m).drewN n):=fun n=>Jy _ _ _ _ _
    have hg:=Ks
    clear hc hc'
    dsimp only at h1 h1' h2 h2'
    rw[←Nat.add_assoc]at h1' h2'
    by_cases exy:x1=y1∧x2=y2
    ·obtain⟨rfl,rfl⟩:=exy
     have U4:=Aa (U1.out rfl)
     simp only[decide_true,Bool.and_self,Bool.not_true]at hq hq2
     clear U1 U2 HU
     go_wp2_with fail
     go_quiet (fail)
     go_wp2_with fail
     go_roundw
     case rel=>exact⟨k+1,_,by omega,by go_num,rfl,U4⟩
     case measure=>simp[intOf];omega
    ·have U4:=Aa (U2.out (fun e=>exy (by injection e with e1 e2;exact⟨e1,e2⟩)))
     have eb:(decide (x1=y1)&&decide (x2=y2))=false:=by simpa using exy
     rw[eb]at hq hq2
     have hd:(x1==y1)=false∨(x1=y1∧(x2==y2)=false):=by
      by_cases e1:x1=y1
      ·exact .inr ⟨e1,by simpa using fun e2=>exy ⟨e1,e2⟩⟩
      ·exact .inl (by simpa using e1)
     clear U1 U2 HU exy eb
     rcases hd with hd|⟨rfl,hd⟩
     all_goals
      go_wp2_with fail
      go_quiet (fail)
      go_wp2_with fail
      go_ret
      exact⟨BL (by rw[U4.out]),_,World.drewN_drewN _ _ _⟩
   ·obtain rfl:k=xs.length:=by omega
    have U3:=Aa (show decide (xs=ys)=true from decide_eq_true (Ml H.out HU.out))
    go_wp2_with fail
    go_ret
    exact⟨BL (by rw[U3.out]),_,rfl⟩
 ·have hl1:((xs.length:Int) != (ys.length:Int))=true:=by simp;omega
  have U3:=Aa (show decide (xs=ys)=false from decide_eq_false (fun e=>hl (by rw[e])))
  clear hl
  go_enter Tryz.func45,Tryz.ntmps45
  go_wp2_with fail
  go_ret
  exact⟨BL (by rw[U3.out]),0,rfl⟩
theorem JJ(a a':Option Addr)(c c':Nat)(ps:List (Int×Int))(re rv ro rn:Int)(w:World)(hx:AV w a ps)(hy:AV w a' ps)(lx:ps.length≤1000000):
 Calls Tryz.prog 20 #[.agg #[re,rv,.slice a ps.length c,ro,rn],.agg #[re,rv,.slice a' ps.length c',ro,rn]] w fun r w'=>r= .returned (.bool true)∧Ac w w':=by
 have CSP:=fun wz (o:Ac w wz)=>IF a a' c c' ps ps wz (hx.only (S:=fun _=>False) o (fun _ _ hf=>hf)) (hy.only (S:=fun _=>False) o (fun _ _ hf=>hf)) lx lx
 have hlen:ps.length≤1000000:=lx
 generalize ps.length=n at *
 clear hx hy lx
 go_enter Tryz.func20,Tryz.ntmps20
 go_wp2_with fail
 refine(CSP _ (((Ac.refl w).alloc _).alloc _)).mono ?_
 rintro r w2 ⟨rfl,m,rfl⟩
 go_wp2_with fail
 go_ret
 exact⟨by simp,(((Ac.refl w).alloc _).alloc _).drewN m⟩
end
section
attribute [local go_sem ↓] Go.wp_at_zero Go.wp_at_succ
section
variable {B N x e:Nat} {w w':World} {U:Nat→Prop} {M:GR} {X:Bh}
theorem J9(h:AY B w U x e M X)(hf:As N X.E)(hN:256≤N)(hN2:N≤30000000)(s:Int)(hs:0≤s∧s<8)(hb:(X.E.status s).busy=true){E':En}(hi:X.E.step s=(⟨1,.zero⟩,0,E'))(hlk:0≤X.E.looks∧X.E.looks≤1000000000∧X.E.looks≤E'.looks∧E'.looks≤X.E.looks+1)(hs2:(E'.status s).busy=true∧(E'.status s).waits=false):
 Calls Tryz.prog 16 #[bp x,s] w fun r w'=>r= .returned (.bool true)∧Bd B w U x e M {X with E:=E'} w':=by
 have CS:=AQ h.en s
 have cE:=h.cE
 have HH:=Aa (And.intro h hf)
 rcases hst:X.E.status s with⟨a1,a2,a3,a4,a5,a6,a7,a8,a9⟩
 rw[hst,show Cv.row ⟨a1,a2,a3,a4,a5,a6,a7,a8,a9⟩=#[.bool a1,.bool a2,.bool a3,.int .i64 a4,.int .i64 a5,.int .i64 a6,.int .u64 a7,.int .u64 a8,.int .i64 a9] from rfl]at CS
 have HST:=Aa hst
 have HI:=Aa hi
 clear h hf hst hi
 obtain⟨s0,s1⟩:=hs
 obtain⟨j,hsj⟩:=Int.eq_ofNat_of_zero_le s0
 subst hsj
 have hj:j<8:=by omega
 have j8:(j:Int)<8:=by omega
 have g1:¬((j:Int)<0):=by omega
 have g2':¬((j:Int)>7):=by omega
 have ha:a2=true:=by rw[show X.E.status (j:Int)=_ from HST.out]at hb;exact hb
 have HA:=Aa ha
 clear hb ha
 have HLK:=Aa hlk
 have HS2:=Aa hs2
 clear hlk hs2
 go_enter Tryz.func16,Tryz.ntmps16
 go_wp2_with fail
 refine CS.mono ?_
 rintro r w1 ⟨rfl,o1⟩
 clear CS
 obtain⟨n1,hn1⟩:=Ad w1.heap.size
 obtain⟨W1,hW1⟩:=Ad (w1.alloc (.cells #[.bool a1,.bool a2,.bool a3,a4,a5,a6,.int .u64 a7,.int .u64 a8,a9] 46))
 have B1:Am W1 n1 46 #[.bool a1,.bool a2,.bool a3,a4,a5,a6,.int .u64 a7,.int .u64 a8,a9]:=by rw[hW1,hn1];exact Am.new _ _ _
 have nn1:w.heap.size≤n1:=by rw[hn1];exact o1.size
 have o01:Ac w W1:=by rw[hW1];exact o1.alloc _
 have hC1:=HH.out.1.only0 o01
 have nT1:¬Bl U x M n1:=fun q=>by
  exact Uu
 have CL:=Bf hC1.en
 obtain⟨L0,hL0⟩:=Ad X.E.looks
 rw[←hL0]at CL
 have HL0:=Aa hL0
 have CI:=Eu hC1.en HH.out.2 hN hN2 (j:Int)
 rw[HI.out]at CI
 replace CI:Calls Tryz.prog 36 #[bp e,.int .i64 (j:Int)] W1 (EY B W1 U (IC x M) e ⟨1,⟨0,0,[],0,0⟩⟩ 0 E'):=CI
 have cE1:=hC1.cE
 have H1:=Aa (And.intro hC1 (And.intro B1 (And.intro nT1 o01)))
 clear hC1 B1 nT1 o01 o1 nn1 cE hL0
 go_upto_region 2 with(fail)
 rw[←hW1,←hn1]
 clear hn1 hW1
 go_wp2_with fail
 refine CL.mono ?_
 rintro r w1b ⟨rfl,rfl⟩
 clear CL
 go_wp2_with fail
 refine CI.mono ?_
 rintro r w2 ⟨pa,pc,U2,rfl,en2,ou2,g2,pi2,pf2⟩
 clear CI
 obtain⟨U2',h2,o2,k2⟩:∃U2',AY B w2 U2' x e M {X with E:=E'}∧Ah (Bl U x M) W1 w2∧AC W1.heap.size (Bl U x M) (Bl U2' x M):=Bd.eng H1.out.1 ⟨U2,en2,ou2,g2⟩
 obtain⟨n2,hn2⟩:=Ad w2.heap.size
 obtain⟨W2,hW2⟩:=Ad (w2.alloc (.cells #[.int .i64 1,.int .i64 0,.int .i64 0,.slice pa 0 pc,.int .i64 0,.int .i64 0] 129))
 have B2:Am W2 n2 129 #[.int .i64 1,.int .i64 0,.int .i64 0,.slice pa 0 pc,.int .i64 0,.int .i64 0]:=by rw[hW2,hn2];exact Am.new _ _ _
 have o2W:Ac w2 W2:=by rw[hW2];exact(Ac.refl w2).alloc _
 have hC2:=h2.only0 o2W
 have oV:=o2.trans (o2W.any (Bl U x M))
 have Y1:=oV.blk H1.out.2.1 H1.out.2.2.1
 obtain⟨d1,d2,d3,d4,d5,d6⟩:=GQ B2
 obtain⟨r1,r2,r3,r4,r5,r6,r7,r8,r9⟩:=Ch Y1
 have cE2:=hC2.cE
 have CL2:=Bf hC2.en
 have H2:=Aa (And.intro hC2 (And.intro oV k2))
 clear hC2 oV Y1 B2 o2W h2 o2 k2 en2 ou2 g2 pi2 pf2
 go_upto_region 4 with(fail)
 rw[←hW2,←hn2]
 clear hW2 hn2
 rw[HA.out]at r2
 obtain⟨L1,hL1⟩:=Ad E'.looks
 rw[show({X with E:=E'}:Bh).E.looks=L1 from hL1.symm]at CL2
 obtain⟨l1,l2,l3⟩:(0≤L0∧L0≤1000000000)∧L0≤L1∧L1≤L0+1:=by rw[hL1,HL0.out];exact⟨⟨HLK.out.1,HLK.out.2.1⟩,HLK.out.2.2.1,HLK.out.2.2.2⟩
 have hw1:IntKind.i64.wrap (L0+1)=L0+1:=by rw[IntKind.wrap_i64];omega
 have c1:¬(L1>L0+1):=by omega
 have c2:¬(L1<L0):=by omega
 have CS2:=AQ H2.out.1.en (j:Int)
 rcases hst2:E'.status (j:Int)with⟨b1,b2,b3,b4,b5,b6,b7,b8,b9⟩
 have hb2:b2=true:=by have:=HS2.out.1;rw[hst2]at this;exact this
 have hb3:b3=false:=by have:=HS2.out.2;rw[hst2]at this;exact this
 subst hb2
 subst hb3
 rw[show({X with E:=E'}:Bh).E.status (j:Int)=_ from hst2,show Cv.row ⟨b1,true,false,b4,b5,b6,b7,b8,b9⟩=#[.bool b1,.bool true,.bool false,.int .i64 b4,.int .i64 b5,.int .i64 b6,.int .u64 b7,.int .u64 b8,.int .i64 b9] from rfl]at CS2
 clear hst2 hL1
 go_wp2_with fail
 refine CL2.mono ?_
 rintro r w3 ⟨rfl,rfl⟩
 go_wp2_with fail
 refine CL2.mono ?_
 rintro r w3 ⟨rfl,rfl⟩
 clear CL2
 go_wp2_with fail
 refine CS2.mono ?_
 rintro r w3 ⟨rfl,o3⟩
 clear CS2
 obtain⟨n3,hn3⟩:=Ad w3.heap.size
 obtain⟨W3,hW3⟩:=Ad (w3.alloc (.cells #[.bool b1,.bool true,.bool false,b4,b5,b6,.int .u64 b7,.int .u64 b8,b9] 46))
 have B3:Am W3 n3 46 #[.bool b1,.bool true,.bool false,b4,b5,b6,.int .u64 b7,.int .u64 b8,b9]:=by rw[hW3,hn3];exact Am.new _ _ _
 obtain⟨t1,t2,t3,t4,t5,t6,t7,t8,t9⟩:=Ch B3
 have o3W:Ac W2 W3:=by rw[hW3];exact o3.alloc _
 obtain⟨d1,d2,d3,d4,d5,d6⟩:Ab W3 n2 0 (.int .i64 1)∧Ab W3 n2 1 (.int .i64 0)∧Ab W3 n2 2 (.int .i64 0)∧Ab W3 n2 3 (.slice pa 0 pc)∧Ab W3 n2 4 (.int .i64 0)∧Ab W3 n2 5 (.int .i64 0):=⟨Ai o3W d1,Ai o3W d2,Ai o3W d3,Ai o3W d4,Ai o3W d5,Ai o3W d6⟩
 have H3:=Aa (And.intro (H2.out.1.only0 o3W) (And.intro (H2.out.2.1.trans (o3W.any _)) H2.out.2.2))
 have CSR:=fun wz=>JJ pa none pc 0 [] 0 0 0 0 wz (.inl rfl) (.inl rfl) (by simp)
 simp only[List.length_nil]at CSR
 clear o3 o3W B3 H2 r1 r2 r3 r4 r5 r6 r7 r8 r9 cE1 cE2
 go_upto_region 11 with(fail)
 rw[←hW3,←hn3]
 clear hW3 hn3
 go_wp2_with fail
 refine(CSR _).mono ?_
 rintro r w5 ⟨rfl,o5⟩
 have H5:=Aa (And.intro (H3.out.1.only0 o5) (And.intro (H3.out.2.1.trans (o5.any _)) H3.out.2.2))
 clear CSR o5 H3
 go_wp2_with fail
 go_ret
 exact⟨rfl,U2',M,H5.out.1,(H1.out.2.2.2.any (Bl U x M)).trans H5.out.2.1,fun b hb=>(H5.out.2.2 b hb).imp (fun y=>y) (fun y=>Nat.le_trans H1.out.2.2.2.size y)⟩
theorem Ix(h:AY B w U x e M X)(hf:As N X.E)(hN:256≤N)(hN2:N≤30000000)(s:Int)(hs:0≤s∧s<8)(hb:(X.E.status s).busy=true){E':En}(hi:X.E.step s=(⟨2,.zero⟩,0,E'))(hlk:0≤X.E.looks∧X.E.looks≤1000000000∧X.E.looks≤E'.looks∧E'.looks≤X.E.looks+1)(hs2:(E'.status s).busy=true∧(E'.status s).waits=true):
 Calls Tryz.prog 16 #[bp x,s] w fun r w'=>r= .returned (.bool true)∧Bd B w U x e M {X with E:=E'} w':=by
 have CS:=AQ h.en s
 have cE:=h.cE
 have HH:=Aa (And.intro h hf)
 rcases hst:X.E.status s with⟨a1,a2,a3,a4,a5,a6,a7,a8,a9⟩
 rw[hst,show Cv.row ⟨a1,a2,a3,a4,a5,a6,a7,a8,a9⟩=#[.bool a1,.bool a2,.bool a3,.int .i64 a4,.int .i64 a5,.int .i64 a6,.int .u64 a7,.int .u64 a8,.int .i64 a9] from rfl]at CS
 have HST:=Aa hst
 have HI:=Aa hi
 clear h hf hst hi
 obtain⟨s0,s1⟩:=hs
 obtain⟨j,hsj⟩:=Int.eq_ofNat_of_zero_le s0
 subst hsj
 have hj:j<8:=by omega
 have j8:(j:Int)<8:=by omega
 have g1:¬((j:Int)<0):=by omega
 have g2':¬((j:Int)>7):=by omega
 have ha:a2=true:=by rw[show X.E.status (j:Int)=_ from HST.out]at hb;exact hb
 have HA:=Aa ha
 clear hb ha
 have HLK:=Aa hlk
 have HS2:=Aa hs2
 clear hlk hs2
 go_enter Tryz.func16,Tryz.ntmps16
 go_wp2_with fail
 refine CS.mono ?_
 rintro r w1 ⟨rfl,o1⟩
 clear CS
 obtain⟨n1,hn1⟩:=Ad w1.heap.size
 obtain⟨W1,hW1⟩:=Ad (w1.alloc (.cells #[.bool a1,.bool a2,.bool a3,a4,a5,a6,.int .u64 a7,.int .u64 a8,a9] 46))
 have B1:Am W1 n1 46 #[.bool a1,.bool a2,.bool a3,a4,a5,a6,.int .u64 a7,.int .u64 a8,a9]:=by rw[hW1,hn1];exact Am.new _ _ _
 have nn1:w.heap.size≤n1:=by rw[hn1];exact o1.size
 have o01:Ac w W1:=by rw[hW1];exact o1.alloc _
 have hC1:=HH.out.1.only0 o01
 have nT1:¬Bl U x M n1:=fun q=>by
  exact Uu
 have CL:=Bf hC1.en
 obtain⟨L0,hL0⟩:=Ad X.E.looks
 rw[←hL0]at CL
 have HL0:=Aa hL0
 have CI:=Eu hC1.en HH.out.2 hN hN2 (j:Int)
 rw[HI.out]at CI
 replace CI:Calls Tryz.prog 36 #[bp e,.int .i64 (j:Int)] W1 (EY B W1 U (IC x M) e ⟨2,⟨0,0,[],0,0⟩⟩ 0 E'):=CI
 have cE1:=hC1.cE
 have H1:=Aa (And.intro hC1 (And.intro B1 (And.intro nT1 o01)))
 clear hC1 B1 nT1 o01 o1 nn1 cE hL0
 go_upto_region 2 with(fail)
 rw[←hW1,←hn1]
 clear hn1 hW1
 go_wp2_with fail
 refine CL.mono ?_
 rintro r w1b ⟨rfl,rfl⟩
 clear CL
 go_wp2_with fail
 refine CI.mono ?_
 rintro r w2 ⟨pa,pc,U2,rfl,en2,ou2,g2,pi2,pf2⟩
 clear CI
 obtain⟨U2',h2,o2,k2⟩:∃U2',AY B w2 U2' x e M {X with E:=E'}∧Ah (Bl U x M) W1 w2∧AC W1.heap.size (Bl U x M) (Bl U2' x M):=Bd.eng H1.out.1 ⟨U2,en2,ou2,g2⟩
 obtain⟨n2,hn2⟩:=Ad w2.heap.size
 obtain⟨W2,hW2⟩:=Ad (w2.alloc (.cells #[.int .i64 2,.int .i64 0,.int .i64 0,.slice pa 0 pc,.int .i64 0,.int .i64 0] 129))
 have B2:Am W2 n2 129 #[.int .i64 2,.int .i64 0,.int .i64 0,.slice pa 0 pc,.int .i64 0,.int .i64 0]:=by rw[hW2,hn2];exact Am.new _ _ _
 have o2W:Ac w2 W2:=by rw[hW2];exact(Ac.refl w2).alloc _
 have hC2:=h2.only0 o2W
 have oV:=o2.trans (o2W.any (Bl U x M))
 have Y1:=oV.blk H1.out.2.1 H1.out.2.2.1
 obtain⟨d1,d2,d3,d4,d5,d6⟩:=GQ B2
 obtain⟨r1,r2,r3,r4,r5,r6,r7,r8,r9⟩:=Ch Y1
 have cE2:=hC2.cE
 have CL2:=Bf hC2.en
 have H2:=Aa (And.intro hC2 (And.intro oV k2))
 clear hC2 oV Y1 B2 o2W h2 o2 k2 en2 ou2 g2 pi2 pf2
 go_upto_region 4 with(fail)
 rw[←hW2,←hn2]
 clear hW2 hn2
 rw[HA.out]at r2
 obtain⟨L1,hL1⟩:=Ad E'.looks
 rw[show({X with E:=E'}:Bh).E.looks=L1 from hL1.symm]at CL2
 obtain⟨l1,l2,l3⟩:(0≤L0∧L0≤1000000000)∧L0≤L1∧L1≤L0+1:=by rw[hL1,HL0.out];exact⟨⟨HLK.out.1,HLK.out.2.1⟩,HLK.out.2.2.1,HLK.out.2.2.2⟩
 have hw1:IntKind.i64.wrap (L0+1)=L0+1:=by rw[IntKind.wrap_i64];omega
 have c1:¬(L1>L0+1):=by omega
 have c2:¬(L1<L0):=by omega
 have CS2:=AQ H2.out.1.en (j:Int)
 rcases hst2:E'.status (j:Int)with⟨b1,b2,b3,b4,b5,b6,b7,b8,b9⟩
 have hb2:b2=true:=by have:=HS2.out.1;rw[hst2]at this;exact this
 have hb3:b3=true:=by have:=HS2.out.2;rw[hst2]at this;exact this
 subst hb2
 subst hb3
 rw[show({X with E:=E'}:Bh).E.status (j:Int)=_ from hst2,show Cv.row ⟨b1,true,true,b4,b5,b6,b7,b8,b9⟩=#[.bool b1,.bool true,.bool true,.int .i64 b4,.int .i64 b5,.int .i64 b6,.int .u64 b7,.int .u64 b8,.int .i64 b9] from rfl]at CS2
 clear hst2 hL1
 go_wp2_with fail
 refine CL2.mono ?_
 rintro r w3 ⟨rfl,rfl⟩
 go_wp2_with fail
 refine CL2.mono ?_
 rintro r w3 ⟨rfl,rfl⟩
 clear CL2
 go_wp2_with fail
 refine CS2.mono ?_
 rintro r w3 ⟨rfl,o3⟩
 clear CS2
 obtain⟨n3,hn3⟩:=Ad w3.heap.size
 obtain⟨W3,hW3⟩:=Ad (w3.alloc (.cells #[.bool b1,.bool true,.bool true,b4,b5,b6,.int .u64 b7,.int .u64 b8,b9] 46))
 have B3:Am W3 n3 46 #[.bool b1,.bool true,.bool true,b4,b5,b6,.int .u64 b7,.int .u64 b8,b9]:=by rw[hW3,hn3];exact Am.new _ _ _
 obtain⟨t1,t2,t3,t4,t5,t6,t7,t8,t9⟩:=Ch B3
 have o3W:Ac W2 W3:=by rw[hW3];exact o3.alloc _
 obtain⟨d1,d2,d3,d4,d5,d6⟩:Ab W3 n2 0 (.int .i64 2)∧Ab W3 n2 1 (.int .i64 0)∧Ab W3 n2 2 (.int .i64 0)∧Ab W3 n2 3 (.slice pa 0 pc)∧Ab W3 n2 4 (.int .i64 0)∧Ab W3 n2 5 (.int .i64 0):=⟨Ai o3W d1,Ai o3W d2,Ai o3W d3,Ai o3W d4,Ai o3W d5,Ai o3W d6⟩
 have H3:=Aa (And.intro (H2.out.1.only0 o3W) (And.intro (H2.out.2.1.trans (o3W.any _)) H2.out.2.2))
 have CSR:=fun wz=>JJ pa none pc 0 [] 0 0 0 0 wz (.inl rfl) (.inl rfl) (by simp)
 simp only[List.length_nil]at CSR
 clear o3 o3W B3 H2 r1 r2 r3 r4 r5 r6 r7 r8 r9 cE1 cE2
 go_upto_region 11 with(fail)
 rw[←hW3,←hn3]
 clear hW3 hn3
 go_wp2_with fail
 refine(CSR _).mono ?_
 rintro r w5 ⟨rfl,o5⟩
 have H5:=Aa (And.intro (H3.out.1.only0 o5) (And.intro (H3.out.2.1.trans (o5.any _)) H3.out.2.2))
 clear CSR o5 H3
 go_wp2_with fail
 go_ret
 exact⟨rfl,U2',M,H5.out.1,(H1.out.2.2.2.any (Bl U x M)).trans H5.out.2.1,fun b hb=>(H5.out.2.2 b hb).imp (fun y=>y) (fun y=>Nat.le_trans H1.out.2.2.2.size y)⟩
end
end
section
section
variable {B N x e:Nat} {w w':World} {U:Nat→Prop} {M:GR} {X:Bh}
theorem AY.tell(h:AY B w U x e M X){i g:Nat}(hi:i<X.ds.length)(hva:M.va=some ⟨g,0,none⟩){c:Cl}{pa:Option Addr}{pc:Nat}(hp:AV w pa c.res.pairs)
 (hpn:c.res.pairs≠[]→∀y,pa=some y→¬M.R y.block∧y.block<w.heap.size∧B≤y.block∧¬U y.block∧y.block≠x∧¬gB M y.block) {gg cap:Nat} {w1:World}
 (hown:w1.ownsRow B 66 9 (.slice (some ⟨gg,0,none⟩) ((Ba X.ds i).ops.length+1) cap) ((Ba X.ds i).ops.length+1) (Ds (Ba X.ds i).ops (M.A.pa i) (M.A.pc i)++Ew c pa pc)) (hg:w.grownBy w1 (M.A.opV X.ds i).ownBlock) (hat:(M.A.opV X.ds i).ownBlock=some gg∨w.heap.size≤gg) (hlt:gg<w1.heap.size):
 ∃M',AY B (w1.setCell ⟨g,i*6+5,none⟩ (.slice (some ⟨gg,0,none⟩) ((Ba X.ds i).ops.length+1) cap)) U x e M' {X with ds:=X.ds.set i ((Ba X.ds i).more c)}∧Ah (Bl U x M) w (w1.setCell ⟨g,i*6+5,none⟩ (.slice (some ⟨gg,0,none⟩) ((Ba X.ds i).ops.length+1) cap))∧AC w.heap.size (Bl U x M) (Bl U x M')∧Ah M.R w (w1.setCell ⟨g,i*6+5,none⟩ (.slice (some ⟨gg,0,none⟩) ((Ba X.ds i).ops.length+1) cap)):=by
 have D:=h.dd
 rw[hva]at D
 obtain⟨A',D',O'⟩:=D.call hi hp (fun hne y hy=>⟨(hpn hne y hy).1,(hpn hne y hy).2.1,(hpn hne y hy).2.2.1⟩) hown hg hat hlt
 have gR:AC w.heap.size M.R (fun b=>M.R b∨b=gg):=fun b hb=>by
  rcases hb with y|y
  ·exact .inl y
  ·rcases hat with z|z
   ·exact .inl (h.dd.oR i hi b (by rw[y];exact z))
   ·exact .inr (by omega)
 refine⟨{M with R:=fun b=>M.R b∨b=gg,S:=fun b=>M.S b∨(c.res.pairs≠[]∧∃y,pa=some y∧y.block=b),va:=some ⟨g,0,none⟩,vc:=M.vc,A:=A'},h.deal (id2:=X.id) (op2:=X.op) D' (O'.mono (fun b _ hb=> .inr hb)) gR (fun b hb=>?_) ?_,O'.mono (fun b _ hb=> .inr (.inr (.inl hb))),fun b hb=>?_,O'⟩
 ·rcases hb with y|⟨hne,y,hy,rfl⟩
  ·exact .inl y
  ·exact .inr (hpn hne y hy).2.2.2
 ·have:=O'.blk h.blk h.xR
  unfold J7 at this ⊢
  simp only[List.length_set]
  rw[hva]at this
  exact this
 ·exact Tb
theorem Mj(l:List Int)(r:Int):FU (l++[r])=FU l++[.int .i64 r]:=by unfold FU;rw[List.map_append];rfl
theorem AY.gone1(h:AY B w U x e M X){r:Int}{gg cap:Nat}{w1:World}(hown:w1.ownsRow B 3 1 (.slice (some ⟨gg,0,none⟩) (X.gone.length+1) cap) (X.gone.length+1) (FU X.gone++[.int .i64 r]))(hg:w.grownBy w1 (Value.slice M.ga X.gone.length M.gc).ownBlock)(hat:(Value.slice M.ga X.gone.length M.gc).ownBlock=some gg∨w.heap.size≤gg)(hlt:gg<w1.heap.size):
 ∃M',AY B (w1.setCell ⟨x,42,none⟩ (.slice (some ⟨gg,0,none⟩) (X.gone.length+1) cap)) U x e M' {X with gone:=X.gone++[r]}∧Ah (Bl U x M) w (w1.setCell ⟨x,42,none⟩ (.slice (some ⟨gg,0,none⟩) (X.gone.length+1) cap))∧AC w.heap.size (Bl U x M) (Bl U x M')∧Ah (fun b=>b=x∨gB M b) w (w1.setCell ⟨x,42,none⟩ (.slice (some ⟨gg,0,none⟩) (X.gone.length+1) cap)):=by
 have hx:x<w.heap.size:=h.under x (.inl rfl)
 have o1:Ah (gB M) w w1:=⟨hg.os,hg.tape,hg.output,hg.size,fun b hb hn=>hg.block b hb (fun q=>hn (FT q.symm))⟩
 have gG:∀b,b=gg→gB M b∨w.heap.size≤b:=fun b hb=>by
  subst hb
  exact hat.imp (fun q=>FT q) (fun q=>q)
 have xg:x≠gg:=fun q=>by
  rcases gG x q with y|y
  ·exact h.xG y
  ·omega
 have o2:Ah (fun b=>b=x) w1 (w1.setCell ⟨x,42,none⟩ (.slice (some ⟨gg,0,none⟩) (X.gone.length+1) cap)):=Ah.setCell (S:=fun b=>b=x) (Ah.refl _ w1) (fun _=>rfl) _
 have B2:=(o1.blk h.blk h.xG).set 42 (.slice (some ⟨gg,0,none⟩) (X.gone.length+1) cap)
 have O:Ah (fun b=>b=x∨gB M b) w (w1.setCell ⟨x,42,none⟩ (.slice (some ⟨gg,0,none⟩) (X.gone.length+1) cap)):=(o1.mono (fun b _ hb=> .inr hb)).trans (o2.mono (fun b _ hb=> .inl hb))
 have hrow:=AD (S:=fun b=>b=x) hown o2 (fun b hb q=>xg (q.symm.trans (AE.1 hb)))
 have eG:∀b,gB {M with ga:=some ⟨gg,0,none⟩,gc:=cap} b→b=gg:=fun b ⟨a,q,e⟩=>by cases q;exact e.symm
 have uT:=h.under
 refine⟨{M with ga:=some ⟨gg,0,none⟩,gc:=cap},⟨h.en.turn (O.mono (fun b _ hb=>hb.elim .inl (fun y=> .inr (.inr y)))) (fun b hb=>?_) (fun b hb=>?_),?_,h.dd.only O (fun b hb q=>q.elim (fun y=>h.xR (y▸hb)) (fun y=>h.gR b y hb)) (fun b hb q=>q.elim (fun y=>h.xS (y▸hb)) (fun y=>h.gS b y hb)),?_,h.xR,h.xS,fun q=>xg (eG x q),fun b hb hr=>?_,fun b hb hs=>?_,h.uS⟩,O.mono (fun b _ hb=> .inr (hb.elim .inl (fun y=> .inr (.inr y)))),fun b hb=>?_,O⟩
 ·rcases hb with y|y|y
  ·exact .inl (.inl y)
  ·exact .inl (.inr (.inl y))
  ·exact(gG b (eG b y)).imp (fun z=> .inr (.inr z)) (fun z=>z)
 ·rcases hb with y|y|y
  ·exact Nat.lt_of_lt_of_le (uT b (.inl y)) O.size
  ·exact Nat.lt_of_lt_of_le (uT b (.inr (.inl y))) O.size
  ·rw[eG b y];exact Nat.lt_of_lt_of_le hlt o2.size
 ·have:J7 e {M with ga:=some ⟨gg,0,none⟩,gc:=cap} {X with gone:=X.gone++[r]}=(J7 e M X).setIfInBounds 42 (.slice (some ⟨gg,0,none⟩) (X.gone.length+1) cap):=by
   unfold J7
   rw[List.length_append,List.length_singleton]
   rfl
  rw[this];exact B2
 ·show World.ownsRow _ B _ 1 (.slice (some ⟨gg,0,none⟩) (X.gone++[r]).length cap) (X.gone++[r]).length (FU (X.gone++[r]))
  rw[Mj,List.length_append,List.length_singleton]
  exact hrow
 ·rcases gG b (eG b hb)with y|y
  ·exact h.gR b y hr
  ·have:=uT b (.inr (.inl hr));omega
 ·rcases gG b (eG b hb)with y|y
  ·exact h.gS b y hs
  ·have:=h.dd.uS b hs;omega
 ·rcases hb with y|y|y|y
  ·exact .inl (.inl y)
  ·exact .inl (.inr (.inl y))
  ·exact .inl (.inr (.inr (.inl y)))
  ·exact(gG b (eG b y)).imp (fun z=> .inr (.inr (.inr z))) (fun z=>z)
end
end
section
attribute [local go_sem ↓] Go.wp_at_zero Go.wp_at_succ
theorem IT(w:World):(binOp .eql 46 (.agg #[.bool false,.bool false,.bool false,.int .i64 0,.int .i64 0,.int .i64 0,.int .u64 0,.int .u64 0,.int .i64 0]) (.agg #[.bool false,.bool false,.bool false,.int .i64 0,.int .i64 0,.int .i64 0,.int .u64 0,.int .u64 0,.int .i64 0])).run Tryz.prog w= .ok (.bool true) w:=by kernel_rfl
section
variable {B N x e:Nat} {w w':World} {U:Nat→Prop} {M:GR} {X:Bh}
theorem AY.turnD(h:AY B w U x e M X){i g f:Nat}{v:Value}(hi:i<X.ds.length)(hva:M.va=some ⟨g,0,none⟩)(hf:f<6){d':Dl}(hops:d'.ops=(Ba X.ds i).ops)(hc:∀a c,By d' a c=(By (Ba X.ds i) a c).set f v):
 AY B (w.setCell ⟨g,i*6+f,none⟩ v) U x e M {X with ds:=X.ds.set i d'}∧Ah M.R w (w.setCell ⟨g,i*6+f,none⟩ v):=by
 have D:=h.dd
 rw[hva]at D
 have T1:=D.turn (f:=f) (v:=v) hi hf (d':=d') hops hc
 refine⟨?_,T1.2⟩
 have:=h.deal (id2:=X.id) (op2:=X.op) T1.1 (T1.2.mono (fun b _ hb=> .inr hb)) (AC.refl _ _) (fun b hb=> .inl hb) (by
  have:=T1.2.blk h.blk h.xR
  unfold J7 at this ⊢
  simp only[List.length_set]
  rw[hva]at this
  exact this)
 have eM:({M with R:=M.R,S:=M.S,va:=some ⟨g,0,none⟩,vc:=M.vc,A:=M.A}:GR)=M:=by
  cases M;cases hva;rfl
 rw[eM]at this
 exact this
theorem Jk(h:AY B w U x e M X)(hf:As N X.E)(hN:256≤N)(hN2:N≤30000000)(s:Int)(hs:0≤s∧s<8)(hb:(X.E.status s).busy=true){E':En}{re rv rn:Int}{rp:List (Int×Int)}(hi:X.E.step s=(⟨3,⟨re,rv,rp,0,rn⟩⟩,0,E'))(hlk:0≤X.E.looks∧X.E.looks≤1000000000∧X.E.looks≤E'.looks∧E'.looks≤X.E.looks+1)(hs2:(E'.status s).live=true∧(E'.status s).busy=false)(hid:1≤X.id s.toNat∧X.id s.toNat≤X.ds.length)(hdl:X.ds.length≤1000000)(hol:∀k,(Ba X.ds k).ops.length≤30000000):
 Calls Tryz.prog 16 #[bp x,s] w fun r w'=>r= .returned (.bool true)∧Bd B w U x e M (X.told E' s.toNat ⟨re,rv,rp,0,rn⟩) w':=by
 have CS:=AQ h.en s
 have cE:=h.cE
 have HH:=Aa (And.intro h hf)
 rcases hst:X.E.status s with⟨a1,a2,a3,a4,a5,a6,a7,a8,a9⟩
 rw[hst,show Cv.row ⟨a1,a2,a3,a4,a5,a6,a7,a8,a9⟩=#[.bool a1,.bool a2,.bool a3,.int .i64 a4,.int .i64 a5,.int .i64 a6,.int .u64 a7,.int .u64 a8,.int .i64 a9] from rfl]at CS
 have HST:=Aa hst
 have HI:=Aa hi
 clear h hf hst hi
 obtain⟨s0,s1⟩:=hs
 obtain⟨j,hsj⟩:=Int.eq_ofNat_of_zero_le s0
 subst hsj
 have hj:j<8:=by omega
 have j8:(j:Int)<8:=by omega
 have g1:¬((j:Int)<0):=by omega
 have g2':¬((j:Int)>7):=by omega
 have ha:a2=true:=by rw[show X.E.status (j:Int)=_ from HST.out]at hb;exact hb
 have HA:=Aa ha
 clear hb ha
 have HLK:=Aa hlk
 have HS2:=Aa hs2
 obtain⟨kn,hkn,hklt⟩:∃kn:Nat,X.id j=(kn:Int)+1∧kn<X.ds.length:=⟨(X.id j-1).toNat,by have:=hid.1;simp only[Int.toNat_natCast]at this;omega,by have h1:=hid.1;have h2:=hid.2;simp only[Int.toNat_natCast]at h1 h2;omega⟩
 have hat9:X.at_ j=kn:=by unfold Bh.at_;rw[hkn];omega
 obtain⟨dn,hdn⟩:=Ad X.ds.length
 have hkd:kn<dn:=by rw[hdn];exact hklt
 have hdl9:dn≤1000000:=by rw[hdn];exact hdl
 have HK:=Aa (And.intro hkn (And.intro hat9 hdn))
 clear hlk hs2 hid hkn hat9 hdn hdl hklt
 have HOL:=Aa hol
 clear hol
 go_enter Tryz.func16,Tryz.ntmps16
 go_wp2_with fail
 refine CS.mono ?_
 rintro r w1 ⟨rfl,o1⟩
 clear CS
 obtain⟨n1,hn1⟩:=Ad w1.heap.size
 obtain⟨W1,hW1⟩:=Ad (w1.alloc (.cells #[.bool a1,.bool a2,.bool a3,a4,a5,a6,.int .u64 a7,.int .u64 a8,a9] 46))
 have B1:Am W1 n1 46 #[.bool a1,.bool a2,.bool a3,a4,a5,a6,.int .u64 a7,.int .u64 a8,a9]:=by rw[hW1,hn1];exact Am.new _ _ _
 have nn1:w.heap.size≤n1:=by rw[hn1];exact o1.size
 have o01:Ac w W1:=by rw[hW1];exact o1.alloc _
 have hC1:=HH.out.1.only0 o01
 have nT1:¬Bl U x M n1:=fun q=>by
  exact Uu
 have CL:=Bf hC1.en
 obtain⟨L0,hL0⟩:=Ad X.E.looks
 rw[←hL0]at CL
 have HL0:=Aa hL0
 have CI:=Eu hC1.en HH.out.2 hN hN2 (j:Int)
 rw[HI.out]at CI
 replace CI:Calls Tryz.prog 36 #[bp e,.int .i64 (j:Int)] W1 (EY B W1 U (IC x M) e ⟨3,⟨re,rv,rp,0,rn⟩⟩ 0 E'):=CI
 have cE1:=hC1.cE
 have H1:=Aa (And.intro hC1 (And.intro B1 (And.intro nT1 o01)))
 clear hC1 B1 nT1 o01 o1 nn1 cE hL0
 go_upto_region 2 with(fail)
 rw[←hW1,←hn1]
 clear hn1 hW1
 go_wp2_with fail
 refine CL.mono ?_
 rintro r w1b ⟨rfl,rfl⟩
 clear CL
 go_wp2_with fail
 refine CI.mono ?_
 rintro r w2 ⟨pa,pc,U2,rfl,en2,ou2,g2,pi2,pf2⟩
 clear CI
 have h2:AY B w2 U2 x e M {X with E:=E'}:=H1.out.1.eng en2 ou2 g2
 have o2:Ah (Bl U x M) W1 w2:=ou2.mono (fun b _ hb=> .inl hb)
 have k2:AC W1.heap.size (Bl U x M) (Bl U2 x M):=fun b hb=>hb.elim (fun y=>(g2 b y).imp .inl (fun z=>z)) (fun y=> .inl (.inr y))
 have HPI:Hid (AV w2 pa rp∧∀y,pa=some y→W1.heap.size≤y.block∧y.block<w2.heap.size∧¬U2 y.block):=Aa ⟨pi2,pf2⟩
 obtain⟨n2,hn2⟩:=Ad w2.heap.size
 obtain⟨W2,hW2⟩:=Ad (w2.alloc (.cells #[.int .i64 3,re,rv,.slice pa rp.length pc,.int .i64 0,rn] 129))
 have B2:Am W2 n2 129 #[.int .i64 3,re,rv,.slice pa rp.length pc,.int .i64 0,rn]:=by rw[hW2,hn2];exact Am.new _ _ _
 have o2W:Ac w2 W2:=by rw[hW2];exact(Ac.refl w2).alloc _
 have hC2:=h2.only0 o2W
 have oV:=o2.trans (o2W.any (Bl U x M))
 have Y1:=oV.blk H1.out.2.1 H1.out.2.2.1
 obtain⟨d1,d2,d3,d4,d5,d6⟩:=GQ B2
 obtain⟨r1,r2,r3,r4,r5,r6,r7,r8,r9⟩:=Ch Y1
 have cE2:=hC2.cE
 have CL2:=Bf hC2.en
 have H2:=Aa (And.intro hC2 (And.intro oV k2))
 have H2B:=Aa (And.intro B2 (And.intro Y1 (show w.heap.size≤W2.heap.size from Nat.le_trans H1.out.2.2.2.size oV.size)))
 have H2B2:=Aa o2W
 have HNN2:Hid (w.heap.size≤n2):=Aa (by rw[hn2];exact Nat.le_trans H1.out.2.2.2.size o2.size)
 clear hC2 oV Y1 B2 o2W h2 o2 k2 en2 ou2 g2 pi2 pf2
 go_upto_region 4 with(fail)
 rw[←hW2,←hn2]
 clear hW2 hn2
 rw[HA.out]at r2
 obtain⟨L1,hL1⟩:=Ad E'.looks
 rw[show({X with E:=E'}:Bh).E.looks=L1 from hL1.symm]at CL2
 obtain⟨l1,l2,l3⟩:(0≤L0∧L0≤1000000000)∧L0≤L1∧L1≤L0+1:=by rw[hL1,HL0.out];exact⟨⟨HLK.out.1,HLK.out.2.1⟩,HLK.out.2.2.1,HLK.out.2.2.2⟩
 have hw1:IntKind.i64.wrap (L0+1)=L0+1:=by rw[IntKind.wrap_i64];omega
 have c1:¬(L1>L0+1):=by omega
 have c2:¬(L1<L0):=by omega
 have CS2:=AQ H2.out.1.en (j:Int)
 rcases hst2:E'.status (j:Int)with⟨b1,b2,b3,b4,b5,b6,b7,b8,b9⟩
 have hb1:b1=true:=by have:=HS2.out.1;rw[hst2]at this;exact this
 have hb2:b2=false:=by have:=HS2.out.2;rw[hst2]at this;exact this
 subst hb1
 subst hb2
 rw[show({X with E:=E'}:Bh).E.status (j:Int)=_ from hst2,show Cv.row ⟨true,false,b3,b4,b5,b6,b7,b8,b9⟩=#[.bool true,.bool false,.bool b3,.int .i64 b4,.int .i64 b5,.int .i64 b6,.int .u64 b7,.int .u64 b8,.int .i64 b9] from rfl]at CS2
 clear hst2 hL1
 go_wp2_with fail
 refine CL2.mono ?_
 rintro r w3 ⟨rfl,rfl⟩
 go_wp2_with fail
 refine CL2.mono ?_
 rintro r w3 ⟨rfl,rfl⟩
 clear CL2
 go_wp2_with fail
 refine CS2.mono ?_
 rintro r w3 ⟨rfl,o3⟩
 clear CS2
 obtain⟨n3,hn3⟩:=Ad w3.heap.size
 obtain⟨W3,hW3⟩:=Ad (w3.alloc (.cells #[.bool true,.bool false,.bool b3,b4,b5,b6,.int .u64 b7,.int .u64 b8,b9] 46))
 have B3:Am W3 n3 46 #[.bool true,.bool false,.bool b3,b4,b5,b6,.int .u64 b7,.int .u64 b8,b9]:=by rw[hW3,hn3];exact Am.new _ _ _
 have o3W:Ac W2 W3:=by rw[hW3];exact o3.alloc _
 have hC3:=H2.out.1.only0 o3W
 have B2:Am W3 n2 129 #[.int .i64 3,re,rv,.slice pa rp.length pc,.int .i64 0,rn]:=o3W.blk H2B.out.1 (fun f=>f)
 have YB:Am W3 n1 46 #[.bool a1,.bool a2,.bool a3,a4,a5,a6,.int .u64 a7,.int .u64 a8,a9]:=o3W.blk H2B.out.2.1 (fun f=>f)
 have n3s:w.heap.size≤n3:=by rw[hn3];exact Nat.le_trans H2B.out.2.2 o3.size
 have HPJ:Hid (AV W3 pa rp∧∀y,pa=some y→W1.heap.size≤y.block∧y.block<W3.heap.size∧¬U2 y.block):=Aa (by
  have o9:=H2B2.out.trans o3W
  exact⟨HPI.out.1.only (S:=fun _=>False) o9 (fun _ _ hf=>hf),fun y hy=>⟨(HPI.out.2 y hy).1,Nat.lt_of_lt_of_le (HPI.out.2 y hy).2.1 o9.size,(HPI.out.2 y hy).2.2⟩⟩)
 obtain⟨d1,d2,d3,d4,d5,d6⟩:=GQ B2
 obtain⟨t1,t2,t3,t4,t5,t6,t7,t8,t9⟩:=Ch B3
 have cI3:=hC3.cI j hj
 rw[show({X with E:=E'}:Bh).id j=(kn:Int)+1 from HK.out.1]at cI3
 have cD3:=hC3.cD
 rw[show({X with E:=E'}:Bh).ds.length=dn from HK.out.2.2.symm]at cD3
 have HM:=hC3.dd.at_ (show 0<({X with E:=E'}:Bh).ds.length by have:=HK.out.2.2;show 0<X.ds.length;omega)
 obtain⟨g,hva,hgR,hglt,hgf,hgc⟩:=HM
 rw[hva]at cD3
 have hw2:IntKind.i64.wrap ((kn:Int)+1-1)=(kn:Int):=by rw[IntKind.wrap_i64];omega
 have c3:¬((kn:Int)<0):=by omega
 have c4:¬((kn:Int)≥(dn:Int)):=by omega
 have c5:¬(dn≤kn):=by omega
 have H3:=Aa (And.intro hC3 (And.intro (H2.out.2.1.trans (o3W.any _)) H2.out.2.2))
 have HG:=Aa (And.intro hva (And.intro hgR (And.intro hglt (And.intro hgf hgc))))
 have HB3:=Aa (And.intro B3 (And.intro B2 (And.intro YB n3s)))
 clear o3 o3W B3 B2 YB H2 H2B H2B2 HPI r1 r2 r3 r4 r5 r6 r7 r8 r9 cE1 cE2 hC3 hva hgR hglt hgf hgc n3s
 go_upto_region 11 with(fail)
 rw[←hW3,←hn3]
 clear hW3 hn3
 obtain⟨j0,hj0,hy0,hy1,hy2⟩:=info_parts IR
 have HN3:Hid (¬M.R n3):=Aa (fun hR=>by have:=HH.out.1.under n3 (.inr (.inl hR));have:=HB3.out.2.2.2;omega)
 have HN2:Hid (¬M.R n2):=Aa (fun hR=>by have:=HH.out.1.under n2 (.inr (.inl hR));have:=HNN2.out;omega)
 have GW:AC w.heap.size (Bl U x M) (Bl U2 x M):=fun b hb=>(H3.out.2.2 b hb).imp (fun y=>y) (fun y=>Nat.le_trans H1.out.2.2.2.size y)
 have HSZ:Hid (w.heap.size≤W3.heap.size):=Aa (Nat.le_trans H1.out.2.2.2.size H3.out.2.1.size)
 rcases hop:X.op j with⟨ok,oy,oh,ov⟩
 obtain⟨on,hon⟩:=Ad ((Ba X.ds kn).ops.length)
 obtain⟨oa,hoa⟩:=Ad (M.A.oa kn)
 obtain⟨oc,hoc⟩:=Ad (M.A.oc kn)
 have hov:M.A.opV X.ds kn= .slice oa on oc:=by unfold GN.opV;rw[hon,hoa,hoc]
 have hon1:on≤30000000:=by rw[hon];exact HOL.out kn
 have hkl:kn<X.ds.length:=by rw[←HK.out.2.2];exact hkd
 have sgc:=Ae W3 g (kn*6+5) (.slice oa on oc) (by rw[hon,hoa,hoc];exact HG.out.2.2.2.2 kn hkl 5 _ rfl)
 obtain⟨so0,so1,so2,so3⟩:=H3.out.1.cO j hj
 rw[show({X with E:=E'}:Bh).op j=_ from hop]at so0 so1 so2 so3
 dsimp only at so0 so1 so2 so3
 have sxd:=cD3
 have sr0:=d2
 have sr1:=d3
 have sr2:=d4
 have sr3:=d5
 have sr4:=d6
 obtain⟨W6,hW6⟩:=Ad ((W3.alloc (.cells #[ok,oy,oh,ov,re,rv,.slice pa rp.length pc,.int .i64 0,rn] 66)).drew)
 have oo6:Ac W3 W6:=by rw[hW6];exact((Ac.refl _).alloc _).drew
 have L6:=H3.out.1.only0 oo6
 have R6:W6.ownsRow B 66 9 (.slice oa on oc) on (Ds (Ba X.ds kn).ops (M.A.pa kn) (M.A.pc kn)):=by have:=L6.dd.ops kn hkl;rw[show M.A.opV ({X with E:=E'}:Bh).ds kn=_ from hov,show(Ba ({X with E:=E'}:Bh).ds kn).ops.length=on from hon.symm]at this;exact this
 have z6:W6.heap.size=W3.heap.size+1:=by rw[hW6];simp
 have hB6:B≤W6.heap.size:=L6.en.base
 have hg6:g<W6.heap.size:=L6.dd.uR g HG.out.2.1
 have hx6:x<W6.heap.size:=L6.blk.lt
 have hn6:n2<W6.heap.size:=(oo6.blk HB3.out.2.1 (fun f=>f)).lt
 have nrow:¬(Value.slice oa on oc).ownBlock=some g:=fun q=>(Dg L6.dd.row (L6.dd.ops kn hkl) (by decide)) g (by show AA (.slice M.va X.ds.length M.vc) g;rw[HG.out.1];exact AE.2 rfl) (by rw[show M.A.opV ({X with E:=E'}:Bh).ds kn=_ from hov];exact q)
 have nrx:¬(Value.slice oa on oc).ownBlock=some x:=fun q=>L6.xR (L6.dd.oR kn hkl x (by rw[show M.A.opV ({X with E:=E'}:Bh).ds kn=_ from hov];exact q))
 have n2R:¬M.R n2:=HN2.out
 have nr2:¬(Value.slice oa on oc).ownBlock=some n2:=fun q=>n2R (L6.dd.oR kn hkl n2 (by rw[show M.A.opV ({X with E:=E'}:Bh).ds kn=_ from hov];exact q))
 have fz5:W6.frozen? ⟨g,kn*6+5,none⟩=false:=by
  obtain⟨g',e1,_,_,e2,_⟩:=L6.dd.at_ (show 0<({X with E:=E'}:Bh).ds.length by show 0<X.ds.length;omega)
  rw[HG.out.1]at e1
  exact SW
 have uxd:=Ai oo6 sxd
 have ugc:=Ai oo6 sgc
 have uo0:=Ai oo6 so0
 have uo1:=Ai oo6 so1
 have uo2:=Ai oo6 so2
 have uo3:=Ai oo6 so3
 have ur0:=Ai oo6 sr0
 have ur1:=Ai oo6 sr1
 have ur2:=Ai oo6 sr2
 have ur3:=Ai oo6 sr3
 have ur4:=Ai oo6 sr4
 have APP:Hid (∀(gg cap:Nat) (w1:World),w1.ownsRow B 66 9 (.slice (some ⟨gg,0,none⟩) (on+1) cap) (on+1) (Ds (Ba X.ds kn).ops (M.A.pa kn) (M.A.pc kn)++[.int .i64 ok,.int .i64 oy,.int .i64 oh,.int .i64 ov,.int .i64 re,.int .i64 rv,.slice pa rp.length pc,.int .i64 0,.int .i64 rn])→W6.grownBy w1 (Value.slice oa on oc).ownBlock→((Value.slice oa on oc).ownBlock=some gg∨gg=W3.heap.size+1)→gg<w1.heap.size→
  Bd B w U x e M (X.told E' (j:Int).toNat ⟨re,rv,rp,0,rn⟩) (w1.setCell ⟨g,kn*6+5,none⟩ (.slice (some ⟨gg,0,none⟩) (on+1) cap))∧Ab (w1.setCell ⟨g,kn*6+5,none⟩ (.slice (some ⟨gg,0,none⟩) (on+1) cap)) n3 0 (.bool true)∧Ab (w1.setCell ⟨g,kn*6+5,none⟩ (.slice (some ⟨gg,0,none⟩) (on+1) cap)) n3 1 (.bool false)):=Aa (by
  intro gg cap w1 h1 h2 h3 h4
  subst hon
  have hat:(M.A.opV X.ds kn).ownBlock=some gg∨W6.heap.size≤gg:=by rw[hov];exact h3.imp (fun h=>h) (fun h=>by omega)
  have hp6:AV W6 pa rp:=HPJ.out.1.only (S:=fun _=>False) oo6 (fun _ _ hf=>hf)
  obtain⟨M',D',O',G',OR⟩:=L6.tell (i:=kn) (c:=⟨⟨ok,oy,oh,ov⟩,⟨re,rv,rp,0,rn⟩⟩) (pa:=pa) (pc:=pc) hkl HG.out.1 hp6 (fun hne y hy=>by
   have q:=HPJ.out.2 y hy
   have hT:=HH.out.1.under
   have w1s:=H1.out.2.2.2.size
   refine⟨fun hR=>?_,Nat.lt_of_lt_of_le q.2.1 (by omega),?_,q.2.2,fun hx=>?_,fun hG=>?_⟩
   ·have:=hT y.block (.inr (.inl hR));omega
   ·have:=HH.out.1.en.base;omega
   ·have:=hT x (.inl rfl);omega
   ·have:=hT y.block (.inr (.inr hG));omega) h1 (by rw[show M.A.opV ({X with E:=E'}:Bh).ds kn=_ from hov];exact h2) hat h4
  refine⟨⟨U2,M',?_,?_,?_⟩,?_,?_⟩
  ·have e9:X.told E' (j:Int).toNat ⟨re,rv,rp,0,rn⟩={{X with E:=E'}with ds:=X.ds.set kn ((Ba X.ds kn).more ⟨⟨ok,oy,oh,ov⟩,⟨re,rv,rp,0,rn⟩⟩)}:=by
    unfold Bh.told;rw[Int.toNat_natCast,HK.out.2.1,hop]
   rw[e9];exact D'
  ·exact((H1.out.2.2.2.any (Bl U x M)).trans H3.out.2.1).grewTrans GW (((oo6.any _)).trans O')
  ·exact GW.trans (fun b hb=>(G' b hb).imp (fun z=>z) (fun z=>Nat.le_trans oo6.size z)) HSZ.out
  ·exact AH OR (Ai oo6 t1) HN3.out
  ·exact AH OR (Ai oo6 t2) HN3.out)
 rw[hW6]at R6 z6 hB6 hg6 hx6 hn6 fz5 APP uxd ugc uo0 uo1 uo2 uo3 ur0 ur1 ur2 ur3 ur4
 clear L6 hW6 oo6 hov hon hoa hoc n2R hop
 go_upto_region 18 with(fail)
 refine Ao (S:=(fun w'=>Ab w' x 1 (.slice (some ⟨g,0,none⟩) dn M.vc)∧Ab w' g (kn*6+5) (.slice oa on oc)∧Ab w' x (10+j*4) (.int .i64 ok)∧Ab w' x (10+j*4+1) (.int .i64 oy)∧Ab w' x (10+j*4+2) (.int .i64 oh)∧Ab w' x (10+j*4+3) (.int .i64 ov)∧Ab w' n2 1 (.int .i64 re)∧Ab w' n2 2 (.int .i64 rv)∧Ab w' n2 3 (.slice pa rp.length pc)∧Ab w' n2 4 (.int .i64 0)∧Ab w' n2 5 (.int .i64 rn))) 26 (by kernel_rfl) ?_ (fun hHeld=>?_)
 ·first|exact⟨sxd,sgc,so0,so1,so2,so3,sr0,sr1,sr2,sr3,sr4⟩|exact⟨uxd,ugc,uo0,uo1,uo2,uo3,ur0,ur1,ur2,ur3,ur4⟩|exact⟨zxd,zgc,zo0,zo1,zo2,zo3,zr0,zr1,zr2,zr3,zr4⟩
 refine Av 0 [26] (h:=Av 1 [26] (h:=Av 2 [26] (h:=Av 3 [26] (h:=Av 4 [26] (h:=Av 5 [26] (h:=Av 6 [26] (h:=Av 7 [26] (h:=Av 8 [26] (h:=Av 9 [26] (h:=Av 10 [26] (h:=Av 11 [26] (h:=?_))))))))))))
 refine Av 12 [26] (h:=Av 13 [26] (h:=Av 14 [26] (h:=Av 15 [26] (h:=Av 16 [26] (h:=Av 17 [26] (h:=Av 18 [26] (h:=Av 19 [26] (h:=Av 20 [26] (h:=Av 21 [26] (h:=Bx (i:=22) (h:=fun K hK=>?_)))))))))))
 go_simp
 skip
 try go_wp2_with fail
 refine D_ hK (by first|exact⟨sxd,sgc,so0,so1,so2,so3,sr0,sr1,sr2,sr3,sr4⟩|exact⟨uxd,ugc,uo0,uo1,uo2,uo3,ur0,ur1,ur2,ur3,ur4⟩|exact⟨zxd,zgc,zo0,zo1,zo2,zo3,zr0,zr1,zr2,zr3,zr4⟩) (h:=fun hHeld=>?_);clear hK K
 refine Bx (i:=23) (h:=fun K hK=>?_)
 try simp only[List.getElem_toArray,List.getElem_cons_zero,List.getElem_cons_succ]
 (rw[if_pos (by simp[Region.wanted])];refine wp_append_lies _ _ _ _ (by rfl) B 66 j0 _ 9 88 Tryz.underlying55 hj0 hy0 hy1 hy2 rfl (by omega) (.slice oa on oc) on (Ds (Ba X.ds kn).ops (M.A.pa kn) (M.A.pc kn)) (by rfl) R6 ⟨W3.heap.size,0,none⟩ 1 1 [.int .i64 ok,.int .i64 oy,.int .i64 oh,.int .i64 ov,.int .i64 re,.int .i64 rv,.slice pa rp.length pc,.int .i64 0,.int .i64 rn] (by rfl) (by rfl) (World.news_of_block (cs:=#[.int .i64 ok,.int .i64 oy,.int .i64 oh,.int .i64 ov,.int .i64 re,.int .i64 rv,.slice pa rp.length pc,.int .i64 0,.int .i64 rn]) (t:=66) (fr:=(0,0)) (heap_alloc_new W3 _)) (by simp[Value.oneCell']) (by omega) (by unfold maxLen;omega) (by omega) (by simp;omega) (W3.heap.size+1) (by simp) ?_;intro gg cap w1 hown2 hgrow hat hlt2;have zxd:=(hgrow.cell_far ⟨x,1,none⟩ hx6 (fun q=>nrx q.symm)).trans uxd;have zgc:=(hgrow.cell_far ⟨g,kn*6+5,none⟩ hg6 (fun q=>nrow q.symm)).trans ugc;have zo0:=(hgrow.cell_far ⟨x,10+j*4,none⟩ hx6 (fun q=>nrx q.symm)).trans uo0;have zo1:=(hgrow.cell_far ⟨x,10+j*4+1,none⟩ hx6 (fun q=>nrx q.symm)).trans uo1;have zo2:=(hgrow.cell_far ⟨x,10+j*4+2,none⟩ hx6 (fun q=>nrx q.symm)).trans uo2;have zo3:=(hgrow.cell_far ⟨x,10+j*4+3,none⟩ hx6 (fun q=>nrx q.symm)).trans uo3;have zr0:=(hgrow.cell_far ⟨n2,1,none⟩ hn6 (fun q=>nr2 q.symm)).trans ur0;have zr1:=(hgrow.cell_far ⟨n2,2,none⟩ hn6 (fun q=>nr2 q.symm)).trans ur1;have zr2:=(hgrow.cell_far ⟨n2,3,none⟩ hn6 (fun q=>nr2 q.symm)).trans ur2;have zr3:=(hgrow.cell_far ⟨n2,4,none⟩ hn6 (fun q=>nr2 q.symm)).trans ur3;have zr4:=(hgrow.cell_far ⟨n2,5,none⟩ hn6 (fun q=>nr2 q.symm)).trans ur4;have fz1:=(hgrow.frozen_far ⟨g,kn*6+5,none⟩ hg6 (fun q=>nrow q.symm)).trans fz5)
 refine D_ hK (by first|exact⟨sxd,sgc,so0,so1,so2,so3,sr0,sr1,sr2,sr3,sr4⟩|exact⟨uxd,ugc,uo0,uo1,uo2,uo3,ur0,ur1,ur2,ur3,ur4⟩|exact⟨zxd,zgc,zo0,zo1,zo2,zo3,zr0,zr1,zr2,zr3,zr4⟩) (h:=fun hHeld=>?_);clear hK K
 refine Av 24 [25,26] (h:=Av 25 [26] (h:=?_))
 refine AI (by kernel_rfl) rfl (by kernel_rfl) (fun K hK=>?_)
 try simp only[List.getElem_toArray,List.getElem_cons_zero,List.getElem_cons_succ]
 go_simp
 skip
 try go_wp2_with fail
 refine hK.out _ _ ?_
 clear hK K
 try simp only[Act.put,List.getElem_toArray,List.getElem_cons_zero,List.getElem_cons_succ,List.setIfInBounds_toArray,List.set_cons_zero,List.set_cons_succ]
 obtain⟨HT9,q1,q2⟩:=APP.out gg cap w1 hown2 hgrow hat hlt2
 have HL9:=Aa HT9
 clear HT9 APP hown2 hgrow hat hlt2 R6 z6 hB6 hg6 hx6 hn6 fz5 fz1 nrow nrx nr2 sxd sgc so0 so1 so2 so3 sr0 sr1 sr2 sr3 sr4 uxd ugc uo0 uo1 uo2 uo3 ur0 ur1 ur2 ur3 ur4 zxd zgc zo0 zo1 zo2 zo3 zr0 zr1 zr2 zr3 zr4
 go_wp2_with fail
 go_ret
 exact⟨rfl,HL9.out⟩
end
end
end Go.Proofs.YtoakelhnhkilcaaGreat

/-
  TopOne:what its proof rests on,part 9.
-/
import Derived.Deep.Cut
import Derived.Defers
import Derived.Recover
import Derived.Lib.AppendZeros
import Derived.Deep.RegionHeld3
import Derived.Laws.EntriesVeiled
import Derived.Lib.SliceRun
import Derived.Test.YtoakelhnhkilcaaGreatZTopOne1
import Derived.Test.YtoakelhnhkilcaaGreatZTopOne7
import Derived.Test.YtoakelhnhkilcaaGreatZTopOne8
set_option linter.unusedVariables false
set_option linter.unusedSimpArgs false
set_option maxRecDepth 100000
set_option maxHeartbeats 64000000
namespace Go.Proofs.YtoakelhnhkilcaaGreat
open Go.RowKit
section
section
variable {B N:Nat} {w w':World} {P:Nat→Prop} {F:Nat→Nat→Prop} {D:DB} {E:En}
theorem SR{P:Prop}(h:P:=by
 clear hgc hkk hkl hdn NEXT HB hgR hgl
 go_upto_region 8 with(fail)
 rw[←hW,←hm]
 clear hW hm x0 x1 x2 x3 x4 x5 x6 x7 x8 x9 x10 x11
 go_wp2_with fail
 go_roundw
 case rel=>exact⟨q+1,dn,_,_,_,vc,rfl,rfl,rfl,by go_num,by omega,by omega,HF⟩
 case measure=>simp[intOf];omega):P:=h
theorem SK{P:Prop}(h:P:=by
 go_wp2_with fail
 refine leaves_cons (f:=54) (args:=#[bp b0,bp b1]) (by simp) (by simp[go_sem]) ?_
 refine(KL h9 c9 d9 .returning).mono ?_
 rintro e5 u5 w5 ⟨rfl,rfl,hr5⟩
 refine⟨_,results_tmp rfl _ _ _,?_⟩
 exact⟨(HK.out _ hr5).1,(HK.out _ hr5).2⟩):P:=h
theorem Tv{P:Prop}(h:P:=by
 injection e with e1 e2 e3
 exact⟨.inl (List.eq_nil_of_length_eq_zero h0),by omega,by omega⟩):P:=h
theorem Uk{P:Prop}(h:P:=by
 rw[List.take_add_one,hev,List.getD_eq_getElem?_getD,List.getElem?_eq_getElem hqt];rfl):P:=h
theorem TK{P:Prop}(h:P:=by
 go_enter Tryz.func44,Tryz.ntmps44
 go_wp2_with fail
 go_ret
 exact⟨rfl,rfl⟩):P:=h
theorem SM{P:Prop}(h:P:=by
 go_enter Tryz.func67,Tryz.ntmps67
 go_wp2_with fail
 go_ret
 exact⟨rfl,rfl⟩):P:=h
theorem Tr{P:Prop}(h:P:=by
 have hf:f<12:=(List.getElem?_eq_some_iff.1 hv).1
 rw[e1]at hr
 rw[hr.cellAt (i*12+f) (by omega),Nk _ _ _ hi hf]
 exact hv):P:=h
theorem Ur{P:Prop}(h:P:=by
 go_wp2_with fail
 go_roundw
 case rel=>exact⟨q+1,_,rfl,by go_num,by omega,HY⟩
 case measure=>simp[intOf];omega):P:=h
theorem TR{P:Prop}(h:P:=by
 cases e1;subst e2
 exact hat.imp (fun e=>DE.1 (show AA (.slice oa rs.length oc) gg from e)) (fun e=>e)):P:=h
theorem Sg{P:Prop}(h:P:=by
 rintro r w6 ⟨rfl,rfl⟩
 go_wp2_with fail
 go_ret2
 exact⟨_,U',by rw[←HE.out];rfl,HN.out⟩):P:=h
theorem TP{P:Prop}(h:P:=by
 rw[List.drop_eq_getElem_cons hqt,hev,List.getD_eq_getElem?_getD,List.getElem?_eq_getElem hqt];rfl):P:=h
theorem UE{P:Prop}(h:P:=by
 exact In h (by have:=h (v.t-1).toNat;show(Ba ds (v.t-1).toNat).ops.length≤q+1;omega) i):P:=h
theorem Vb{P:Prop}(h:P:=by
 rcases g3 _ q with y|y
 ·exact HR.out.2.2.2.2.2.2 y
 ·have:=HR.out.2.2.2.2.2.1.lt;omega):P:=h
theorem Uj{P:Prop}(h:P:=by
 go_enter Tryz.func99,Tryz.ntmps99
 go_wp2_with fail
 go_ret
 exact⟨rfl,rfl⟩):P:=h
theorem TZ{P:Prop}(h:P:=by
 go_wp2_with fail
 go_ret
 exact .inr ⟨rfl,_,HC.out,HF.out⟩):P:=h
theorem A6.only0(h:A6 B w P F D E)(o:Ac w w'):A6 B w' P F D E:=by
 have hm:=(h.hole.mk9 8).move (w':=w') (E':=E) (D':=D) (P':=P) (Q':=F 8) (by omega) h.ex.uP (Ag.only0 P (F 8) o) (h.hole.pf 8 (by omega)) ((h.hole.uF 8 (by omega)).mono o.size) (h.hole.aF 8 (by omega)) rfl (fun _ _=>⟨rfl,rfl⟩) (fun _ _=>rfl) (fun e=>absurd rfl e)
 rw[Gk]at hm
 have p8:EF w w' P (F 8) (Do F 8) P (F 8) (Do F 8):=⟨o.size,fun g hg hp hq hr=>⟨⟨hp,hq,hr⟩,o.block g hg (fun e=>e)⟩⟩
 exact⟨h.ex.only0 o,⟨fun j x hj _ he=>hm.tx j x hj (by omega) he,fun j t c k hj _ he=>hm.cl j t c k hj (by omega) he,
  fun hn=>(h.hole.sw hn).pass p8 rfl,fun hn=>(h.hole.lim hn).far o (fun b _ e=>e),hm.pf,hm.ff,hm.uF,hm.aF⟩⟩
theorem A6.swept(h:A6 B w P F D E){P' Q':Nat→Prop}{D':DB}{E':En}(m:Ag w w' P (F 8) P' Q')(ap:AR P' Q')(uQ:Bo Q' w'.heap.size)(aQ:Cz Q' B)(kA:D'.A.e=D.A.e)(kS:∀j,D'.S j=D.S j∧D'.nx j=D.nx j)(kE:∀j,E'.ses j=E.ses j)
 (hx:EX B w' P' Q' (Do F 8) D'.A (Bk D' E') E'.sh) (hsw:FL w' P' Q' (Do F 8) D'.A E'.sw D'.sv) (hlim:Ck B w' Q' D'.la D'.lc E'.lim) (o:Ah (EI P F D.la) w w') (gP:AC w.heap.size P P') (gl:∀b,AL D'.la b→AL D.la b∨w.heap.size≤b) (f8:∀b,F 8 b→Q' b):Bg B w P F D E' w':=by
 have hm:=(h.hole.mk9 8).move (by omega) h.ex.uP m ap uQ aQ kA (fun j _=>kS j) (fun j _=>kE j) (fun e=>absurd rfl e)
 refine⟨P',Fr F 8 Q',D',⟨EX.all (s:=8) ?_,⟨fun j x hj _ he=>hm.tx j x hj (by omega) he,fun j t c k hj _ he=>hm.cl j t c k hj (by omega) he,fun _=>?_,fun _=>?_,hm.pf,hm.ff,hm.uF,hm.aF⟩⟩,kA,o,fun b hb=>?_,fun b hb=>?_⟩
 ·rw[A3,ES];exact hx
 ·rw[A3,ES];exact hsw
 ·rw[A3];exact hlim
 ·rcases hb with y|⟨j,hj,y⟩|y
  ·exact(gP b y).imp .inl (fun z=>z)
  ·rw[AX _ _ (by omega)]at y
   exact .inl (.inr (.inl ⟨j,hj,y⟩))
  ·exact(gl b y).imp (fun z=> .inr (.inr z)) (fun z=>z)
 ·rw[A3];exact f8 b hb
theorem A6.sx(h:A6 B w P F D E):SX B w P (F 8) (Do F 8) D.A (Bk D E) E.sh:=⟨h.exs 8 (by omega),h.hole.uF 8 (by omega),(h.hole.mk9 8).uR⟩
theorem A6.swRes(h:A6 B w P F D E){s':Sh}{low:Int}{k:Sw}{b:Bool}{r:Ending}(q:Dj B w P (F 8) (Do F 8) D.A (Bk D E) s' low k b r w'):r= .returned (.bool b)∧Bg B w P F D {E with sh:=s',sw:=k,low:=low} w':=by
 obtain⟨v,rfl,h1,h2,o⟩:=q
 refine⟨rfl,h.swept (D':={D with sv:=v}) (P':=P) (Q':=F 8) ⟨o.mono (fun _ _ hb=> .inl hb),AC.refl _ _,AC.refl _ _⟩ (h.hole.pf 8 (by omega)) h1.uQ (h.hole.aF 8 (by omega)) rfl (fun _=>⟨rfl,rfl⟩) (fun _=>rfl) h1.ex h2 ((h.hole.lim (by omega)).far o (fun b hb hp=>h.hole.pf 8 (by omega) b hp hb)) (o.mono (fun b _ hb=> .inl hb)) (AC.refl _ _) (fun b hb=> .inl hb) (fun b hb=>hb)⟩
theorem A6.swCut(h:A6 B w P F D E){s':Sh}{k:Sw}{L':List (Int×Int)}{r:Ending}(q:Gx B w P (F 8) (Do F 8) D.A (Bk D E) D.la s' k L' r w'):r= .returned (.bool true)∧Bg B w P F D {E with sh:=s',sw:=k,lim:=L'} w':=by
 obtain⟨v,Q',la',lc',rfl,h1,h2,h3,o,q1,q2,q3⟩:=q
 have hF8:=h.hole.pf 8 (by omega)
 have hl:∀b,AL D.la b→F 8 b:=fun b hb=>h.limF hb
 have gq:AC w.heap.size (F 8) Q':=fun b hb=>(q2 b hb).imp (fun z=>z) (fun z=>z.2)
 refine⟨rfl,h.swept (D':={D with sv:=v,la:=la',lc:=lc'}) (P':=P) (Q':=Q') ⟨o.mono (fun b _ hb=>hb.imp (fun z=>z) (hl b)),AC.refl _ _,gq⟩ (fun b hp hq=>?_) h1.uQ (fun b hb=>?_) rfl (fun _=>⟨rfl,rfl⟩) (fun _=>rfl) h1.ex h2 h3 (o.mono (fun b _ hb=>hb.imp (fun z=>z) (fun z=> .inr z))) (AC.refl _ _) q3 q1⟩
 ·rcases gq b hq with y|y
  ·exact hF8 b hp y
  ·have:=h.ex.uP b hp;omega
 ·rcases q2 b hb with y|y
  ·exact h.hole.aF 8 (by omega) b y
  ·have:=h.ex.hB;omega
theorem NM(h:A6 B w P F D E)(hf:As N E)(hN2:N≤30000000)(hk:E.sw≠ .idle):
 EN D.sv w (fun r w'=>r= .returned (.bool (E.sweep1 E.sw).1)∧Bg B w P F D (E.sweep1 E.sw).2 w'):=by
 have hv:=h.hole.sw (by omega)
 have hs:=hf.sw
 have X:=h.sx
 have N1:=hf.sh
 have hlen:=hf.llen
 have hlow:=hf.low
 have hL:=h.hole.lim (by omega)
 have hK:(Bk D E).cs= .slice D.la E.lim.length D.lc:=rfl
 cases hsw:E.sw with
 |idle=>exact absurd hsw hk
 |now=>
  rw[hsw]at hv
  rw[show D.sv=_ from hv]
  exact .of1 (fun wz=>by kernel_rfl) ((RO X N1).mono (fun r w' q=>h.swRes q))
 |live s=>
  rw[hsw]at hv hs
  obtain⟨e,i,hv,h1,h2⟩:=hv
  rw[hv]
  exact .of (fun wz=>by kernel_rfl) ((PV X N1 hs hlow.1 h1 h2).mono (fun r w' q=>h.swRes q))
 |head k=>
  rw[hsw]at hv hs
  obtain⟨e,i,hv,h1,h2⟩:=hv
  rw[hv]
  exact .of (fun wz=>by kernel_rfl) ((Qp X N1 hs h1 h2).mono (fun r w' q=>h.swRes q))
 |visit k a l=>
  rw[hsw]at hv hs
  obtain⟨e,i,j,x,hv,h1,h2,h3,h4⟩:=hv
  rw[hv]
  exact .of (fun wz=>by kernel_rfl) ((Pq X N1 hs.2.2.1.1 h1 h4 h2 h3).mono (fun r w' q=>h.swRes q))
 |maker k a l id=>
  rw[hsw]at hv hs
  obtain⟨e,i,j,x,d,hv,h1,h2,h3,h4,h5⟩:=hv
  rw[hv]
  exact .of (fun wz=>by kernel_rfl) ((Ns X N1 hs.2.2.2.1 hs.2.2.2.2 h1 h5 h2 h3 h4).mono (fun r w' q=>h.swRes q))
 |garbage k a l b=>
  rw[hsw]at hv hs
  obtain⟨e,i,j,x,d,hv,h1,h2,h3,h4,h5⟩:=hv
  rw[hv]
  exact .of (fun wz=>by kernel_rfl) ((KG X N1 hs.2.2.1.1.1 h5 h1 h4 h2 h3).mono (fun r w' q=>h.swRes q))
 |on k l=>
  rw[hsw]at hv hs
  obtain⟨e,i,x,hv,h1,h2,h3⟩:=hv
  rw[hv]
  exact .of (fun wz=>by kernel_rfl) ((RT X N1 hs.1 hs.2.1.1 h1 h2 h3).mono (fun r w' q=>h.swRes q))
 |unlink k a l=>
  rw[hsw]at hv hs
  obtain⟨e,i,j,x,hv,h1,h2,h3,h4⟩:=hv
  rw[hv]
  exact .of (fun wz=>by kernel_rfl) ((LV X N1 hs.2.2.1.1 h1 h4 h2 h3).mono (fun r w' q=>h.swRes q))
 |cut k a l n=>
  rw[hsw]at hv hs
  obtain⟨e,i,j,x,d,hv,h1,h2,h3,h4,h5⟩:=hv
  rw[hv]
  have hPQ:=h.hole.pf 8 (by omega)
  by_cases ha:a=0
  ·cases hc:E.sh.a.casOk (9+(k:Int)) l with
   |true=>
    have e1:E.sweep1 (.cut k a l n)=(true,(E.at_ (E.sh.a.cas (9+k) l n) (A4 k a n)).limbo l):=by
     show(true,if a≠0 then _ else if E.sh.a.casOk (9+(k:Int)) l then _ else _)=_
     rw[if_neg (by rw[ha];simp),if_pos hc]
    rw[e1]
    exact .of (fun wz=>by kernel_rfl) ((PX X N1 hL hK hPQ (by omega) hs.1 ha hc h3 h1 h5 h2 h4).mono (fun r w' q=>h.swCut q))
   |false=>
    have e1:E.sweep1 (.cut k a l n)=(true,E.at_ (E.sh.a.cas (9+k) l n) (Cq k)):=by
     show(true,if a≠0 then _ else if E.sh.a.casOk (9+(k:Int)) l then _ else _)=_
     rw[if_neg (by rw[ha];simp),if_neg (by rw[hc];simp)]
    rw[e1]
    exact .of (fun wz=>by kernel_rfl) ((Qr X N1 hL hK hPQ (by omega) hs.1 ha hc h3 h1 h5 h2 h4).mono (fun r w' q=>h.swCut q))
  ·have e1:E.sweep1 (.cut k a l n)=(true,(E.at_ (E.sh.a.store (Al a 2) n) (A4 k a n)).limbo l):=by
    show(true,if a≠0 then _ else _)=_
    rw[if_pos ha]
   rw[e1]
   exact .of (fun wz=>by kernel_rfl) ((QH X N1 hL hK hPQ (by omega) hs.1 ha hs.2.1.1 h3 h1 h5 h2 h4).mono (fun r w' q=>h.swCut q))
theorem EX.pool{Q R:Nat→Prop}{A:EA}{K:EK}{s:Sh}(h:EX B w P Q R A K s)(uQ:Bo Q w.heap.size){p':AP}{fa:Option Addr}{fc:Nat}(q:Bq B w A s.p p' w' fa fc)(hPQ:AR P Q):
 ∃P',EX B w' P' Q R {A with fa:=fa,fc:=fc} K {s with p:=p'}∧Ag w w' P Q P' Q∧Ah P w w'∧AR P' Q:=by
 have hPB:∀b,SI A s.p b→P b:=by
  exact UJ
 have hrl:=fun b hb=>(q.at_.free).lt b hb
 have gp:AC w.heap.size P (fun b=>P b∨AA (.slice fa p'.free.length fc) b):=by
  exact RW
 have m:Ag w w' P Q (fun b=>P b∨AA (.slice fa p'.free.length fc) b) Q:=⟨q.o.mono (fun b _ hb=> .inl (hPB b hb)),gp,AC.refl _ _⟩
 have oP:Ah P w w':=q.o.mono (fun b _ hb=>hPB b hb)
 refine⟨_,⟨⟨?_,?_,?_,?_,?_,.inl h.sh.pe,⟨.inl h.sh.pa.1,.inl h.sh.pa.2⟩,⟨.inl h.sh.pp.1,.inl h.sh.pp.2⟩,fun b hb=> .inr hb,.inl h.sh.pv,fun b hb=> .inl (h.sh.pt b hb)⟩,?_,?_,fun i hi=>(h.prs i hi).move m⟩,m,oP,?_⟩
 ·exact h.sh.eng.ty q.t (by decide)
 ·exact h.sh.ar.ty q.t (by decide) (by decide)
 ·exact q.at_
 ·exact h.sh.vals.ty q.t (by decide)
 ·exact AO h.sh.tale q.t (by decide)
 ·exact UP
 ·rintro b (hb|hb)
  ·exact h.aP b hb
  ·exact(hrl b hb).1
 ·rintro b (hb|hb) hq
  ·exact hPQ b hb hq
  ·rcases q.grew b hb with e|e
   ·exact hPQ b (h.sh.pf b e) hq
   ·have:=uQ b hq;omega
end
end
section
attribute [local go_sem ↓] Go.wp_at_zero Go.wp_at_succ
def Q0(D:DB)(E:En):Array Value:=#[Cm D E 0,Cm D E 1,Cm D E 2,Cm D E 3,Cm D E 4,Cm D E 5,Cm D E 6,Cm D E 7]
theorem Mu(D:DB)(E:En)(k:Nat)(hk:k<8):(Q0 D E)[k]? =some (Cm D E k):=by
 match k,hk with
 |0,_=>rfl
 |1,_=>rfl
 |2,_=>rfl
 |3,_=>rfl
 |4,_=>rfl
 |5,_=>rfl
 |6,_=>rfl
 |7,_=>rfl
theorem Px(D:DB)(E:En)(w:World)(k:Nat)(hk:k<8):(Instr.index 102 (.agg #[Cm D E 0,Cm D E 1,Cm D E 2,Cm D E 3,Cm D E 4,Cm D E 5,Cm D E 6,Cm D E 7]) (.int .i64 k)).run Tryz.prog w= .ok (Cm D E k) w:=
 FI _ _ 8 _ k _ Tryz.underlying102 hk (by simpa[Q0]using Mu D E k hk) (by kernel_rfl) (by kernel_rfl)
section
variable {B N:Nat} {w:World} {P:Nat→Prop} {F:Nat→Nat→Prop} {D:DB} {E:En}
theorem J5(h:A6 B w P F D E)(hl:E.lim=[]):Calls Tryz.prog 55 #[bp D.A.e] w fun r w'=>r= .returned (.bool false)∧w=w':=by
 have cc:=h.sx.cc
 rw[show(Bk D E).cs= .slice D.la E.lim.length D.lc from rfl,hl]at cc
 clear h hl
 go_enter Tryz.func55,Tryz.ntmps55
 go_wp2_with fail
 go_ret
 exact⟨rfl,rfl⟩
theorem Qo{E:En}{q:Int}{j:Nat}(hj:j<8)(h:E.calmAt q j=false):E.calm q=false:=by
 unfold En.calm
 rw[List.all_eq_false]
 exact⟨j,List.mem_range.2 hj,by rw[h];simp⟩
theorem N9{E:En}{q:Int}(h:∀j,j<8→E.calmAt q j=true):E.calm q=true:=by
 unfold En.calm
 rw[List.all_eq_true]
 exact fun j hj=>h j (List.mem_range.1 hj)
theorem Bg.pre{w0 w':World}{E':En}(o:Ac w0 w)(h:Bg B w P F D E' w'):Bg B w0 P F D E' w':=by
 obtain⟨P1,F1,D1,h1,e1,o1,g1,f1⟩:=h
 exact⟨P1,F1,D1,h1,e1,(o.any _).trans o1,fun b hb=>(g1 b hb).imp (fun z=>z) (Nat.le_trans o.size),f1⟩
theorem A6.gave(h:A6 B w P F D E){g off:Nat}{cur:Array Value}(hg:Am w g 202 cur)(hgB:B≤g)(hgQ:F 8 g)(hla:D.la=some ⟨g,off*2,none⟩){off' lc':Nat}{l:List (Int×Int)}(hlen:l.length≤lc')(hm:lc'≤maxLen)(hcs:(off'+lc')*2≤cur.size)
 (hc:∀i,i<l.length→cur[(off'+i)*2]? =some (.int .u64 (l.getD i (0,0)).1)∧cur[(off'+i)*2+1]? =some (.int .i64 (l.getD i (0,0)).2)) {w2:World} {P2:Nat→Prop} {fa:Option Addr} {fc:Nat} {p':AP} (h2:EX B w2 P2 (F 8) (Do F 8) {D.A with fa:=fa,fc:=fc} (Bk D E) {E.sh with p:=p'}) (m2:Ag w w2 P (F 8) P2 (F 8)) (o2:Ah P w w2) (a2:AR P2 (F 8)) (n:Nat) (hn:n=l.length):
 Bg B w P F D {E with sh:={E.sh with p:=p'},lim:=l} (w2.setCell ⟨D.A.e,27,none⟩ (.slice (some ⟨g,off'*2,none⟩) n lc')):=by
 subst hn
 obtain⟨h3,o3,m3⟩:=h2.setK 27 (.slice (some ⟨g,off'*2,none⟩) l.length lc') (K':={Bk D E with cs:= .slice (some ⟨g,off'*2,none⟩) l.length lc'}) rfl
 have o1:Ah (fun b=>b=D.A.e) w2 (w2.setCell ⟨D.A.e,27,none⟩ (.slice (some ⟨g,off'*2,none⟩) l.length lc')):=Ah.setCell (S:=fun b=>b=D.A.e) (Ah.refl _ w2) (fun _=>rfl) _
 have pe:P D.A.e:=h.ex.sh.pe
 have oP:Ah P w (w2.setCell ⟨D.A.e,27,none⟩ (.slice (some ⟨g,off'*2,none⟩) l.length lc')):=o2.trans (o1.mono (fun b _ hb=>by rw[hb];exact pe))
 have ngP:¬P g:=fun hp=>h.hole.pf 8 (by omega) g hp hgQ
 have m:=m2.trans m3
 refine h.swept (D':={D with A:={D.A with fa:=fa,fc:=fc},la:=some ⟨g,off'*2,none⟩,lc:=lc'}) (P':=P2) (Q':=F 8) m a2 ((h.hole.uF 8 (by omega)).mono oP.size) (h.hole.aF 8 (by omega)) rfl (fun _=>⟨rfl,rfl⟩) (fun _=>rfl) h3 ((h.hole.sw (by omega)).pass (m.pass (Do F 8)) rfl) (.inr ⟨g,off',cur,rfl,oP.blk hg ngP,hgB,hgQ,hlen,hm,hcs,hc⟩) (oP.mono (fun b _ hb=> .inl hb)) m.gp (fun b ⟨a,e1,e2⟩=> .inl ⟨_,hla,by cases e1;exact e2⟩) (fun b hb=>hb)
def LI(B:Nat)(w:World)(P:Nat→Prop)(F:Nat→Nat→Prop)(D:DB)(E:En)(r:Ending)(w':World):Prop:=
 (r= .returned (.bool false)∧E.give=none∧Ac w w')∨(r= .returned (.bool true)∧∃E',E.give=some E'∧Bg B w P F D E' w')
theorem Ji(h:A6 B w P F D E)(hf:As N E)(hN2:N≤30000000){p:Int×Int}{l:List (Int×Int)}(hl:E.lim=p::l):Calls Tryz.prog 55 #[bp D.A.e] w (LI B w P F D E):=by
 have X:=h.sx
 have cc:=X.cc
 rw[show(Bk D E).cs= .slice D.la E.lim.length D.lc from rfl]at cc
 have hlim:=h.hole.lim (by omega)
 obtain⟨lk,sq⟩:=p
 rcases hlim with⟨q1,q2,q3⟩|⟨g,off,cur,hla,hg,hgB,hgQ,hlen,hm,hcs,hc⟩
 ·rw[q3]at hl;cases hl
 have hc0:=hc 0 (by rw[hl];simp)
 rw[hl]at hc0 hlen hc
 simp only[List.getD_cons_zero,Nat.add_zero]at hc0
 rw[hla,hl,List.length_cons]at cc
 have g0:=Ae w g (off*2) (.int .u64 lk) ((hg.cell _).trans hc0.1)
 have g1:=Ae w g (off*2+1) (.int .i64 sq) ((hg.cell _).trans hc0.2)
 obtain⟨p0,p1,p2,p3,p4,p5,p6,p7⟩:Ab w D.A.e 13 (Cm D E 0)∧Ab w D.A.e 14 (Cm D E 1)∧Ab w D.A.e 15 (Cm D E 2)∧Ab w D.A.e 16 (Cm D E 3)∧Ab w D.A.e 17 (Cm D E 4)∧Ab w D.A.e 18 (Cm D E 5)∧Ab w D.A.e 19 (Cm D E 6)∧Ab w D.A.e 20 (Cm D E 7):=
  ⟨h.ex.cpc 0 (by omega),h.ex.cpc 1 (by omega),h.ex.cpc 2 (by omega),h.ex.cpc 3 (by omega),h.ex.cpc 4 (by omega),h.ex.cpc 5 (by omega),h.ex.cpc 6 (by omega),h.ex.cpc 7 (by omega)⟩
 have hp9:=Ae w D.A.e 3 (bp D.A.p) (h.ex.sh.eng.cell 3)
 have HG:Hid (E.lim=(lk,sq)::l∧Am w g 202 cur∧B≤g∧F 8 g∧l.length+1≤D.lc∧D.lc≤maxLen∧(off+D.lc)*2≤cur.size∧(∀i,i<l.length+1→cur[(off+i)*2]? =some (.int .u64 (((lk,sq)::l).getD i (0,0)).1)∧cur[(off+i)*2+1]? =some (.int .i64 (((lk,sq)::l).getD i (0,0)).2))∧D.la=some ⟨g,off*2,none⟩):=Aa ⟨hl,hg,hgB,hgQ,by simpa using hlen,hm,hcs,by simpa using hc,hla⟩
 obtain⟨ln,hln⟩:=Ad l.length
 rw[←hln]at cc
 have hlen9:ln+1≤D.lc:=by rw[hln];exact HG.out.2.2.2.2.1
 have HLN:=Aa hln
 obtain⟨lc,hlc⟩:=Ad D.lc
 rw[←hlc]at cc hlen9
 have HLC:=Aa hlc
 have HH:=Aa (And.intro h hf)
 have hgv:E.give=(if E.calm sq then some {E with sh:={E.sh with p:=E.sh.p.give lk},lim:=l}else none):=by unfold En.give;rw[hl]
 have HGV:=Aa hgv
 have ln0:((ln:Int)+1==0)=false:=by simp;omega
 have ln1:(ln+1==0)=false:=by simp
 clear h hf X hlen hm hcs hc hc0 hg hgB hgQ hl hla hln hlc hgv
 go_enter Tryz.func55,Tryz.ntmps55
 go_wp2_with fail
 go_loopw [5,19] (fun s5 s19 wr=>∃(q:Nat) (v5:Value),s5=v5∧s19= .int .i64 q∧q≤8∧Hid ((∀j,j<q→E.calmAt sq j=true)∧Ac w wr)) (fun _ s19 _=>8-(intOf s19).toNat)
 case atStart=>exact⟨0,_,rfl,rfl,by omega,Aa ⟨fun j hj=>by omega,Ac.refl _⟩⟩
 case round=>
  obtain⟨q,v5,rfl,rfl,hq,HR⟩:=hrel
  by_cases hlt:q<8
  ·have hix:=Px D E wr q hlt
   have yes:E.calmAt sq q=true→Hid ((∀j,j<q+1→E.calmAt sq j=true)∧Ac w wr.drew):=fun hy=>Aa ⟨fun j hj=>(by
    by_cases e:j=q
    ·subst e;exact hy
    ·exact HR.out.1 j (by omega)),HR.out.2.drew⟩
   by_cases hu:∃t c k,E.ses q=some ⟨t,some (c,k)⟩
   ·obtain⟨t,c,k,hu⟩:=hu
    rw[show Cm D E q=bp (D.S q).c by simp[Cm,hu]]at hix
    obtain⟨S,hS⟩:=Ad ((D.S q).c)
    rw[←hS]at hix
    obtain⟨cs,hcs⟩:=Ad c.seq
    have k0:=Ae w S 12 (.int .i64 cs) (by rw[hS,hcs];exact(HH.out.1.hole.cl q t c k hlt (by omega) hu).1.blk.cell 12)
    have oz:=HR.out.2.drew
    have z1:=Ai oz cc
    have z2:=Ai oz g1
    have z3:=Ai oz k0
    have hca:E.calmAt sq q=decide (sq<cs):=by unfold En.calmAt;rw[hu,hcs]
    have HCA:=Aa hca
    clear hu hS hcs hca oz
    by_cases hle:cs≤sq
    ·have HNO:Hid (E.give=none):=Aa (by rw[HGV.out,Qo hlt (by rw[HCA.out];simp;exact hle)];simp)
     go_upto_region 7 with(fail)
     refine wp_region_held_drew (S:=(fun w'=>Ab w' D.A.e 27 (.slice (some ⟨g,off*2,none⟩) (ln+1) lc)∧Ab w' g (off*2+1) (.int .i64 sq)∧Ab w' S 12 (.int .i64 cs))) (by kernel_rfl) ?_ (fun hHeld=>?_)
     ·exact⟨z1,z2,z3⟩
     refine Af 0 (h:=Af 1 (h:=Af 2 (h:=?_)))
     first|refine Aj 3 (h:=?_)|refine Af 3 (h:=?_)
     first|refine Aj 4 (h:=?_)|refine Af 4 (h:=?_)
     first|refine Aj 5 (h:=?_)|refine Af 5 (h:=?_)
     first|refine Aj 6 (h:=?_)|refine Af 6 (h:=?_)
     first|refine Aj 7 (h:=?_)|refine Af 7 (h:=?_)
     first|refine Aj 8 (h:=?_)|refine Af 8 (h:=?_)
     first|refine Aj 9 (h:=?_)|refine Af 9 (h:=?_)
     first|refine Aj 10 (h:=?_)|refine Af 10 (h:=?_)
     first|refine Aj 11 (h:=?_)|refine Af 11 (h:=?_)
     first|refine Aj 12 (h:=?_)|refine Af 12 (h:=?_)
     first|refine Aj 13 (h:=?_)|refine Af 13 (h:=?_)
     first|refine Aj 14 (h:=?_)|refine Af 14 (h:=?_)
     refine Af 15 (h:=?_)
     refine wpAnyH_done (by kernel_rfl) ?_ _
     clear hHeld
     go_wp2_with fail
     go_ret
     exact .inl ⟨rfl,HNO.out,HR.out.2.drew⟩
    ·have HY:=yes (by rw[HCA.out];simpa using hle)
     go_upto_region 7 with(fail)
     refine wp_region_held_drew (S:=(fun w'=>Ab w' D.A.e 27 (.slice (some ⟨g,off*2,none⟩) (ln+1) lc)∧Ab w' g (off*2+1) (.int .i64 sq)∧Ab w' S 12 (.int .i64 cs))) (by kernel_rfl) ?_ (fun hHeld=>?_)
     ·exact⟨z1,z2,z3⟩
     refine Af 0 (h:=Af 1 (h:=Af 2 (h:=?_)))
     first|refine Aj 3 (h:=?_)|refine Af 3 (h:=?_)
     first|refine Aj 4 (h:=?_)|refine Af 4 (h:=?_)
     first|refine Aj 5 (h:=?_)|refine Af 5 (h:=?_)
     first|refine Aj 6 (h:=?_)|refine Af 6 (h:=?_)
     first|refine Aj 7 (h:=?_)|refine Af 7 (h:=?_)
     first|refine Aj 8 (h:=?_)|refine Af 8 (h:=?_)
     first|refine Aj 9 (h:=?_)|refine Af 9 (h:=?_)
     first|refine Aj 10 (h:=?_)|refine Af 10 (h:=?_)
     first|refine Aj 11 (h:=?_)|refine Af 11 (h:=?_)
     first|refine Aj 12 (h:=?_)|refine Af 12 (h:=?_)
     first|refine Aj 13 (h:=?_)|refine Af 13 (h:=?_)
     first|refine Aj 14 (h:=?_)|refine Af 14 (h:=?_)
     refine Af 15 (h:=?_)
     refine wpAnyH_done (by kernel_rfl) ?_ _
     clear hHeld yes HR
     exact Ur
   ·have hcp:Cm D E q= .pointer none∧E.calmAt sq q=true:=by
     unfold Cm En.calmAt
     cases hs:E.ses q with
     |none=>exact⟨rfl,rfl⟩
     |some x=>
      obtain⟨t,c⟩:=x
      cases c with
      |none=>exact⟨rfl,rfl⟩
      |some ck=>obtain⟨c,k⟩:=ck;exact absurd ⟨t,c,k,hs⟩ hu
    rw[hcp.1]at hix
    have HY:=yes hcp.2
    clear hu hcp yes HR
    go_upto_region 7 with(fail)
    refine wp_region_held_drew (S:=(fun w'=>True)) (by kernel_rfl) ?_ (fun hHeld=>?_)
    ·trivial
    refine Af 0 (h:=Af 1 (h:=Af 2 (h:=?_)))
    first|refine Aj 3 (h:=?_)|refine Af 3 (h:=?_)
    first|refine Aj 4 (h:=?_)|refine Af 4 (h:=?_)
    first|refine Aj 5 (h:=?_)|refine Af 5 (h:=?_)
    first|refine Aj 6 (h:=?_)|refine Af 6 (h:=?_)
    first|refine Aj 7 (h:=?_)|refine Af 7 (h:=?_)
    first|refine Aj 8 (h:=?_)|refine Af 8 (h:=?_)
    first|refine Aj 9 (h:=?_)|refine Af 9 (h:=?_)
    first|refine Aj 10 (h:=?_)|refine Af 10 (h:=?_)
    first|refine Aj 11 (h:=?_)|refine Af 11 (h:=?_)
    first|refine Aj 12 (h:=?_)|refine Af 12 (h:=?_)
    first|refine Aj 13 (h:=?_)|refine Af 13 (h:=?_)
    first|refine Aj 14 (h:=?_)|refine Af 14 (h:=?_)
    refine Af 15 (h:=?_)
    refine wpAnyH_done (by kernel_rfl) ?_ _
    clear hHeld
    exact Ur
  ·obtain rfl:q=8:=by omega
   have HC:Hid (E.give=some {E with sh:={E.sh with p:=E.sh.p.give lk},lim:=l}):=Aa (by rw[HGV.out,N9 (fun j hj=>HR.out.1 j hj)];simp)
   have hA:=HH.out.1.only0 HR.out.2.drew
   have SF:=HH.out.2.sh
   have hlk:=HH.out.2.lim (lk,sq) (by rw[HG.out.1];simp)
   have hix:=hlk.1.ix
   obtain⟨i,hi⟩:=Int.eq_ofNat_of_zero_le hix.1
   have vl:=SF.vlen
   have pl:=SF.plen
   have n2:=SF.n2
   have hwn:=SF.worn
   have CG:=Lk hA.ex.sh.pool hlk.1.1.1 (i:=i) hi.symm (by omega) (by omega) (SF.tags i) ⟨hwn.1,by omega⟩ (by have:=SF.flen;omega) hA.ex.hB
   have HA:=Aa (And.intro hA HR.out.2.drew)
   have z1:=Ai HR.out.2.drew cc
   have z2:=Ai HR.out.2.drew g0
   have z3:=Ai HR.out.2.drew hp9
   clear hA SF hlk hix hi vl pl n2 hwn hlt
   go_upto_region 10 with(fail)
   refine wp_region_held_drew (S:=(fun w'=>Ab w' D.A.e 27 (.slice (some ⟨g,off*2,none⟩) (ln+1) lc)∧Ab w' g (off*2) (.int .u64 lk)∧Ab w' D.A.e 3 (bp D.A.p))) (by kernel_rfl) ?_ (fun hHeld=>?_)
   ·first|exact⟨z1,z2,z3⟩|exact⟨y1,y2,y3⟩
   refine Af 0 (h:=Af 1 (h:=Af 2 (h:=Af 3 (h:=Af 4 (h:=Af 5 (h:=Af 6 (h:=Af 7 (h:=Af 8 (h:=Af 9 (h:=Af 10 (h:=Ar (i:=11) (h:=fun K hK=>?_))))))))))))
   go_simp
   (refine CG.mono ?_;rintro e1 w2 ⟨⟨x1,rfl⟩,fa,fc,pq⟩;obtain⟨P2,h2,m2,o2,a2⟩:=HA.out.1.sx.ex.pool HA.out.1.sx.uQ pq (HA.out.1.hole.pf 8 (by omega));have hgp:¬P g:=(fun hp=>HA.out.1.hole.pf 8 (by omega) g hp HG.out.2.2.2.1);have y1:=Ae w2 D.A.e 27 (.slice (some ⟨g,off*2,none⟩) (ln+1) lc) ((by have q:=h2.sh.eng.cell 27;have e9:(Bk D E).cs= .slice (some ⟨g,off*2,none⟩) (ln+1) lc:=(by show Value.slice D.la E.lim.length D.lc=_;rw[HG.out.2.2.2.2.2.2.2.2,HG.out.1,List.length_cons,HLN.out,HLC.out]);rw[←e9];exact q));have y2:=AH o2 z2 hgp;have y3:=Ae w2 D.A.e 3 (bp D.A.p) (h2.sh.eng.cell 3))
   try go_wp2_with fail
   refine AK hK (by first|exact⟨z1,z2,z3⟩|exact⟨y1,y2,y3⟩) (h:=fun hHeld=>?_);clear hK K
   refine wpAnyH_done (by kernel_rfl) ?_ _
   clear hHeld
   have fz:=h2.sh.eng.free 27
   obtain⟨G1,G2,G3,G4,G5,G6,G7,G8,G9⟩:=HG.out
   have hcS:∀i,i<l.length→cur[(off+1+i)*2]? =some (.int .u64 (l.getD i (0,0)).1)∧cur[(off+1+i)*2+1]? =some (.int .i64 (l.getD i (0,0)).2):=fun i hi=>by
    have q:=G8 (i+1) (by omega)
    rw[List.getD_cons_succ]at q
    rw[show off+1+i=off+(i+1) by omega];exact q
   by_cases h1:lc=1
   ·have hl0:l=[]:=List.eq_nil_of_length_eq_zero (by rw[←HLN.out];omega)
    have HF:=Aa (Bg.pre HA.out.2 (HA.out.1.gave (HA.out.2.blk G2 (fun f=>f)) G3 G4 G9 (off':=off) (lc':=0) (l:=l) (by rw[hl0];simp) (by omega) (by omega) (fun i hi=>by rw[hl0]at hi;simp at hi) h2 m2 o2 a2 0 (by rw[hl0];rfl)))
    subst h1
    clear G1 G2 G3 G4 G5 G6 G7 G8 G9 hcS hl0 HLC h2 m2 o2 a2 pq CG z1 z2 z3
    exact TZ
   ·have h3:¬lc≤1:=by omega
    have h4:1<lc:=by omega
    have h5:¬lc-1=0:=by omega
    have HF:=Aa (Bg.pre HA.out.2 (HA.out.1.gave (HA.out.2.blk G2 (fun f=>f)) G3 G4 G9 (off':=off+1) (lc':=lc-1) (l:=l) (by have:=HLC.out;omega) (by have:=HLC.out;omega) (by have:=HLC.out;omega) hcS h2 m2 o2 a2 ln HLN.out))
    rw[show(off+1)*2=off*2+2 by omega]at HF
    clear G1 G2 G3 G4 G5 G6 G7 G8 G9 hcS HLC h2 m2 o2 a2 pq CG z1 z2 z3
    exact TZ
end
end
section
attribute [local go_sem ↓] Go.wp_at_zero Go.wp_at_succ
section
variable {B N:Nat} {w:World} {P:Nat→Prop} {F:Nat→Nat→Prop} {D:DB} {E:En}
theorem A6.looked(h:A6 B w P F D E)(L:Int):Bg B w P F D {E with looks:=L} (w.setCell ⟨D.A.e,23,none⟩ (.int .i64 L)):=by
 obtain⟨h1,o1⟩:=h.sx.setK 23 (.int .i64 L) (K':={Bk D E with looks:=L}) rfl
 exact h.swept (D':=D) (P':=P) (Q':=F 8) ⟨o1.mono (fun _ _ hb=> .inl hb),AC.refl _ _,AC.refl _ _⟩ (h.hole.pf 8 (by omega)) h1.uQ (h.hole.aF 8 (by omega)) rfl (fun _=>⟨rfl,rfl⟩) (fun _=>rfl) h1.ex ((h.hole.sw (by omega)).onlyP o1) ((h.hole.lim (by omega)).far o1 (fun b hb hp=>h.hole.pf 8 (by omega) b hp hb)) (o1.mono (fun b _ hb=> .inl hb)) (AC.refl _ _) (fun b hb=> .inl hb) (fun b hb=>hb)
theorem KL(h:A6 B w P F D E){b0 b1:Nat}{n:Int}(c0:w.cell? ⟨b0,0,none⟩=some (bp D.A.e))(c1:w.cell? ⟨b1,0,none⟩=some (.int .i64 n))(u:FrameMode):
 CallsD Tryz.prog 54 #[bp b0,bp b1] u w fun e u' w'=>u'=u∧(e= .returned (.tuple #[])∧Bg B w P F D {E with looks:=wrap64 (E.looks+wrap64 (E.sh.a.cnt-n))} w'):=by
 have hA:=h.only0 ((Ac.refl w).drew)
 obtain⟨L,hL0⟩:=Aq (wrap64 (E.looks+wrap64 (E.sh.a.cnt-n)))
 have hL:IntKind.i64.wrap (E.looks+IntKind.i64.wrap (E.sh.a.cnt-n))=L:=by rw[←hL0];unfold wrap64;simp only[IntKind.wrap_i64]
 rw[hL0]
 clear hL0
 have HR:Hid (Bg B w P F D {E with looks:=L} ((w.setCell ⟨D.A.e,23,none⟩ (.int .i64 L)).drew)):=Aa (by
  obtain⟨P1,F1,D1,h1,e1,o1,g1,f1⟩:=h.looked L
  exact⟨P1,F1,D1,h1.only0 ((Ac.refl _).drew),e1,o1.trans (((Ac.refl _).drew).any _),g1,f1⟩)
 have CC:=Ey hA.ex.sh.ar
 have d0:=Ai ((Ac.refl w).drew) c0
 have d1:=Ai ((Ac.refl w).drew) c1
 have d2:=Ae w.drew D.A.e 2 (bp D.A.a) hA.sx.ca
 have d3:=Ae w.drew D.A.e 23 (.int .i64 E.looks) (hA.ex.sh.eng.cell 23)
 have zf:w.drew.frozen? ⟨D.A.e,23,none⟩=false:=hA.ex.sh.eng.free 23
 clear h hA c0 c1
 go_enter_d Tryz.func54,Tryz.ntmps54
 go_upto_region 0 with(fail)
 refine Ao (S:=(fun w'=>Ab w' b0 0 (bp D.A.e)∧Ab w' b1 0 (.int .i64 n)∧Ab w' D.A.e 2 (bp D.A.a)∧Ab w' D.A.e 23 (.int .i64 E.looks))) 14 (by kernel_rfl) ?_ (fun hHeld=>?_)
 ·exact⟨d0,d1,d2,d3⟩
 refine Av 0 [14] (h:=Av 1 [14] (h:=Av 2 [14] (h:=Av 3 [14] (h:=Av 4 [14] (h:=Av 5 [14] (h:=Av 6 [14] (h:=Av 7 [14] (h:=Av 9 [14] (h:=Bx (i:=8) (h:=fun K hK=>?_))))))))))
 go_simp
 (refine CC.mono ?_;rintro e1 w1 ⟨rfl,rfl⟩)
 try go_wp2_with fail
 refine D_ hK (by exact⟨d0,d1,d2,d3⟩) (h:=fun hHeld=>?_);clear hK K
 refine Av 10 [14] (h:=Av 11 [14] (h:=Av 12 [13,14] (h:=Av 13 [14] (h:=?_))))
 refine AI (by kernel_rfl) rfl (by kernel_rfl) (fun K hK=>?_)
 try simp only[List.getElem_toArray,List.getElem_cons_zero,List.getElem_cons_succ]
 go_simp
 skip
 try go_wp2_with fail
 refine hK.out _ _ ?_
 clear hK K
 try simp only[Act.put,List.getElem_toArray,List.getElem_cons_zero,List.getElem_cons_succ,List.setIfInBounds_toArray,List.set_cons_zero,List.set_cons_succ]
 go_end0
 exact⟨rfl,HR.out⟩
theorem A6.begun9(h:A6 B w P F D E):Bg B w P F D {E with sw:= .now} (w.setCell ⟨D.A.e,25,none⟩ (.func (.func 56) #[bp D.A.e] #[])):=by
 obtain⟨h1,o1⟩:=h.sx.setK 25 (.func (.func 56) #[bp D.A.e] #[]) (K':={Bk D E with nx:= .func (.func 56) #[bp D.A.e] #[]}) rfl
 exact h.swept (D':={D with sv:= .func (.func 56) #[bp D.A.e] #[]}) (P':=P) (Q':=F 8) ⟨o1.mono (fun _ _ hb=> .inl hb),AC.refl _ _,AC.refl _ _⟩ (h.hole.pf 8 (by omega)) h1.uQ (h.hole.aF 8 (by omega)) rfl (fun _=>⟨rfl,rfl⟩) (fun _=>rfl) h1.ex rfl ((h.hole.lim (by omega)).far o1 (fun b hb hp=>h.hole.pf 8 (by omega) b hp hb)) (o1.mono (fun b _ hb=> .inl hb)) (AC.refl _ _) (fun b hb=> .inl hb) (fun b hb=>hb)
theorem A6.own_lt(h:A6 B w P F D E){b:Nat}(hb:EI P F D.la b):b<w.heap.size:=by
 rcases hb with x|⟨j,hj,x⟩|x
 ·exact h.ex.uP b x
 ·exact h.hole.uF j (by omega) b x
 ·exact h.hole.uF 8 (by omega) b (h.limF x)
def IQ(B:Nat)(w:World)(P:Nat→Prop)(F:Nat→Nat→Prop)(D:DB)(E:En)(r:Ending)(w':World):Prop:=r= .returned (.bool E.sweep.1)∧Bg B w P F D E.sweep.2 w'
theorem N5(h:A6 B w P F D E)(hf:As N E)(hN:256≤N)(hN2:N≤30000000):Calls Tryz.prog 28 #[bp D.A.e] w (IQ B w P F D E):=by
 obtain⟨hfr,hsm⟩:=FJ hf hN
 have hmf:∀(fn:Go.Fn) (first cap:Array Value) (w:World),(Instr.makeFunc fn first cap).run Tryz.prog w= .ok (.func fn first cap) w:=fun _ _ _ _=>rfl
 obtain⟨b0,hb0⟩:=Ad w.heap.size
 obtain⟨W1,hW1⟩:=Ad (w.alloc (.cells #[bp D.A.e] 39))
 have o01:Ac w W1:=by rw[hW1];exact(Ac.refl w).alloc _
 have B0:Am W1 b0 39 #[bp D.A.e]:=by rw[hW1,hb0];exact Am.new _ _ _
 have h1:=h.only0 o01
 have CC:=Ey h1.ex.sh.ar
 obtain⟨cn,hcn⟩:=Ad E.sh.a.cnt
 rw[←hcn]at CC
 obtain⟨b1,hb1⟩:=Ad W1.heap.size
 obtain⟨W2,hW2⟩:=Ad (W1.alloc (.cells #[cn] 3))
 have o12:Ac W1 W2:=by rw[hW2];exact(Ac.refl W1).alloc _
 have B1:Am W2 b1 3 #[cn]:=by rw[hW2,hb1];exact Am.new _ _ _
 have o02:=o01.trans o12
 have h2:=h.only0 o02
 have B02:=o12.blk B0 (fun f=>f)
 have n0:¬EI P F D.la b0:=fun hb=>by have:=h.own_lt hb;omega
 have n1:¬EI P F D.la b1:=fun hb=>by have:=h.own_lt hb;have:=o01.size;omega
 have ca1:=h1.sx.ca
 have c01:=Ae W1 b0 0 (bp D.A.e) (B0.cell 0)
 have c02:=Ae W2 b0 0 (bp D.A.e) (B02.cell 0)
 have CG:Calls Tryz.prog 55 #[bp D.A.e] W2 (LI B W2 P F D E):=by
  cases hl:E.lim with
  |nil=>exact(J5 h2 hl).mono (fun r w' q=> .inl ⟨q.1,by unfold En.give;rw[hl],by rw[←q.2];exact Ac.refl _⟩)
  |cons p l=>exact Ji h2 hf hN2 hl
 have HH:=Aa (And.intro hf (And.intro hfr (And.intro hsm hcn)))
 have H2:=Aa (And.intro h2 (And.intro o02 (And.intro B02 (And.intro B1 (And.intro n0 n1)))))
 have FIN:Hid (∀(w3:World) (b:Bool),E.sweepRaw.1=b→Bg B W2 P F D E.sweepRaw.2 w3→∃P3 F3 D3,A6 B w3 P3 F3 D3 E.sweepRaw.2∧Ab w3 b0 0 (bp D3.A.e)∧Ab w3 b1 0 (.int .i64 cn)∧∀w4,Bg B w3 P3 F3 D3 {E.sweepRaw.2 with looks:=wrap64 (E.sweepRaw.2.looks+wrap64 (E.sweepRaw.2.sh.a.cnt-cn))} w4→IQ B w P F D E (.returned (.bool b)) w4):=Aa (by
  intro w3 b hb hr
  have hr':=hr
  obtain⟨P3,F3,D3,h3,e3,o3,g3,f3⟩:=hr
  refine⟨P3,F3,D3,h3,by rw[e3];exact AH o3 (H2.out.2.2.1.cell 0) H2.out.2.2.2.2.1,AH o3 (H2.out.2.2.2.1.cell 0) H2.out.2.2.2.2.2,fun w4 h4=>⟨by rw[←hb];rfl,Bg.pre H2.out.2.1 ?_⟩⟩
  have e9:({E.sweepRaw.2 with looks:=wrap64 (E.sweepRaw.2.looks+wrap64 (E.sweepRaw.2.sh.a.cnt-cn))}:En)=E.sweep.2:=by
   unfold En.sweep;rw[HH.out.2.2.1.looks,HH.out.2.2.2]
  rw[e9]at h4
  obtain⟨P4,F4,D4,k4,q4,oo4,g4,f4⟩:=h4
  exact⟨P4,F4,D4,k4,q4.trans e3,o3.grewTrans g3 oo4,g3.trans g4 o3.size,fun b hb=>f4 b (f3 b hb)⟩)
 clear h h1 h2 hf hfr hsm hcn B0 B1 B02 o01 o12 o02 n0 n1
 go_enter_defers Tryz.func28,Tryz.ntmps28
 go_upto_region 1 with(fail)
 rw[←hW1,←hb0]
 clear hW1 hb0
 go_wp2_with fail
 refine CC.mono ?_
 rintro e1 w1 ⟨rfl,rfl⟩
 clear CC
 go_upto_region 2 with(fail)
 rw[←hW2,←hb1]
 clear hW2 hb1 ca1 c01
 go_wp2_with fail
 refine CG.mono ?_
 rintro r w3 hg
 clear CG c02
 rcases hg with⟨rfl,hn,o3⟩|⟨rfl,E1,hs,g1⟩
 ·have h3:=H2.out.1.only0 o3
  have k0:=Ae w3 b0 0 (bp D.A.e) ((o3.blk H2.out.2.2.1 (fun f=>f)).cell 0)
  have cx:=Ae w3 D.A.e 25 D.sv h3.sx.cx
  have er:E.sweepRaw=E.sweep1 E.sw:=by unfold En.sweepRaw;rw[hn]
  by_cases hi:E.sw= .idle
  ·have hsv:=h3.hole.sw (by omega)
   rw[hi]at hsv
   rw[show D.sv= .nilFunc from hsv]at cx
   have zf:=h3.sx.zf 25
   have heq0:∀wz:World,(binOp .eql 26 .nilFunc .nilFunc).run Tryz.prog wz= .ok (.bool true) wz:=fun wz=>by kernel_rfl
   obtain⟨w4,hw4⟩:=Ad (w3.setCell ⟨D.A.e,25,none⟩ (.func (.func 56) #[bp D.A.e] #[]))
   have hb4:=h3.begun9
   rw[←hw4]at hb4
   obtain⟨P4,F4,D4,h4,e4,o4,g4,f4⟩:=hb4
   have hf0:=HH.out.1
   have hf4:As N {E with sw:= .now}:=⟨hf0.sh,hf0.pm,hf0.made,hf0.seq,hf0.looks,hf0.none,hf0.tx,hf0.cl,trivial,hf0.low,hf0.lim,hf0.llen⟩
   obtain⟨fn,bnd,cap,hv,hbc,hcf,CT⟩:=NM h4 hf4 hN2 (by simp)
   have c4:=Ae w4 D.A.e 25 (.func (.func fn) bnd cap) (by have:=h4.sx.cx;rw[e4]at this;rw[this];show some D4.sv=_;rw[hv])
   have k4:=Ae w4 b0 0 (bp D.A.e) (AH o4 k0 (fun hb=>H2.out.2.2.2.2.1 hb))
   have H4:=Aa (And.intro o3 (And.intro e4 (And.intro o4 (And.intro g4 f4))))
   have HER:Hid (E.sweepRaw=({E with sw:= .now}:En).sweep1 ({E with sw:= .now}:En).sw):=Aa (by rw[er,hi];rfl)
   clear h3 hsv h4 e4 o4 g4 f4 hf0 hf4 hv o3 hn er hi
   go_upto_region 7 with(fail)
   rw[←hw4]
   clear hw4 cx zf k0
   go_wp2_with fail
   refine CT.mono ?_
   rintro r w5 ⟨rfl,r5⟩
   clear CT hcf
   have r35:Bg B W2 P F D E.sweepRaw.2 w5:=Bg.pre H4.out.1 (by
    obtain⟨P5,F5,D5,k5,q5,oo5,g5,f5⟩:=r5
    rw[HER.out]
    exact⟨P5,F5,D5,k5,q5.trans H4.out.2.1,H4.out.2.2.1.grewTrans H4.out.2.2.2.1 oo5,H4.out.2.2.2.1.trans g5 H4.out.2.2.1.size,fun b hb=>f5 b (H4.out.2.2.2.2 b hb)⟩)
   obtain⟨P9,F9,D9,h9,c9,d9,K9⟩:=FIN.out w5 _ (by rw[HER.out]) r35
   have HK:=Aa K9
   clear K9 FIN r35 r5 c4 k4 HER H4
   exact SK
  ·have hsa:=h3.hole.sw (by omega)
   obtain⟨fn,bnd,cap,hv,hbc,hcf,CT⟩:=NM h3 HH.out.1 hN2 hi
   rw[hv]at cx
   have heq:∀wz:World,(binOp .eql 26 (.func (.func fn) bnd cap) .nilFunc).run Tryz.prog wz= .ok (.bool false) wz:=fun wz=>by kernel_rfl
   have H4:=Aa o3
   have HER:=Aa er
   clear h3 hsa hv o3 hn er hi
   go_wp2_with fail
   refine CT.mono ?_
   rintro r w5 ⟨rfl,r5⟩
   clear CT hcf
   have r35:Bg B W2 P F D E.sweepRaw.2 w5:=Bg.pre H4.out (by rw[HER.out];exact r5)
   obtain⟨P9,F9,D9,h9,c9,d9,K9⟩:=FIN.out w5 _ (by rw[HER.out]) r35
   have HK:=Aa K9
   clear K9 FIN r35 r5 cx k0 HER H4 heq
   exact SK
 ·have er:E.sweepRaw=(true,E1):=by unfold En.sweepRaw;rw[hs]
  obtain⟨P9,F9,D9,h9,c9,d9,K9⟩:=FIN.out w3 true (by rw[er]) (by rw[er];exact g1)
  have HK:=Aa K9
  clear K9 hs g1 FIN er
  exact SK
end
end
section
attribute [local go_sem ↓] Go.wp_at_zero Go.wp_at_succ
section
variable {B N x e:Nat} {w w':World} {U T:Nat→Prop} {M:GR} {X:Bh} {E:En}
theorem Kh(h:DG B w U T e E)(hf:As N E)(hN:256≤N)(hN2:N≤30000000):
 Calls Tryz.prog 28 #[bp e] w fun r w'=>r= .returned (.bool E.sweep.1)∧KQ B w U T e E.sweep.2 w':=by
 obtain⟨P,F,D,h1,rfl,h3,h4⟩:=h
 refine(N5 h1 hf hN hN2).mono ?_
 rintro r w' ⟨rfl,q⟩
 exact⟨rfl,DG.res h3 h4 h1 rfl q⟩
def Bh.do_(X:Bh)(kind s level:Int)(o:DS):Bh:=if kind=0 then X.begin s level else if kind=1 then X.issue s o else if kind=6 then X.sweep else X.step s
theorem Ci.do_(h:Ci N X)(hN:256≤N)(hN2:N≤30000000)(kind s level:Int)(o:DS):Ci (N+81) (X.do_ kind s level o):=by
 unfold Bh.do_
 split
 ·exact(h.begin s level).mono (by omega)
 ·split
  ·exact(h.issue hN s o).mono (by omega)
  ·split
   ·exact(h.sweep hN hN2).mono (by omega)
   ·exact h.step hN hN2 s
theorem RN(h:AY B w U x e M X)(hk:Ci N X)(hN:256≤N)(hN2:N+1≤30000000)(pk ps pl ok oy oh ov:Int)(hp:pk=0):
 Calls Tryz.prog 52 #[bp x,.agg #[pk,ps,pl,ok,oy,oh,ov]] w fun r w'=>r= .returned (.bool true)∧Bd B w U x e M (X.begin ps pl) w':=by
 obtain⟨W,hW⟩:=Ad (w.alloc (.cells #[pk,ps,pl,ok,oy,oh,ov] 158))
 obtain⟨n0,hn0⟩:=Ad w.heap.size
 have B0:Am W n0 158 #[pk,ps,pl,ok,oy,oh,ov]:=by rw[hW,hn0];exact Am.new _ _ _
 have oW:Ac w W:=by rw[hW];exact(Ac.refl w).alloc _
 have c0:=Ae W n0 0 (.int .i64 pk) (B0.cell 0)
 have c1:=Ae W n0 1 (.int .i64 ps) (B0.cell 1)
 have c2:=Ae W n0 2 (.int .i64 pl) (B0.cell 2)
 have c3:=Ae W n0 3 (.int .i64 ok) (B0.cell 3)
 have c4:=Ae W n0 4 (.int .i64 oy) (B0.cell 4)
 have c5:=Ae W n0 5 (.int .i64 oh) (B0.cell 5)
 have c6:=Ae W n0 6 (.int .i64 ov) (B0.cell 6)
 have hA:=h.only0 oW
 subst hp
 have CC:=Ol hA hk hN2 ps pl
 have HO:=Aa (And.intro h oW)
 clear h hk B0 oW hA
 go_enter Tryz.func52,Tryz.ntmps52
 go_upto_region 1 with(fail)
 rw[←hW,←hn0]
 clear hW hn0
 go_wp2_with fail
 refine CC.mono ?_
 rintro r w2 ⟨rfl,hg⟩
 have HG:=Aa hg
 clear CC hg c0 c1 c2 c3 c4 c5 c6
 go_wp2_with fail
 go_ret
 exact⟨rfl,Bd.then (HO.out.2.any _) (AC.refl _ _) HG.out⟩
theorem RB(h:AY B w U x e M X)(hk:Ci N X)(hN:256≤N)(hN2:N+1≤30000000)(pk ps pl ok oy oh ov:Int)(hp:pk=1):
 Calls Tryz.prog 52 #[bp x,.agg #[pk,ps,pl,ok,oy,oh,ov]] w fun r w'=>r= .returned (.bool true)∧Bd B w U x e M (X.issue ps ⟨ok,oy,oh,ov⟩) w':=by
 obtain⟨W,hW⟩:=Ad (w.alloc (.cells #[pk,ps,pl,ok,oy,oh,ov] 158))
 obtain⟨n0,hn0⟩:=Ad w.heap.size
 have B0:Am W n0 158 #[pk,ps,pl,ok,oy,oh,ov]:=by rw[hW,hn0];exact Am.new _ _ _
 have oW:Ac w W:=by rw[hW];exact(Ac.refl w).alloc _
 have c0:=Ae W n0 0 (.int .i64 pk) (B0.cell 0)
 have c1:=Ae W n0 1 (.int .i64 ps) (B0.cell 1)
 have c2:=Ae W n0 2 (.int .i64 pl) (B0.cell 2)
 have c3:=Ae W n0 3 (.int .i64 ok) (B0.cell 3)
 have c4:=Ae W n0 4 (.int .i64 oy) (B0.cell 4)
 have c5:=Ae W n0 5 (.int .i64 oh) (B0.cell 5)
 have c6:=Ae W n0 6 (.int .i64 ov) (B0.cell 6)
 have hA:=h.only0 oW
 subst hp
 have CC:=JQ hA hk hN (by omega) ps ok oy oh ov
 have HO:=Aa (And.intro h oW)
 clear h hk B0 oW hA
 go_enter Tryz.func52,Tryz.ntmps52
 go_upto_region 1 with(fail)
 rw[←hW,←hn0]
 clear hW hn0
 go_wp2_with fail
 refine CC.mono ?_
 rintro r w2 ⟨rfl,hg⟩
 have HG:=Aa hg
 clear CC hg c0 c1 c2 c3 c4 c5 c6
 go_wp2_with fail
 go_ret
 exact⟨rfl,Bd.then (HO.out.2.any _) (AC.refl _ _) HG.out⟩
theorem Rp(h:AY B w U x e M X)(hk:Ci N X)(hN:256≤N)(hN2:N+1≤30000000)(pk ps pl ok oy oh ov:Int)(hp:pk≠0∧pk≠1∧pk≠6):
 Calls Tryz.prog 52 #[bp x,.agg #[pk,ps,pl,ok,oy,oh,ov]] w fun r w'=>r= .returned (.bool true)∧Bd B w U x e M (X.step ps) w':=by
 obtain⟨W,hW⟩:=Ad (w.alloc (.cells #[pk,ps,pl,ok,oy,oh,ov] 158))
 obtain⟨n0,hn0⟩:=Ad w.heap.size
 have B0:Am W n0 158 #[pk,ps,pl,ok,oy,oh,ov]:=by rw[hW,hn0];exact Am.new _ _ _
 have oW:Ac w W:=by rw[hW];exact(Ac.refl w).alloc _
 have c0:=Ae W n0 0 (.int .i64 pk) (B0.cell 0)
 have c1:=Ae W n0 1 (.int .i64 ps) (B0.cell 1)
 have c2:=Ae W n0 2 (.int .i64 pl) (B0.cell 2)
 have c3:=Ae W n0 3 (.int .i64 ok) (B0.cell 3)
 have c4:=Ae W n0 4 (.int .i64 oy) (B0.cell 4)
 have c5:=Ae W n0 5 (.int .i64 oh) (B0.cell 5)
 have c6:=Ae W n0 6 (.int .i64 ov) (B0.cell 6)
 have hA:=h.only0 oW
 have b0:(pk==0)=false:=by simpa using hp.1
 have b1:(pk==1)=false:=by simpa using hp.2.1
 have b6:(pk==6)=false:=by simpa using hp.2.2
 clear hp
 have CC:=LB hA hk hN (by omega) ps
 have HO:=Aa (And.intro h oW)
 clear h hk B0 oW hA
 go_enter Tryz.func52,Tryz.ntmps52
 go_upto_region 1 with(fail)
 rw[←hW,←hn0]
 clear hW hn0
 go_wp2_with fail
 refine CC.mono ?_
 rintro r w2 ⟨rfl,hg⟩
 have HG:=Aa hg
 clear CC hg c0 c1 c2 c3 c4 c5 c6
 go_wp2_with fail
 go_ret
 exact⟨rfl,Bd.then (HO.out.2.any _) (AC.refl _ _) HG.out⟩
theorem Rm(h:AY B w U x e M X)(hk:Ci N X)(hN:256≤N)(hN2:N+1≤30000000)(pk ps pl ok oy oh ov:Int)(hp:pk=6):
 Calls Tryz.prog 52 #[bp x,.agg #[pk,ps,pl,ok,oy,oh,ov]] w fun r w'=>r= .returned (.bool true)∧Bd B w U x e M (X.sweep) w':=by
 obtain⟨W,hW⟩:=Ad (w.alloc (.cells #[pk,ps,pl,ok,oy,oh,ov] 158))
 obtain⟨n0,hn0⟩:=Ad w.heap.size
 have B0:Am W n0 158 #[pk,ps,pl,ok,oy,oh,ov]:=by rw[hW,hn0];exact Am.new _ _ _
 have oW:Ac w W:=by rw[hW];exact(Ac.refl w).alloc _
 have c0:=Ae W n0 0 (.int .i64 pk) (B0.cell 0)
 have c1:=Ae W n0 1 (.int .i64 ps) (B0.cell 1)
 have c2:=Ae W n0 2 (.int .i64 pl) (B0.cell 2)
 have c3:=Ae W n0 3 (.int .i64 ok) (B0.cell 3)
 have c4:=Ae W n0 4 (.int .i64 oy) (B0.cell 4)
 have c5:=Ae W n0 5 (.int .i64 oh) (B0.cell 5)
 have c6:=Ae W n0 6 (.int .i64 ov) (B0.cell 6)
 have hA:=h.only0 oW
 subst hp
 have CL:=Bf hA.en
 have CS:=Kh hA.en hk.fine hN (by omega)
 obtain⟨q1,q2,q3,q4⟩:=EU hk.fine hN (by omega)
 have hl:=hk.fine.looks
 obtain⟨L0,hL0⟩:=Ad X.E.looks
 obtain⟨L1,hL1⟩:=Ad X.E.sweep.2.looks
 rw[←hL0]at CL hl
 have hLL:L1=L0∨L1=L0+1:=by rw[hL0,hL1];exact q2
 have ew:IntKind.i64.wrap (L0+1)=L0+1:=by rw[IntKind.wrap_i64];omega
 have hle:L1≤L0+1:=by omega
 have HL1:=Aa hL1
 have cE:=hA.cE
 have HO:=Aa (And.intro hA oW)
 clear h hk B0 oW hA q1 q2 q3 q4 hL0 hL1 hLL
 go_enter Tryz.func52,Tryz.ntmps52
 go_upto_region 1 with(fail)
 rw[←hW,←hn0]
 clear hW hn0
 go_wp2_with fail
 refine CL.mono ?_
 rintro r w2 ⟨rfl,rfl⟩
 clear CL
 go_wp2_with fail
 refine CS.mono ?_
 rintro r w2 ⟨rfl,hg⟩
 obtain⟨U2,h2,o2,k2⟩:=Bd.eng HO.out.1 hg
 have CL2:=Bf h2.en
 rw[show({X with E:=X.E.sweep.2}:Bh).E.looks=L1 from HL1.out.symm]at CL2
 have cE2:=h2.cE
 have HG:=Aa (And.intro h2 (And.intro o2 k2))
 clear CS hg c0 c1 c2 c3 c4 c5 c6 h2 o2 k2 cE
 go_wp2_with fail
 refine CL2.mono ?_
 rintro r w3 ⟨rfl,rfl⟩
 clear CL2 cE2
 go_wp2_with fail
 go_ret
 exact⟨by simp[hle],Bd.then (HO.out.2.any _) (AC.refl _ _) ⟨U2,M,HG.out⟩⟩
theorem RZ(h:AY B w U x e M X)(hk:Ci N X)(hN:256≤N)(hN2:N+1≤30000000)(pk ps pl ok oy oh ov:Int):
 Calls Tryz.prog 52 #[bp x,.agg #[pk,ps,pl,ok,oy,oh,ov]] w fun r w'=>r= .returned (.bool true)∧Bd B w U x e M (X.do_ pk ps pl ⟨ok,oy,oh,ov⟩) w':=by
 unfold Bh.do_
 split
 ·next q=>exact RN h hk hN hN2 pk ps pl ok oy oh ov q
 ·split
  ·next q=>exact RB h hk hN hN2 pk ps pl ok oy oh ov q
  ·split
   ·next q=>exact Rm h hk hN hN2 pk ps pl ok oy oh ov q
   ·next q0 q1 q6=>exact Rp h hk hN hN2 pk ps pl ok oy oh ov ⟨q0,q1,q6⟩
end
end
section
def En.runs(E:En)(s:Int):Nat→Option (Dt×En)
 |0=>none
 |n+1=>if(E.step s).1.kind=3 then some ((E.step s).1.r,(E.step s).2.2)else if(E.step s).1.kind=1 then(E.step s).2.2.runs s n else none
theorem En.runs_fine{N:Nat}(hN:256≤N):∀(n:Nat) {E:En} {s:Int} {r:Dt} {E2:En},As N E→N+81*n≤30000000→E.runs s n=some (r,E2)→As (N+81*n) E2∧r.pairs.length≤N+81*n
 |0,E,s,r,E2,_,_,h=>by cases h
 |n+1,E,s,r,E2,hf,hN2,h=>by
  unfold En.runs at h
  rcases Ej hf hN (by omega) s with⟨_,hi⟩|⟨_,_,hi⟩|⟨hs,hb,t,c,k,d,E',he,hi,hf2,hlk,hmd,hoth,hd⟩
  ·rw[hi]at h;simp[LH.zero]at h
  ·rw[hi]at h;simp[LH.zero]at h
  ·rw[hi]at h
   dsimp only at h
   split at h
   ·next hk=>
    cases h
    refine⟨hf2.mono (by omega),?_⟩
    rcases hd with⟨hr,t',c',k',_,_,hw⟩|⟨_,_,hp,_⟩|⟨_,_,hp,_⟩
    ·omega
    ·omega
    ·omega
   ·split at h
    ·have:=En.runs_fine (N:=N+81) (by omega) n hf2 (by omega) h
     exact⟨this.1.mono (by omega),by omega⟩
    ·cases h
inductive MI(s:Int):En→List DS→List Dt→En→Nat→Prop
 |nil (E:En):MI s E [] [] E 0
 |last {E E1 E2:En} {o:DS} {l:List DS} {r:Dt} {n:Nat} (hi:E.issue s o=(0,E1)) (hn:n≤300000) (hr:E1.runs s n=some (r,E2)) (ho:r.over≠0):MI s E (o::l) [r] E2 (80+81*n)
 |more {E E1 E2 E3:En} {o:DS} {l:List DS} {r:Dt} {rs:List Dt} {n m:Nat} (hi:E.issue s o=(0,E1)) (hn:n≤300000) (hr:E1.runs s n=some (r,E2)) (ho:r.over=0) (h:MI s E2 l rs E3 m):MI s E (o::l) (r::rs) E3 (80+81*n+m)
theorem MI.inv{s:Int}{E E':En}{o:DS}{l:List DS}{rs:List Dt}{m:Nat}(h:MI s E (o::l) rs E' m):∃E1 E2 r n,E.issue s o=(0,E1)∧n≤300000∧E1.runs s n=some (r,E2)∧
 ((r.over≠0∧rs=[r]∧E'=E2∧m=80+81*n)∨(r.over=0∧∃rs' m',rs=r::rs'∧MI s E2 l rs' E' m'∧m=80+81*n+m')):=by
 cases h with
 |last hi hn hr ho=>exact⟨_,_,_,_,hi,hn,hr,.inl ⟨ho,rfl,rfl,rfl⟩⟩
 |more hi hn hr ho h=>exact⟨_,_,_,_,hi,hn,hr,.inr ⟨ho,_,_,rfl,h,rfl⟩⟩
theorem MI.inv0{s:Int}{E E':En}{rs:List Dt}{m:Nat}(h:MI s E [] rs E' m):rs=[]∧E'=E:=by
 cases h
 exact⟨rfl,rfl⟩
end
section
attribute [local go_sem ↓] Go.wp_at_zero Go.wp_at_succ
theorem Mg(w:World):Calls Tryz.prog 82 #[.int .i64 8,.int .i64 256] w fun r w'=>r= .returned (.int .i64 13824000)∧w=w':=by
 go_enter Tryz.func82,Tryz.ntmps82
 go_wp2_with fail
 go_ret
 exact⟨rfl,rfl⟩
section
variable {B N e:Nat} {w w':World} {U T:Nat→Prop} {E:En}
theorem DG.less{T':Nat→Prop}(h:DG B w U T e E)(hT:∀b,T' b→T b):DG B w U T' e E:=by
 obtain⟨P,F,D,h1,h2,h3,h4⟩:=h
 exact⟨P,F,D,h1,h2,h3,fun b hb=>h4 b (hT b hb)⟩
theorem Ah.box{S:Nat→Prop}{w W w9:World}{n0:Nat}(oW:Ah S w W)(hn:w.heap.size≤n0)(o9:Ah (fun c=>c=n0) W w9):Ah S w w9:=
 ⟨o9.os.trans oW.os,o9.tape.trans oW.tape,o9.output.trans oW.output,Nat.le_trans oW.size o9.size,fun k hk hs=>(o9.block k (Nat.lt_of_lt_of_le hk oW.size) (by omega)).trans (oW.block k hk hs)⟩
def Se(B:Nat)(w:World)(U T:Nat→Prop)(e:Nat)(rr:Dt)(E':En)(r:Ending)(w':World):Prop:=
 ∃a c U',r= .returned (.tuple #[.agg #[.int .i64 rr.e,.int .i64 rr.value,.slice a rr.pairs.length c,.int .i64 rr.over,.int .i64 rr.reason],.int .i64 0])∧DG B w' U' T e E'∧Ah U w w'∧AC w.heap.size U U'∧AV w' a rr.pairs∧∀x,a=some x→w.heap.size≤x.block∧x.block<w'.heap.size∧¬U' x.block
theorem Rx(h:DG B w U T e E)(hf:As N E)(hN:256≤N)(s ok oy oh ov:Int){E1 E2:En}{rr:Dt}(hi:E.issue s ⟨ok,oy,oh,ov⟩=(0,E1))(n:Nat)(hn:n≤300000)(hN2:N+80+81*n≤30000000)(hr:E1.runs s n=some (rr,E2)):
 Calls Tryz.prog 43 #[bp e,.int .i64 s,.agg #[ok,oy,oh,ov]] w (Se B w U T e rr E2):=by
 have hf1:As (N+80) E1:=by have:=Du hf hN s ⟨ok,oy,oh,ov⟩;rw[hi]at this;exact this
 obtain⟨W,hW⟩:=Ad ((w.alloc (.cells #[ok,oy,oh,ov] 37)).alloc (.cells #[.int .i64 0,.int .i64 0,.slice none 0 0,.int .i64 0,.int .i64 0] 64))
 obtain⟨n0,hn0⟩:=Ad w.heap.size
 have oW:Ac w W:=by rw[hW];exact((Ac.refl w).alloc _).alloc _
 have BO:Am W n0 37 #[ok,oy,oh,ov]:=by rw[hW,hn0];exact(Am.new _ _ _).alloc _
 have BR:Am W (n0+1) 64 #[.int .i64 0,.int .i64 0,.slice none 0 0,.int .i64 0,.int .i64 0]:=by rw[hW,hn0];exact Am.new' _ _ _ _ (by simp)
 have uT:=h.underT
 obtain⟨T1,hT1⟩:∃T1:Nat→Prop,T1=fun b=>T b∨b=n0+1:=⟨_,rfl⟩
 have hA:DG B W U T1 e E:=h.turn (T':=T1) (oW.any T) (fun b hb=>by rw[hT1]at hb;exact hb.imp (fun y=>y) (fun y=>by omega)) (fun b hb=>by
  rw[hT1]at hb
  rcases hb with y|y
  ·exact Nat.lt_of_lt_of_le (uT b y) oW.size
  ·rw[y];exact BR.lt)
 have nU:¬U (n0+1):=fun q=>by have:=h.under _ q;omega
 have CI:=DN hA hf hN (by omega) s ok oy oh ov
 rw[hi]at CI
 replace CI:Calls Tryz.prog 37 #[bp e,.int .i64 s,.agg #[ok,oy,oh,ov]] W fun r w'=>r= .returned (.int .i64 0)∧KQ B W U T1 e E1 w':=CI
 obtain⟨p1,p2,p3,p4⟩:=Gj BO
 have HH:=Aa (And.intro oW (And.intro BR (And.intro nU (And.intro hf1 (And.intro hr (And.intro hA (And.intro hT1 (show w.heap.size=n0 from hn0.symm))))))))
 clear h hf hi hr hf1 oW BO BR hA nU uT hT1
 go_enter Tryz.func43,Tryz.ntmps43
 go_upto_region 1 with(fail)
 rw[←hW,←hn0]
 clear hW hn0
 go_wp2_with fail
 refine CI.mono ?_
 rintro r w1 ⟨rfl,g1⟩
 clear CI p1 p2 p3 p4
 obtain⟨U1,h1,o1,k1⟩:=g1
 have B1:=o1.blk HH.out.2.1 HH.out.2.2.1
 have n1:¬U1 (n0+1):=fun q=>by
  rcases k1 _ q with y|y
  ·exact HH.out.2.2.1 y
  ·have:=HH.out.2.1.lt;omega
 have H1:=Aa (And.intro h1 (And.intro o1 (And.intro k1 (And.intro B1 n1))))
 clear h1 o1 k1 B1 n1
 go_wp2_with fail
 refine(Mg w1).mono ?_
 rintro r w2 ⟨rfl,rfl⟩
 go_wp2_with fail
 go_loopw [9,10,20] (fun s9 s10 s20 wr=>∃(q:Nat) (v9 v10:Value) (Eq:En) (Uq:Nat→Prop),s9=v9∧s10=v10∧s20= .int .i64 q∧q≤n∧Hid (DG B wr Uq T1 e Eq∧As (N+80+81*q) Eq∧Eq.runs s (n-q)=some (rr,E2)∧Ah U1 w1 wr∧AC w1.heap.size U1 Uq∧Am wr (n0+1) 64 #[.int .i64 0,.int .i64 0,.slice none 0 0,.int .i64 0,.int .i64 0]∧¬Uq (n0+1))) (fun _ _ s20 _=>13824000-(intOf s20).toNat)
 case atStart=>exact⟨0,_,_,E1,U1,rfl,rfl,rfl,by omega,Aa ⟨H1.out.1,by simpa using HH.out.2.2.2.1,by simpa using HH.out.2.2.2.2.1,Ah.refl _ _,AC.refl _ _,H1.out.2.2.2.1,H1.out.2.2.2.2⟩⟩
 case round=>
  obtain⟨q,v9,v10,Eq,Uq,rfl,rfl,rfl,hq,HR⟩:=hrel
  have hqn:q<n:=by
   rcases Nat.lt_or_ge q n with y|y
   ·exact y
   ·have:=HR.out.2.2.1;rw[show n-q=0 by omega]at this;cases this
  have hlt:(q:Int)<13824000:=by omega
  have hf9:=HR.out.2.1
  have CS:=Eu HR.out.1 hf9 (by omega) (by omega) s
  have hr9:=HR.out.2.2.1
  rw[show n-q=(n-(q+1))+1 by omega]at hr9
  unfold En.runs at hr9
  rcases Ej hf9 (by omega) (by omega) s with⟨_,hi⟩|⟨_,_,hi⟩|⟨hs,hb,t,c,k,d,E',he,hi,hf2,hlk,hmd,hoth,hd⟩
  ·rw[hi]at hr9;simp[LH.zero]at hr9
  ·rw[hi]at hr9;simp[LH.zero]at hr9
  rw[hi]at CS hr9
  obtain⟨kd,re,rv,rp,ro,rn⟩:=d
  dsimp only at hr9
  have HF2:=Aa hf2
  clear hi hf2 hlk hmd hoth hd hs hb he hf9
  replace CS:Calls Tryz.prog 36 #[bp e,s] wr (EY B wr Uq T1 e ⟨kd,⟨re,rv,rp,ro,rn⟩⟩ 0 E'):=CS
  by_cases hk:kd=3
  ·subst hk
   rw[if_pos rfl]at hr9
   have HRR:=Aa hr9
   clear hr9
   go_wp2_with fail
   refine CS.mono ?_
   rintro r w3 ⟨pa,pc,U3,rfl,h3,o3,g3,pi3,pf3⟩
   clear CS
   obtain⟨n3,hn3⟩:=Ad w3.heap.size
   obtain⟨W3,hW3⟩:=Ad (w3.alloc (.cells #[.int .i64 3,re,rv,.slice pa rp.length pc,ro,rn] 129))
   have B3:Am W3 n3 129 #[.int .i64 3,re,rv,.slice pa rp.length pc,ro,rn]:=by rw[hW3,hn3];exact Am.new _ _ _
   have o3W:Ac w3 W3:=by rw[hW3];exact(Ac.refl w3).alloc _
   have BQ:Am W3 (n0+1) 64 #[.int .i64 0,.int .i64 0,.slice none 0 0,.int .i64 0,.int .i64 0]:=o3W.blk (o3.blk HR.out.2.2.2.2.2.1 HR.out.2.2.2.2.2.2) (fun f=>f)
   obtain⟨d1,d2,d3,d4,d5,d6⟩:=GQ B3
   have c0:=Ae W3 (n0+1) 0 (.int .i64 0) (BQ.cell 0)
   have c1:=Ae W3 (n0+1) 1 (.int .i64 0) (BQ.cell 1)
   have c2:=Ae W3 (n0+1) 2 (.slice none 0 0) (BQ.cell 2)
   have c3:=Ae W3 (n0+1) 3 (.int .i64 0) (BQ.cell 3)
   have c4:=Ae W3 (n0+1) 4 (.int .i64 0) (BQ.cell 4)
   have cfr:=fun i=>BQ.free i
   have hU3:¬U3 (n0+1):=fun q=>by
    exact Vb
   have H3:=Aa (And.intro (h3.only0 o3W) (And.intro o3 (And.intro g3 (And.intro o3W (And.intro BQ (And.intro pi3 (And.intro pf3 hU3)))))))
   clear h3 o3 g3 B3 o3W BQ pi3 pf3 hU3
   go_upto_region 7 with(fail)
   rw[←hW3,←hn3]
   clear hW3 hn3
   go_wp2_with fail
   obtain⟨B9,o9⟩:=Rb H3.out.2.2.2.2.1 (.int .i64 re) (.int .i64 rv) (.slice pa rp.length pc) (.int .i64 ro) (.int .i64 rn)
   refine bodyPost_ret (BB Tryz.results43 _ _ (n0+1) _ _ _ _ (.int .i64 0) rfl rfl B9 Tryz.underlying64 rfl JV) rfl ?_
   have hEE:(⟨re,rv,rp,ro,rn⟩:Dt)=rr∧E'=E2:=by have:=HRR.out;simp only[Option.some.injEq,Prod.mk.injEq]at this;exact this
   obtain⟨e1,e2⟩:=hEE
   subst e1
   subst e2
   obtain⟨w9,hw9⟩:=Ad ((((((W3.setCell ⟨n0+1,0,none⟩ (.int .i64 re)).setCell ⟨n0+1,1,none⟩ (.int .i64 rv)).setCell ⟨n0+1,2,none⟩ (.slice pa rp.length pc)).setCell ⟨n0+1,3,none⟩ (.int .i64 ro)).setCell ⟨n0+1,4,none⟩ (.int .i64 rn)))
   rw[←hw9]at o9 ⊢
   obtain⟨q1,q2,q3,q4,q5,q6,q7,q8⟩:=HH.out
   obtain⟨k1,k2,k3,k4,k5⟩:=H1.out
   obtain⟨l1,l2,l3,l4,l5,l6,l7⟩:=HR.out
   obtain⟨m1,m2,m3,m4,m5,m6,m7,m8⟩:=H3.out
   have gW:AC w.heap.size U U1:=fun b hb=>(k3 b hb).imp (fun z=>z) (Nat.le_trans q1.size)
   have o1:Ah U w w1:=(q1.any U).trans k2
   have o2:Ah U w wr:=o1.grewTrans gW l4
   have g2:AC w.heap.size U Uq:=gW.trans l5 o1.size
   have o3:Ah U w W3:=(o2.grewTrans g2 m2).trans (m4.any U)
   have uT:=q6.underT
   refine⟨pa,pc,U3,rfl,(m1.turn (T':=T1) (o9.mono (fun b _ hb=>by rw[q7];exact .inr hb)) (fun b hb=> .inl hb) (fun b hb=>Nat.lt_of_lt_of_le (m1.underT b hb) o9.size)).less (fun b hb=>by rw[q7];exact .inl hb),o3.box (by omega) o9,g2.trans m3 o2.size,?_,fun y hy=>⟨Nat.le_trans o2.size (m7 y hy).1,Nat.lt_of_lt_of_le (m7 y hy).2.1 (Nat.le_trans m4.size o9.size),(m7 y hy).2.2⟩⟩
   exact(m6.only (S:=fun _=>False) m4 (fun _ _ f=>f)).only o9 (fun y hy f=>by have:=(m7 y hy).1;have:=l6.lt;omega)
  ·rw[if_neg hk]at hr9
   by_cases hk1:kd=1
   ·subst hk1
    rw[if_pos rfl]at hr9
    have HRR:=Aa hr9
    clear hr9 hk
    go_wp2_with fail
    refine CS.mono ?_
    rintro r w3 ⟨pa,pc,U3,rfl,h3,o3,g3,pi3,pf3⟩
    clear CS
    obtain⟨n3,hn3⟩:=Ad w3.heap.size
    obtain⟨W3,hW3⟩:=Ad (w3.alloc (.cells #[.int .i64 1,re,rv,.slice pa rp.length pc,ro,rn] 129))
    have B3:Am W3 n3 129 #[.int .i64 1,re,rv,.slice pa rp.length pc,ro,rn]:=by rw[hW3,hn3];exact Am.new _ _ _
    have o3W:Ac w3 W3:=by rw[hW3];exact(Ac.refl w3).alloc _
    have BQ:Am W3 (n0+1) 64 #[.int .i64 0,.int .i64 0,.slice none 0 0,.int .i64 0,.int .i64 0]:=o3W.blk (o3.blk HR.out.2.2.2.2.2.1 HR.out.2.2.2.2.2.2) (fun f=>f)
    obtain⟨d1,d2,d3,d4,d5,d6⟩:=GQ B3
    have hU3:¬U3 (n0+1):=fun q=>by
     exact Vb
    have HN:Hid (DG B W3 U3 T1 e E'∧As (N+80+81*(q+1)) E'∧E'.runs s (n-(q+1))=some (rr,E2)∧Ah U1 w1 W3∧AC w1.heap.size U1 U3∧Am W3 (n0+1) 64 #[.int .i64 0,.int .i64 0,.slice none 0 0,.int .i64 0,.int .i64 0]∧¬U3 (n0+1)):=Lib.hid
     ⟨h3.only0 o3W,HF2.out.mono (by omega),HRR.out,HR.out.2.2.2.1.grewTrans HR.out.2.2.2.2.1 (o3.trans (o3W.any _)),HR.out.2.2.2.2.1.trans g3 HR.out.2.2.2.1.size,BQ,hU3⟩
    clear h3 o3 g3 B3 o3W BQ pi3 pf3 hU3 HRR HF2
    go_upto_region 7 with(fail)
    rw[←hW3,←hn3]
    clear hW3 hn3
    go_wp2_with fail
    go_roundw
    case rel=>exact⟨q+1,_,_,E',U3,rfl,rfl,by go_num,by omega,HN⟩
    case measure=>simp[intOf];omega
   ·rw[if_neg hk1]at hr9;cases hr9
end
end
section
attribute [local go_sem ↓] Go.wp_at_zero Go.wp_at_succ
instance:Inhabited DS:=⟨⟨0,0,0,0⟩⟩
def RQ(o:DS):List Value:=[.int .i64 o.kind,.int .i64 o.key,.int .i64 o.hi,.int .i64 o.value]
def DJ(l:List DS):List Value:=DI (fun i=>RQ (l.getD i default)) l.length
theorem BH(l:List DS):(DJ l).length=l.length*4:=BF (w:=4) (c:=fun i=>RQ (l.getD i default)) (fun i=>rfl) _
theorem EJ(l:List DS){i f:Nat}(hi:i<l.length)(hf:f<4):(DJ l)[i*4+f]? =(RQ (l.getD i default))[f]? :=Bu (w:=4) (c:=fun i=>RQ (l.getD i default)) (fun i=>rfl) l.length i f hi hf
theorem IH{α:Type}{a b:List α}(h:∀j:Nat,a[j]? =b[j]?):a=b:=List.ext_getElem? h
theorem Mf(l m:List DS):DJ (l++m)=DJ l++DJ m:=by
 have e4:∀x,x<4→∀i,i<l.length+m.length→(DJ (l++m))[i*4+x]? =(DJ l++DJ m)[i*4+x]? :=fun x hx i hi=>by
  rw[EJ _ (by simpa using hi) hx]
  by_cases hl:i<l.length
  ·rw[List.getElem?_append_left (by rw[BH];omega),EJ _ hl hx]
   congr 2
   rw[List.getD_eq_getElem?_getD,List.getD_eq_getElem?_getD,List.getElem?_append_left hl]
  ·rw[List.getElem?_append_right (by rw[BH];omega),BH,show i*4+x-l.length*4=(i-l.length)*4+x by omega,EJ _ (by omega) hx]
   congr 2
   rw[List.getD_eq_getElem?_getD,List.getD_eq_getElem?_getD,List.getElem?_append_right (by omega)]
 refine IH (fun j=>?_)
 by_cases hj:j<(l.length+m.length)*4
 ·have:=e4 (j%4) (by omega) (j/4) (by omega)
  rw[show j/4*4+j%4=j by omega]at this
  exact this
 ·rw[List.getElem?_eq_none (by rw[BH];simp;omega),List.getElem?_eq_none (by rw[List.length_append,BH,BH];omega)]
theorem IW(l:List DS)(u:Value)(hu:u∈DJ l):u.oneCell'=true:=by
 obtain⟨j,hj,e⟩:=List.getElem_of_mem hu
 rw[BH]at hj
 have:=EJ l (i:=j/4) (f:=j%4) (by omega) (by omega)
 rw[show j/4*4+j%4=j by omega,List.getElem?_eq_getElem (by rw[BH];exact hj),e]at this
 have h4:j%4<4:=by omega
 unfold RQ at this
 match h:j%4,h4 with
 |0,_=>rw[h]at this;simp at this;rw[this];rfl
 |1,_=>rw[h]at this;simp at this;rw[this];rfl
 |2,_=>rw[h]at this;simp at this;rw[this];rfl
 |3,_=>rw[h]at this;simp at this;rw[this];rfl
def Vc(w wr:World)(n q:Nat)(sz:Int):Prop:=w=wr∧((q=0∧sz=0)∨(q=1∧sz=n)∨(q=2∧sz=n+1))
def Vd(w wr:World)(n:Nat)(l:List DS)(o:DS)(q m:Nat)(ga:Option Addr)(gc:Nat):Prop:=(q=0∧m=0∧Hid (wr.ownsRow w.heap.size 37 4 (.slice ga m gc) m []))∨(q=1∧m=n∧Hid (wr.ownsRow w.heap.size 37 4 (.slice ga m gc) m (DJ l)))∨(q=2∧m=n+1∧Hid (wr.ownsRow w.heap.size 37 4 (.slice ga m gc) m (DJ (l++[o]))))
def DH(w:World)(a:Option Addr)(l:List DS):Prop:=(a=none∧l=[])∨∃ad,a=some ad∧∀j u,(DJ l)[j]? =some u→w.cell? (ad.add j)=some u
theorem DH.only{w w':World}{S:Nat→Prop}{a:Option Addr}{l:List DS}(h:DH w a l)(o:Ah S w w')(hs:l≠[]→∀ad,a=some ad→¬S ad.block):DH w' a l:=by
 rcases h with h|⟨ad,h1,h2⟩
 ·exact .inl h
 ·refine .inr ⟨ad,h1,fun j u hu=>?_⟩
  have hne:l≠[]:=fun e=>by subst e;simp[DJ,DI]at hu
  have hb:(ad.add j).block=ad.block:=by unfold Addr.add;split<;>rfl
  exact AH o (h2 j u hu) (by rw[hb];exact hs hne ad h1)
theorem DH.only0{w w':World}{a:Option Addr}{l:List DS}(h:DH w a l)(o:Ac w w'):DH w' a l:=h.only (S:=fun _=>False) o (fun _ _ _ f=>f)
theorem DH.one{w:World}{n:Nat}{o:DS}(h:Am w n 37 #[o.kind,o.key,o.hi,o.value]):DH w (some ⟨n,0,none⟩) [o]:=by
 refine .inr ⟨_,rfl,fun j u hu=>?_⟩
 rw[Addr.add_lit,Nat.zero_add,h.cell]
 have hj:j<4:=by have:=(List.getElem?_eq_some_iff.1 hu).1;rw[BH]at this;simpa using this
 match j,hj with
 |0,_=>exact hu
 |1,_=>exact hu
 |2,_=>exact hu
 |3,_=>exact hu
theorem Ln:(Tryz.prog.info? 37).map (fun i=>(i.zero,i.size,i.bytes))=some (some (.agg #[.int .i64 0,.int .i64 0,.int .i64 0,.int .i64 0]),4,32):=by kernel_rfl
theorem O0(n:Nat)(h0:0<n)(h1:n≤1000000)(w:World):Calls Tryz.prog 81 #[.slice none 0 0,n] w fun r w'=>∃cap,r= .returned (.slice (some ⟨w.heap.size,0,none⟩) 0 cap)∧w'.ownsRow w.heap.size 37 4 (.slice (some ⟨w.heap.size,0,none⟩) 0 cap) 0 []∧Ac w w':=by
 obtain⟨i,hi,hz0,hz1,hz2⟩:=info_parts Ln
 have ht:Tryz.prog.underlying 32=some (.slice 37):=Tryz.underlying32
 have hr:=fun(ty:TypeId)=>Lib.run_append_nil_zeros (P:=Tryz.prog) w 32 3 ty 37 i _ .i64 .i64 ht Tryz.underlying3 hi hz0 n h0 (by rw[hz1];omega) (by omega) (by rw[hz2];omega)
 have hge:=grownCap_ge w n 0 37
 have hcm:grownCap w n 0 37≤maxLen:=grownCap_le_maxLen w n 0 37 (by unfold maxLen;omega)
 have g1:¬((n:Int)<0):=by omega
 have g2:(n:Int)>0:=by omega
 have ew:IntKind.i64.wrap ((n:Int)-0)=n:=by rw[IntKind.wrap_i64];omega
 have HF:=Aa (show ∃cap,(Ending.returned (.slice (some ⟨w.heap.size,0,none⟩) 0 (grownCap w n 0 37))= .returned (.slice (some ⟨w.heap.size,0,none⟩) 0 cap))∧(w.drew.alloc (.cells (Builtin.zeroCells (Value.agg #[.int .i64 0,.int .i64 0,.int .i64 0,.int .i64 0]).cells n++Builtin.zeroCells (Value.agg #[.int .i64 0,.int .i64 0,.int .i64 0,.int .i64 0]).cells (grownCap w n 0 37-n)) 37)).ownsRow w.heap.size 37 4 (.slice (some ⟨w.heap.size,0,none⟩) 0 cap) 0 []∧Ac w (w.drew.alloc (.cells (Builtin.zeroCells (Value.agg #[.int .i64 0,.int .i64 0,.int .i64 0,.int .i64 0]).cells n++Builtin.zeroCells (Value.agg #[.int .i64 0,.int .i64 0,.int .i64 0,.int .i64 0]).cells (grownCap w n 0 37-n)) 37)) from
  ⟨_,rfl,World.ownsRow_made w.drew _ _ (Nat.le_refl _) hcm (by simp only[Array.size_append,size_zeroCells];show n*4+(grownCap w n 0 37-n)*4=_;omega),((Ac.refl w).drew).alloc _⟩)
 generalize grownCap w n 0 37=cap at *
 go_enter Tryz.func81,Tryz.ntmps81
 go_wp2_with (at_builtin;refine Lib.wpList_append_run _ rfl _ _ _ _ rfl _ _ rfl rfl _ _ (hr _) ?_)
 go_ret
 exact HF.out
theorem KA{w:World}{a:Option Addr}{c:Nat}{l:List DS}(hl:DH w a l)(hln:l.length≤10000)(hc:l=[]→c=0∨a≠none){n1 n2:Nat}{o:DS}(h1:DH w (some ⟨n1,0,none⟩) [o])(c0:w.cell? ⟨n2,0,none⟩=some (.slice a l.length c))(c1:w.cell? ⟨n2,1,none⟩=some (.slice (some ⟨n1,0,none⟩) 1 1)):
 Calls Tryz.prog 42 #[.slice (some ⟨n2,0,none⟩) 2 2] w fun r w'=>∃g cap,r= .returned (.slice (some ⟨g,0,none⟩) (l.length+1) cap)∧w'.ownsRow w.heap.size 37 4 (.slice (some ⟨g,0,none⟩) (l.length+1) cap) (l.length+1) (DJ (l++[o]))∧Ac w w':=by
 obtain⟨i,hi,hz0,hz1,hz2⟩:=info_parts Ln
 obtain⟨n,hn⟩:=Ad l.length
 rw[←hn]at c0 ⊢
 have hln9:n≤10000:=by rw[hn];exact hln
 have HH:=Aa (And.intro hl (And.intro h1 (And.intro hn hc)))
 clear hl h1 hn hc hln
 go_enter Tryz.func42,Tryz.ntmps42
 go_wp2_with fail
 go_loopw [3,5,11] (fun s3 s5 s11 wr=>∃(q:Nat) (v5:Value) (sz:Int),s5=v5∧s11= .int .i64 q∧s3= .int .i64 sz∧Hid (Vc w wr n q sz)) (fun _ _ s11 _=>2-(intOf s11).toNat)
 case atStart=>exact⟨0,_,0,rfl,rfl,rfl,Aa ⟨rfl,.inl ⟨rfl,rfl⟩⟩⟩
 case round=>
  obtain⟨q,v5,sz,rfl,rfl,rfl,HQ⟩:=hrel
  obtain⟨ew9,hq⟩:=HQ.out
  subst ew9
  clear HQ
  rcases hq with⟨rfl,rfl⟩|⟨rfl,rfl⟩|⟨rfl,rfl⟩
  ·have ew:IntKind.i64.wrap (0+(n:Int))=n:=by rw[IntKind.wrap_i64];omega
   have g1:¬((n:Int)<0):=by omega
   go_wp2_with fail
   go_roundw
   case rel=>exact⟨1,_,n,rfl,by go_num,rfl,Aa ⟨rfl,.inr (.inl ⟨rfl,rfl⟩)⟩⟩
   case measure=>simp[intOf]
  ·have ew:IntKind.i64.wrap ((n:Int)+1)=n+1:=by rw[IntKind.wrap_i64];omega
   have g1:¬((n:Int)+1<0):=by omega
   go_wp2_with fail
   go_roundw
   case rel=>exact⟨2,_,(n:Int)+1,rfl,by go_num,rfl,Aa ⟨rfl,.inr (.inr ⟨rfl,rfl⟩)⟩⟩
   case measure=>simp[intOf]
  ·have CG:=O0 (n+1) (by omega) (by omega) w
   rw[show(((n+1:Nat)):Int)=(n:Int)+1 by omega]at CG
   go_wp2_with fail
   refine CG.mono ?_
   rintro r w2 ⟨cap,rfl,hown,o2⟩
   clear CG
   obtain⟨g0,hg0⟩:=Ad w.heap.size
   rw[←hg0]at hown ⊢
   have d0:=Ai o2 c0
   have d1:=Ai o2 c1
   have HC0:=Aa (And.intro c0 c1)
   have H0:=Aa (And.intro hown (And.intro o2 hg0))
   clear hown o2 hg0 c0 c1
   go_wp2_with fail
   go_loopw [6,8,27] (fun s6 s8 s27 wr=>∃(q m:Nat) (v8:Value) (ga:Option Addr) (gc:Nat),s8=v8∧s27= .int .i64 q∧s6= .slice ga m gc∧Hid (Ac w wr)∧Hid (Vd w wr n l o q m ga gc)) (fun _ _ s27 _=>2-(intOf s27).toNat)
   case atStart=>exact⟨0,0,_,_,_,rfl,rfl,rfl,Aa H0.out.2.1,Aa (.inl ⟨rfl,rfl,Aa (by rw[←H0.out.2.2];exact H0.out.1)⟩)⟩
   case round=>
    obtain⟨q,m,v8,ga,gc,rfl,rfl,rfl,HO,HQ⟩:=hrel
    have hq:=HQ.out
    clear H0 d0 d1 HQ
    have d0:=Ai HO.out HC0.out.1
    have d1:=Ai HO.out HC0.out.2
    rcases hq with⟨rfl,rfl,HW⟩|⟨rfl,rfl,HW⟩|⟨rfl,rfl,HW⟩
    ·have hown:=HW.out
     have hOp:=HH.out.1.only0 HO.out
     have HA:=Aa hOp
     clear hOp
     go_wp2_with (at_builtin;go_loud (refine Et _ rfl _ _ 32 rfl w.heap.size 37 i _ 4 32 Tryz.underlying32 hi hz0 hz1 hz2 rfl (by omega) (.slice ga 0 gc) 0 [] rfl hown a n c (DJ l) rfl ?c1 ?c2 ?c3 ?c4 ?c5 ?c6 ?c7 n (by omega) ?_))
     case c1=>rw[BH,HH.out.2.2.1]
     case c2=>intro e;subst e;rcases HA.out with⟨_,q⟩|⟨ad,q,_⟩;{subst q;exact⟨HH.out.2.2.1,(HH.out.2.2.2 rfl).elim (fun z=>z) (fun z=>absurd rfl z)⟩};{cases q}
     case c3=>intro ad e;rcases HA.out with⟨q,_⟩|⟨ad',q,q2⟩;{rw[q]at e;cases e};{rw[q]at e;cases e;exact q2}
     case c4=>intro u hu;exact IW l u hu
     case c5=>unfold maxLen;omega
     case c6=>omega
     case c7=>exact HO.out.size
     intro a' c' w3 hown3 hg3
     have HN:=Aa (And.intro ((HO.out).grown hg3 (fun b hb=>(hown.lt b hb).1)) hown3)
     clear hown HW HA hown3 hg3
     go_wp2_with fail
     go_roundw
     case rel=>exact⟨1,n,_,a',c',rfl,by go_num,rfl,Aa HN.out.1,Aa (.inr (.inl ⟨rfl,rfl,Aa HN.out.2⟩))⟩
     case measure=>simp[intOf]
    ·have hown:=HW.out
     have HA:=Aa (HH.out.2.1.only0 HO.out)
     go_wp2_with (at_builtin;refine Et _ rfl _ _ 32 rfl w.heap.size 37 i _ 4 32 Tryz.underlying32 hi hz0 hz1 hz2 rfl (by omega) (.slice ga m gc) m (DJ l) rfl hown (some ⟨n1,0,none⟩) 1 1 (DJ [o]) rfl ?c1 ?c2 ?c3 ?c4 ?c5 ?c6 ?c7 (m+1) (by omega) ?_)
     case c1=>rw[BH];rfl
     case c2=>intro e;cases e
     case c3=>intro ad e;rcases HA.out with⟨q,_⟩|⟨ad',q,q2⟩;{cases q};{cases e;cases q;exact q2}
     case c4=>intro u hu;exact IW [o] u hu
     case c5=>unfold maxLen;omega
     case c6=>omega
     case c7=>exact HO.out.size
     intro a' c' w3 hown3 hg3
     have HN:=Aa (And.intro ((HO.out).grown hg3 (fun b hb=>(hown.lt b hb).1)) hown3)
     clear hown HW HA hown3 hg3
     go_wp2_with fail
     go_roundw
     case rel=>exact⟨2,m+1,_,a',c',rfl,by go_num,rfl,Aa HN.out.1,Aa (.inr (.inr ⟨rfl,rfl,Aa (by have:=HN.out.2;rw[←Mf]at this;exact this)⟩))⟩
     case measure=>simp[intOf]
    ·obtain⟨g,cap,hv,_,_⟩:=HW.out.form (by omega)
     injection hv with v1 v2 v3
     subst v1
     subst v3
     clear v2
     have HN:=Aa (And.intro HW.out HO.out)
     clear HW d0 d1
     go_wp2_with fail
     go_ret
     exact⟨g,_,rfl,HN.out⟩
theorem JR(a:Option Addr)(n c:Nat)(w:World)(h1:n≤c)(h2:c≤9223372036854775807):
 Calls Tryz.prog 44 #[.slice a n c] w fun r w'=>r= .returned (.slice a n n)∧w=w':=by
 have g1:(n:Int)≤c:=by omega
 have g2:(n:Int)≤n:=by omega
 cases a with
 |none=>
  exact TK
 |some a=>
  exact TK
end
section
attribute [local go_sem ↓] Go.wp_at_zero Go.wp_at_succ
instance:Inhabited Dt:=⟨.zero⟩
def EZ(rs:List Dt)(pa:Nat→Option Addr)(pc:Nat→Nat):List Value:=DI (fun i=>Gi (rs.getD i default) (pa i) (pc i)) rs.length
theorem Em(rs:List Dt)(pa:Nat→Option Addr)(pc:Nat→Nat):(EZ rs pa pc).length=rs.length*5:=BF (w:=5) (c:=fun i=>Gi (rs.getD i default) (pa i) (pc i)) (fun i=>rfl) _
theorem E7(rs:List Dt)(pa:Nat→Option Addr)(pc:Nat→Nat){i f:Nat}(hi:i<rs.length)(hf:f<5):(EZ rs pa pc)[i*5+f]? =(Gi (rs.getD i default) (pa i) (pc i))[f]? :=Bu (w:=5) (c:=fun i=>Gi (rs.getD i default) (pa i) (pc i)) (fun i=>rfl) rs.length i f hi hf
def GO{α:Type}(f:Nat→α)(n:Nat)(x:α):Nat→α:=fun i=>if i=n then x else f i
theorem JH(rs:List Dt)(r:Dt)(pa:Nat→Option Addr)(pc:Nat→Nat)(a:Option Addr)(c:Nat):EZ (rs++[r]) (GO pa rs.length a) (GO pc rs.length c)=EZ rs pa pc++Gi r a c:=by
 refine IH (fun j=>?_)
 by_cases hj:j<rs.length*5+5
 ·have hf:j%5<5:=by omega
  have e:j/5*5+j%5=j:=by omega
  by_cases hl:j/5<rs.length
  ·rw[←e,List.getElem?_append_left (by rw[Em];omega),E7 _ _ _ (by simp;omega) hf,E7 _ _ _ hl hf,List.getD_eq_getElem?_getD,List.getElem?_append_left hl,←List.getD_eq_getElem?_getD,GO,GO,if_neg (by omega),if_neg (by omega)]
  ·have e2:j/5=rs.length:=by omega
   have h1:=E7 (rs++[r]) (GO pa rs.length a) (GO pc rs.length c) (i:=j/5) (f:=j%5) (by simp;omega) hf
   rw[e]at h1
   rw[h1,List.getElem?_append_right (by rw[Em];omega),Em,e2,show j-rs.length*5=j%5 by omega,GO,GO,if_pos rfl,if_pos rfl,List.getD_eq_getElem?_getD]
   simp
 ·rw[List.getElem?_eq_none (by rw[Em];simp;omega),List.getElem?_eq_none (by rw[List.length_append,Em];show rs.length*5+5≤j;omega)]
theorem L4:(Tryz.prog.info? 64).map (fun i=>(i.zero,i.size,i.bytes))=some (some (.agg #[.int .i64 0,.int .i64 0,.slice none 0 0,.int .i64 0,.int .i64 0]),5,56):=by kernel_rfl
structure Kw(H:Nat)(w:World)(V:Nat→Prop)(oa:Option Addr)(oc:Nat)(rs:List Dt)(pa:Nat→Option Addr)(pc:Nat→Nat):Prop where
 row:w.ownsRow H 64 5 (.slice oa rs.length oc) rs.length (EZ rs pa pc)
 pr:∀i,i<rs.length→AV w (pa i) (rs.getD i default).pairs∧∀x,pa i=some x→(rs.getD i default).pairs≠[]→¬V x.block∧¬AL oa x.block∧x.block<w.heap.size
theorem Kw.nil(H:Nat)(w:World)(V:Nat→Prop):Kw H w V none 0 [] (fun _=>none) (fun _=>0):=⟨World.ownsRow_nil _ _ _ _,fun i hi=>by simp at hi⟩
theorem DE{a:Option Addr}{n c b:Nat}:AA (.slice a n c) b↔AL a b:=by
 unfold AA AL Value.ownBlock
 cases a with
 |none=>simp
 |some x=>simp
theorem Kw.far{H:Nat}{w w':World}{V V':Nat→Prop}{oa:Option Addr}{oc:Nat}{rs:List Dt}{pa:Nat→Option Addr}{pc:Nat→Nat}(h:Kw H w V oa oc rs pa pc)(o:Ah V w w')(g:AC w.heap.size V V')(hV:AR V (AL oa)):Kw H w' V' oa oc rs pa pc:=by
 refine⟨AD h.row o (fun b hb hv=>hV b hv (DE.1 hb)),fun i hi=>?_⟩
 obtain⟨q1,q2⟩:=h.pr i hi
 refine⟨?_,fun x hx hne=>⟨fun hv=>?_,(q2 x hx hne).2.1,Nat.lt_of_lt_of_le (q2 x hx hne).2.2 o.size⟩⟩
 ·by_cases e:(rs.getD i default).pairs=[]
  ·exact .inl e
  ·exact q1.only o (fun x hx=>(q2 x hx e).1)
 ·rcases g x.block hv with y|y
  ·exact(q2 x hx hne).1 y
  ·have:=(q2 x hx hne).2.2;omega
theorem Kw.only0{H:Nat}{w w':World}{V:Nat→Prop}{oa:Option Addr}{oc:Nat}{rs:List Dt}{pa:Nat→Option Addr}{pc:Nat→Nat}(h:Kw H w V oa oc rs pa pc)(o:Ac w w'):Kw H w' V oa oc rs pa pc:=by
 refine⟨AD (S:=fun _=>False) h.row o (fun _ _ f=>f),fun i hi=>?_⟩
 obtain⟨q1,q2⟩:=h.pr i hi
 exact⟨q1.only (S:=fun _=>False) o (fun _ _ f=>f),fun x hx hne=>⟨(q2 x hx hne).1,(q2 x hx hne).2.1,Nat.lt_of_lt_of_le (q2 x hx hne).2.2 o.size⟩⟩
theorem Kw.push{H:Nat}{w w1:World}{V:Nat→Prop}{oa:Option Addr}{oc:Nat}{rs:List Dt}{pa:Nat→Option Addr}{pc:Nat→Nat}(h:Kw H w V oa oc rs pa pc){r:Dt}{a:Option Addr}{c:Nat}(hp:AV w a r.pairs)(hpn:∀x,a=some x→r.pairs≠[]→¬V x.block∧¬AL oa x.block∧x.block<w.heap.size){gg cap:Nat}
 (hown:w1.ownsRow H 64 5 (.slice (some ⟨gg,0,none⟩) (rs.length+1) cap) (rs.length+1) (EZ rs pa pc++Gi r a c)) (hg:w.grownBy w1 (Value.slice oa rs.length oc).ownBlock) (hat:(Value.slice oa rs.length oc).ownBlock=some gg∨w.heap.size≤gg) (hlt:gg<w1.heap.size):
 Kw H w1 V (some ⟨gg,0,none⟩) cap (rs++[r]) (GO pa rs.length a) (GO pc rs.length c):=by
 have o:Ah (AL oa) w w1:=⟨hg.os,hg.tape,hg.output,hg.size,fun b hb hn=>hg.block b hb (fun e=>hn (DE.1 (show AA (.slice oa rs.length oc) b from e.symm)))⟩
 have hat':∀b,AL (some ⟨gg,0,none⟩) b→AL oa b∨w.heap.size≤b:=fun b ⟨x,e1,e2⟩=>by
  exact TR
 have one:∀(a:Option Addr) (ps:List (Int×Int)),AV w a ps→(∀x,a=some x→ps≠[]→¬V x.block∧¬AL oa x.block∧x.block<w.heap.size)→AV w1 a ps∧∀x,a=some x→ps≠[]→¬V x.block∧¬AL (some ⟨gg,0,none⟩) x.block∧x.block<w1.heap.size:=fun a ps q1 q2=>by
  refine⟨?_,fun x hx hne=>⟨(q2 x hx hne).1,fun hl=>?_,Nat.lt_of_lt_of_le (q2 x hx hne).2.2 o.size⟩⟩
  ·by_cases e:ps=[]
   ·exact .inl e
   ·exact q1.only o (fun x hx=>(q2 x hx e).2.1)
  ·rcases hat' _ hl with y|y
   ·exact(q2 x hx hne).2.1 y
   ·have:=(q2 x hx hne).2.2;omega
 refine⟨?_,fun i hi=>?_⟩
 ·rw[JH,List.length_append,List.length_singleton];exact hown
 ·rw[List.length_append,List.length_singleton]at hi
  by_cases e:i=rs.length
  ·subst e
   rw[GO,if_pos rfl,show(rs++[r]).getD rs.length default=r by rw[List.getD_eq_getElem?_getD];simp]
   exact one a _ hp hpn
  ·rw[GO,if_neg e,show(rs++[r]).getD i default=rs.getD i default by rw[List.getD_eq_getElem?_getD,List.getElem?_append_left (by omega),←List.getD_eq_getElem?_getD]]
   exact one _ _ (h.pr i (by omega)).1 (h.pr i (by omega)).2
def MT(w:World)(H:Nat)(oa:Option Addr)(rs:List Dt):Prop:=rs=[]∨∃g,oa=some ⟨g,0,none⟩∧H≤g∧g<w.heap.size∧∀i,i<rs.length→∃pa pc,AV w pa (rs.getD i default).pairs∧∀f v,(Gi (rs.getD i default) pa pc)[f]? =some v→w.cell? ⟨g,i*5+f,none⟩=some v
theorem Kw.at_{H:Nat}{w:World}{V:Nat→Prop}{oa:Option Addr}{oc:Nat}{rs:List Dt}{pa:Nat→Option Addr}{pc:Nat→Nat}(h:Kw H w V oa oc rs pa pc):MT w H oa rs∧rs.length≤oc∧oc≤9223372036854775807:=by
 have hr:=h.row
 rcases hr.2 with⟨e,h0⟩|⟨g,cap,cur,hv,hgB,hg,hnc,hcm,_⟩
 ·exact Tv
 ·injection hv with e1 e2 e3
  refine⟨.inr ⟨g,e1,hgB,lt_of_block hg,fun i hi=>⟨pa i,pc i,(h.pr i hi).1,fun f v hv=>?_⟩⟩,by omega,by unfold maxLen at hcm;omega⟩
  have hf:f<5:=(List.getElem?_eq_some_iff.1 hv).1
  rw[e1]at hr
  rw[hr.cellAt (i*5+f) (by omega),E7 _ _ _ hi hf]
  exact hv
def Hu(B:Nat)(w:World)(U T:Nat→Prop)(e:Nat)(rs:List Dt)(E2:En)(r:Ending)(w':World):Prop:=
 ∃oa U',r= .returned (.tuple #[.slice oa rs.length rs.length,.int .i64 0])∧DG B w' U' T e E2∧Ah U w w'∧AC w.heap.size U U'∧MT w' w.heap.size oa rs
theorem Ah.news{S V:Nat→Prop}{w W w9:World}(oW:Ah S w W)(hV:∀b,V b→w.heap.size≤b)(o9:Ah V W w9):Ah S w w9:=
 ⟨o9.os.trans oW.os,o9.tape.trans oW.tape,o9.output.trans oW.output,Nat.le_trans oW.size o9.size,fun k hk hs=>(o9.block k (Nat.lt_of_lt_of_le hk oW.size) (fun hv=>by have:=hV k hv;omega)).trans (oW.block k hk hs)⟩
structure St(B N M:Nat)(w wr:World)(U T:Nat→Prop)(e:Nat)(s:Int)(g:Nat)(L:List DS)(rsA:List Dt)(E2:En)(q nq:Nat)(oa:Option Addr)(oc:Nat):Prop where
 lq:∃rsq rest Eq Uq Nq mr pa pc,nq=rsq.length∧rsA=rsq++rest∧MI s Eq (L.drop q) rest E2 mr∧As Nq Eq∧256≤Nq∧Nq+mr≤M∧DG B wr Uq (fun b=>T b∨AL oa b) e Eq∧Kw w.heap.size wr Uq oa oc rsq pa pc∧Ah U w wr∧AC w.heap.size U Uq∧DH wr (some ⟨g,0,none⟩) L∧¬Uq g∧¬AL oa g∧g<wr.heap.size∧w.heap.size≤g∧(∀b,AL oa b→w.heap.size≤b)
theorem II{B N M e:Nat}{w:World}{U T:Nat→Prop}{E E1 E2:En}(h:DG B w U T e E)(hf:As N E)(hN:256≤N)(s level id:Int){a:Option Addr}{c:Nat}{l:List DS}(hl:DH w a l)(hlu:∀x,a=some x→¬U x.block)(hln:l.length≤1000)(hlc:l=[]→c=0∨a≠none)
 (hb:E.begin s level=(id,0,E1)) {rs:List Dt} {m:Nat} (hw:MI s E1 (l++[⟨6,0,0,0⟩]) rs E2 m) (hM:N+1+m≤M) (hM2:M≤30000000):
 Calls Tryz.prog 19 #[bp e,s,level,.slice a l.length c] w (Hu B w U T e rs E2):=by
 obtain⟨j0,hj0,hz0,hz1,hz2⟩:=info_parts L4
 have CB:=Ht h hf (by omega) s level
 rw[hb]at CB
 replace CB:Calls Tryz.prog 34 #[bp e,s,level] w fun r w'=>r= .returned (.tuple #[id,.int .i64 0])∧KQ B w U T e E1 w':=CB
 have hf1:As (N+1) E1:=by have:=D7 hf s level;rw[hb]at this;exact this
 obtain⟨ln,hlnn⟩:=Ad l.length
 rw[←hlnn]
 have hln9:ln≤1000:=by rw[hlnn];exact hln
 have HH:=Aa (And.intro h (And.intro hl (And.intro hlu (And.intro hlc (And.intro hw (And.intro hf1 hlnn))))))
 clear h hf hl hlu hlc hb hw hf1 hlnn hln
 go_enter Tryz.func19,Tryz.ntmps19
 go_wp2_with fail
 refine CB.mono ?_
 rintro r w1 ⟨rfl,U1,h1,o1,k1⟩
 clear CB
 obtain⟨W,hW⟩:=Ad ((w1.alloc (.cells #[.int .i64 6,.int .i64 0,.int .i64 0,.int .i64 0] 37)).alloc (.cells #[.slice a ln c,.slice (some ⟨w1.heap.size,0,none⟩) 1 1] 32))
 obtain⟨n1,hn1⟩:=Ad w1.heap.size
 rw[←hn1]at hW
 have oW:Ac w1 W:=by rw[hW];exact((Ac.refl w1).alloc _).alloc _
 have B1:Am W n1 37 #[.int .i64 6,.int .i64 0,.int .i64 0,.int .i64 0]:=by rw[hW,hn1];exact(Am.new _ _ _).alloc _
 have B2:Am W (n1+1) 32 #[.slice a ln c,.slice (some ⟨n1,0,none⟩) 1 1]:=by rw[hW,hn1];exact Am.new' _ _ _ _ (by simp)
 have CC:=KA (w:=W) ((HH.out.2.1.only o1 (fun _ ad had hu=>HH.out.2.2.1 ad had hu)).only0 oW) (by rw[←HH.out.2.2.2.2.2.2];omega) HH.out.2.2.2.1 (n1:=n1) (n2:=n1+1) (o:=⟨6,0,0,0⟩) (DH.one B1) (by have:=B2.cell 0;rw[←HH.out.2.2.2.2.2.2];exact this) (B2.cell 1)
 rw[←HH.out.2.2.2.2.2.2]at CC
 have H1:=Aa (And.intro (h1.only0 oW) (And.intro (o1.trans (oW.any U)) (And.intro k1 (And.intro o1.size oW.size))))
 clear B1 B2 oW h1 o1 k1
 go_wp2_with fail
 rw[←hn1,←hW]
 clear hW hn1
 refine CC.mono ?_
 rintro r w2 ⟨g,gcap,rfl,hown,o2⟩
 clear CC
 obtain⟨L,hL⟩:=Ad (l++[(⟨6,0,0,0⟩:DS)])
 have hLn:L.length=ln+1:=by rw[hL,HH.out.2.2.2.2.2.2];simp
 have HG:=hown.form (by omega)
 obtain⟨g',cap',hv',hgB,hgL⟩:=HG
 injection hv' with v1 v2 v3
 injection v1 with v1
 injection v1 with v1 v4 v5
 subst v1
 have hOA:DH w2 (some ⟨g,0,none⟩) L:= .inr ⟨_,rfl,fun j u hu=>by
  rw[Addr.add_lit,Nat.zero_add]
  have hlt:=(List.getElem?_eq_some_iff.1 hu).1
  rw[hL]at hu hlt
  rw[hown.cellAt j (by rw[BH]at hlt;rw[HH.out.2.2.2.2.2.2];simpa using hlt)];exact hu⟩
 have HW:Hid (St B N M w w2 U T e s g L rs E2 0 0 none 0):=Aa (by
  obtain⟨q1,q2,q3,q4,q5⟩:=H1.out
  have ow2:Ah U w w2:=q2.trans (o2.any U)
  exact⟨[],rs,E1,U1,N+1,m,_,_,rfl,rfl,by rw[hL];exact HH.out.2.2.2.2.1,HH.out.2.2.2.2.2.1,by omega,hM,(q1.only0 o2).less (fun b hb=>hb.elim (fun y=>y) (fun⟨x,y,_⟩=>by cases y)),Kw.nil _ _ _,ow2,q3,hOA,fun hu=>by
   have:=q1.under g hu;omega,fun⟨x,y,_⟩=>(by cases y),hgL,by have:=ow2.size;have:=q2.size;omega,fun b ⟨x,y,_⟩=>by cases y⟩)
 have HLN:=Aa hLn
 clear H1 hown o2 hOA hgB hgL v2 v3 v4 v5 hL hLn
 go_wp2_with fail
 go_loopw [12,14,15,16,33] (fun s12 s14 s15 s16 s33 wr=>∃(q nq:Nat) (v14 v15 v16:Value) (oa:Option Addr) (oc:Nat),s14=v14∧s15=v15∧s16=v16∧s12= .slice oa nq oc∧s33= .int .i64 q∧q≤ln+1∧nq≤1001∧nq≤q∧Hid (St B N M w wr U T e s g L rs E2 q nq oa oc)) (fun _ _ _ _ s33 _=>1001-(intOf s33).toNat)
 case atStart=>exact⟨0,0,_,_,_,none,0,rfl,rfl,rfl,rfl,rfl,by omega,by omega,by omega,HW⟩
 case round=>
  obtain⟨q,nq,v14,v15,v16,oa,oc,rfl,rfl,rfl,rfl,rfl,hq,hnq,hnqq,HQ⟩:=hrel
  clear HW
  obtain⟨rsq,rest,Eq,Uq,Nq,mr,pa,pc,w1',w2',w3',w4',w5',w6',w7',w8',w9',w10',w11',w12',w13',w14',w15',w16'⟩:=HQ.out.lq
  have endOk:∀(H:rest=[]∧E2=Eq),Hid (∃U',DG B wr U' T e E2∧Ah U w wr∧AC w.heap.size U U'∧MT wr w.heap.size oa rs∧nq=rs.length∧nq≤oc∧oc≤9223372036854775807):=fun H=>Aa (by
   obtain⟨z1,z2⟩:=H
   obtain⟨y1,y2,y3⟩:=w8'.at_
   rw[z1,List.append_nil]at w2'
   exact⟨Uq,by rw[z2];exact w7'.less (fun b hb=> .inl hb),w9',w10',by rw[w2'];exact y1,by rw[w2'];exact w1',by omega,y3⟩)
  by_cases hlt:q<ln+1
  ·have hlt2:(q:Int)<(ln:Int)+1:=by omega
   have hLq:q<L.length:=by have:=HLN.out;omega
   obtain⟨o,hdrop⟩:∃o,L.drop q=o::L.drop (q+1):=⟨L[q],by rw[List.drop_eq_getElem_cons hLq]⟩
   have ho:L.getD q default=o:=by
    have:(L.drop q)[0]? =some o:=by rw[hdrop];rfl
    rw[List.getElem?_drop,Nat.add_zero]at this
    rw[List.getD_eq_getElem?_getD,this];rfl
   rw[hdrop]at w3'
   obtain⟨Ea,Eb,rr,n,hi,hn,hr,hcase⟩:=w3'.inv
   obtain⟨ok,oy,oh,ov⟩:=o
   obtain⟨x0,x1,x2,x3⟩:Ab wr g (q*4) (.int .i64 ok)∧Ab wr g (q*4+1) (.int .i64 oy)∧Ab wr g (q*4+2) (.int .i64 oh)∧Ab wr g (q*4+3) (.int .i64 ov):=by
    rcases w11' with⟨z,_⟩|⟨ad,z,z2⟩
    ·cases z
    ·cases z
     have G:=fun f hf=>EJ L (i:=q) (f:=f) hLq hf
     rw[ho]at G
     have zz:=fun f (hf:f<4) u (hu:(RQ ⟨ok,oy,oh,ov⟩)[f]? =some u)=>z2 (q*4+f) u ((G f hf).trans hu)
     simp only[Addr.add_lit,Nat.zero_add]at zz
     exact⟨zz 0 (by omega) _ rfl,zz 1 (by omega) _ rfl,zz 2 (by omega) _ rfl,zz 3 (by omega) _ rfl⟩
   obtain⟨W3,hW3⟩:=Ad (wr.alloc (.cells #[ok,oy,oh,ov] 37))
   have o3:Ac wr W3:=by rw[hW3];exact(Ac.refl wr).alloc _
   obtain⟨n3,hn3⟩:=Ad wr.heap.size
   have B3:Am W3 n3 37 #[ok,oy,oh,ov]:=by rw[hW3,hn3];exact Am.new _ _ _
   obtain⟨p1,p2,p3,p4⟩:=Gj B3
   have hmr:80+81*n≤mr:=by rcases hcase with⟨_,_,_,z⟩|⟨_,_,_,_,_,z⟩<;>omega
   have CD:=Rx (w7'.only0 o3) w4' w5' s ok oy oh ov hi n hn (by omega) hr
   obtain⟨re,rv,rp,ro,rn⟩:=rr
   have hf9:As (Nq+80+81*n) Eb:=by
    have z:=Du w4' w5' s ⟨ok,oy,oh,ov⟩
    rw[hi]at z
    exact(En.runs_fine (by omega) n z (by omega) hr).1
   have HC:=Aa (And.intro hcase (And.intro hf9 (And.intro o3 (And.intro w1' w2'))))
   have HQ2:=Aa (And.intro w5' (And.intro w6' (And.intro w7' (And.intro w8' (And.intro w9' (And.intro w10' (And.intro w11' (And.intro w12' (And.intro w13' (And.intro w14' (And.intro w15' w16')))))))))))
   clear endOk hdrop ho w3' hi hn hr hcase hf9 B3 w1' w2' w4' w5' w6' w7' w8' w9' w10' w11' w12' w13' w14' w15' w16' o3
   replace CD:Calls Tryz.prog 43 #[bp e,.int .i64 s,.agg #[ok,oy,oh,ov]] W3 (Se B W3 Uq (fun b=>T b∨AL oa b) e ⟨re,rv,rp,ro,rn⟩ Eb):=CD
   go_upto_region 8 with(fail)
   rw[←hW3,←hn3]
   clear hW3 hn3 x0 x1 x2 x3
   go_wp2_with fail
   refine CD.mono ?_
   rintro r w4 ⟨ra,rc,U4,rfl,h4,o4,g4,pi4,pf4⟩
   clear CD p1 p2 p3 p4
   obtain⟨W4,hW4⟩:=Ad (w4.alloc (.cells #[re,rv,.slice ra rp.length rc,ro,rn] 64))
   obtain⟨n4,hn4⟩:=Ad w4.heap.size
   have oW4:Ac w4 W4:=by rw[hW4];exact(Ac.refl w4).alloc _
   have HN4:Hid (∀k,k=n4→w4.heap.size≤k∧wr.heap.size≤k):=Aa (fun k hk=>⟨by omega,by rw[hk,hn4];exact Nat.le_trans HC.out.2.2.1.size o4.size⟩)
   have B4:Am W4 n4 64 #[re,rv,.slice ra rp.length rc,ro,rn]:=by rw[hW4,hn4];exact Am.new _ _ _
   obtain⟨r0,r1,r2,r3,r4⟩:Ab W4 n4 0 (.int .i64 re)∧Ab W4 n4 1 (.int .i64 rv)∧Ab W4 n4 2 (.slice ra rp.length rc)∧Ab W4 n4 3 (.int .i64 ro)∧Ab W4 n4 4 (.int .i64 rn):=⟨B4.cell 0,B4.cell 1,B4.cell 2,B4.cell 3,B4.cell 4⟩
   have HS:Hid (Kw w.heap.size W4 U4 oa oc rsq pa pc∧DG B W4 U4 (fun b=>T b∨AL oa b) e Eb∧Ah U w W4∧AC w.heap.size U U4∧DH W4 (some ⟨g,0,none⟩) L∧¬U4 g∧AV W4 ra rp∧(∀x,ra=some x→rp≠[]→¬U4 x.block∧¬AL oa x.block∧x.block<W4.heap.size)∧wr.heap.size≤W4.heap.size∧(∀b,AL oa b→b<wr.heap.size)):=Aa (by
    obtain⟨y5,y6,y7,y8,y9,y10,y11,y12,y13,y14,y15,y16⟩:=HQ2.out
    have oa1:Ah Uq wr w4:=(HC.out.2.2.1.any Uq).trans o4
    have ap:AR Uq (AL oa):=fun b hb hl=>y7.apart b hb (.inr hl)
    have gg:AC wr.heap.size Uq U4:=fun b hb=>(g4 b hb).imp (fun z=>z) (Nat.le_trans HC.out.2.2.1.size)
    have lim_lt:∀b,AL oa b→b<wr.heap.size:=fun b hb=>y7.underT b (.inr hb)
    refine⟨(y8.far oa1 gg ap).only0 oW4,h4.only0 oW4,(y9.grewTrans y10 oa1).trans (oW4.any U),y10.trans gg y9.size,(y11.only oa1 (fun _ ad had hu=>by cases had;exact y12 hu)).only0 oW4,fun hu=>?_,pi4.only (S:=fun _=>False) oW4 (fun _ _ f=>f),fun x hx _=>?_,Nat.le_trans oa1.size oW4.size,lim_lt⟩
    ·rcases gg g hu with z|z
     ·exact y12 z
     ·omega
    ·obtain⟨z1,z2,z3⟩:=pf4 x hx
     have:=HC.out.2.2.1.size
     exact⟨z3,fun hl=>by have:=lim_lt _ hl;omega,Nat.lt_of_lt_of_le z2 oW4.size⟩)
   clear h4 o4 g4 pi4 pf4 oW4 B4
   go_upto_region 9 with(fail)
   rw[←hW4,←hn4]
   clear hW4 hn4
   obtain⟨W5,hW5⟩:=Ad (W4.alloc (.cells #[re,rv,.slice ra rp.length rc,ro,rn] 64))
   have o5:Ac W4 W5:=by rw[hW5];exact(Ac.refl W4).alloc _
   have hs5:=HS.out.1.only0 o5
   have hnr:=HC.out.2.2.2.1
   have R5:W5.ownsRow w.heap.size 64 5 (.slice oa nq oc) nq (EZ rsq pa pc):=by rw[hnr];exact hs5.row
   have z5:W5.heap.size=W4.heap.size+1:=by rw[hW5];simp
   have hB5:w.heap.size≤W5.heap.size:=Nat.le_trans HS.out.2.2.1.size o5.size
   have nr4:¬(Value.slice oa nq oc).ownBlock=some n4:=fun q=>by
    have hb:=DE.1 (show AA (.slice oa nq oc) n4 from q)
    have h1:=HS.out.2.2.2.2.2.2.2.2.2 n4 hb
    have h2:=R5.lt n4 q
    have h3:=block_lt_of_cell r0
    have h4:=(HN4.out n4 rfl).2
    omega
   have hl5:n4<W5.heap.size:=by have:=block_lt_of_cell r3;have h9:n4<W4.heap.size:=this;omega
   have u3:=Ai o5 r3
   have APP:Hid (∀(gg cap:Nat) (w1:World),w1.ownsRow w.heap.size 64 5 (.slice (some ⟨gg,0,none⟩) (nq+1) cap) (nq+1) (EZ rsq pa pc++[.int .i64 re,.int .i64 rv,.slice ra rp.length rc,.int .i64 ro,.int .i64 rn])→W5.grownBy w1 (Value.slice oa nq oc).ownBlock→((Value.slice oa nq oc).ownBlock=some gg∨gg=W4.heap.size+1)→gg<w1.heap.size→
    (ro=0→St B N M w w1 U T e s g L rs E2 (q+1) (nq+1) (some ⟨gg,0,none⟩) cap)∧(ro≠0→∃U',DG B w1 U' T e E2∧Ah U w w1∧AC w.heap.size U U'∧MT w1 w.heap.size (some ⟨gg,0,none⟩) rs∧nq+1=rs.length∧nq+1≤cap∧cap≤9223372036854775807)):=Aa (by
    intro gg cap w1 h1 h2 h3 h4
    obtain⟨t1,t2,t3,t4,t5,t6,t7,t8,t9,t10⟩:=HS.out
    obtain⟨y5,y6,y7,y8,y9,y10,y11,y12,y13,y14,y15,y16⟩:=HQ2.out
    obtain⟨c1,c2,c3,c4,c5⟩:=HC.out
    subst c4
    have hat:(Value.slice oa rsq.length oc).ownBlock=some gg∨W5.heap.size≤gg:=h3.imp (fun z=>z) (fun z=>by omega)
    have PP:=hs5.push (r:=⟨re,rv,rp,ro,rn⟩) (a:=ra) (c:=rc) (t7.only (S:=fun _=>False) o5 (fun _ _ f=>f)) (fun x hx hne=>⟨(t8 x hx hne).1,(t8 x hx hne).2.1,Nat.lt_of_lt_of_le (t8 x hx hne).2.2 o5.size⟩) h1 h2 hat h4
    have o51:Ah (AL oa) W5 w1:=⟨h2.os,h2.tape,h2.output,h2.size,fun b hb hn=>h2.block b hb (fun e=>hn (DE.1 (show AA (.slice oa rsq.length oc) b from e.symm)))⟩
    have hat':∀b,AL (some ⟨gg,0,none⟩) b→AL oa b∨W5.heap.size≤b:=fun b ⟨x,e1,e2⟩=>by
     cases e1;subst e2
     exact hat.imp (fun e=>DE.1 (show AA (.slice oa rsq.length oc) gg from e)) (fun e=>e)
    have en5:=t2.only0 o5
    have en9:DG B w1 U4 (fun b=>T b∨AL (some ⟨gg,0,none⟩) b) e Eb:=en5.turn (o51.mono (fun b _ hb=> .inr hb)) (fun b hb=>hb.elim (fun z=> .inl (.inl z)) (fun z=>(hat' b z).imp .inr (fun z=>z))) (fun b hb=>by
     rcases hb with z|z
     ·exact Nat.lt_of_lt_of_le (en5.underT b (.inl z)) o51.size
     ·obtain⟨x,e1,e2⟩:=z;cases e1;subst e2;exact h4)
    have ou:Ah U w w1:=Ah.news (t3.trans (o5.any U)) y16 o51
    have hW5:wr.heap.size≤W5.heap.size:=Nat.le_trans t9 o5.size
    have hws:w.heap.size≤wr.heap.size:=y9.size
    refine⟨fun hro=>?_,fun hro=>?_⟩
    ·rcases c1 with⟨z,_⟩|⟨_,rs',m',z1,z2,z3⟩
     ·exact absurd hro z
     ·refine⟨rsq++[⟨re,rv,rp,ro,rn⟩],rs',Eb,U4,Nq+80+81*n,m',_,_,by simp,by rw[c5,z1];simp,z2,c2,by omega,by omega,en9,PP,ou,t4,(t5.only0 o5).only o51 (fun _ ad had hu=>by cases had;exact y13 hu),t6,fun hl=>?_,Nat.lt_of_lt_of_le y14 (Nat.le_trans hW5 o51.size),y15,fun b hb=>?_⟩
      ·rcases hat' g hl with z|z
       ·exact y13 z
       ·omega
      ·rcases hat' b hb with z|z
       ·exact y16 b z
       ·omega
    ·rcases c1 with⟨_,z1,z2,_⟩|⟨z,_⟩
     ·obtain⟨q1,q2,q3⟩:=PP.at_
      rw[←z1,←c5]at q1 q2
      refine⟨U4,by rw[z2];exact en9.less (fun b hb=> .inl hb),ou,t4,q1,by rw[c5,z1];simp,?_,q3⟩
      have:rs.length=rsq.length+1:=by rw[c5,z1];simp
      omega
     ·exact absurd z hro)
   rw[hW5]at R5 z5 hB5 hl5 u3 APP
   clear hW5 o5 hs5 hnr
   go_wp2_with (at_builtin;refine wpList_append_lies _ rfl _ _ 58 rfl w.heap.size 64 j0 _ 5 56 Tryz.underlying58 hj0 hz0 hz1 hz2 rfl (by omega) (.slice oa nq oc) nq (EZ rsq pa pc) rfl R5 ⟨W4.heap.size,0,none⟩ 1 1 [.int .i64 re,.int .i64 rv,.slice ra rp.length rc,.int .i64 ro,.int .i64 rn] rfl rfl (World.news_of_block (cs:=#[.int .i64 re,.int .i64 rv,.slice ra rp.length rc,.int .i64 ro,.int .i64 rn]) (t:=64) (fr:=(0,0)) (heap_alloc_new W4 _)) (by simp[Value.oneCell']) (by omega) (by unfold maxLen;omega) (by omega) hB5 (W4.heap.size+1) (by simp) ?_)
   intro gg cap w5 hown5 hgrow5 hat5 hlt5
   have z3:=(hgrow5.cell_far ⟨n4,3,none⟩ hl5 (fun q=>nr4 q.symm)).trans u3
   have HAP:=Aa (APP.out gg cap w5 hown5 hgrow5 hat5 hlt5)
   clear APP hown5 hgrow5 hat5 hlt5 R5 z5 hB5 hl5 u3 nr4 r0 r1 r2 r3 r4
   by_cases hro:ro=0
   ·subst hro
    have HN:=Aa (HAP.out.1 rfl)
    clear HAP
    go_wp2_with fail
    go_roundw
    case rel=>exact⟨q+1,nq+1,_,_,_,_,cap,rfl,rfl,rfl,rfl,by go_num,by omega,by omega,by omega,HN⟩
    case measure=>simp[intOf];omega
   ·have hro2:(ro != 0)=true:=by simpa using hro
    have hro3:(ro==0)=false:=by simpa using hro
    obtain⟨U',e1,e2,e3,e4,e5,e6,e7⟩:=HAP.out.2 hro
    have HN:=Aa (And.intro e1 (And.intro e2 (And.intro e3 e4)))
    have HE:=Aa e5
    clear HAP e1 e2 e3 e4 e5
    go_wp2_with fail
    refine(JR _ (nq+1) cap _ e6 e7).mono ?_
    exact Sg
  ·obtain rfl:q=ln+1:=by omega
   have hd:L.drop (ln+1)=[]:=List.drop_of_length_le (by rw[HLN.out];omega)
   rw[hd]at w3'
   obtain⟨z1,z2⟩:=w3'.inv0
   obtain⟨U',e1,e2,e3,e4,e5,e6,e7⟩:=(endOk ⟨z1,z2⟩).out
   have HN:=Aa (And.intro e1 (And.intro e2 (And.intro e3 e4)))
   have HE:=Aa e5
   clear endOk w1' w2' w3' w4' w5' w6' w7' w8' w9' w10' w11' w12' w13' w14' w15' w16' hd z1 z2 e1 e2 e3 e4 e5 hlt
   go_wp2_with fail
   refine(JR _ nq oc _ e6 e7).mono ?_
   exact Sg
end
section
attribute [local go_sem ↓] Go.wp_at_zero Go.wp_at_succ
theorem Nk(l:List Ev)(pa:Nat→Option Addr)(pc:Nat→Nat){i f:Nat}(hi:i<l.length)(hf:f<12):(Dm l pa pc)[i*12+f]? =(EQ (l.getD i default) (pa i) (pc i))[f]? :=Bu (w:=12) (c:=fun i=>EQ (l.getD i default) (pa i) (pc i)) (fun i=>rfl) l.length i f hi hf
theorem Cr.only{w w':World}{a:Option Addr}{ps:List (Int×Int)}{S:Nat→Prop}(h:Cr w a ps)(o:Ah S w w')(hs:∀x,a=some x→ps≠[]→¬S x.block):Cr w' a ps:=by
 rcases h with h|⟨ad,h1,h2⟩
 ·exact .inl h
 ·by_cases e:ps=[]
  ·exact .inl e
  ·refine .inr ⟨ad,h1,fun j u hu=>?_⟩
   have hb:(ad.add j).block=ad.block:=by unfold Addr.add;split<;>rfl
   exact AH o (h2 j u hu) (by rw[hb];exact hs ad h1 e)
theorem AU.prs{w:World}{P Q R:Nat→Prop}{a:Option Addr}{ps:List (Int×Int)}(h:AU w P Q R a ps):Cr w a ps:=by
 rcases h with h|⟨b,off,cs,h1,_,_,_,_,h2⟩
 ·exact .inl h
 ·refine .inr ⟨_,h1,fun j u hu=>?_⟩
  have hj:j<ps.length*2:=by have:=(List.getElem?_eq_some_iff.1 hu).1;rw[FF]at this;exact this
  obtain⟨q1,q2⟩:=EE ps (j/2) (by omega)
  obtain⟨z1,z2⟩:=h2 (j/2) (by omega)
  rw[Addr.add_lit]
  rcases Nat.mod_two_eq_zero_or_one j with e|e
  ·rw[show j/2*2=j by omega]at q1 z1
   rw[hu]at q1;rw[q1];exact z1
  ·rw[show j/2*2+1=j by omega]at q2 z2
   rw[hu]at q2;rw[q2];exact z2
structure LZ(H:Nat)(w:World)(oa:Option Addr)(oc:Nat)(rs:List Ev)(pa:Nat→Option Addr)(pc:Nat→Nat):Prop where
 row:w.ownsRow H 153 12 (.slice oa rs.length oc) rs.length (Dm rs pa pc)
 pr:∀i,i<rs.length→Cr w (pa i) (rs.getD i default).res.pairs∧∀x,pa i=some x→(rs.getD i default).res.pairs≠[]→¬AL oa x.block∧x.block<w.heap.size
 pz:∀i,i<rs.length→pa i=none→pc i=0
theorem LZ.nil(H:Nat)(w:World):LZ H w none 0 [] (fun _=>none) (fun _=>0):=⟨World.ownsRow_nil _ _ _ _,fun i hi=>by simp at hi,fun i hi=>by simp at hi⟩
theorem LZ.only0{H:Nat}{w w':World}{oa:Option Addr}{oc:Nat}{rs:List Ev}{pa:Nat→Option Addr}{pc:Nat→Nat}(h:LZ H w oa oc rs pa pc)(o:Ac w w'):LZ H w' oa oc rs pa pc:=by
 refine⟨AD (S:=fun _=>False) h.row o (fun _ _ f=>f),fun i hi=>?_,h.pz⟩
 obtain⟨q1,q2⟩:=h.pr i hi
 exact⟨q1.only0 o,fun x hx hne=>⟨(q2 x hx hne).1,Nat.lt_of_lt_of_le (q2 x hx hne).2 o.size⟩⟩
theorem LZ.push{H:Nat}{w w1:World}{oa:Option Addr}{oc:Nat}{rs:List Ev}{pa:Nat→Option Addr}{pc:Nat→Nat}(h:LZ H w oa oc rs pa pc){r:Ev}{a:Option Addr}{c:Nat}(hp:Cr w a r.res.pairs)(hpn:∀x,a=some x→r.res.pairs≠[]→¬AL oa x.block∧x.block<w.heap.size)(hz:a=none→c=0){gg cap:Nat}
 (hown:w1.ownsRow H 153 12 (.slice (some ⟨gg,0,none⟩) (rs.length+1) cap) (rs.length+1) (Dm rs pa pc++EQ r a c)) (hg:w.grownBy w1 (Value.slice oa rs.length oc).ownBlock) (hat:(Value.slice oa rs.length oc).ownBlock=some gg∨w.heap.size≤gg):
 LZ H w1 (some ⟨gg,0,none⟩) cap (rs++[r]) (AT pa rs.length a) (AT pc rs.length c):=by
 have o:Ah (AL oa) w w1:=⟨hg.os,hg.tape,hg.output,hg.size,fun b hb hn=>hg.block b hb (fun e=>hn (DE.1 (show AA (.slice oa rs.length oc) b from e.symm)))⟩
 have hat':∀b,AL (some ⟨gg,0,none⟩) b→AL oa b∨w.heap.size≤b:=fun b ⟨x,e1,e2⟩=>by
  exact TR
 have one:∀(a:Option Addr) (ps:List (Int×Int)),Cr w a ps→(∀x,a=some x→ps≠[]→¬AL oa x.block∧x.block<w.heap.size)→Cr w1 a ps∧∀x,a=some x→ps≠[]→¬AL (some ⟨gg,0,none⟩) x.block∧x.block<w1.heap.size:=fun a ps q1 q2=>by
  refine⟨q1.only o (fun x hx e=>(q2 x hx e).1),fun x hx hne=>⟨fun hl=>?_,Nat.lt_of_lt_of_le (q2 x hx hne).2 o.size⟩⟩
  rcases hat' _ hl with y|y
  ·exact(q2 x hx hne).1 y
  ·have:=(q2 x hx hne).2;omega
 refine⟨?_,fun i hi=>?_,fun i hi=>?_⟩
 ·rw[FO,List.length_append,List.length_singleton];exact hown
 ·rw[List.length_append,List.length_singleton]at hi
  by_cases e:i=rs.length
  ·subst e
   rw[Au,show(rs++[r]).getD rs.length default=r by rw[List.getD_eq_getElem?_getD];simp]
   exact one a _ hp hpn
  ·rw[Ap _ _ _ e,show(rs++[r]).getD i default=rs.getD i default by rw[List.getD_eq_getElem?_getD,List.getElem?_append_left (by omega),←List.getD_eq_getElem?_getD]]
   exact one _ _ (h.pr i (by omega)).1 (h.pr i (by omega)).2
 ·rw[List.length_append,List.length_singleton]at hi
  by_cases e:i=rs.length
  ·subst e;rw[Au,Au];exact hz
  ·rw[Ap _ _ _ e,Ap _ _ _ e];exact h.pz i (by omega)
def It(Z:Prop)(w:World)(H:Nat)(oa:Option Addr)(rs:List Ev):Prop:=rs=[]∨∃g,oa=some ⟨g,0,none⟩∧H≤g∧g<w.heap.size∧∀i,i<rs.length→∃pa pc,Cr w pa (rs.getD i default).res.pairs∧(Z→pa=none→pc=0)∧∀f v,(EQ (rs.getD i default) pa pc)[f]? =some v→w.cell? ⟨g,i*12+f,none⟩=some v
theorem It.only0{Z:Prop}{w w':World}{H:Nat}{oa:Option Addr}{rs:List Ev}(h:It Z w H oa rs)(o:Ac w w'):It Z w' H oa rs:=by
 rcases h with h|⟨g,h1,h2,h3,h4⟩
 ·exact .inl h
 ·refine .inr ⟨g,h1,h2,Nat.lt_of_lt_of_le h3 o.size,fun i hi=>?_⟩
  obtain⟨pa,pc,z1,zz,z2⟩:=h4 i hi
  exact⟨pa,pc,z1.only0 o,zz,fun f v hv=>Ai o (z2 f v hv)⟩
theorem LZ.at_{H:Nat}{w:World}{oa:Option Addr}{oc:Nat}{rs:List Ev}{pa:Nat→Option Addr}{pc:Nat→Nat}(h:LZ H w oa oc rs pa pc):It True w H oa rs∧rs.length≤oc∧oc≤9223372036854775807:=by
 have hr:=h.row
 rcases hr.2 with⟨e,h0⟩|⟨g,cap,cur,hv,hgB,hg,hnc,hcm,_⟩
 ·exact Tv
 ·injection hv with e1 e2 e3
  refine⟨.inr ⟨g,e1,hgB,lt_of_block hg,fun i hi=>⟨pa i,pc i,(h.pr i hi).1,fun _=>h.pz i hi,fun f v hv=>?_⟩⟩,by omega,by unfold maxLen at hcm;omega⟩
  exact Tr
theorem SH{w:World}{n:Nat}{t:TypeId}{x0 x1 x2 x3 x4 x5 x6 x7 x8 x9 x10 x11:Value}(B:Am w n t #[x0,x1,x2,x3,x4,x5,x6,x7,x8,x9,x10,x11])(a b c d e:Value):
 Am (((((w.setCell ⟨n,7,none⟩ a).setCell ⟨n,8,none⟩ b).setCell ⟨n,9,none⟩ c).setCell ⟨n,10,none⟩ d).setCell ⟨n,11,none⟩ e) n t #[x0,x1,x2,x3,x4,x5,x6,a,b,c,d,e]∧Ah (fun c=>c=n) w (((((w.setCell ⟨n,7,none⟩ a).setCell ⟨n,8,none⟩ b).setCell ⟨n,9,none⟩ c).setCell ⟨n,10,none⟩ d).setCell ⟨n,11,none⟩ e):=by
 have B0:Am _ n t #[x0,x1,x2,x3,x4,x5,x6,a,x8,x9,x10,x11]:=B.set 7 a
 have B1:Am _ n t #[x0,x1,x2,x3,x4,x5,x6,a,b,x9,x10,x11]:=B0.set 8 b
 have B2:Am _ n t #[x0,x1,x2,x3,x4,x5,x6,a,b,c,x10,x11]:=B1.set 9 c
 have B3:Am _ n t #[x0,x1,x2,x3,x4,x5,x6,a,b,c,d,x11]:=B2.set 10 d
 have B4:Am _ n t #[x0,x1,x2,x3,x4,x5,x6,a,b,c,d,e]:=B3.set 11 e
 exact⟨B4,((((Ah.set1 w n 7 a).trans (Ah.set1 _ n 8 b)).trans (Ah.set1 _ n 9 c)).trans (Ah.set1 _ n 10 d)).trans (Ah.set1 _ n 11 e)⟩
theorem CV{w:World}{n:Nat}{t:TypeId}{x0 x1 x2 x3 x4 x5 x6 x7 x8 x9 x10 x11:Value}(B:Am w n t #[x0,x1,x2,x3,x4,x5,x6,x7,x8,x9,x10,x11]):w.cell? ⟨n,0,none⟩=some x0∧w.cell? ⟨n,1,none⟩=some x1∧w.cell? ⟨n,2,none⟩=some x2∧w.cell? ⟨n,3,none⟩=some x3∧w.cell? ⟨n,4,none⟩=some x4∧w.cell? ⟨n,5,none⟩=some x5∧w.cell? ⟨n,6,none⟩=some x6∧w.cell? ⟨n,7,none⟩=some x7∧w.cell? ⟨n,8,none⟩=some x8∧w.cell? ⟨n,9,none⟩=some x9∧w.cell? ⟨n,10,none⟩=some x10∧w.cell? ⟨n,11,none⟩=some x11:=
 ⟨B.cell 0,B.cell 1,B.cell 2,B.cell 3,B.cell 4,B.cell 5,B.cell 6,B.cell 7,B.cell 8,B.cell 9,B.cell 10,B.cell 11⟩
def Ju(w:World)(tale:List Ev)(r:Ending)(w':World):Prop:=∃oa oc,r= .returned (.slice oa tale.length oc)∧Ac w w'∧It True w' w.heap.size oa tale∧tale.length≤oc∧oc≤9223372036854775807
theorem Pt{Z:Prop}{w:World}{e:Nat}{tale:List Ev}{H:Nat}{ta:Option Addr}{tc:Nat}(hc:w.cell? ⟨e,24,none⟩=some (.slice ta tale.length tc))(hs:It Z w H ta tale)(hn:tale.length≤1000000)(hps:∀i,i<tale.length→(tale.getD i default).res.pairs.length≤1000000000):
 Calls Tryz.prog 25 #[bp e] w (Ju w tale):=by
 obtain⟨j0,hj0,hz0,hz1,hz2⟩:=info_parts Jl
 obtain⟨n,hnn⟩:=Ad tale.length
 rw[←hnn]at hc hn
 have HH:=Aa (And.intro hs (And.intro hps hnn))
 clear hs hps hnn
 go_enter Tryz.func25,Tryz.ntmps25
 go_wp2_with fail
 go_loopw [3,5,11] (fun s3 s5 s11 wr=>∃(q:Nat) (v5:Value) (oa:Option Addr) (oc:Nat),s5=v5∧s11= .int .i64 q∧s3= .slice oa q oc∧q≤n∧Hid (Ac w wr∧∃pa pc,LZ w.heap.size wr oa oc (tale.take q) pa pc)) (fun _ _ s11 _=>n-(intOf s11).toNat)
 case atStart=>exact⟨0,_,none,0,rfl,rfl,rfl,by omega,Aa ⟨Ac.refl w,_,_,LZ.nil _ _⟩⟩
 case round=>
  obtain⟨q,v5,oa,oc,rfl,rfl,rfl,hq,HQ⟩:=hrel
  by_cases hlt:q<n
  ·have hlt2:(q:Int)<n:=by omega
   obtain⟨ev,hev⟩:=Ad (tale.getD q default)
   have hqt:q<tale.length:=by rw[←HH.out.2.2];exact hlt
   obtain⟨g,hga,qa,qc,hpa,hcell⟩:∃g,ta=some ⟨g,0,none⟩∧∃pa pc,Cr wr pa ev.res.pairs∧∀f v,(EQ ev pa pc)[f]? =some v→wr.cell? ⟨g,q*12+f,none⟩=some v:=by
    rcases HH.out.1.only0 HQ.out.1 with z|⟨g,z1,z2,z3,z4⟩
    ·rw[z]at hqt;exact absurd hqt (by simp)
    ·obtain⟨pa,pc,y1,_,y2⟩:=z4 q hqt
     rw[hev];exact⟨g,z1,pa,pc,y1,y2⟩
   have hpl:ev.res.pairs.length≤1000000000:=by rw[hev];exact HH.out.2.1 q hqt
   have hsn:tale.take (q+1)=tale.take q++[ev]:=by
    exact Uk
   have htq:(tale.take q).length=q:=by rw[List.length_take];omega
   obtain⟨hO,pa,pc,hE⟩:=HQ.out
   have HS:=Aa (And.intro hsn (And.intro htq hO))
   clear hev hqt hsn HQ
   obtain⟨kd,tt,nn,⟨o1,o2,o3,o4⟩,⟨re,rv,rp,ro,rn⟩⟩:=ev
   subst hga
   have x0:=Ae wr g (q*12) (.int .i64 kd) (hcell 0 _ rfl)
   have x1:=Ae wr g (q*12+1) (.int .i64 tt) (hcell 1 _ rfl)
   have x2:=Ae wr g (q*12+2) (.int .u64 nn) (hcell 2 _ rfl)
   have x3:=Ae wr g (q*12+3) (.int .i64 o1) (hcell 3 _ rfl)
   have x4:=Ae wr g (q*12+4) (.int .i64 o2) (hcell 4 _ rfl)
   have x5:=Ae wr g (q*12+5) (.int .i64 o3) (hcell 5 _ rfl)
   have x6:=Ae wr g (q*12+6) (.int .i64 o4) (hcell 6 _ rfl)
   have x7:=Ae wr g (q*12+7) (.int .i64 re) (hcell 7 _ rfl)
   have x8:=Ae wr g (q*12+8) (.int .i64 rv) (hcell 8 _ rfl)
   have x9:=Ae wr g (q*12+9) (.slice qa rp.length qc) (hcell 9 _ rfl)
   have x10:=Ae wr g (q*12+10) (.int .i64 ro) (hcell 10 _ rfl)
   have x11:=Ae wr g (q*12+11) (.int .i64 rn) (hcell 11 _ rfl)
   clear hcell
   obtain⟨W,hW⟩:=Ad (wr.alloc (.cells #[kd,tt,.int .u64 nn,o1,o2,o3,o4,re,rv,.slice qa rp.length qc,ro,rn] 153))
   obtain⟨m,hm⟩:=Ad wr.heap.size
   have oW:Ac wr W:=by rw[hW];exact(Ac.refl wr).alloc _
   have BX:Am W m 153 #[kd,tt,.int .u64 nn,o1,o2,o3,o4,re,rv,.slice qa rp.length qc,ro,rn]:=by rw[hW,hm];exact Am.new _ _ _
   have CC:=Fw (w:=W) ⟨re,rv,rp,ro,rn⟩ qa qc (hpa.only0 oW) hpl
   unfold Gn at CC
   obtain⟨y0,y1,y2,y3,y4,y5,y6,y7,y8,y9,y10,y11⟩:=CV BX
   have HB:=Aa (And.intro BX (And.intro oW (And.intro hE (And.intro hpa (And.intro hpl hm)))))
   clear BX oW hE hpa hpl
   go_upto_region 5 with(fail)
   rw[←hW,←hm]
   clear hW hm x0 x1 x2 x3 x4 x5 x6 x7 x8 x9 x10 x11
   go_upto_region 5 with(fail)
   go_wp2_with fail
   refine CC.mono ?_
   rintro r w2 ⟨a1,c1,rfl,o2,hown⟩
   clear CC y0 y1 y2 y3 y4 y5 y6 y7 y8 y9 y10 y11
   replace hown:w2.ownsRow W.heap.size 77 2 (.slice a1 rp.length c1) rp.length (AJ rp):=hown
   obtain⟨y0,y1,y2,y3,y4,y5,y6,y7,y8,y9,y10,y11⟩:=CV (o2.blk HB.out.1 (fun h=>h))
   have df:=fun i=>(o2.blk HB.out.1 (fun h=>h)).free i
   obtain⟨W3,hW3⟩:=Ad ((((((w2.setCell ⟨m,7,none⟩ (.int .i64 re)).setCell ⟨m,8,none⟩ (.int .i64 rv)).setCell ⟨m,9,none⟩ (.slice a1 rp.length c1)).setCell ⟨m,10,none⟩ (.int .i64 ro)).setCell ⟨m,11,none⟩ (.int .i64 rn)))
   have hE12:=SH (o2.blk HB.out.1 (fun h=>h)) (.int .i64 re) (.int .i64 rv) (.slice a1 rp.length c1) (.int .i64 ro) (.int .i64 rn)
   rw[←hW3]at hE12
   have o3:Ac wr W3:=Ah.news (S:=fun _=>False) (HB.out.2.1.trans o2) (fun b hb=>by rw[hb,HB.out.2.2.2.2.2];exact Nat.le_refl _) hE12.2
   have hz3:a1=none→c1=0:=fun e=>by
    rcases hown.2 with⟨e1,_⟩|⟨_,_,_,e1,_⟩
    ·injection e1
    ·injection e1 with e2;rw[e]at e2;cases e2
   have hP3:Cr W3 a1 rp∧∀x,a1=some x→rp≠[]→¬AL oa x.block∧x.block<W3.heap.size:=by
    have hr3:Cr W3 a1 rp:=(Cr.row hown rfl).only hE12.2 (fun x hx hne=>by
     subst hx
     have hmW:m<W.heap.size:=HB.out.1.lt
     have:=hown.lt x.block rfl
     omega)
    refine⟨hr3,fun x hx hne=>?_⟩
    subst hx
    have h1:=hown.lt x.block rfl
    have h2:wr.heap.size≤W.heap.size:=HB.out.2.1.size
    refine⟨fun hl=>?_,Nat.lt_of_lt_of_le h1.2 hE12.2.size⟩
    have:=HB.out.2.2.1.row.lt x.block (show(Value.slice oa (tale.take q).length oc).ownBlock=some x.block from DE.2 hl)
    omega
   have HT:=Aa (And.intro hE12.1 (And.intro o3 hP3))
   clear hE12 o3 hP3 hown o2
   go_upto_region 6 with(fail)
   rw[←hW3]
   clear hW3 df y0 y1 y2 y3 y4 y5 y6 y7 y8 y9 y10 y11
   obtain⟨y0,y1,y2,y3,y4,y5,y6,y7,y8,y9,y10,y11⟩:=CV HT.out.1
   obtain⟨W5,hW5⟩:=Ad (W3.alloc (.cells #[kd,tt,.int .u64 nn,o1,o2,o3,o4,re,rv,.slice a1 rp.length c1,ro,rn] 153))
   have o5:Ac W3 W5:=by rw[hW5];exact(Ac.refl W3).alloc _
   have h05:Ac w W5:=(HS.out.2.2.trans HT.out.2.1).trans o5
   have hs5:=(HB.out.2.2.1.only0 HT.out.2.1).only0 o5
   have R5:W5.ownsRow w.heap.size 153 12 (.slice oa q oc) q (Dm (tale.take q) pa pc):=by have:=hs5.row;rw[HS.out.2.1]at this;exact this
   have hB5:w.heap.size≤W5.heap.size:=h05.size
   have hlen:(Dm (tale.take q) pa pc).length=q*12:=by rw[Nh,HS.out.2.1]
   have APP:Hid (∀(gg cap:Nat) (w1:World),w1.ownsRow w.heap.size 153 12 (.slice (some ⟨gg,0,none⟩) (q+1) cap) (q+1) (Dm (tale.take q) pa pc++[.int .i64 kd,.int .i64 tt,.int .u64 nn,.int .i64 o1,.int .i64 o2,.int .i64 o3,.int .i64 o4,.int .i64 re,.int .i64 rv,.slice a1 rp.length c1,.int .i64 ro,.int .i64 rn])→W5.grownBy w1 (Value.slice oa q oc).ownBlock→((Value.slice oa q oc).ownBlock=some gg∨W3.heap.size+1≤gg)→
    Ac w w1∧∃pa pc,LZ w.heap.size w1 (some ⟨gg,0,none⟩) cap (tale.take (q+1)) pa pc):=Aa (by
    intro gg cap w1 h1 h2 h3
    obtain⟨t1,t2,t3⟩:=HS.out
    rw[t1]
    have t2':=t2
    refine⟨h05.grown h2 (fun b hb=>(R5.lt b hb).1),_,_,hs5.push (r:=⟨kd,tt,nn,⟨o1,o2,o3,o4⟩,⟨re,rv,rp,ro,rn⟩⟩) (a:=a1) (c:=c1) (HT.out.2.2.1.only0 o5) (fun x hx hne=>⟨(HT.out.2.2.2 x hx hne).1,Nat.lt_of_lt_of_le (HT.out.2.2.2 x hx hne).2 o5.size⟩) hz3 (gg:=gg) (cap:=cap) (by rw[t2];exact h1) (by rw[t2];exact h2) (by rw[t2];exact h3.imp (fun z=>z) (fun z=>by rw[hW5];simp;omega))⟩)
   rw[hW5]at R5 hB5 APP
   clear hW5 o5 h05 hs5
   go_wp2_with (at_builtin;refine wpList_append_lies _ rfl _ _ 74 rfl w.heap.size 153 j0 _ 12 112 Tryz.underlying74 hj0 hz0 hz1 hz2 rfl (by omega) (.slice oa q oc) q (Dm (tale.take q) pa pc) rfl R5 ⟨W3.heap.size,0,none⟩ 1 1 [.int .i64 kd,.int .i64 tt,.int .u64 nn,.int .i64 o1,.int .i64 o2,.int .i64 o3,.int .i64 o4,.int .i64 re,.int .i64 rv,.slice a1 rp.length c1,.int .i64 ro,.int .i64 rn] rfl rfl (World.news_of_block (cs:=#[.int .i64 kd,.int .i64 tt,.int .u64 nn,.int .i64 o1,.int .i64 o2,.int .i64 o3,.int .i64 o4,.int .i64 re,.int .i64 rv,.slice a1 rp.length c1,.int .i64 ro,.int .i64 rn]) (t:=153) (fr:=(0,0)) (heap_alloc_new W3 _)) (by simp[Value.oneCell']) (by omega) (by unfold maxLen;omega) (by omega) hB5 (W3.heap.size+1) (by simp) ?_)
   intro gg cap w5 hown5 hgrow5 hat5 hlt5
   have HAP:=Aa (APP.out gg cap w5 hown5 hgrow5 (hat5.imp (fun z=>z) (fun z=>by rw[z];exact Nat.le_refl _)))
   clear APP hown5 hgrow5 hat5 hlt5 R5 hB5 y0 y1 y2 y3 y4 y5 y6 y7 y8 y9 y10 y11
   go_wp2_with fail
   go_roundw
   case rel=>exact⟨q+1,_,_,cap,rfl,by go_num,rfl,by omega,HAP⟩
   case measure=>simp[intOf];omega
  ·obtain rfl:q=n:=by omega
   have HN:Hid (Ju w tale (.returned (.slice oa q oc)) wr):=Aa (by
    obtain⟨z1,pa,pc,z2⟩:=HQ.out
    rw[HH.out.2.2,List.take_length]at z2
    obtain⟨y1,y2,y3⟩:=z2.at_
    exact⟨oa,oc,by rw[HH.out.2.2],z1,y1,y2,y3⟩)
   clear HQ
   go_wp2_with fail
   go_ret
   exact HN.out
end
section
attribute [local go_sem ↓] Go.wp_at_zero Go.wp_at_succ
def QW(x:Int×Int):Array Value:=#[.int .u64 x.1,.int .i64 x.2,.slice none 0 0]
structure TL(B:Nat)(w:World)(t:Nat)(es:List (Int×Int))(xs:List Nat)(la:Option Addr)(lc:Nat)(last:Int):Prop where
 hx:xs.length=es.length
 box:Am w t 213 #[.slice la es.length lc,.int .u64 last]
 row:w.ownsRow B 239 1 (.slice la es.length lc) es.length (xs.map bp)
 tx:∀(i x:Nat),xs[i]? =some x→Am w x 241 (QW (es.getD i (0,0)))∧B≤x
 nd:∀(i j x:Nat),xs[i]? =some x→xs[j]? =some x→i=j
 hB:B≤t
def Ei(B:Nat)(w w':World):Prop:=Ah (fun b=>B≤b) w w'
theorem Ei.refl(B:Nat)(w:World):Ei B w w:=(Ac.refl w).any _
theorem Ei.trans{B:Nat}{a b c:World}(h:Ei B a b)(h':Ei B b c):Ei B a c:=Ah.trans h h'
theorem Ei.of0{B:Nat}{a b:World}(h:Ac a b):Ei B a b:=h.any _
theorem TL.set{B:Nat}{w:World}{t:Nat}{es:List (Int×Int)}{xs:List Nat}{la:Option Addr}{lc:Nat}{last:Int}(h:TL B w t es xs la lc last){k x:Nat}(hk:xs[k]? =some x){f:Nat}{v:Value}{e':Int×Int}(hf:Am (w.setCell ⟨x,f,none⟩ v) x 241 (QW e')):
 TL B (w.setCell ⟨x,f,none⟩ v) t (es.set k e') xs la lc last:=by
 have hkl:k<es.length:=by rw[←h.hx];exact(List.getElem?_eq_some_iff.1 hk).1
 have o:=Ah.set1 w x f v
 have bx:=(h.tx k x hk).1
 refine⟨by rw[h.hx,List.length_set],?_,?_,fun i y hy=>?_,h.nd,h.hB⟩
 ·rw[List.length_set]
  exact h.box.other _ _ (fun e=>by have e':t=x:=e;subst e';exact absurd (h.box.inj bx).2 (by decide))
 ·rw[List.length_set]
  exact AD h.row o (fun b hb e=>by
   have e':b=x:=e
   subst e'
   exact Bn h.row bx (by decide) hb)
 ·by_cases e:i=k
  ·subst e
   rw[hk]at hy
   cases hy
   refine⟨?_,(h.tx i x hk).2⟩
   rw[show(es.set i e').getD i (0,0)=e' by simp[List.getD_eq_getElem?_getD,hkl]]
   exact hf
  ·refine⟨?_,(h.tx i y hy).2⟩
   rw[show(es.set k e').getD i (0,0)=es.getD i (0,0) by simp[List.getD_eq_getElem?_getD,List.getElem?_set,Ne.symm e]]
   exact(h.tx i y hy).1.other _ _ (fun e2=>by have e3:y=x:=e2;subst e3;exact e (h.nd i k y hy hk))
theorem TL.time{B:Nat}{w:World}{t:Nat}{es:List (Int×Int)}{xs:List Nat}{la:Option Addr}{lc:Nat}{last:Int}(h:TL B w t es xs la lc last)(n:Int):TL B (w.setCell ⟨t,1,none⟩ (.int .u64 n)) t es xs la lc n:=by
 have o:=Ah.set1 w t 1 (.int .u64 n)
 refine⟨h.hx,h.box.set 1 _,?_,fun i y hy=>⟨?_,(h.tx i y hy).2⟩,h.nd,h.hB⟩
 ·exact AD h.row o (fun b hb e=>by
   have e':b=t:=e
   subst e'
   exact Bn h.row h.box (by decide) hb)
 ·exact(h.tx i y hy).1.other _ _ (fun e2=>by have e3:y=t:=e2;subst e3;exact absurd ((h.tx i y hy).1.inj h.box).2 (by decide))
theorem TL.only0{B:Nat}{w w':World}{t:Nat}{es:List (Int×Int)}{xs:List Nat}{la:Option Addr}{lc:Nat}{last:Int}(h:TL B w t es xs la lc last)(o:Ac w w'):TL B w' t es xs la lc last:=
 ⟨h.hx,o.blk h.box (fun e=>e),AD (S:=fun _=>False) h.row o (fun _ _ e=>e),fun i y hy=>⟨o.blk (h.tx i y hy).1 (fun e=>e),(h.tx i y hy).2⟩,h.nd,h.hB⟩
theorem Lm{w:World}{t:Nat}{v:Value}{last n:Int}(h:Am w t 213 #[v,.int .u64 last])(hn:last<n):Calls Tryz.prog 121 #[bp t,.int .u64 n] w fun r w'=>r= .returned (.bool true)∧w'=w.setCell ⟨t,1,none⟩ (.int .u64 n):=by
 have c1:=Ae w t 1 (.int .u64 last) (h.cell 1)
 have df:=fun i=>h.free i
 have g1:¬n≤last:=by omega
 clear h hn
 go_enter Tryz.func121,Tryz.ntmps121
 go_wp2_with fail
 go_ret
 exact⟨rfl,rfl⟩
theorem TL.txcell{B:Nat}{w:World}{t:Nat}{es:List (Int×Int)}{xs:List Nat}{la:Option Addr}{lc:Nat}{last:Int}(h:TL B w t es xs la lc last){k:Nat}(hk:k<es.length):∃g x,la=some ⟨g,0,none⟩∧xs[k]? =some x∧w.cell? ⟨g,k,none⟩=some (bp x):=by
 obtain⟨g,cap,hv,_,_⟩:=h.row.form (by omega)
 injection hv with e1 e2 e3
 have hkx:k<xs.length:=by rw[h.hx];exact hk
 refine⟨g,xs[k],e1,List.getElem?_eq_getElem hkx,?_⟩
 have hr:=h.row
 rw[e1]at hr
 rw[hr.cellAt k (by omega)]
 simp[hkx]
theorem Rg{B:Nat}{w:World}{t:Nat}{es:List (Int×Int)}{xs:List Nat}{la:Option Addr}{lc:Nat}{last:Int}(h:TL B w t es xs la lc last)(hn:es.length≤100000)(k x:Nat)(hx:xs[k]? =some x)(hs:(es.getD k (0,0)).2=1)(id:Int)(hid:id=k+1):
 Calls Tryz.prog 122 #[bp t,id] w fun r w'=>r= .returned (bp x)∧w'=w:=by
 have hk:k<es.length:=by rw[←h.hx];exact(List.getElem?_eq_some_iff.1 hx).1
 obtain⟨g,x',rfl,hx',cg⟩:=h.txcell hk
 rw[hx]at hx';cases hx'
 have c0:=Ae w t 0 (.slice (some ⟨g,0,none⟩) es.length lc) (h.box.cell 0)
 have bx:=(h.tx k x hx).1
 unfold QW at bx
 rw[hs]at bx
 have cx:=Ae w x 1 (.int .i64 1) (bx.cell 1)
 have ew:IntKind.i64.wrap (id-1)=k:=by rw[IntKind.wrap_i64];omega
 generalize es.length=n at *
 have g1:¬id<1:=by omega
 have g2:¬(n:Int)<id:=by omega
 have g3:(k:Int)<n:=by omega
 have HI:=Aa hid
 clear h bx hs hx hid
 go_enter Tryz.func122,Tryz.ntmps122
 go_wp2_with fail
 go_ret
 exact⟨rfl,rfl⟩
theorem Oj(w:World)(f:Value):Calls Tryz.prog 184 #[.slice none 0 0,f] w fun r w'=>r= .returned (.int .i64 (-1))∧w'=w:=by
 go_enter Tryz.func184,Tryz.ntmps184
 go_wp2_with fail
 go_loopw [8] (fun s8 wr=>s8= .int .i64 0∧wr=w) (fun _ _=>0)
 case atStart=>exact⟨rfl,rfl⟩
 case round=>
  obtain⟨rfl,rfl⟩:=hrel
  go_wp2_with fail
  go_ret
  exact⟨rfl,rfl⟩
end
section
attribute [local go_sem ↓] Go.wp_at_zero Go.wp_at_succ
theorem OA(w:World)(f:Value):Calls Tryz.prog 156 #[.slice none 0 0,f] w fun r w'=>r= .returned (.bool false)∧w'=w:=by
 go_enter Tryz.func156,Tryz.ntmps156
 go_wp2_with fail
 refine(Oj w f).mono ?_
 rintro r w1 ⟨rfl,rfl⟩
 go_wp2_with fail
 go_ret
 exact⟨rfl,rfl⟩
theorem QR{B:Nat}{w:World}{t:Nat}{es:List (Int×Int)}{xs:List Nat}{la:Option Addr}{lc:Nat}{last:Int}(h:TL B w t es xs la lc last)(k x:Nat)(hx:xs[k]? =some x)(N:Int)(hs:es.getD k (0,0)=(N,1))(hN:0<N):
 Calls Tryz.prog 124 #[bp t,bp x] w fun r w'=>r= .returned (.bool true)∧TL B w' t (es.set k (N,3)) xs la lc last∧(B≤w.heap.size→Ei B w w'):=by
 have hmf:∀(fn:Go.Fn) (first cap:Array Value) (w:World),(Instr.makeFunc fn first cap).run Tryz.prog w= .ok (.func fn first cap) w:=fun _ _ _ _=>rfl
 obtain⟨W,hW⟩:=Ad (w.alloc (.cells #[bp t] 238))
 have oW:Ac w W:=by rw[hW];exact(Ac.refl w).alloc _
 have h1:=h.only0 oW
 have bx:=(h1.tx k x hx).1
 unfold QW at bx
 rw[hs]at bx
 have x0:=Ae W x 0 (.int .u64 N) (bx.cell 0)
 have x1:=Ae W x 1 (.int .i64 1) (bx.cell 1)
 have x2:=Ae W x 2 (.slice none 0 0) (bx.cell 2)
 have df:=fun i=>bx.free i
 have HF:=Aa (show TL B (W.setCell ⟨x,1,none⟩ (.int .i64 3)) t (es.set k (N,3)) xs la lc last∧(B≤w.heap.size→Ei B w (W.setCell ⟨x,1,none⟩ (.int .i64 3))) from
  ⟨h1.set hx (bx.set 1 _),fun hB=>(Ei.of0 oW).trans ((Ah.set1 W x 1 _).mono (fun b _ e=>by have e':b=x:=e;rw[e'];exact(h1.tx k x hx).2))⟩)
 have g1:¬N=0:=by omega
 have CN:=OA W
 clear h oW h1 bx hs hx
 go_enter Tryz.func124,Tryz.ntmps124
 go_upto_region 1 with(fail)
 rw[←hW]
 clear hW
 go_wp2_with fail
 refine(CN _).mono ?_
 rintro r w1 ⟨rfl,rfl⟩
 go_wp2_with fail
 go_ret
 exact⟨rfl,HF.out⟩
theorem TL.push{B:Nat}{w:World}{t:Nat}{es:List (Int×Int)}{xs:List Nat}{la:Option Addr}{lc:Nat}{last:Int}(h:TL B w t es xs la lc last)(hBw:B≤w.heap.size){n1 gg cap:Nat}{w2 w1:World}(o:Ac w w2)(hb:Am w2 n1 241 (QW (0,1)))(hn1:w.heap.size≤n1)
 (hown:w1.ownsRow B 239 1 (.slice (some ⟨gg,0,none⟩) (es.length+1) cap) (es.length+1) (xs.map bp++[bp n1])) (hg:w2.grownBy w1 (Value.slice la es.length lc).ownBlock):
 TL B (w1.setCell ⟨t,0,none⟩ (.slice (some ⟨gg,0,none⟩) (es.length+1) cap)) t (es++[(0,1)]) (xs++[n1]) (some ⟨gg,0,none⟩) cap last∧Ei B w (w1.setCell ⟨t,0,none⟩ (.slice (some ⟨gg,0,none⟩) (es.length+1) cap)):=by
 have h2:=h.only0 o
 have oG:Ah (AA (.slice la es.length lc)) w2 w1:=⟨hg.os,hg.tape,hg.output,hg.size,fun b hb hn=>hg.block b hb (fun e=>hn e.symm)⟩
 have b1:Am w1 t 213 #[.slice la es.length lc,.int .u64 last]:=oG.blk h2.box (Bn h2.row h2.box (by decide))
 have oS:=Ah.set1 w1 t 0 (.slice (some ⟨gg,0,none⟩) (es.length+1) cap)
 have tx1:∀(x:Nat) (cs:Array Value),Am w2 x 241 cs→Am (w1.setCell ⟨t,0,none⟩ (.slice (some ⟨gg,0,none⟩) (es.length+1) cap)) x 241 cs:=fun x cs hx=>by
  have z:Am w1 x 241 cs:=oG.blk hx (Bn h2.row hx (by decide))
  exact z.other _ _ (fun e=>by have e':x=t:=e;subst e';exact absurd (z.inj b1).2 (by decide))
 refine⟨⟨by simp[h.hx],?_,?_,fun i x hx=>?_,fun i j x hi hj=>?_,h.hB⟩,?_⟩
 ·rw[show(es++[((0:Int),(1:Int))]).length=es.length+1 by simp]
  exact b1.set 0 _
 ·rw[show(es++[((0:Int),(1:Int))]).length=es.length+1 by simp,List.map_append,List.map_singleton]
  exact AD hown oS (fun b hb e=>by
   have e':b=t:=e
   subst e'
   exact Bn hown b1 (by decide) hb)
 ·by_cases hi:i<xs.length
  ·rw[List.getElem?_append_left hi]at hx
   rw[show(es++[((0:Int),(1:Int))]).getD i (0,0)=es.getD i (0,0) by rw[List.getD_eq_getElem?_getD,List.getElem?_append_left (by rw[←h.hx];exact hi),←List.getD_eq_getElem?_getD]]
   exact⟨tx1 _ _ (h2.tx i x hx).1,(h2.tx i x hx).2⟩
  ·have hi2:i=xs.length:=by
    have:=(List.getElem?_eq_some_iff.1 hx).1
    simp at this;omega
   subst hi2
   simp at hx
   subst hx
   rw[h.hx,show(es++[((0:Int),(1:Int))]).getD es.length (0,0)=(0,1) by simp[List.getD_eq_getElem?_getD]]
   exact⟨tx1 _ _ hb,by omega⟩
 ·have old:∀(i y:Nat),xs[i]? =some y→y≠n1:=fun i y hy e=>by
   have:=(h.tx i y hy).1.lt
   omega
  by_cases hi':i<xs.length
  ·by_cases hj':j<xs.length
   ·rw[List.getElem?_append_left hi']at hi
    rw[List.getElem?_append_left hj']at hj
    exact h.nd i j x hi hj
   ·rw[List.getElem?_append_left hi']at hi
    have hj2:j=xs.length:=by have:=(List.getElem?_eq_some_iff.1 hj).1;simp at this;omega
    subst hj2;simp at hj;exact absurd hj.symm (old i x hi)
  ·have hi2:i=xs.length:=by have:=(List.getElem?_eq_some_iff.1 hi).1;simp at this;omega
   by_cases hj':j<xs.length
   ·rw[List.getElem?_append_left hj']at hj
    subst hi2;simp at hi;exact absurd hi.symm (old j x hj)
   ·have hj2:j=xs.length:=by have:=(List.getElem?_eq_some_iff.1 hj).1;simp at this;omega
    omega
 ·exact((Ei.of0 o).trans (oG.mono (fun b hb' hr=>(h2.row.lt b hr).1))).trans (oS.mono (fun b _ e=>by have e':b=t:=e;rw[e'];exact h.hB))
theorem ON:(Tryz.prog.info? 239).map (fun i=>(i.zero,i.size,i.bytes))=some (some (.pointer none),1,8):=by kernel_rfl
def Ek(es:List (Int×Int))(last:Int)(v:Ev):Option (List (Int×Int)×Int):=
 if v.kind=1 then(if v.t=es.length+1∧last<v.n then some (es++[(0,1)],v.n)else none)
 else if 1≤v.t∧v.t≤es.length∧(es.getD (v.t-1).toNat (0,0)).2=1 then
  (if v.kind=2 then(if(es.getD (v.t-1).toNat (0,0)).1=0 then some (es,last)else none)
  else if v.kind=3 then(if(es.getD (v.t-1).toNat (0,0)).1=0∧last<v.n then some (es.set (v.t-1).toNat (v.n,1),v.n)else none)
  else if v.kind=5 then(if 0<(es.getD (v.t-1).toNat (0,0)).1 then some (es.set (v.t-1).toNat ((es.getD (v.t-1).toNat (0,0)).1,3),last)else none)
  else none)
 else none
def JI(B:Nat)(w:World)(t:Nat)(es:List (Int×Int))(last:Int)(r:Ending)(w':World):Prop:=r= .returned (.bool true)∧∃xs la lc,TL B w' t es xs la lc last∧Ei B w w'
theorem Qh{B:Nat}{w:World}{t:Nat}{es:List (Int×Int)}{xs:List Nat}{la:Option Addr}{lc:Nat}{last:Int}(h:TL B w t es xs la lc last)(hBw:B≤w.heap.size)(hn:es.length≤100000)(v:Ev)(pa:Option Addr)(pc:Nat){es':List (Int×Int)}{last':Int}(hs:Ek es last v=some (es',last'))(hl:0≤last):
 Calls Tryz.prog 98 #[bp t,KY v pa pc] w (JI B w t es' last'):=by
 obtain⟨kd,tt,nn,⟨o1,o2,o3,o4⟩,⟨re,rv,rp,ro,rn⟩⟩:=v
 rw[show KY ⟨kd,tt,nn,⟨o1,o2,o3,o4⟩,⟨re,rv,rp,ro,rn⟩⟩ pa pc= .agg #[kd,tt,.int .u64 nn,o1,o2,o3,o4,re,rv,.slice pa rp.length pc,ro,rn] from rfl]
 unfold Ek at hs
 dsimp only at hs
 obtain⟨W,hW⟩:=Ad (w.alloc (.cells #[kd,tt,.int .u64 nn,o1,o2,o3,o4,re,rv,.slice pa rp.length pc,ro,rn] 153))
 obtain⟨m,hm⟩:=Ad w.heap.size
 have oW:Ac w W:=by rw[hW];exact(Ac.refl w).alloc _
 have BX:Am W m 153 #[kd,tt,.int .u64 nn,o1,o2,o3,o4,re,rv,.slice pa rp.length pc,ro,rn]:=by rw[hW,hm];exact Am.new _ _ _
 obtain⟨y0,y1,y2,y3,y4,y5,y6,y7,y8,y9,y10,y11⟩:=CV BX
 have h1:=h.only0 oW
 have nW:Ei B w W:=Ei.of0 oW
 clear h y3 y4 y5 y6 y7 y8 y9 y10 y11
 by_cases hk1:kd=1
 ·subst hk1
  rw[if_pos rfl]at hs
  by_cases hc:tt=es.length+1∧last<nn
  ·rw[if_pos hc]at hs
   injection hs with hs
   injection hs with hs1 hs2
   subst hs1 hs2
   obtain⟨hc1,hc2⟩:=hc
   obtain⟨i0,hi0,hz0,hz1,hz2⟩:=info_parts ON
   obtain⟨n,hnn⟩:=Ad es.length
   have hlen:(xs.map bp).length=n*1:=by rw[List.length_map,h1.hx];omega
   have hone:∀u∈xs.map bp,u.oneCell'=true:=fun u hu=>by obtain⟨y,_,rfl⟩:=List.mem_map.1 hu;rfl
   have R0:=h1.row
   rw[←hnn]at R0 hc1 hn
   obtain⟨W2,hW2⟩:=Ad ((W.alloc (.cells #[.int .u64 0,.int .i64 1,.slice none 0 0] 241)).alloc (.cells #[bp W.heap.size] 239))
   have oo2:Ac W W2:=by rw[hW2];exact((Ac.refl W).alloc _).alloc _
   have bN:Am W2 W.heap.size 241 (QW (0,1)):=by rw[hW2];exact(Am.new _ _ _).alloc _
   have R2:W2.ownsRow B 239 1 (.slice la n lc) n (xs.map bp):=AD (S:=fun _=>False) R0 oo2 (fun _ _ e=>e)
   have hB2:B≤W2.heap.size:=Nat.le_trans (Nat.le_trans hBw oW.size) oo2.size
   have c0:=Ae W t 0 (.slice la n lc) (by rw[hnn];exact h1.box.cell 0)
   have HP:Hid (∀(gg cap:Nat) (w1:World),w1.ownsRow B 239 1 (.slice (some ⟨gg,0,none⟩) (n+1) cap) (n+1) (xs.map bp++[bp W.heap.size])→W2.grownBy w1 (Value.slice la n lc).ownBlock→
    (∀i,w1.frozen? ⟨t,i,none⟩=false)∧Ab w1 t 0 (.slice la n lc)∧Am (w1.setCell ⟨t,0,none⟩ (.slice (some ⟨gg,0,none⟩) (n+1) cap)) m 153 #[.int .i64 1,tt,.int .u64 nn,o1,o2,o3,o4,re,rv,.slice pa rp.length pc,ro,rn]∧TL B (w1.setCell ⟨t,0,none⟩ (.slice (some ⟨gg,0,none⟩) (n+1) cap)) t (es++[(0,1)]) (xs++[W.heap.size]) (some ⟨gg,0,none⟩) cap last∧Ei B w (w1.setCell ⟨t,0,none⟩ (.slice (some ⟨gg,0,none⟩) (n+1) cap))):=Aa (fun gg cap w1 q1 q2=>by
    rw[hnn]at q1 q2 R2 ⊢
    obtain⟨z1,z2⟩:=h1.push (Nat.le_trans hBw oW.size) oo2 bN (Nat.le_refl _) q1 q2
    have oG:Ah (AA (.slice la es.length lc)) W2 w1:=⟨q2.os,q2.tape,q2.output,q2.size,fun b hb hn=>q2.block b hb (fun e=>hn e.symm)⟩
    have bE:=oo2.blk BX (fun e=>e)
    have bE1:=oG.blk bE (Bn R2 bE (by decide))
    have bT:=oo2.blk h1.box (fun e=>e)
    have bT1:=oG.blk bT (Bn R2 bT (by decide))
    exact⟨fun i=>bT1.free i,bT1.cell 0,bE1.other ⟨t,0,none⟩ _ (fun e=>by have e':m=t:=e;subst e';exact absurd (bE1.inj bT1).2 (by decide)),z1,nW.trans z2⟩)
   rw[hW2]at R2 hB2 HP
   have hNEW:((W.alloc (.cells #[.int .u64 0,.int .i64 1,.slice none 0 0] 241)).alloc (.cells #[bp W.heap.size] 239)).heap[W.heap.size+1]? =some (.cells #[bp W.heap.size] 239):=by
    have:=heap_alloc_new (W.alloc (.cells #[.int .u64 0,.int .i64 1,.slice none 0 0] 241)) (.cells #[bp W.heap.size] 239)
    rwa [show(W.alloc (.cells #[.int .u64 0,.int .i64 1,.slice none 0 0] 241)).heap.size=W.heap.size+1 by simp]at this
   have HC:=Aa (And.intro hc1 (And.intro hc2 hnn))
   clear hW2 oo2 bN h1 nW oW BX hc1 R0 hnn
   go_enter Tryz.func98,Tryz.ntmps98
   go_upto_region 1 with(fail)
   rw[←hW,←hm]
   clear hW hm
   go_wp2_with (at_builtin;go_loud (refine wpList_append_lies _ rfl _ _ 211 rfl B 239 i0 _ 1 8 Tryz.underlying211 hi0 hz0 hz1 hz2 rfl (by omega) (.slice la n lc) n (xs.map bp) rfl R2 ⟨W.heap.size+1,0,none⟩ 1 1 [bp W.heap.size] rfl rfl (World.news_of_block (cs:=#[bp W.heap.size]) (t:=239) (fr:=(0,0)) hNEW) (by simp[Value.oneCell']) (by omega) (by unfold maxLen;omega) (by omega) hB2 (W.heap.size+2) (by simp) ?_))
   intro gg cap w5 hown5 hgrow5 hat5 hlt5
   obtain⟨dt,ct,bE,hT,nT⟩:=HP.out gg cap w5 hown5 hgrow5
   clear hNEW HP hown5 hgrow5 hat5 hlt5 R2 hB2 y0 y1 y2 c0
   go_upto_region 3 with(fail)
   obtain⟨W7,hW7⟩:=Ad (w5.setCell ⟨t,0,none⟩ (.slice (some ⟨gg,0,none⟩) (n+1) cap))
   rw[←hW7]at bE hT nT ⊢
   clear hW7 dt ct
   have e1:=Ae W7 m 1 (.int .i64 tt) (bE.cell 1)
   have e2:=Ae W7 m 2 (.int .u64 nn) (bE.cell 2)
   have l0:=Ae W7 t 0 (.slice (some ⟨gg,0,none⟩) (n+1) cap) (by have:=hT.box.cell 0;rw[HC.out.2.2];simpa using this)
   have CT:Calls Tryz.prog 121 #[bp t,.int .u64 nn] W7.drew fun r w'=>r= .returned (.bool true)∧w'=W7.drew.setCell ⟨t,1,none⟩ (.int .u64 nn):=Lm (show Am W7.drew t _ _ from hT.box) HC.out.2.1
   have f1:(W7.drew.setCell ⟨t,1,none⟩ (.int .u64 nn)).cell? ⟨m,1,none⟩=some (.int .i64 tt):=by
    have hne:m≠t:=fun e=>by subst e;exact absurd (bE.inj hT.box).2 (by decide)
    exact(Am.other (show Am W7.drew m _ _ from bE) ⟨t,1,none⟩ (.int .u64 nn) (fun e=>hne e)).cell 1
   have f2:(W7.drew.setCell ⟨t,1,none⟩ (.int .u64 nn)).cell? ⟨m,2,none⟩=some (.int .u64 nn):=by
    have hne:m≠t:=fun e=>by subst e;exact absurd (bE.inj hT.box).2 (by decide)
    exact(Am.other (show Am W7.drew m _ _ from bE) ⟨t,1,none⟩ (.int .u64 nn) (fun e=>hne e)).cell 2
   have k0:(W7.drew.setCell ⟨t,1,none⟩ (.int .u64 nn)).cell? ⟨t,0,none⟩=some (.slice (some ⟨gg,0,none⟩) (n+1) cap):=by
    have:=((hT.only0 ((Ac.refl W7).drew)).time nn).box.cell 0
    rw[HC.out.2.2];simpa using this
   have HF:Hid (JI B w t (es++[(0,1)]) nn (.returned (.bool true)) (W7.drew.setCell ⟨t,1,none⟩ (.int .u64 nn))):=Aa ⟨rfl,_,_,_,(hT.only0 ((Ac.refl W7).drew)).time nn,(nT.trans (Ei.of0 ((Ac.refl W7).drew))).trans ((Ah.set1 W7.drew t 1 _).mono (fun b _ e=>by have e':b=t:=e;rw[e'];exact hT.hB))⟩
   have hcn:tt=(n:Int)+1:=HC.out.1
   subst hcn
   clear bE hT nT HC hc2
   refine wp_region_held_drew (S:=(fun w'=>Ab w' m 1 (.int .i64 ((n:Int)+1))∧Ab w' m 2 (.int .u64 nn)∧Ab w' t 0 (.slice (some ⟨gg,0,none⟩) (n+1) cap))) (by kernel_rfl) ?_ (fun hHeld=>?_)
   ·first|exact⟨e1,e2,l0⟩|exact⟨f1,f2,k0⟩
   refine Af 0 (h:=Af 1 (h:=Af 2 (h:=Af 3 (h:=Af 4 (h:=Af 5 (h:=Af 6 (h:=Af 7 (h:=Af 8 (h:=?_)))))))))
   first|refine Aj 9 (h:=?_)|refine Af 9 (h:=?_)
   first|refine Aj 10 (h:=?_)|refine Af 10 (h:=?_)
   first|refine Aj 11 (h:=?_)|refine Af 11 (h:=?_)
   refine Ar (i:=12) (h:=fun K hK=>?_)
   try simp only[List.getElem_toArray,List.getElem_cons_zero,List.getElem_cons_succ]
   go_simp
   (refine CT.mono ?_;rintro r w8 ⟨rfl,rfl⟩)
   try go_wp2_with fail
   refine AK hK (by first|exact⟨e1,e2,l0⟩|exact⟨f1,f2,k0⟩) (h:=fun hHeld=>?_);clear hK K
   refine Af 13 (h:=Af 14 (h:=?_))
   refine wpAnyH_done (by kernel_rfl) ?_ _
   go_wp2_with fail
   go_ret
   exact HF.out
  ·rw[if_neg hc]at hs;cases hs
 ·rw[if_neg hk1]at hs
  by_cases hc:1≤tt∧tt≤es.length∧(es.getD (tt-1).toNat (0,0)).2=1
  ·rw[if_pos hc]at hs
   obtain⟨k,hk⟩:=Ad ((tt-1).toNat)
   have hid:tt=k+1:=by omega
   rw[←hk]at hs hc
   have hkl:k<xs.length:=by rw[h1.hx];omega
   obtain⟨x,hx⟩:∃x,xs[k]? =some x:=⟨_,List.getElem?_eq_getElem hkl⟩
   have CG:=Rg h1 hn k x hx hc.2.2 tt hid
   have bx:=(h1.tx k x hx).1
   obtain⟨⟨N,st⟩,he⟩:∃e,e=es.getD k (0,0):=⟨_,rfl⟩
   rw[←he]at hs hc
   have hst:st=1:=hc.2.2
   subst hst
   unfold QW at bx
   rw[←he]at bx
   have x0:=Ae W x 0 (.int .u64 N) (bx.cell 0)
   have df:=fun i=>bx.free i
   by_cases hk2:kd=2
   ·subst hk2
    rw[if_pos rfl]at hs
    by_cases hN:N=0
    ·rw[if_pos hN]at hs
     injection hs with hs
     injection hs with hs1 hs2
     subst hs1 hs2 hN
     have HF:Hid (JI B w t es last (.returned (.bool true)) W):=Aa ⟨rfl,xs,la,lc,h1,nW⟩
     clear oW BX h1 nW hx bx he hc hk hid hkl
     go_enter Tryz.func98,Tryz.ntmps98
     go_upto_region 1 with(fail)
     rw[←hW,←hm]
     clear hW hm
     go_wp2_with fail
     refine CG.mono ?_
     rintro r w1 ⟨rfl,rfl⟩
     go_wp2_with fail
     go_ret
     exact HF.out
    ·rw[if_neg hN]at hs;cases hs
   ·rw[if_neg hk2]at hs
    by_cases hk3:kd=3
    ·subst hk3
     rw[if_pos rfl]at hs
     by_cases hN:N=0∧last<nn
     ·rw[if_pos hN]at hs
      injection hs with hs
      injection hs with hs1 hs2
      obtain⟨hN1,hN2⟩:=hN
      subst hs1 hs2 hN1
      have CT:=Lm h1.box hN2
      have hT:=h1.time nn
      have bT:=(hT.tx k x hx).1
      unfold QW at bT
      rw[←he]at bT
      have d2:(W.setCell ⟨t,1,none⟩ (.int .u64 nn)).cell? ⟨m,2,none⟩=some (.int .u64 nn):=by
       have hne:m≠t:=fun e=>by subst e;exact absurd (BX.inj h1.box).2 (by decide)
       exact(BX.other ⟨t,1,none⟩ (.int .u64 nn) (fun e=>hne e)).cell 2
      have t0:=Ae (W.setCell ⟨t,1,none⟩ (.int .u64 nn)) x 0 (.int .u64 0) (bT.cell 0)
      have dT:=fun i=>bT.free i
      have HF:Hid (JI B w t (es.set k (nn,1)) nn (.returned (.bool true)) ((W.setCell ⟨t,1,none⟩ (.int .u64 nn)).setCell ⟨x,0,none⟩ (.int .u64 nn))):=Aa ⟨rfl,xs,la,lc,hT.set hx (bT.set 0 _),(nW.trans ((Ah.set1 W t 1 _).mono (fun b _ e=>by have e':b=t:=e;rw[e'];exact h1.hB))).trans ((Ah.set1 _ x 0 _).mono (fun b _ e=>by have e':b=x:=e;rw[e'];exact(h1.tx k x hx).2))⟩
      clear oW BX h1 nW hx bx he hc hk hid hkl hT bT
      go_enter Tryz.func98,Tryz.ntmps98
      go_upto_region 1 with(fail)
      rw[←hW,←hm]
      clear hW hm
      go_wp2_with fail
      refine CG.mono ?_
      rintro r w1 ⟨rfl,rfl⟩
      go_wp2_with fail
      refine CT.mono ?_
      rintro r w2 ⟨rfl,rfl⟩
      clear CT CG x0 df y0 y1 y2
      go_wp2_with fail
      go_ret
      exact HF.out
     ·rw[if_neg hN]at hs;cases hs
    ·rw[if_neg hk3]at hs
     by_cases hk5:kd=5
     ·subst hk5
      rw[if_pos rfl]at hs
      by_cases hN:0<N
      ·rw[if_pos hN]at hs
       injection hs with hs
       injection hs with hs1 hs2
       subst hs1 hs2
       have CD:=QR h1 k x hx N he.symm hN
       have HF:=Aa (And.intro nW oW.size)
       clear oW BX h1 nW hx bx he hc hk hid hkl
       go_enter Tryz.func98,Tryz.ntmps98
       go_upto_region 1 with(fail)
       rw[←hW,←hm]
       clear hW hm
       go_wp2_with fail
       refine CG.mono ?_
       rintro r w1 ⟨rfl,rfl⟩
       go_wp2_with fail
       refine CD.mono ?_
       rintro r w2 ⟨rfl,hD,nD⟩
       have HG:Hid (JI B w t (es.set k (N,3)) last (.returned (.bool true)) w2):=Aa ⟨rfl,xs,la,lc,hD,HF.out.1.trans (nD (Nat.le_trans hBw HF.out.2))⟩
       clear hD nD CD CG
       go_wp2_with fail
       go_ret
       exact HG.out
      ·rw[if_neg hN]at hs;cases hs
     ·rw[if_neg hk5]at hs;cases hs
  ·rw[if_neg hc]at hs;cases hs
end
section
attribute [local go_sem ↓] Go.wp_at_zero Go.wp_at_succ
def Fb:List (Int×Int)→Int→List Ev→Option (List (Int×Int)×Int)
 |es,last,[]=>some (es,last)
 |es,last,v::r=>match Ek es last v with|some s=>Fb s.1 s.2 r|none=>none
theorem Mn{es es':List (Int×Int)}{last last':Int}{v:Ev}(h:Ek es last v=some (es',last')):es'.length≤es.length+1∧last≤last':=by
 unfold Ek at h
 repeat' split at h
 all_goals first|(cases h;done)|(injection h with h;injection h with h1 h2;subst h1 h2;refine⟨by simp,by omega⟩)
theorem It.ev{Z:Prop}{w:World}{H:Nat}{oa:Option Addr}{rs:List Ev}(h:It Z w H oa rs){q:Nat}(hq:q<rs.length):∃g,oa=some ⟨g,0,none⟩∧∃pa pc,Cr w pa (rs.getD q default).res.pairs∧(Z→pa=none→pc=0)∧∀f v,(EQ (rs.getD q default) pa pc)[f]? =some v→w.cell? ⟨g,q*12+f,none⟩=some v:=by
 rcases h with z|⟨g,z1,z2,z3,z4⟩
 ·rw[z]at hq;exact absurd hq (by simp)
 ·exact⟨g,z1,z4 q hq⟩
theorem QE{Z:Prop}{w:World}{H:Nat}{oa:Option Addr}{oc:Nat}{tale:List Ev}(hs:It Z w H oa tale)(hn:tale.length≤20000){es:List (Int×Int)}{last:Int}(ht:Fb [] 0 tale=some (es,last)):
 Calls Tryz.prog 65 #[.slice oa tale.length oc] w fun r w'=>r= .returned (.tuple #[.bool true,.int .i64 (-1)])∧Ac w w':=by
 obtain⟨n,hnn⟩:=Ad tale.length
 rw[←hnn]at hn ⊢
 obtain⟨W,hW⟩:=Ad (w.alloc (.cells #[.slice none 0 0,.int .u64 0] 213))
 obtain⟨t,hT⟩:=Ad w.heap.size
 have oW:Ac w W:=by rw[hW];exact(Ac.refl w).alloc _
 have bT:Am W t 213 #[.slice none 0 0,.int .u64 0]:=by rw[hW,hT];exact Am.new _ _ _
 have h0:TL t W t [] [] none 0 0:=⟨rfl,bT,World.ownsRow_nil _ _ _ _,fun i x hx=>by simp at hx,fun i j x hx=>by simp at hx,Nat.le_refl _⟩
 have HH:=Aa (And.intro hs (And.intro hnn (And.intro ht hT)))
 have HQ0:Hid (∃es0 l0 xs la lc,TL t W t es0 xs la lc l0∧Ei t W W∧t≤W.heap.size∧es0.length≤0∧0≤l0∧Fb es0 l0 (tale.drop 0)=some (es,last)):=Aa ⟨[],0,[],none,0,h0,Ei.refl _ _,by rw[hT];exact oW.size,by simp,by omega,ht⟩
 have HO:=Aa oW
 clear hs hnn ht h0 bT oW
 go_enter Tryz.func65,Tryz.ntmps65
 go_upto_region 4 with(fail)
 rw[←hW,←hT]
 clear hW hT
 go_upto_region 4 with(fail)
 go_wp2_with fail
 go_loopw [5,6,12] (fun s5 s6 s12 wr=>∃(q:Nat) (v5 v6:Value),s5=v5∧s6=v6∧s12= .int .i64 q∧q≤n∧Hid (∃es0 l0 xs la lc,TL t wr t es0 xs la lc l0∧Ei t W wr∧t≤wr.heap.size∧es0.length≤q∧0≤l0∧Fb es0 l0 (tale.drop q)=some (es,last))) (fun _ _ s12 _=>n-(intOf s12).toNat)
 case atStart=>exact⟨0,_,_,rfl,rfl,rfl,by omega,HQ0⟩
 case round=>
  obtain⟨q,v5,v6,rfl,rfl,rfl,hq,HQ⟩:=hrel
  clear HQ0
  by_cases hlt:q<n
  ·have hlt2:(q:Int)<n:=by omega
   obtain⟨es0,l0,xs,la,lc,hL,hO,hsz,hle,hl0,hall⟩:=HQ.out
   clear HQ
   have hqt:q<tale.length:=by rw[←HH.out.2.1];exact hlt
   obtain⟨ev,hev⟩:=Ad (tale.getD q default)
   have oR:Ac w wr:=Ah.news (S:=fun _=>False) HO.out (fun b hb=>by rw[←HH.out.2.2.2];exact hb) hO
   obtain⟨g,hga,qa,qc,hpa,_,hcell⟩:=(HH.out.1.only0 oR).ev hqt
   rw[←hev]at hpa hcell
   have hdr:tale.drop q=ev::tale.drop (q+1):=by
    exact TP
   rw[hdr]at hall
   unfold Fb at hall
   obtain⟨⟨es1,l1⟩,hst,hall1⟩:∃s,Ek es0 l0 ev=some s∧Fb s.1 s.2 (tale.drop (q+1))=some (es,last):=by
    cases h9:Ek es0 l0 ev with
    |none=>rw[h9]at hall;cases hall
    |some s=>rw[h9]at hall;exact⟨s,rfl,hall⟩
   clear hall hdr hev oR
   obtain⟨sk1,sk2⟩:=Mn hst
   obtain⟨W3,hW3⟩:=Ad (wr.alloc (.cells (EQ ev qa qc).toArray 153))
   obtain⟨m,hm⟩:=Ad wr.heap.size
   have o3:Ac wr W3:=by rw[hW3];exact(Ac.refl wr).alloc _
   have b3:Am W3 m 153 (EQ ev qa qc).toArray:=by rw[hW3,hm];exact Am.new _ _ _
   have CT:=Qh (hL.only0 o3) (Nat.le_trans hsz o3.size) (by omega) ev qa qc hst hl0
   obtain⟨kd,tt,nn,⟨o1,o2,o3',o4⟩,⟨re,rv,rp,ro,rn⟩⟩:=ev
   subst hga
   have x0:=Ae wr g (q*12) (.int .i64 kd) (hcell 0 _ rfl)
   have x1:=Ae wr g (q*12+1) (.int .i64 tt) (hcell 1 _ rfl)
   have x2:=Ae wr g (q*12+2) (.int .u64 nn) (hcell 2 _ rfl)
   have x3:=Ae wr g (q*12+3) (.int .i64 o1) (hcell 3 _ rfl)
   have x4:=Ae wr g (q*12+4) (.int .i64 o2) (hcell 4 _ rfl)
   have x5:=Ae wr g (q*12+5) (.int .i64 o3') (hcell 5 _ rfl)
   have x6:=Ae wr g (q*12+6) (.int .i64 o4) (hcell 6 _ rfl)
   have x7:=Ae wr g (q*12+7) (.int .i64 re) (hcell 7 _ rfl)
   have x8:=Ae wr g (q*12+8) (.int .i64 rv) (hcell 8 _ rfl)
   have x9:=Ae wr g (q*12+9) (.slice qa rp.length qc) (hcell 9 _ rfl)
   have x10:=Ae wr g (q*12+10) (.int .i64 ro) (hcell 10 _ rfl)
   have x11:=Ae wr g (q*12+11) (.int .i64 rn) (hcell 11 _ rfl)
   rw[show KY ⟨kd,tt,nn,⟨o1,o2,o3',o4⟩,⟨re,rv,rp,ro,rn⟩⟩ qa qc= .agg #[kd,tt,.int .u64 nn,o1,o2,o3',o4,re,rv,.slice qa rp.length qc,ro,rn] from rfl]at CT
   rw[show(EQ ⟨kd,tt,nn,⟨o1,o2,o3',o4⟩,⟨re,rv,rp,ro,rn⟩⟩ qa qc).toArray=#[.int .i64 kd,.int .i64 tt,.int .u64 nn,.int .i64 o1,.int .i64 o2,.int .i64 o3',.int .i64 o4,.int .i64 re,.int .i64 rv,.slice qa rp.length qc,.int .i64 ro,.int .i64 rn] from rfl]at hW3 b3
   obtain⟨y0,y1,y2,y3,y4,y5,y6,y7,y8,y9,y10,y11⟩:=CV b3
   have HN:=Aa (And.intro hO (And.intro o3 (And.intro hsz (And.intro (show es1.length≤q+1 by omega) (And.intro (show 0≤l1 by omega) hall1)))))
   clear hL hO hsz hle hl0 hpa hcell hst sk1 sk2 b3 o3 hall1
   go_upto_region 7 with(fail)
   rw[←hW3,←hm]
   clear hW3 hm x0 x1 x2 x3 x4 x5 x6 x7 x8 x9 x10 x11
   go_wp2_with fail
   refine CT.mono ?_
   rintro r w4 ⟨rfl,xs1,la1,lc1,hL1,hN1⟩
   have HR:Hid (∃es0 l0 xs la lc,TL t w4 t es0 xs la lc l0∧Ei t W w4∧t≤w4.heap.size∧es0.length≤q+1∧0≤l0∧Fb es0 l0 (tale.drop (q+1))=some (es,last)):=Aa (by
    obtain⟨q1,q2,q3,q4,q5,q6⟩:=HN.out
    exact⟨es1,l1,xs1,la1,lc1,hL1,(q1.trans (Ei.of0 q2)).trans hN1,Nat.le_trans (Nat.le_trans q3 q2.size) (Ah.size hN1),q4,q5,q6⟩)
   clear CT HN hL1 hN1 y0 y1 y2 y3 y4 y5 y6 y7 y8 y9 y10 y11
   go_wp2_with fail
   go_roundw
   case rel=>exact⟨q+1,_,_,rfl,rfl,by go_num,by omega,HR⟩
   case measure=>simp[intOf];omega
  ·obtain rfl:q=n:=by omega
   have HF:Hid (Ac w wr):=Aa (by
    obtain⟨es0,l0,xs,la,lc,hL,hO,hsz,hle,hl0,hall⟩:=HQ.out
    exact Ah.news (S:=fun _=>False) HO.out (fun b hb=>by rw[←HH.out.2.2.2];exact hb) hO)
   clear HQ
   go_wp2_with fail
   go_ret2
   exact⟨rfl,HF.out⟩
end
section
attribute [local go_sem ↓] Go.wp_at_zero Go.wp_at_succ
theorem M8(a:Option Addr)(n c:Nat)(w:World)(h1:n≤c)(h2:c≤9223372036854775807):
 Calls Tryz.prog 99 #[.slice a n c] w fun r w'=>r= .returned (.slice a n n)∧w'=w:=by
 have g1:(n:Int)≤c:=by omega
 have g2:(n:Int)≤n:=by omega
 cases a with
 |none=>
  exact Uj
 |some a=>
  exact Uj
theorem LR(a:Option Addr)(n c:Nat)(w:World)(h1:n≤c)(h2:c≤9223372036854775807):
 Calls Tryz.prog 67 #[.slice a n c] w fun r w'=>r= .returned (.slice a n n)∧w'=w:=by
 have g1:(n:Int)≤c:=by omega
 have g2:(n:Int)≤n:=by omega
 cases a with
 |none=>
  exact SM
 |some a=>
  exact SM
theorem Gl{P:Program}{w:World}(t ty e:TypeId)(i:TypeInfo)(ht:P.underlying t=some (.slice e))(hi:P.info? e=some i)(a ao:Addr)(c:Nat):
 (Builtin.append_ #[t,t] ty #[.slice (some a) 0 0,.slice (some ao) 0 c]).run P w= .ok (.slice (some a) 0 0) w:=by
 simp[Builtin.append_,run_underlying ht,sizeOf,typeInfo,hi,Builtin.lenOf,Builtin.firstCells,loadCells,loadCellsFrom,storeCells]
def Ry(w:World)(r:Ending)(w':World):Prop:=∃a',r= .returned (.slice a' 0 0)∧Ac w w'
theorem J0(a:Option Addr)(c:Nat)(w:World)(hz:a=none→c=0):
 Calls Tryz.prog 100 #[.slice a 0 c] w (Ry w):=by
 obtain⟨i0,hi0,hz0,hz1,hz2⟩:=info_parts Gt
 have q:∀(w:World) (a:Option Addr) (n c n' c':Nat),(binOp .eql 62 (.slice a n c) (.slice none n' c')).run Tryz.prog w= .ok (.bool a.isNone) w:=fun w a n c n' c'=>Lib.run_eql_slice_nil w _ _ a n c n' c' Tryz.underlying62
 cases a with
 |none=>
  obtain rfl:=hz rfl
  go_enter Tryz.func100,Tryz.ntmps100
  go_wp2_with fail
  go_ret
  exact⟨none,rfl,Ac.refl _⟩
 |some x=>
  clear hz
  have hrun:=fun(w:World) (a:Addr)=>Gl (P:=Tryz.prog) (w:=w) 62 62 77 i0 Tryz.underlying62 hi0 a x c
  have HO:=Aa (show Ac w (w.alloc (.cells #[] 77)) from(Ac.refl w).alloc _)
  go_enter Tryz.func100,Tryz.ntmps100
  go_wp2_with fail
  go_ret
  exact⟨_,rfl,HO.out⟩
theorem KM:(Tryz.prog.info? 66).map (·.size)=some 9:=by kernel_rfl
theorem EM{w:World}{n:Nat}{t:TypeId}{x0 x1 x2 x3 x4 x5 x6 x7 x8:Value}(B:Am w n t #[x0,x1,x2,x3,x4,x5,x6,x7,x8]):w.cell? ⟨n,0,none⟩=some x0∧w.cell? ⟨n,1,none⟩=some x1∧w.cell? ⟨n,2,none⟩=some x2∧w.cell? ⟨n,3,none⟩=some x3∧w.cell? ⟨n,4,none⟩=some x4∧w.cell? ⟨n,5,none⟩=some x5∧w.cell? ⟨n,6,none⟩=some x6∧w.cell? ⟨n,7,none⟩=some x7∧w.cell? ⟨n,8,none⟩=some x8:=
 ⟨B.cell 0,B.cell 1,B.cell 2,B.cell 3,B.cell 4,B.cell 5,B.cell 6,B.cell 7,B.cell 8⟩
theorem RU{w:World}{n:Nat}{t:TypeId}{x0 x1 x2 x3 x4 x5 x6 x7 x8:Value}(B:Am w n t #[x0,x1,x2,x3,x4,x5,x6,x7,x8])(a b c d e f g h i:Value):
 Am (((((((((w.setCell ⟨n,0,none⟩ a).setCell ⟨n,1,none⟩ b).setCell ⟨n,2,none⟩ c).setCell ⟨n,3,none⟩ d).setCell ⟨n,4,none⟩ e).setCell ⟨n,5,none⟩ f).setCell ⟨n,6,none⟩ g).setCell ⟨n,7,none⟩ h).setCell ⟨n,8,none⟩ i) n t #[a,b,c,d,e,f,g,h,i]∧Ah (fun c=>c=n) w (((((((((w.setCell ⟨n,0,none⟩ a).setCell ⟨n,1,none⟩ b).setCell ⟨n,2,none⟩ c).setCell ⟨n,3,none⟩ d).setCell ⟨n,4,none⟩ e).setCell ⟨n,5,none⟩ f).setCell ⟨n,6,none⟩ g).setCell ⟨n,7,none⟩ h).setCell ⟨n,8,none⟩ i):=by
 have B0:Am _ n t #[a,x1,x2,x3,x4,x5,x6,x7,x8]:=B.set 0 a
 have B1:Am _ n t #[a,b,x2,x3,x4,x5,x6,x7,x8]:=B0.set 1 b
 have B2:Am _ n t #[a,b,c,x3,x4,x5,x6,x7,x8]:=B1.set 2 c
 have B3:Am _ n t #[a,b,c,d,x4,x5,x6,x7,x8]:=B2.set 3 d
 have B4:Am _ n t #[a,b,c,d,e,x5,x6,x7,x8]:=B3.set 4 e
 have B5:Am _ n t #[a,b,c,d,e,f,x6,x7,x8]:=B4.set 5 f
 have B6:Am _ n t #[a,b,c,d,e,f,g,x7,x8]:=B5.set 6 g
 have B7:Am _ n t #[a,b,c,d,e,f,g,h,x8]:=B6.set 7 h
 have B8:Am _ n t #[a,b,c,d,e,f,g,h,i]:=B7.set 8 i
 exact⟨B8,((((((((Ah.set1 w n 0 a).trans (Ah.set1 _ n 1 b)).trans (Ah.set1 _ n 2 c)).trans (Ah.set1 _ n 3 d)).trans (Ah.set1 _ n 4 e)).trans (Ah.set1 _ n 5 f)).trans (Ah.set1 _ n 6 g)).trans (Ah.set1 _ n 7 h)).trans (Ah.set1 _ n 8 i)⟩
def Qt(w:World)(c:Cl)(r:Ending)(w':World):Prop:=∃a k,r= .returned (Sd c a k)∧Ac w w'
theorem PT{w:World}(v:Ev)(hp:v.res.pairs=[])(pa:Option Addr)(pc:Nat)(hz:pa=none→pc=0):
 Calls Tryz.prog 66 #[KY v pa pc] w (Qt w ⟨v.op,v.res⟩):=by
 obtain⟨kd,tt,nn,⟨o1,o2,o3,o4⟩,⟨re,rv,rp,ro,rn⟩⟩:=v
 obtain rfl:rp=[]:=hp
 rw[show KY ⟨kd,tt,nn,⟨o1,o2,o3,o4⟩,⟨re,rv,[],ro,rn⟩⟩ pa pc= .agg #[kd,tt,.int .u64 nn,o1,o2,o3,o4,re,rv,.slice pa 0 pc,ro,rn] from rfl]
 obtain⟨m,hm⟩:=Ad w.heap.size
 obtain⟨W,hW⟩:=Ad (((w.alloc (.cells #[kd,tt,.int .u64 nn,o1,o2,o3,o4,re,rv,.slice pa 0 pc,ro,rn] 153)).alloc (.cells #[.int .i64 0,.int .i64 0,.int .i64 0,.int .i64 0,.int .i64 0,.int .i64 0,.slice none 0 0,.int .i64 0,.int .i64 0] 66)).alloc (.cells #[o1,o2,o3,o4,re,rv,.slice pa 0 pc,ro,rn] 66))
 have oW:Ac w W:=by rw[hW];exact(((Ac.refl w).alloc _).alloc _).alloc _
 have b0:Am (w.alloc (.cells #[kd,tt,.int .u64 nn,o1,o2,o3,o4,re,rv,.slice pa 0 pc,ro,rn] 153)) m 153 #[kd,tt,.int .u64 nn,o1,o2,o3,o4,re,rv,.slice pa 0 pc,ro,rn]:=by rw[hm];exact Am.new _ _ _
 have b1:Am W (m+1) 66 #[.int .i64 0,.int .i64 0,.int .i64 0,.int .i64 0,.int .i64 0,.int .i64 0,.slice none 0 0,.int .i64 0,.int .i64 0]:=by rw[hW,hm];exact(Am.new' _ _ _ _ (by simp)).alloc _
 have b2:Am W (m+2) 66 #[o1,o2,o3,o4,re,rv,.slice pa 0 pc,ro,rn]:=by rw[hW,hm];exact Am.new' _ _ _ _ (by simp)
 obtain⟨W2,hW2⟩:=Ad ((w.alloc (.cells #[kd,tt,.int .u64 nn,o1,o2,o3,o4,re,rv,.slice pa 0 pc,ro,rn] 153)).alloc (.cells #[.int .i64 0,.int .i64 0,.int .i64 0,.int .i64 0,.int .i64 0,.int .i64 0,.slice none 0 0,.int .i64 0,.int .i64 0] 66))
 have b02:Am W2 m 153 #[kd,tt,.int .u64 nn,o1,o2,o3,o4,re,rv,.slice pa 0 pc,ro,rn]:=by rw[hW2];exact b0.alloc _
 obtain⟨y0,y1,y2,y3,y4,y5,y6,y7,y8,y9,y10,y11⟩:=CV b02
 obtain⟨c0,c1,c2,c3,c4,c5,c6,c7,c8⟩:=EM b2
 obtain⟨z0,z1,z2,z3,z4,z5,z6,z7,z8⟩:=EM b1
 have s2:W2.heap.size=m+2:=by rw[hW2,hm];simp
 rw[←hW2]at hW
 have CL:=J0 pa pc W hz
 have HB:=Aa (And.intro oW (And.intro b1 (And.intro b2 hm)))
 clear oW b0 b1 b2 b02 hz
 go_enter Tryz.func66,Tryz.ntmps66
 go_upto_region 1 with(fail)
 rw[←hW2,←hm]
 clear hW2 hm
 go_upto_region 2 with(fail)
 rw[←hW]
 clear hW s2 y0 y1 y2 y3 y4 y5 y6 y7 y8 y9 y10 y11
 go_wp2_with fail
 refine CL.mono ?_
 rintro r w3 ⟨a1,rfl,oo3⟩
 clear CL c0 c1 c2 c3 c4 c5 c6 c7 c8 z0 z1 z2 z3 z4 z5 z6 z7 z8
 go_wp2_with fail
 refine(M8 a1 0 0 w3 (by omega) (by omega)).mono ?_
 rintro r w4 ⟨rfl,rfl⟩
 have d2:=oo3.blk HB.out.2.2.1 (fun e=>e)
 have d1:=oo3.blk HB.out.2.1 (fun e=>e)
 have c6:=Ae w4 (m+2) 6 (.slice pa 0 pc) (d2.cell 6)
 have df:=fun i=>d2.free i
 obtain⟨W5,hW5⟩:=Ad (w4.setCell ⟨m+2,6,none⟩ (.slice a1 0 0))
 have e2:Am W5 (m+2) 66 #[o1,o2,o3,o4,re,rv,.slice a1 0 0,ro,rn]:=by rw[hW5];exact d2.set 6 _
 have e1:Am W5 (m+1) 66 #[.int .i64 0,.int .i64 0,.int .i64 0,.int .i64 0,.int .i64 0,.int .i64 0,.slice none 0 0,.int .i64 0,.int .i64 0]:=by rw[hW5];exact d1.other _ _ (fun e=>by have e':m+1=m+2:=e;omega)
 have o5:Ac w W5:=by rw[hW5];exact Ac.setCell (HB.out.1.trans oo3) (by show w.heap.size≤m+2;rw[HB.out.2.2.2];omega) _
 have HE:=Aa (And.intro e1 (And.intro o5 HB.out.2.2.2))
 clear d1 d2 oo3 HB
 go_upto_region 3 with(fail)
 rw[←hW5]
 clear hW5 df c6
 obtain⟨c0,c1,c2,c3,c4,c5,c6,c7,c8⟩:=EM e2
 obtain⟨z0,z1,z2,z3,z4,z5,z6,z7,z8⟩:=EM e1
 have df:=fun i=>e1.free i
 clear e1 e2 o5
 go_wp2_with fail
 obtain⟨B9,o9⟩:=RU HE.out.1 (.int .i64 o1) (.int .i64 o2) (.int .i64 o3) (.int .i64 o4) (.int .i64 re) (.int .i64 rv) (.slice a1 0 0) (.int .i64 ro) (.int .i64 rn)
 refine bodyPost_ret (v:= .agg #[o1,o2,o3,o4,re,rv,.slice a1 0 0,ro,rn]) (results_cell_row Tryz.results66 _ _ (m+1) _ _ _ _ rfl B9 Tryz.underlying66 rfl KM) rfl ⟨a1,0,rfl,Ah.news (S:=fun _=>False) HE.out.2.1 (fun b hb=>by rw[hb,HE.out.2.2];omega) o9⟩
end
section
attribute [local go_sem ↓] Go.wp_at_zero Go.wp_at_succ
def Ct(ds:List Dl)(v:Ev):List Dl:=
 if v.kind=1 then ds++[⟨v.t,v.op.value,1,v.n,0,[]⟩]
 else if v.kind=2 then ds.set (v.t-1).toNat {Ba ds (v.t-1).toNat with ops:=(Ba ds (v.t-1).toNat).ops++[⟨v.op,v.res⟩]}
 else if v.kind=3 then ds.set (v.t-1).toNat {Ba ds (v.t-1).toNat with fin:=v.n}
 else if v.kind=5 then ds.set (v.t-1).toNat {Ba ds (v.t-1).toNat with state:=3}
 else ds
theorem Mw{es es':List (Int×Int)}{last last':Int}{v:Ev}{ds:List Dl}(h:Ek es last v=some (es',last'))(he:ds.length=es.length):
 (Ct ds v).length=es'.length∧(v.kind=1∨(1≤v.t∧v.t≤ds.length∧(v.kind=2∨v.kind=3∨v.kind=5))):=by
 unfold Ek at h
 unfold Ct
 by_cases h1:v.kind=1
 ·rw[if_pos h1]at h
  split at h
  ·injection h with h;injection h with h h';subst h
   rw[if_pos h1]
   exact⟨by simp[he],.inl h1⟩
  ·cases h
 ·rw[if_neg h1]at h
  rw[if_neg h1]
  split at h
  ·rename_i hr
   by_cases h2:v.kind=2
   ·rw[if_pos h2]at h
    rw[if_pos h2]
    split at h
    ·injection h with h;injection h with h h';subst h
     exact⟨by simp[he],.inr ⟨hr.1,by rw[he];exact hr.2.1,.inl h2⟩⟩
    ·cases h
   ·rw[if_neg h2]at h
    rw[if_neg h2]
    by_cases h3:v.kind=3
    ·rw[if_pos h3]at h
     rw[if_pos h3]
     split at h
     ·injection h with h;injection h with h h';subst h
      exact⟨by simp[he],.inr ⟨hr.1,by rw[he];exact hr.2.1,.inr (.inl h3)⟩⟩
     ·cases h
    ·rw[if_neg h3]at h
     rw[if_neg h3]
     split at h
     ·rename_i h5
      split at h
      ·injection h with h;injection h with h h';subst h
       rw[if_pos h5]
       exact⟨by simp[he],.inr ⟨hr.1,by rw[he];exact hr.2.1,.inr (.inr h5)⟩⟩
      ·cases h
     ·cases h
  ·cases h
theorem In{ds:List Dl}{k q:Nat}{d:Dl}(h:∀i,(Ba ds i).ops.length≤q)(hd:d.ops.length≤q+1)(i:Nat):(Ba (ds.set k d) i).ops.length≤q+1:=by
 by_cases hk:k<ds.length
 ·rw[Fy hk]
  split
  ·exact hd
  ·have:=h i;omega
 ·rw[List.set_eq_of_length_le (by omega)]
  have:=h i;omega
theorem Rt{ds:List Dl}{q:Nat}{v:Ev}(h:∀i,(Ba ds i).ops.length≤q)(i:Nat):(Ba (Ct ds v) i).ops.length≤q+1:=by
 unfold Ct
 split
 ·rw[Jm]
  split
  ·simp
  ·have:=h i;omega
 ·split
  ·exact In h (by have:=h (v.t-1).toNat;show((Ba ds (v.t-1).toNat).ops++[_]).length≤q+1;rw[List.length_append,List.length_singleton];omega) i
  ·split
   ·exact UE
   ·split
    ·exact UE
    ·have:=h i;omega
structure RD(w wr:World)(tale:List Ev)(fin:List (Int×Int)×Int)(q:Nat)(va:Option Addr)(dn vc:Nat):Prop where
 all:∃ds R S A es last,dn=ds.length∧DO w.heap.size wr R S va vc ds A∧Ac w wr∧ds=(tale.take q).foldl Ct []∧ds.length=es.length∧ds.length≤q∧(∀i,(Ba ds i).ops.length≤q)∧Fb es last (tale.drop q)=some fin
def NU(w:World)(ds:List Dl)(r:Ending)(w':World):Prop:=∃va,r= .returned (.slice va ds.length ds.length)∧Ac w w'∧BJ w' va ds∧∀x,va=some x→w.heap.size≤x.block
theorem KW{w:World}{H:Nat}{oa:Option Addr}{oc:Nat}{tale:List Ev}(hs:It True w H oa tale)(hn:tale.length≤20000){fin:List (Int×Int)×Int}(ht:Fb [] 0 tale=some fin)(hps:∀i,i<tale.length→(tale.getD i default).res.pairs=[]):
 Calls Tryz.prog 32 #[.slice oa tale.length oc] w (NU w (tale.foldl Ct [])):=by
 obtain⟨i0,hi0,hz0,hz1,hz2⟩:=info_parts IL
 obtain⟨j0,hj0,hy0,hy1,hy2⟩:=info_parts IR
 have CO:=QE (w:=w) (oc:=oc) hs hn (es:=fin.1) (last:=fin.2) ht
 obtain⟨n,hnn⟩:=Ad tale.length
 rw[←hnn]at hn CO ⊢
 have HH:=Aa (And.intro hs (And.intro hnn (And.intro ht hps)))
 clear hs hnn ht hps
 go_enter Tryz.func32,Tryz.ntmps32
 go_wp2_with fail
 refine CO.mono ?_
 rintro r w1 ⟨rfl,o1⟩
 clear CO
 have HQ0:Hid (RD w w1 tale fin 0 none 0 0):=Aa ⟨[],fun _=>False,fun _=>False,_,[],0,rfl,DO.nil w.heap.size w1,o1,rfl,rfl,by simp,fun i=>by unfold Ba;simp[List.getD_eq_getElem?_getD];rfl,HH.out.2.2.1⟩
 clear o1
 go_wp2_with fail
 go_loopw [5,7,8,18] (fun s5 s7 s8 s18 wr=>∃(q dn:Nat) (v7 v8:Value) (va:Option Addr) (vc:Nat),s7=v7∧s8=v8∧s5= .slice va dn vc∧s18= .int .i64 q∧q≤n∧dn≤q∧Hid (RD w wr tale fin q va dn vc)) (fun _ _ _ s18 _=>n-(intOf s18).toNat)
 case atStart=>exact⟨0,0,_,_,none,0,rfl,rfl,rfl,rfl,by omega,by omega,HQ0⟩
 case round=>
  obtain⟨q,dn,v7,v8,va,vc,rfl,rfl,rfl,rfl,hq,hdq,HQ⟩:=hrel
  clear HQ0
  by_cases hlt:q<n
  ·have hlt2:(q:Int)<n:=by omega
   obtain⟨ds,R,S,A,es,last,hdn,hD,hO,hds,hes,hdl,hopl,hall⟩:=HQ.out.all
   clear HQ
   have hqt:q<tale.length:=by rw[←HH.out.2.1];exact hlt
   obtain⟨ev,hev⟩:=Ad (tale.getD q default)
   obtain⟨g,hga,qa,qc,hpa,hqz,hcell⟩:=(HH.out.1.only0 hO).ev hqt
   rw[←hev]at hpa hcell
   have hdr:tale.drop q=ev::tale.drop (q+1):=by
    exact TP
   have hsn:tale.take (q+1)=tale.take q++[ev]:=by
    exact Uk
   have hpn:ev.res.pairs=[]:=by rw[hev];exact HH.out.2.2.2 q hqt
   rw[hdr]at hall
   unfold Fb at hall
   obtain⟨⟨es1,l1⟩,hst,hall1⟩:∃s,Ek es last ev=some s∧Fb s.1 s.2 (tale.drop (q+1))=some fin:=by
    cases h9:Ek es last ev with
    |none=>rw[h9]at hall;cases hall
    |some s=>rw[h9]at hall;exact⟨s,rfl,hall⟩
   obtain⟨hl1,hkind⟩:=Mw hst hes
   have NEXT:Hid (∀(wr':World) (va':Option Addr) (vc' dn':Nat) (R' S':Nat→Prop) (A':GN),dn'=(Ct ds ev).length→DO w.heap.size wr' R' S' va' vc' (Ct ds ev) A'→Ac w wr'→(Ct ds ev).length≤q+1→RD w wr' tale fin (q+1) va' dn' vc'):=Aa (fun wr' va' vc' dn' R' S' A' z1 z2 z3 z4=>⟨Ct ds ev,R',S',A',es1,l1,z1,z2,z3,by rw[hsn,List.foldl_append,←hds];rfl,hl1,z4,Rt hopl,hall1⟩)
   clear hall hdr hsn hev hst hall1 hl1 hds
   obtain⟨W,hW⟩:=Ad (wr.alloc (.cells (EQ ev qa qc).toArray 153))
   obtain⟨m,hm⟩:=Ad wr.heap.size
   have oW:Ac wr W:=by rw[hW];exact(Ac.refl wr).alloc _
   have bW:Am W m 153 (EQ ev qa qc).toArray:=by rw[hW,hm];exact Am.new _ _ _
   obtain⟨kd,tt,nn,⟨o1,o2,o3,o4⟩,⟨re,rv,rp,ro,rn⟩⟩:=ev
   obtain rfl:rp=[]:=hpn
   subst hga
   have x0:=Ae wr g (q*12) (.int .i64 kd) (hcell 0 _ rfl)
   have x1:=Ae wr g (q*12+1) (.int .i64 tt) (hcell 1 _ rfl)
   have x2:=Ae wr g (q*12+2) (.int .u64 nn) (hcell 2 _ rfl)
   have x3:=Ae wr g (q*12+3) (.int .i64 o1) (hcell 3 _ rfl)
   have x4:=Ae wr g (q*12+4) (.int .i64 o2) (hcell 4 _ rfl)
   have x5:=Ae wr g (q*12+5) (.int .i64 o3) (hcell 5 _ rfl)
   have x6:=Ae wr g (q*12+6) (.int .i64 o4) (hcell 6 _ rfl)
   have x7:=Ae wr g (q*12+7) (.int .i64 re) (hcell 7 _ rfl)
   have x8:=Ae wr g (q*12+8) (.int .i64 rv) (hcell 8 _ rfl)
   have x9:=Ae wr g (q*12+9) (.slice qa 0 qc) (hcell 9 _ rfl)
   have x10:=Ae wr g (q*12+10) (.int .i64 ro) (hcell 10 _ rfl)
   have x11:=Ae wr g (q*12+11) (.int .i64 rn) (hcell 11 _ rfl)
   rw[show(EQ ⟨kd,tt,nn,⟨o1,o2,o3,o4⟩,⟨re,rv,[],ro,rn⟩⟩ qa qc).toArray=#[.int .i64 kd,.int .i64 tt,.int .u64 nn,.int .i64 o1,.int .i64 o2,.int .i64 o3,.int .i64 o4,.int .i64 re,.int .i64 rv,.slice qa 0 qc,.int .i64 ro,.int .i64 rn] from rfl]at hW bW
   have hkind':kd=1∨(1≤tt∧tt≤ds.length∧(kd=2∨kd=3∨kd=5)):=hkind
   have hDW:=hD.only0 oW
   have hOW:=hO.trans oW
   obtain⟨y0,y1,y2,y3,y4,y5,y6,y7,y8,y9,y10,y11⟩:=CV bW
   have HB:=Aa (And.intro bW (And.intro hDW (And.intro hOW (And.intro hdl (And.intro hqz hopl)))))
   clear hkind hcell hpa oW bW hD hO hDW hOW
   rcases hkind' with hk1|⟨ht1,ht2,hk⟩
   ·subst hk1
    have R0:=HB.out.2.1.row
    rw[←hdn]at R0
    obtain⟨W5,hW5⟩:=Ad (W.alloc (.cells #[tt,o4,.int .i64 1,.int .u64 nn,.int .u64 0,.slice none 0 0] 57))
    have o5:Ac W W5:=by rw[hW5];exact(Ac.refl W).alloc _
    have R5:W5.ownsRow w.heap.size 57 6 (.slice va dn vc) dn (CQ ds A.oa A.oc):=AD (S:=fun _=>False) R0 o5 (fun _ _ e=>e)
    have hB5:w.heap.size≤W5.heap.size:=(HB.out.2.2.1.trans o5).size
    have hlen:(CQ ds A.oa A.oc).length=dn*6:=by unfold CQ;rw[hdn];exact BF (fun k=>Cp _ _ _) _
    have APP:Hid (∀(gg cap:Nat) (w1:World),w1.ownsRow w.heap.size 57 6 (.slice (some ⟨gg,0,none⟩) (dn+1) cap) (dn+1) (CQ ds A.oa A.oc++[.int .i64 tt,.int .i64 o4,.int .i64 1,.int .u64 nn,.int .u64 0,.slice none 0 0])→W5.grownBy w1 (Value.slice va dn vc).ownBlock→((Value.slice va dn vc).ownBlock=some gg∨gg=W.heap.size+1)→gg<w1.heap.size→RD w w1 tale fin (q+1) (some ⟨gg,0,none⟩) (dn+1) cap):=Aa (by
     intro gg cap w1 h1 h2 h3 h4
     have hat:(Value.slice va ds.length vc).ownBlock=some gg∨W5.heap.size≤gg:=by rw[←hdn];exact h3.imp (fun z=>z) (fun z=>by rw[hW5];simp;omega)
     obtain⟨A',D',O'⟩:=(HB.out.2.1.only0 o5).push (d:=⟨tt,o4,1,nn,0,[]⟩) rfl (by rw[←hdn];exact h1) (by rw[←hdn];exact h2) hat h4
     have e9:Ct ds ⟨1,tt,nn,⟨o1,o2,o3,o4⟩,⟨re,rv,[],ro,rn⟩⟩=ds++[⟨tt,o4,1,nn,0,[]⟩]:=rfl
     refine NEXT.out w1 _ cap (dn+1) _ _ A' (by rw[e9];simp[hdn]) (by rw[e9];exact D') ((HB.out.2.2.1.trans o5).grown h2 (fun b hb=>(R5.lt b hb).1)) (by rw[e9];have:=HB.out.2.2.2.1;simp;omega))
    rw[hW5]at R5 hB5 APP
    clear hW5 o5 R0 hdn NEXT
    go_upto_region 8 with(fail)
    rw[←hW,←hm]
    clear hW hm x0 x1 x2 x3 x4 x5 x6 x7 x8 x9 x10 x11
    go_wp2_with (at_builtin;go_loud (refine wpList_append_lies _ rfl _ _ 40 rfl w.heap.size 57 i0 _ 6 64 Tryz.underlying40 hi0 hz0 hz1 hz2 rfl (by omega) (.slice va dn vc) dn (CQ ds A.oa A.oc) rfl R5 ⟨W.heap.size,0,none⟩ 1 1 [.int .i64 tt,.int .i64 o4,.int .i64 1,.int .u64 nn,.int .u64 0,.slice none 0 0] rfl rfl (World.news_of_block (cs:=#[.int .i64 tt,.int .i64 o4,.int .i64 1,.int .u64 nn,.int .u64 0,.slice none 0 0]) (t:=57) (fr:=(0,0)) (heap_alloc_new W _)) (by simp[Value.oneCell']) (by omega) (by unfold maxLen;omega) (by omega) hB5 (W.heap.size+1) (by simp) ?_))
    intro gg cap w5 hown5 hgrow5 hat5 hlt5
    have HN:=Aa (APP.out gg cap w5 hown5 hgrow5 hat5 hlt5)
    clear APP hown5 hgrow5 hat5 hlt5 R5 hB5 y0 y1 y2 y3 y4 y5 y6 y7 y8 y9 y10 y11 HB
    go_wp2_with fail
    go_roundw
    case rel=>exact⟨q+1,dn+1,_,_,_,cap,rfl,rfl,rfl,by go_num,by omega,by omega,HN⟩
    case measure=>simp[intOf];omega
   ·obtain⟨k,hkk⟩:=Ad ((tt-1).toNat)
    have hkl:k<ds.length:=by omega
    have ew:IntKind.i64.wrap (tt-1)=k:=by rw[IntKind.wrap_i64];have:=HB.out.2.2.2.1;omega
    have hkn:(k:Int)<dn:=by rw[hdn];omega
    obtain⟨g2,hva,hgR,hgl,hgf,hgc⟩:=HB.out.2.1.at_ (by omega)
    subst hva
    clear ht1 ht2
    rcases hk with hk|hk|hk
    ·subst hk
     obtain⟨on,hon⟩:=Ad ((Ba ds k).ops.length)
     obtain⟨oa2,hoa⟩:=Ad (A.oa k)
     obtain⟨oc2,hoc⟩:=Ad (A.oc k)
     have hov:A.opV ds k= .slice oa2 on oc2:=by unfold GN.opV;rw[hon,hoa,hoc]
     have hon1:on≤100000:=by
      have h9:=HB.out.2.2.2.2.2 k
      omega
     have c5:=Ae W g2 (k*6+5) (.slice oa2 on oc2) (by rw[hon,hoa,hoc];exact hgc k hkl 5 _ rfl)
     have CC:Calls Tryz.prog 66 #[.agg #[.int .i64 2,tt,.int .u64 nn,o1,o2,o3,o4,re,rv,.slice qa 0 qc,ro,rn]] W.drew (fun r w'=>∃ca ck,r= .returned (.agg #[o1,o2,o3,o4,re,rv,.slice ca 0 ck,ro,rn])∧Ac W.drew w'):=(PT (w:=W.drew) ⟨2,tt,nn,⟨o1,o2,o3,o4⟩,⟨re,rv,[],ro,rn⟩⟩ rfl qa qc (HB.out.2.2.2.2.1 trivial)).mono (fun r w' ⟨a,k,h1,h2⟩=>⟨a,k,h1,h2⟩)
     have HAPP:Hid (∀(w5:World) (ca:Option Addr) (ck:Nat),Ac W.drew w5→
      (w5.alloc (.cells #[o1,o2,o3,o4,re,rv,.slice ca 0 ck,ro,rn] 66)).ownsRow w.heap.size 66 9 (.slice oa2 on oc2) on (Ds (Ba ds k).ops (A.pa k) (A.pc k))∧w.heap.size≤(w5.alloc (.cells #[o1,o2,o3,o4,re,rv,.slice ca 0 ck,ro,rn] 66)).heap.size∧(Ab w5 g2 (k*6+5) (.slice oa2 on oc2)∧Ab w5 m 0 (.int .i64 2)∧Ab w5 m 1 (.int .i64 tt)∧Ab w5 m 2 (.int .u64 nn)∧Ab w5 m 3 (.int .i64 o1)∧Ab w5 m 4 (.int .i64 o2)∧Ab w5 m 5 (.int .i64 o3)∧Ab w5 m 6 (.int .i64 o4)∧Ab w5 m 7 (.int .i64 re)∧Ab w5 m 8 (.int .i64 rv)∧Ab w5 m 9 (.slice qa 0 qc)∧Ab w5 m 10 (.int .i64 ro)∧Ab w5 m 11 (.int .i64 rn))∧(Ab (w5.alloc (.cells #[o1,o2,o3,o4,re,rv,.slice ca 0 ck,ro,rn] 66)) g2 (k*6+5) (.slice oa2 on oc2)∧Ab (w5.alloc (.cells #[o1,o2,o3,o4,re,rv,.slice ca 0 ck,ro,rn] 66)) m 0 (.int .i64 2)∧Ab (w5.alloc (.cells #[o1,o2,o3,o4,re,rv,.slice ca 0 ck,ro,rn] 66)) m 1 (.int .i64 tt)∧Ab (w5.alloc (.cells #[o1,o2,o3,o4,re,rv,.slice ca 0 ck,ro,rn] 66)) m 2 (.int .u64 nn)∧Ab (w5.alloc (.cells #[o1,o2,o3,o4,re,rv,.slice ca 0 ck,ro,rn] 66)) m 3 (.int .i64 o1)∧Ab (w5.alloc (.cells #[o1,o2,o3,o4,re,rv,.slice ca 0 ck,ro,rn] 66)) m 4 (.int .i64 o2)∧Ab (w5.alloc (.cells #[o1,o2,o3,o4,re,rv,.slice ca 0 ck,ro,rn] 66)) m 5 (.int .i64 o3)∧Ab (w5.alloc (.cells #[o1,o2,o3,o4,re,rv,.slice ca 0 ck,ro,rn] 66)) m 6 (.int .i64 o4)∧Ab (w5.alloc (.cells #[o1,o2,o3,o4,re,rv,.slice ca 0 ck,ro,rn] 66)) m 7 (.int .i64 re)∧Ab (w5.alloc (.cells #[o1,o2,o3,o4,re,rv,.slice ca 0 ck,ro,rn] 66)) m 8 (.int .i64 rv)∧Ab (w5.alloc (.cells #[o1,o2,o3,o4,re,rv,.slice ca 0 ck,ro,rn] 66)) m 9 (.slice qa 0 qc)∧Ab (w5.alloc (.cells #[o1,o2,o3,o4,re,rv,.slice ca 0 ck,ro,rn] 66)) m 10 (.int .i64 ro)∧Ab (w5.alloc (.cells #[o1,o2,o3,o4,re,rv,.slice ca 0 ck,ro,rn] 66)) m 11 (.int .i64 rn))∧
      ∀(gg cap:Nat) (w1:World),w1.ownsRow w.heap.size 66 9 (.slice (some ⟨gg,0,none⟩) (on+1) cap) (on+1) (Ds (Ba ds k).ops (A.pa k) (A.pc k)++[.int .i64 o1,.int .i64 o2,.int .i64 o3,.int .i64 o4,.int .i64 re,.int .i64 rv,.slice ca 0 ck,.int .i64 ro,.int .i64 rn])→(w5.alloc (.cells #[o1,o2,o3,o4,re,rv,.slice ca 0 ck,ro,rn] 66)).grownBy w1 (Value.slice oa2 on oc2).ownBlock→((Value.slice oa2 on oc2).ownBlock=some gg∨gg=w5.heap.size+1)→gg<w1.heap.size→
       (Ab w1 g2 (k*6+5) (.slice oa2 on oc2)∧Ab w1 m 0 (.int .i64 2)∧Ab w1 m 1 (.int .i64 tt)∧Ab w1 m 2 (.int .u64 nn)∧Ab w1 m 3 (.int .i64 o1)∧Ab w1 m 4 (.int .i64 o2)∧Ab w1 m 5 (.int .i64 o3)∧Ab w1 m 6 (.int .i64 o4)∧Ab w1 m 7 (.int .i64 re)∧Ab w1 m 8 (.int .i64 rv)∧Ab w1 m 9 (.slice qa 0 qc)∧Ab w1 m 10 (.int .i64 ro)∧Ab w1 m 11 (.int .i64 rn))∧w1.frozen? ⟨g2,k*6+5,none⟩=false∧RD w (w1.setCell ⟨g2,k*6+5,none⟩ (.slice (some ⟨gg,0,none⟩) (on+1) cap)) tale fin (q+1) (some ⟨g2,0,none⟩) dn vc):=Aa (by
      intro w5 ca ck oc5
      have o5:Ac W w5:=((Ac.refl W).drew).trans oc5
      obtain⟨W6,hW6⟩:=Ad (w5.alloc (.cells #[o1,o2,o3,o4,re,rv,.slice ca 0 ck,ro,rn] 66))
      have oo6:Ac W W6:=by rw[hW6];exact o5.alloc _
      rw[←hW6]
      have D6:=HB.out.2.1.only0 oo6
      have B6:=oo6.blk HB.out.1 (fun hf=>hf)
      have R6:W6.ownsRow w.heap.size 66 9 (.slice oa2 on oc2) on (Ds (Ba ds k).ops (A.pa k) (A.pc k)):=by have:=D6.ops k hkl;rw[hov,←hon]at this;exact this
      have z6:W6.heap.size=w5.heap.size+1:=by rw[hW6];simp
      have hg6:g2<W6.heap.size:=D6.uR g2 hgR
      have nrow:¬(Value.slice oa2 on oc2).ownBlock=some g2:=fun e=>(Dg D6.row (D6.ops k hkl) (by decide)) g2 (AE.2 rfl) (by rw[hov];exact e)
      have nob:¬(Value.slice oa2 on oc2).ownBlock=some m:=fun e=>Bn R6 B6 (by decide) e
      have fz5:W6.frozen? ⟨g2,k*6+5,none⟩=false:=by
       obtain⟨g',e1,_,_,e2,_⟩:=D6.at_ (by omega)
       exact SW
      have u5:=Ai oo6 c5
      obtain⟨ue0,ue1,ue2,ue3,ue4,ue5,ue6,ue7,ue8,ue9,ue10,ue11⟩:=CV B6
      have v5:=Ai o5 c5
      obtain⟨ve0,ve1,ve2,ve3,ve4,ve5,ve6,ve7,ve8,ve9,ve10,ve11⟩:=CV (o5.blk HB.out.1 (fun hf=>hf))
      refine⟨R6,(HB.out.2.2.1.trans oo6).size,⟨v5,ve0,ve1,ve2,ve3,ve4,ve5,ve6,ve7,ve8,ve9,ve10,ve11⟩,⟨u5,ue0,ue1,ue2,ue3,ue4,ue5,ue6,ue7,ue8,ue9,ue10,ue11⟩,fun gg cap w1 h1 h2 h3 h4=>?_⟩
      have B9:Am w1 m 153 #[.int .i64 2,tt,.int .u64 nn,o1,o2,o3,o4,re,rv,.slice qa 0 qc,ro,rn]:=by
       have oG:Ah (AA (.slice oa2 on oc2)) W6 w1:=⟨h2.os,h2.tape,h2.output,h2.size,fun b hb hn=>h2.block b hb (fun e=>hn e.symm)⟩
       exact oG.blk B6 nob
      obtain⟨ze0,ze1,ze2,ze3,ze4,ze5,ze6,ze7,ze8,ze9,ze10,ze11⟩:=CV B9
      refine⟨⟨(h2.cell_far ⟨g2,k*6+5,none⟩ hg6 (fun e=>nrow e.symm)).trans u5,ze0,ze1,ze2,ze3,ze4,ze5,ze6,ze7,ze8,ze9,ze10,ze11⟩,(h2.frozen_far ⟨g2,k*6+5,none⟩ hg6 (fun e=>nrow e.symm)).trans fz5,?_⟩
      subst hon
      have hat:(A.opV ds k).ownBlock=some gg∨W6.heap.size≤gg:=by rw[hov];exact h3.imp (fun h=>h) (fun h=>by omega)
      obtain⟨A',D',O'⟩:=D6.call (c:=⟨⟨o1,o2,o3,o4⟩,⟨re,rv,[],ro,rn⟩⟩) (pa:=ca) (pc:=ck) hkl (.inl rfl) (fun hne=>absurd rfl hne) h1 (by rw[hov];exact h2) hat h4
      have e9:Ct ds ⟨2,tt,nn,⟨o1,o2,o3,o4⟩,⟨re,rv,[],ro,rn⟩⟩=ds.set k {Ba ds k with ops:=(Ba ds k).ops++[⟨⟨o1,o2,o3,o4⟩,⟨re,rv,[],ro,rn⟩⟩]}:=by rw[hkk];rfl
      have oR:Ac w (w1.setCell ⟨g2,k*6+5,none⟩ (.slice (some ⟨gg,0,none⟩) ((Ba ds k).ops.length+1) cap)):=Ac.setCell (((HB.out.2.2.1.trans oo6)).grown h2 (fun b hb=>(R6.lt b hb).1)) (HB.out.2.1.aR g2 hgR) _
      exact NEXT.out _ _ vc dn _ _ A' (by rw[e9,List.length_set];exact hdn) (by rw[e9];exact D') oR (by rw[e9,List.length_set];have:=HB.out.2.2.2.1;omega))
     have hlen2:(Ds (Ba ds k).ops (A.pa k) (A.pc k)).length=on*9:=by unfold Ds;rw[hon];exact BF (fun k=>Fq _ _ _) _
     generalize Ds (Ba ds k).ops (A.pa k) (A.pc k)=CR at *
     clear hgc hkk hkl hdn NEXT HB hgR hgl hov hon hoa hoc
     go_upto_region 8 with(fail)
     rw[←hW,←hm]
     clear hW hm x0 x1 x2 x3 x4 x5 x6 x7 x8 x9 x10 x11
     go_upto_region 13 with(fail)
     refine Ao (S:=(fun w'=>(Ab w' g2 (k*6+5) (.slice oa2 on oc2)∧Ab w' m 0 (.int .i64 2)∧Ab w' m 1 (.int .i64 tt)∧Ab w' m 2 (.int .u64 nn)∧Ab w' m 3 (.int .i64 o1)∧Ab w' m 4 (.int .i64 o2)∧Ab w' m 5 (.int .i64 o3)∧Ab w' m 6 (.int .i64 o4)∧Ab w' m 7 (.int .i64 re)∧Ab w' m 8 (.int .i64 rv)∧Ab w' m 9 (.slice qa 0 qc)∧Ab w' m 10 (.int .i64 ro)∧Ab w' m 11 (.int .i64 rn)))) 11 (by kernel_rfl) ?_ (fun hHeld=>?_)
     ·first|exact⟨c5,y0,y1,y2,y3,y4,y5,y6,y7,y8,y9,y10,y11⟩|exact s5|exact u5|exact z5
     refine Av 0 [11] (h:=Av 1 [11] (h:=Av 2 [11] (h:=Av 3 [11] (h:=Av 4 [11] (h:=Av 5 [11] (h:=Bx (i:=6) (h:=fun K hK=>?_)))))))
     go_simp
     (refine CC.mono ?_;rintro r w5 ⟨ca,ck,rfl,oc5⟩;obtain⟨R6,hB6,s5,u5,HZ0⟩:=HAPP.out w5 ca ck oc5;have HZ:=Aa HZ0;clear HZ0)
     try go_wp2_with fail
     refine D_ hK (by first|exact⟨c5,y0,y1,y2,y3,y4,y5,y6,y7,y8,y9,y10,y11⟩|exact s5|exact u5|exact z5) (h:=fun hHeld=>?_);clear hK K
     refine Bx (i:=7) (h:=fun K hK=>?_)
     try simp only[List.getElem_toArray,List.getElem_cons_zero,List.getElem_cons_succ]
     go_simp
     skip
     try go_wp2_with fail
     refine D_ hK (by first|exact⟨c5,y0,y1,y2,y3,y4,y5,y6,y7,y8,y9,y10,y11⟩|exact s5|exact u5|exact z5) (h:=fun hHeld=>?_);clear hK K
     refine Bx (i:=8) (h:=fun K hK=>?_)
     try simp only[List.getElem_toArray,List.getElem_cons_zero,List.getElem_cons_succ]
     (rw[if_pos (by simp[Region.wanted])];refine wp_append_lies _ _ _ _ (by rfl) w.heap.size 66 j0 _ 9 88 Tryz.underlying55 hj0 hy0 hy1 hy2 rfl (by omega) (.slice oa2 on oc2) on CR (by rfl) R6 ⟨w5.heap.size,0,none⟩ 1 1 [.int .i64 o1,.int .i64 o2,.int .i64 o3,.int .i64 o4,.int .i64 re,.int .i64 rv,.slice ca 0 ck,.int .i64 ro,.int .i64 rn] (by rfl) (by rfl) (World.news_of_block (cs:=#[.int .i64 o1,.int .i64 o2,.int .i64 o3,.int .i64 o4,.int .i64 re,.int .i64 rv,.slice ca 0 ck,.int .i64 ro,.int .i64 rn]) (t:=66) (fr:=(0,0)) (heap_alloc_new w5 _)) (by simp[Value.oneCell']) (by omega) (by unfold maxLen;omega) (by omega) hB6 (w5.heap.size+1) (by simp) ?_;intro gg cap w1 hown2 hgrow hat hlt2;obtain⟨z5,fz1,HN0⟩:=HZ.out gg cap w1 hown2 hgrow hat hlt2;have HN:=Aa HN0;clear HN0)
     refine D_ hK (by first|exact⟨c5,y0,y1,y2,y3,y4,y5,y6,y7,y8,y9,y10,y11⟩|exact s5|exact u5|exact z5) (h:=fun hHeld=>?_);clear hK K
     refine Av 9 [10,11] (h:=Av 10 [11] (h:=?_))
     refine AI (by kernel_rfl) rfl (by kernel_rfl) (fun K hK=>?_)
     try simp only[List.getElem_toArray,List.getElem_cons_zero,List.getElem_cons_succ]
     go_simp
     skip
     try go_wp2_with fail
     refine hK.out _ _ ?_
     clear hK K
     try simp only[Act.put,List.getElem_toArray,List.getElem_cons_zero,List.getElem_cons_succ,List.setIfInBounds_toArray,List.set_cons_zero,List.set_cons_succ]
     clear HZ hown2 hgrow hat hlt2 R6 hB6 fz1 s5 u5 z5 c5 y0 y1 y2 y3 y4 y5 y6 y7 y8 y9 y10 y11 HAPP CC oc5
     go_wp2_with fail
     go_roundw
     case rel=>exact⟨q+1,dn,_,_,_,vc,rfl,rfl,rfl,by go_num,by omega,by omega,HN⟩
     case measure=>simp[intOf];omega
    ·subst hk
     have c4:=Ae W g2 (k*6+4) (.int .u64 (Ba ds k).fin) (hgc k hkl 4 _ rfl)
     have HF:Hid (RD w (W.setCell ⟨g2,k*6+4,none⟩ (.int .u64 nn)) tale fin (q+1) (some ⟨g2,0,none⟩) dn vc):=Aa (by
      obtain⟨D',O'⟩:=HB.out.2.1.turn (i:=k) (f:=4) (v:= .int .u64 nn) hkl (by omega) (d':={Ba ds k with fin:=nn}) rfl (fun a c=>rfl)
      have e9:Ct ds ⟨3,tt,nn,⟨o1,o2,o3,o4⟩,⟨re,rv,[],ro,rn⟩⟩=ds.set k {Ba ds k with fin:=nn}:=by rw[hkk];rfl
      exact NEXT.out _ _ vc dn R S A (by rw[e9,List.length_set];exact hdn) (by rw[e9];exact D') (HB.out.2.2.1.setCell (HB.out.2.1.aR g2 hgR) _) (by rw[e9,List.length_set];have:=HB.out.2.2.2.1;omega))
     generalize(Ba ds k).fin=oldf at *
     exact SR
    ·subst hk
     have c2:=Ae W g2 (k*6+2) (.int .i64 (Ba ds k).state) (hgc k hkl 2 _ rfl)
     have HF:Hid (RD w (W.setCell ⟨g2,k*6+2,none⟩ (.int .i64 3)) tale fin (q+1) (some ⟨g2,0,none⟩) dn vc):=Aa (by
      obtain⟨D',O'⟩:=HB.out.2.1.turn (i:=k) (f:=2) (v:= .int .i64 3) hkl (by omega) (d':={Ba ds k with state:=3}) rfl (fun a c=>rfl)
      have e9:Ct ds ⟨5,tt,nn,⟨o1,o2,o3,o4⟩,⟨re,rv,[],ro,rn⟩⟩=ds.set k {Ba ds k with state:=3}:=by rw[hkk];rfl
      exact NEXT.out _ _ vc dn R S A (by rw[e9,List.length_set];exact hdn) (by rw[e9];exact D') (HB.out.2.2.1.setCell (HB.out.2.1.aR g2 hgR) _) (by rw[e9,List.length_set];have:=HB.out.2.2.2.1;omega))
     generalize(Ba ds k).state=oldf at *
     exact SR
  ·obtain rfl:q=n:=by omega
   have HF:Hid (Ac w wr∧BJ wr va (tale.foldl Ct [])∧dn=(tale.foldl Ct []).length∧dn≤vc∧vc≤9223372036854775807∧∀x,va=some x→w.heap.size≤x.block):=Aa (by
    obtain⟨ds,R,S,A,es,last,hdn,hD,hO,hds,hes,hdl,hopl,hall⟩:=HQ.out.all
    rw[HH.out.2.1,List.take_length]at hds
    rw[←hds]
    refine⟨hO,hD.deals.1,hdn,by rw[hdn];exact hD.deals.2,?_,fun x hx=>?_⟩
    rcases hD.row.2 with⟨e,_⟩|⟨g,cap,cur,hv,hgB,hg,hnc,hcm,_⟩
    ·injection e with e1 e2 e3;omega
    ·injection hv with e1 e2 e3;unfold maxLen at hcm;omega
    ·rcases hD.row.2 with⟨e,_⟩|⟨g,cap,cur,hv,hgB,hg,hnc,hcm,_⟩
     ·injection e with e1;rw[e1]at hx;cases hx
     ·injection hv with e1;rw[e1]at hx;cases hx;exact hgB)
   clear HQ
   obtain⟨z1,z2,z3,z4,z5,z6⟩:=HF.out
   have HG:=Aa (And.intro z1 (And.intro z2 (And.intro z3 z6)))
   clear HF z1 z2 z3 z6
   go_wp2_with fail
   refine(LR va dn vc wr z4 z5).mono ?_
   rintro r w6 ⟨rfl,rfl⟩
   go_wp2_with fail
   go_ret
   exact⟨va,by rw[←HG.out.2.2.1];rfl,HG.out.1,HG.out.2.1,HG.out.2.2.2⟩
end
end Go.Proofs.YtoakelhnhkilcaaGreat

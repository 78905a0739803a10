/-
  TopOne:what its proof rests on,part 10.
-/
import Derived.Maps.OwnSet
import Derived.Laws.EntriesVeiled
import Derived.ProofKit
import Derived.SizedLaws
import Derived.Deep.Slices
import Derived.ChangeOld
import Derived.ShutString
import Derived.OpenShut
import Derived.Test.YtoakelhnhkilcaaGreatProg
import Derived.Test.YtoakelhnhkilcaaGreatZTopOne1
import Derived.Test.YtoakelhnhkilcaaGreatZTopOne9
set_option linter.unusedVariables false
set_option linter.unusedSimpArgs false
set_option maxRecDepth 100000
set_option maxHeartbeats 64000000
namespace Go.Proofs.YtoakelhnhkilcaaGreat
open Go.RowKit
section
open Go.Maps
attribute [local go_sem ↓] Go.wp_at_zero Go.wp_at_succ
def RF(f:Nat→Option Int):Nat→Option MD:=fun k=>(f k).map fun x=> .lit (.int .i64 x)
abbrev DU(w:World)(b:Nat)(f:Nat→Option Int):Prop:=∃D,Eg Tryz.prog Jh (plainElem Tryz.prog 3) w b (RF f) D
theorem Uo{P:Prop}(h:P:=by
 go_upto_region 5 with(fail)
 rw[←hW,←hm]
 clear hW hm x0 x1 x2 x3 x4 x5
 go_wp2_with fail
 go_roundw
 case rel=>exact⟨2,_,_,_,_,_,rfl,rfl,rfl,rfl,by omega,HN⟩
 case measure=>simp[intOf]):P:=h
theorem U9{P:Prop}(h:P:=by
 clear z0 z1 z2 z3 z4 z5 z6 z7 z8
 go_wp2_with fail
 go_roundw
 case rel=>exact⟨1,_,rfl,rfl,by omega,Aa ⟨fun z=>(by cases z),fun _=>HR.out⟩⟩
 case measure=>simp[intOf]):P:=h
theorem Tt{P:Prop}(h:P:=by
 go_wp2_with fail
 refine CA.mono ?_
 rintro rr w3 ⟨rfl,o3⟩
 have HG:=Aa (HF.out.trans o3)
 clear CA HF o3
 go_wp2_with fail
 go_ret
 exact⟨rfl,HG.out.below⟩):P:=h
theorem SU{P:Prop}(h:P:=by
 clear CW hg H4 cE y0 y1
 obtain⟨U5,M5,X5,hT5,hk5,hO5,hA5,hl5⟩:=HT.out
 have CL1:=Bf hT5.en
 rw[hl5]at CL1
 have gl1:¬(l2:Int)<lk:=by omega
 have gl2:¬(lk+1:Int)<l2:=by omega
 have cE5:=hT5.cE
 have HR:Hid (Kv w w5 x e (24556+81*(q+1))):=Aa ⟨U5,M5,X5,hT5,hk5,hO5,hA5⟩
 clear HT hT5 hk5 hO5 hA5 hl5
 go_wp2_with fail
 refine CL1.mono ?_
 rintro r w6 ⟨rfl,rfl⟩
 go_wp2_with fail
 refine CL1.mono ?_
 rintro r w6 ⟨rfl,rfl⟩
 clear CL1 cE5
 go_wp2_with fail
 go_roundw
 case rel=>exact⟨q+1,_,_,_,by go_num,rfl,rfl,rfl,by omega,HR⟩
 case measure=>simp[intOf];omega):P:=h
theorem Uf{P:Prop}(h:P:=by
 clear HT hT5 hk5 hO5 hA5 hl5
 go_wp2_with fail
 refine CL1.mono ?_
 rintro r w6 ⟨rfl,rfl⟩
 go_wp2_with fail
 refine CL1.mono ?_
 rintro r w6 ⟨rfl,rfl⟩
 clear CL1 cE5
 go_wp2_with fail
 go_roundw
 case rel=>exact⟨q+1,_,_,_,by go_num,rfl,rfl,rfl,by omega,HR⟩
 case measure=>simp[intOf];omega):P:=h
theorem UI{P:Prop}(h:P:=by
 have HF:Hid (Kv w wr x e 24556):=Aa (HQ.out.mono (by omega))
 clear HQ
 go_wp2_with fail
 go_ret
 exact⟨x,e,rfl,HF.out⟩):P:=h
theorem TU{P:Prop}(h:P:=by
 have HS:=Aa (HR.out.2 rfl)
 clear HR
 go_wp2_with fail
 go_ret
 exact⟨rfl,HS.out⟩):P:=h
theorem Nd(w:World):(zeroValue 3).run Tryz.prog w= .ok (.int .i64 0) w:=by kernel_rfl
theorem DU.only{w w':World}{b:Nat}{f:Nat→Option Int}{S:Nat→Prop}(h:DU w b f)(o:Ah S w w')(hn:¬S b):DU w' b f:=by obtain⟨D,h⟩:=h;exact⟨D,h.only o hn⟩
theorem DU.only0{w w':World}{b:Nat}{f:Nat→Option Int}(h:DU w b f)(o:Ac w w'):DU w' b f:=h.only (S:=fun _=>False) o (fun e=>e)
theorem DU.made(w:World):DU (w.alloc (.map #[] 0)) w.heap.size (fun _=>none):=⟨_,Eg.made w Tryz.prog Jh _⟩
theorem DU.look{w:World}{b:Nat}{f:Nat→Option Int}(h:DU w b f)(k:Nat)(hk:k<64):(Instr.lookup 234 (.map (some b)) (.int .i64 k) true).run Tryz.prog w= .ok (.tuple #[.int .i64 ((f k).getD 0),.bool (f k).isSome]) w:=by
 obtain⟨D,h⟩:=h
 obtain⟨v,ps,h1,h2⟩:=h.own.look_ok (t:=234) JA Tryz.underlying234 (Nd w) (plainElem_int (q:= .i64) Tryz.underlying3 (by decide)) (Maps.keyOf_int_mk Tryz.underlying3 (Jn k hk))
 have h3:=h.at_ k hk (.lit (.int .i64 0))
 have h4:=h.has k hk
 unfold Ee at h3 h4
 rw[h3]at h2
 rw[h1,h4]
 obtain⟨c,rfl,hc,hwc⟩:=plainElem_int_inv Tryz.underlying3 h2
 have hc1:=congrArg Prod.fst hc
 unfold RF at hc1 ⊢
 cases hf:f k with
 |none=>rw[hf]at hc1;simp at hc1;rw[←hc1];simp
 |some x=>rw[hf]at hc1;simp at hc1;rw[←hc1];simp
theorem DU.store{w:World}{b:Nat}{f:Nat→Option Int}(h:DU w b f)(k:Nat)(hk:k<64)(x:Int)(hx:(Lit.int .i64 x).wf=true):∃w',(Instr.mapUpdate 234 (.map (some b)) (.int .i64 k) (.int .i64 x)).run Tryz.prog w= .ok () w'∧DU w' b (AT f k (some x))∧Ah (fun c=>c=b) w w':=by
 obtain⟨D,h⟩:=h
 obtain⟨w',D',h1,h2,h3⟩:=h.store (T:=234) JA Tryz.underlying3 Tryz.underlying234 k hk (plainElem_int (q:= .i64) Tryz.underlying3 hx)
 refine⟨w',h1,⟨D',h2.own,h2.keys,fun j hj z=>?_⟩,h3⟩
 rw[h2.at_ j hj z]
 unfold RF AT
 by_cases e:j=k<;>simp[e]
theorem Oh{w:World}{b:Nat}{f:Nat→Option Int}(h:DU w b f)(pa:Option Addr)(pc:Nat):
 Calls Tryz.prog 120 #[.map (some b),.agg #[.int .i64 2,.int .i64 5,.int .i64 0,.int .i64 7,.int .i64 0,.int .i64 0,.slice pa 0 pc,.int .i64 0,.int .i64 0]] w fun r w'=>r= .returned (.tuple #[])∧DU w' b (AT f 5 (some 7))∧Ah (fun c=>c=b) w w':=by
 obtain⟨W,hW⟩:=Ad (w.alloc (.cells #[.int .i64 2,.int .i64 5,.int .i64 0,.int .i64 7,.int .i64 0,.int .i64 0,.slice pa 0 pc,.int .i64 0,.int .i64 0] 66))
 obtain⟨m,hm⟩:=Ad w.heap.size
 have oW:Ac w W:=by rw[hW];exact(Ac.refl w).alloc _
 have bW:Am W m 66 #[.int .i64 2,.int .i64 5,.int .i64 0,.int .i64 7,.int .i64 0,.int .i64 0,.slice pa 0 pc,.int .i64 0,.int .i64 0]:=by rw[hW,hm];exact Am.new _ _ _
 obtain⟨y0,y1,y2,y3,y4,y5,y6,y7,y8⟩:=EM bW
 obtain⟨w2,hst,hS,hO⟩:=(h.only0 oW).store 5 (by omega) 7 (by decide)
 replace hst:(Instr.mapUpdate 234 (.map (some b)) (.int .i64 5) (.int .i64 7)).run Tryz.prog W= .ok () w2:=hst
 have HF:=Aa (And.intro hS ((oW.any _).trans hO))
 clear oW bW h hS hO
 go_enter Tryz.func120,Tryz.ntmps120
 go_upto_region 1 with(fail)
 rw[←hW,←hm]
 clear hW hm
 go_wp2_with fail
 go_end0
 exact⟨rfl,HF.out⟩
theorem Ql{w:World}(b:Nat)(pa:Option Addr)(pc:Nat):
 Calls Tryz.prog 120 #[.map (some b),.agg #[.int .i64 1,.int .i64 5,.int .i64 0,.int .i64 0,.int .i64 0,.int .i64 7,.slice pa 0 pc,.int .i64 0,.int .i64 0]] w fun r w'=>r= .returned (.tuple #[])∧Ac w w':=by
 obtain⟨W,hW⟩:=Ad (w.alloc (.cells #[.int .i64 1,.int .i64 5,.int .i64 0,.int .i64 0,.int .i64 0,.int .i64 7,.slice pa 0 pc,.int .i64 0,.int .i64 0] 66))
 obtain⟨m,hm⟩:=Ad w.heap.size
 have oW:Ac w W:=by rw[hW];exact(Ac.refl w).alloc _
 have bW:Am W m 66 #[.int .i64 1,.int .i64 5,.int .i64 0,.int .i64 0,.int .i64 0,.int .i64 7,.slice pa 0 pc,.int .i64 0,.int .i64 0]:=by rw[hW,hm];exact Am.new _ _ _
 obtain⟨y0,y1,y2,y3,y4,y5,y6,y7,y8⟩:=EM bW
 have HF:=Aa oW
 clear oW bW
 go_enter Tryz.func120,Tryz.ntmps120
 go_upto_region 1 with(fail)
 rw[←hW,←hm]
 clear hW hm
 go_wp2_with fail
 go_end0
 exact⟨rfl,HF.out⟩
theorem QC{w:World}{b:Nat}{f:Nat→Option Int}(h:DU w b f)(hf:f 5=none)(pa:Option Addr)(pc:Nat):
 Calls Tryz.prog 119 #[.map (some b),.agg #[.int .i64 2,.int .i64 5,.int .i64 0,.int .i64 7,.int .i64 0,.int .i64 0,.slice pa 0 pc,.int .i64 0,.int .i64 0]] w fun r w'=>r= .returned (.bool true)∧Ac w w':=by
 obtain⟨W,hW⟩:=Ad (w.alloc (.cells #[.int .i64 2,.int .i64 5,.int .i64 0,.int .i64 7,.int .i64 0,.int .i64 0,.slice pa 0 pc,.int .i64 0,.int .i64 0] 66))
 obtain⟨m,hm⟩:=Ad w.heap.size
 have oW:Ac w W:=by rw[hW];exact(Ac.refl w).alloc _
 have bW:Am W m 66 #[.int .i64 2,.int .i64 5,.int .i64 0,.int .i64 7,.int .i64 0,.int .i64 0,.slice pa 0 pc,.int .i64 0,.int .i64 0]:=by rw[hW,hm];exact Am.new _ _ _
 obtain⟨y0,y1,y2,y3,y4,y5,y6,y7,y8⟩:=EM bW
 have hl:=(h.only0 oW).look 5 (by omega)
 rw[hf]at hl
 replace hl:(Instr.lookup 234 (.map (some b)) (.int .i64 5) true).run Tryz.prog W= .ok (.tuple #[.int .i64 0,.bool false]) W:=hl
 have HO:=Aa oW
 clear oW bW h hf
 go_enter Tryz.func119,Tryz.ntmps119
 go_upto_region 1 with(fail)
 rw[←hW,←hm]
 clear hW hm
 go_wp2_with fail
 go_ret
 exact⟨rfl,HO.out⟩
theorem PS{w:World}{b:Nat}{f:Nat→Option Int}(h:DU w b f)(hf:f 5=some 7)(pa:Option Addr)(pc:Nat):
 Calls Tryz.prog 119 #[.map (some b),.agg #[.int .i64 1,.int .i64 5,.int .i64 0,.int .i64 0,.int .i64 0,.int .i64 7,.slice pa 0 pc,.int .i64 0,.int .i64 0]] w fun r w'=>r= .returned (.bool true)∧Ac w w':=by
 obtain⟨W,hW⟩:=Ad (w.alloc (.cells #[.int .i64 1,.int .i64 5,.int .i64 0,.int .i64 0,.int .i64 0,.int .i64 7,.slice pa 0 pc,.int .i64 0,.int .i64 0] 66))
 obtain⟨m,hm⟩:=Ad w.heap.size
 have oW:Ac w W:=by rw[hW];exact(Ac.refl w).alloc _
 have bW:Am W m 66 #[.int .i64 1,.int .i64 5,.int .i64 0,.int .i64 0,.int .i64 0,.int .i64 7,.slice pa 0 pc,.int .i64 0,.int .i64 0]:=by rw[hW,hm];exact Am.new _ _ _
 obtain⟨y0,y1,y2,y3,y4,y5,y6,y7,y8⟩:=EM bW
 have hl:=(h.only0 oW).look 5 (by omega)
 rw[hf]at hl
 replace hl:(Instr.lookup 234 (.map (some b)) (.int .i64 5) true).run Tryz.prog W= .ok (.tuple #[.int .i64 7,.bool true]) W:=hl
 have HO:=Aa oW
 clear oW bW h hf
 go_enter Tryz.func119,Tryz.ntmps119
 go_upto_region 1 with(fail)
 rw[←hW,←hm]
 clear hW hm
 go_wp2_with fail
 go_ret
 exact⟨rfl,HO.out⟩
def PU(d:Dl)(a:Option Addr)(c:Nat):Array Value:=#[.int .i64 d.id,.int .i64 d.level,.int .i64 d.state,.int .u64 d.beg,.int .u64 d.fin,.slice a d.ops.length c]
theorem LL{w:World}(d:Dl)(a:Option Addr)(c:Nat)(h1:1≤d.fin)(h2:d.fin<1000000):
 Calls Tryz.prog 97 #[.agg (PU d a c)] w fun r w'=>r= .returned (.int .u64 (d.fin-1))∧Ac w w':=by
 obtain⟨W,hW⟩:=Ad (w.alloc (.cells (PU d a c) 57))
 obtain⟨m,hm⟩:=Ad w.heap.size
 have oW:Ac w W:=by rw[hW];exact(Ac.refl w).alloc _
 have bW:Am W m 57 (PU d a c):=by rw[hW,hm];exact Am.new _ _ _
 unfold PU at hW bW ⊢
 have c4:=Ae W m 4 (.int .u64 d.fin) (bW.cell 4)
 have ew:IntKind.u64.wrap (d.fin-1)=d.fin-1:=by rw[IntKind.wrap_u64];omega
 have g1:¬d.fin<1:=by omega
 have HF:=Aa oW
 generalize d.fin=fi at *
 generalize d.ops.length=on at *
 clear oW bW
 go_enter Tryz.func97,Tryz.ntmps97
 go_upto_region 1 with(fail)
 rw[←hW,←hm]
 clear hW hm
 go_wp2_with fail
 go_ret
 exact⟨rfl,HF.out⟩
theorem NP{w:World}(d:Dl)(a:Option Addr)(c:Nat)(hst:d.state=3)(bx:Nat)(id:Int)(hb:w.cell? ⟨bx,0,none⟩=some (.int .i64 id)):
 Calls Tryz.prog 117 #[.agg (PU d a c),.pointer (some ⟨bx,0,none⟩)] w fun r w'=>r= .returned (.bool (decide (d.id=id)))∧Ac w w':=by
 obtain⟨W,hW⟩:=Ad (w.alloc (.cells (PU d a c) 57))
 obtain⟨m,hm⟩:=Ad w.heap.size
 have oW:Ac w W:=by rw[hW];exact(Ac.refl w).alloc _
 have bW:Am W m 57 (PU d a c):=by rw[hW,hm];exact Am.new _ _ _
 have hb2:=Ai oW hb
 unfold PU at hW bW ⊢
 rw[hst]at hW bW ⊢
 have c0:=Ae W m 0 (.int .i64 d.id) (bW.cell 0)
 have c2:=Ae W m 2 (.int .i64 3) (bW.cell 2)
 have HF:=Aa oW
 clear oW bW hb
 by_cases he:d.id=id
 ·subst he
  generalize d.id=di at *
  go_enter Tryz.func117,Tryz.ntmps117
  go_upto_region 1 with(fail)
  rw[←hW,←hm]
  clear hW hm
  go_wp2_with fail
  go_ret
  exact⟨by simp,HF.out⟩
 ·generalize d.id=di at *
  have hd:decide (di=id)=false:=decide_eq_false he
  rw[hd]
  go_enter Tryz.func117,Tryz.ntmps117
  go_upto_region 1 with(fail)
  rw[←hW,←hm]
  clear hW hm
  go_wp2_with fail
  go_ret
  exact⟨rfl,HF.out⟩
end
section
attribute [local go_sem ↓] Go.wp_at_zero Go.wp_at_succ
def Py(ds:List Dl):Prop:=∀i,i<ds.length→(Ba ds i).id=(i:Int)+1∧(Ba ds i).state=3
theorem My{w:World}{a:Option Addr}{c:Nat}{ds:List Dl}(h:BJ w a ds)(hk:Py ds)(hn:ds.length≤100000)(bx j:Nat)(id:Int)(hid:id=(j:Int)+1)(hj:j<ds.length)(hb:w.cell? ⟨bx,0,none⟩=some (.int .i64 id)):
 Calls Tryz.prog 116 #[.slice a ds.length c,.func (.func 117) #[] #[.pointer (some ⟨bx,0,none⟩)]] w fun r w'=>r= .returned (.int .i64 (j:Int))∧Ac w w':=by
 obtain⟨n,hnn⟩:=Ad ds.length
 rw[←hnn]at hj hn ⊢
 have HH:=Aa (And.intro h (And.intro hk (And.intro hnn (And.intro hid hb))))
 clear h hk hnn hid hb
 go_enter Tryz.func116,Tryz.ntmps116
 go_wp2_with fail
 go_loopw [5,8] (fun s5 s8 wr=>∃(q:Nat) (v5:Value),s5=v5∧s8= .int .i64 q∧q≤j∧Hid (Ac w wr)) (fun _ s8 _=>n-(intOf s8).toNat)
 case atStart=>exact⟨0,_,rfl,rfl,by omega,Aa (Ac.refl w)⟩
 case round=>
  obtain⟨q,v5,rfl,rfl,hq,HQ⟩:=hrel
  have hlt2:(q:Int)<n:=by omega
  have hqn:q<ds.length:=by have:=HH.out.2.2.1;omega
  obtain⟨g,oa,oc,rfl,hcs,hle,hcell⟩:=(HH.out.1.only0 HQ.out).at_ hqn
  have CF:=NP (w:=wr) (Ba ds q) oa oc (HH.out.2.1 q hqn).2 bx id (Ai HQ.out HH.out.2.2.2.2)
  obtain⟨d,hd⟩:=Ad (Ba ds q)
  have hdid:d.id=(q:Int)+1:=by rw[hd];exact(HH.out.2.1 q hqn).1
  have hdst:d.state=3:=by rw[hd];exact(HH.out.2.1 q hqn).2
  rw[←hd]at hcell CF
  obtain⟨di,dl,ds',db,df,dops⟩:=d
  obtain⟨x0,x1,x2,x3,x4,x5⟩:=hcell
  dsimp only at x0 x1 x2 x3 x4 x5
  unfold PU at CF
  dsimp only at CF hdid
  have HS:=Aa (And.intro hdid HH.out.2.2.2.1)
  generalize dops.length=on at *
  clear hcs hle hd hdid hdst hqn
  by_cases hqj:q=j
  ·subst hqj
   have ht:decide (di=id)=true:=decide_eq_true (by rw[HS.out.1,HS.out.2])
   rw[ht]at CF
   clear ht
   go_wp2_with fail
   refine CF.mono ?_
   rintro r w2 ⟨rfl,o2⟩
   have HO:=Aa (HQ.out.trans o2)
   clear o2 CF
   go_wp2_with fail
   go_ret
   exact⟨rfl,HO.out⟩
  ·have ht:decide (di=id)=false:=decide_eq_false (by rw[HS.out.1,HS.out.2];omega)
   rw[ht]at CF
   clear ht
   go_wp2_with fail
   refine CF.mono ?_
   rintro r w2 ⟨rfl,o2⟩
   have HO:=Aa (HQ.out.trans o2)
   clear o2 CF x0 x1 x2 x3 x4 x5
   go_wp2_with fail
   go_roundw
   case rel=>exact⟨q+1,_,rfl,by go_num,by omega,HO⟩
   case measure=>simp[intOf];omega
theorem LP{w:World}{a:Option Addr}{c:Nat}{ds:List Dl}(h:BJ w a ds)(hk:Py ds)(hn:ds.length≤100000)(j:Nat)(id:Int)(hid:id=(j:Int)+1)(hj:j<ds.length):
 Calls Tryz.prog 95 #[.slice a ds.length c,id] w fun r w'=>r= .returned (.int .i64 (j:Int))∧Ac w w':=by
 have hmf:∀(fn:Go.Fn) (first cap:Array Value) (w:World),(Instr.makeFunc fn first cap).run Tryz.prog w= .ok (.func fn first cap) w:=fun _ _ _ _=>rfl
 obtain⟨W,hW⟩:=Ad (w.alloc (.cells #[id] 3))
 obtain⟨m,hm⟩:=Ad w.heap.size
 have oW:Ac w W:=by rw[hW];exact(Ac.refl w).alloc _
 have bW:Am W m 3 #[id]:=by rw[hW,hm];exact Am.new _ _ _
 have CI:=My (c:=c) (h.only0 oW) hk hn m j id hid hj (bW.cell 0)
 have HF:=Aa oW
 generalize ds.length=n at *
 clear oW bW h hk hid hj hn
 go_enter Tryz.func95,Tryz.ntmps95
 go_upto_region 1 with(fail)
 rw[←hW,←hm]
 clear hW hm
 go_wp2_with fail
 refine CI.mono ?_
 rintro r w2 ⟨rfl,o2⟩
 have HO:=Aa (HF.out.trans o2)
 clear o2 CI
 go_wp2_with fail
 go_ret
 exact⟨rfl,HO.out⟩
theorem Qs(w:World)(a:Option Addr)(n c:Nat)(f:Value)(hn:n≤1):
 Calls Tryz.prog 206 #[.slice a n c,.int .i64 0,n,f] w fun r w'=>r= .returned (.tuple #[])∧w'=w:=by
 have g1:¬(1:Int)<n:=by omega
 go_enter Tryz.func206,Tryz.ntmps206
 go_wp2_with fail
 go_loopw [8,9] (fun s8 s9 wr=>∃v9:Value,s9=v9∧s8= .int .i64 1∧wr=w) (fun _ _ _=>0)
 case atStart=>exact⟨_,rfl,rfl,rfl⟩
 case round=>
  obtain⟨v9,rfl,rfl,rfl⟩:=hrel
  go_wp2_with fail
  go_end0
  exact⟨rfl,rfl⟩
theorem Ow(w:World)(a:Option Addr)(n c:Nat)(f:Value)(hn:n≤1):
 Calls Tryz.prog 181 #[.slice a n c,n,f] w fun r w'=>r= .returned (.tuple #[])∧w'=w:=by
 have g1:¬(20:Int)≤n:=by omega
 have g2:¬(20:Int)<n:=by omega
 have CI:=Qs w a n c f hn
 clear hn
 go_enter Tryz.func181,Tryz.ntmps181
 go_wp2_with fail
 go_loopw [7,8] (fun s7 s8 wr=>s7= .int .i64 0∧s8= .int .i64 20∧wr=w) (fun _ _ _=>0)
 case atStart=>exact⟨rfl,rfl,rfl⟩
 case round=>
  obtain⟨rfl,rfl,rfl⟩:=hrel
  go_wp2_with fail
  refine CI.mono ?_
  rintro r w2 ⟨rfl,rfl⟩
  clear CI
  go_wp2_with fail
  go_loopw [6,7,8,9] (fun s6 s7 s8 s9 wr=>∃v7 v8 v9:Value,s7=v7∧s8=v8∧s9=v9∧s6= .int .i64 20∧wr=w2) (fun _ _ _ _ _=>0)
  case atStart=>exact⟨_,_,_,rfl,rfl,rfl,rfl,rfl⟩
  case round=>
   obtain⟨v7,v8,v9,rfl,rfl,rfl,rfl,rfl⟩:=hrel
   go_wp2_with fail
   go_end0
   exact⟨rfl,rfl⟩
theorem Kb(w:World)(a:Option Addr)(n c:Nat)(f:Value)(hn:n≤1):
 Calls Tryz.prog 152 #[.slice a n c,f] w fun r w'=>r= .returned (.tuple #[])∧w'=w:=by
 have CI:=Ow w a n c f hn
 go_enter Tryz.func152,Tryz.ntmps152
 go_wp2_with fail
 refine CI.mono ?_
 rintro r w2 ⟨rfl,rfl⟩
 clear CI
 go_wp2_with fail
 go_end0
 exact⟨rfl,rfl⟩
end
section
attribute [local go_sem ↓] Go.wp_at_zero Go.wp_at_succ
def Hb:List Dl:=[⟨1,3,3,1,2,[⟨⟨2,5,0,7⟩,⟨0,0,[],0,0⟩⟩]⟩,⟨2,3,3,3,4,[⟨⟨1,5,0,0⟩,⟨0,7,[],0,0⟩⟩]⟩]
structure FE(w:World)(g:Nat)(oa0 oa1:Option Addr)(oc0 oc1 g0 g1:Nat)(p0 p1:Option Addr)(k0 k1:Nat):Prop where
 d0:(Ab w g 0 (.int .i64 1)∧Ab w g 1 (.int .i64 3)∧Ab w g 2 (.int .i64 3)∧Ab w g 3 (.int .u64 1)∧Ab w g 4 (.int .u64 2)∧Ab w g 5 (.slice oa0 1 oc0))
 d1:(Ab w g 6 (.int .i64 2)∧Ab w g 7 (.int .i64 3)∧Ab w g 8 (.int .i64 3)∧Ab w g 9 (.int .u64 3)∧Ab w g 10 (.int .u64 4)∧Ab w g 11 (.slice oa1 1 oc1))
 a0:oa0=some ⟨g0,0,none⟩
 a1:oa1=some ⟨g1,0,none⟩
 c0:Ab w g0 0 (.int .i64 2)∧Ab w g0 1 (.int .i64 5)∧Ab w g0 2 (.int .i64 0)∧Ab w g0 3 (.int .i64 7)∧Ab w g0 4 (.int .i64 0)∧Ab w g0 5 (.int .i64 0)∧Ab w g0 6 (.slice p0 0 k0)∧Ab w g0 7 (.int .i64 0)∧Ab w g0 8 (.int .i64 0)
 c1:Ab w g1 0 (.int .i64 1)∧Ab w g1 1 (.int .i64 5)∧Ab w g1 2 (.int .i64 0)∧Ab w g1 3 (.int .i64 0)∧Ab w g1 4 (.int .i64 0)∧Ab w g1 5 (.int .i64 7)∧Ab w g1 6 (.slice p1 0 k1)∧Ab w g1 7 (.int .i64 0)∧Ab w g1 8 (.int .i64 0)
section
variable {w w':World} {g:Nat} {oa0 oa1:Option Addr} {oc0 oc1 g0 g1:Nat} {p0 p1:Option Addr} {k0 k1:Nat}
theorem FE.only0(h:FE w g oa0 oa1 oc0 oc1 g0 g1 p0 p1 k0 k1)(o:Ac w w'):FE w' g oa0 oa1 oc0 oc1 g0 g1 p0 p1 k0 k1:=by
 obtain⟨⟨a1,a2,a3,a4,a5,a6⟩,⟨b1,b2,b3,b4,b5,b6⟩,h3,h4,⟨c1,c2,c3,c4,c5,c6,c7,c8,c9⟩,⟨e1,e2,e3,e4,e5,e6,e7,e8,e9⟩⟩:=h
 have z:=fun{p:Addr} {v:Value} (q:w.cell? p=some v)=>Ai o q
 exact⟨⟨z a1,z a2,z a3,z a4,z a5,z a6⟩,⟨z b1,z b2,z b3,z b4,z b5,z b6⟩,h3,h4,⟨z c1,z c2,z c3,z c4,z c5,z c6,z c7,z c8,z c9⟩,⟨z e1,z e2,z e3,z e4,z e5,z e6,z e7,z e8,z e9⟩⟩
theorem FE.of{va:Option Addr}(h:BJ w va Hb):∃g oa0 oa1 oc0 oc1 g0 g1 p0 p1 k0 k1,va=some ⟨g,0,none⟩∧FE w g oa0 oa1 oc0 oc1 g0 g1 p0 p1 k0 k1:=by
 obtain⟨g,oa0,oc0,e0,c0,_,x0,x1,x2,x3,x4,x5⟩:=h.at_ (i:=0) (by decide)
 obtain⟨g',oa1,oc1,e1,c1,_,y0,y1,y2,y3,y4,y5⟩:=h.at_ (i:=1) (by decide)
 rw[e0]at e1
 cases e1
 obtain⟨g0,p0,k0,a0,_,u0,u1,u2,u3,u4,u5,u6,u7,u8⟩:=c0.at_ (i:=0) (by decide)
 obtain⟨g1,p1,k1,a1,_,v0,v1,v2,v3,v4,v5,v6,v7,v8⟩:=c1.at_ (i:=0) (by decide)
 exact⟨g,oa0,oa1,oc0,oc1,g0,g1,p0,p1,k0,k1,e0,⟨x0,x1,x2,x3,x4,x5⟩,⟨y0,y1,y2,y3,y4,y5⟩,a0,a1,⟨u0,u1,u2,u3,u4,u5,u6,u7,u8⟩,⟨v0,v1,v2,v3,v4,v5,v6,v7,v8⟩⟩
end
def Km(H:Nat)(wr:World)(B:Bool)(q:Nat)(oa:Option Addr)(on oc:Nat):Prop:=(on=0∧oa=none∧oc=0∧(B=false∨q=0))∨(on=1∧B=true∧1≤q∧wr.ownsRow H 3 1 (.slice oa 1 oc) 1 [.int .i64 0])
def Rc(w:World)(f:Nat→Option Int)(r:Ending)(w':World):Prop:=∃mb,r= .returned (.map (some mb))∧Ac w w'∧DU w' mb f∧w.heap.size≤mb
theorem RA{w:World}{g:Nat}{oa0 oa1:Option Addr}{oc0 oc1 g0 g1:Nat}{p0 p1:Option Addr}{k0 k1:Nat}(h:FE w g oa0 oa1 oc0 oc1 g0 g1 p0 p1 k0 k1)(vc:Nat):
 Calls Tryz.prog 118 #[.slice (some ⟨g,0,none⟩) 2 vc,.int .u64 1,.int .i64 0] w (Rc w (fun _=>none)):=by
 obtain⟨i0,hi0,hz0,hz1,hz2⟩:=info_parts EP
 have hmf:∀(fn:Go.Fn) (first cap:Array Value) (w:World),(Instr.makeFunc fn first cap).run Tryz.prog w= .ok (.func fn first cap) w:=fun _ _ _ _=>rfl
 obtain⟨W0,hW0⟩:=Ad (w.alloc (.cells #[.slice (some ⟨g,0,none⟩) 2 vc] 40))
 obtain⟨b0,hb0⟩:=Ad w.heap.size
 have o0:Ac w W0:=by rw[hW0];exact(Ac.refl w).alloc _
 have c0:=Ae W0 b0 0 (.slice (some ⟨g,0,none⟩) 2 vc) (by rw[hW0,hb0];exact Am.cell (Am.new w _ _) 0)
 have HH:=Aa (And.intro h hb0)
 have HQ0:Hid (Ac w W0∧Ab W0 b0 0 (.slice (some ⟨g,0,none⟩) 2 vc)∧Km w.heap.size W0 false 0 none 0 0):=Aa ⟨o0,c0,.inl ⟨rfl,rfl,rfl,.inl rfl⟩⟩
 clear h o0
 go_enter Tryz.func118,Tryz.ntmps118
 go_upto_region 2 with(fail)
 rw[←hW0,←hb0]
 clear hW0 hb0
 go_wp2_with fail
 clear c0
 go_loopw [7,8,9,17] (fun s7 s8 s9 s17 wr=>∃(q:Nat) (v8 v9:Value) (oa:Option Addr) (on oc:Nat),s8=v8∧s9=v9∧s7= .slice oa on oc∧s17= .int .i64 q∧q≤2∧Hid (Ac w wr∧Ab wr b0 0 (.slice (some ⟨g,0,none⟩) 2 vc)∧Km w.heap.size wr false q oa on oc)) (fun _ _ _ s17 _=>2-(intOf s17).toNat)
 case atStart=>exact⟨0,_,_,none,0,0,rfl,rfl,rfl,rfl,by omega,HQ0⟩
 case round=>
  obtain⟨q,v8,v9,oa,on,oc,rfl,rfl,rfl,rfl,hq,HQ⟩:=hrel
  clear HQ0
  rcases(show q=0∨q=1∨q=2 by omega)with rfl|rfl|rfl
  ·rcases HQ.out.2.2 with⟨rfl,rfl,rfl,_⟩|⟨_,z,_⟩
   case inr=>cases z
   obtain⟨x0,x1,x2,x3,x4,x5⟩:=(HH.out.1.only0 HQ.out.1).d0
   have hb:=HQ.out.2.1
   obtain⟨W,hW⟩:=Ad (wr.alloc (.cells #[.int .i64 1,.int .i64 3,.int .i64 3,.int .u64 1,.int .u64 2,.slice oa0 1 oc0] 57))
   obtain⟨m,hm⟩:=Ad wr.heap.size
   have oW:Ac wr W:=by rw[hW];exact(Ac.refl wr).alloc _
   have bW:Am W m 57 #[.int .i64 1,.int .i64 3,.int .i64 3,.int .u64 1,.int .u64 2,.slice oa0 1 oc0]:=by rw[hW,hm];exact Am.new _ _ _
   have y2:=Ae W m 2 (.int .i64 3) (bW.cell 2)
   have y4:=Ae W m 4 (.int .u64 2) (bW.cell 4)
   have HN:Hid (Ac w W∧Ab W b0 0 (.slice (some ⟨g,0,none⟩) 2 vc)∧Km w.heap.size W false 1 none 0 0):=Aa ⟨HQ.out.1.trans oW,Ai oW HQ.out.2.1,.inl ⟨rfl,rfl,rfl,.inl rfl⟩⟩
   clear oW bW HQ
   go_upto_region 5 with(fail)
   rw[←hW,←hm]
   clear hW hm x0 x1 x2 x3 x4 x5
   go_wp2_with fail
   go_roundw
   case rel=>exact⟨1,_,_,_,_,_,rfl,rfl,rfl,rfl,by omega,HN⟩
   case measure=>simp[intOf]
  ·rcases HQ.out.2.2 with⟨rfl,rfl,rfl,_⟩|⟨_,z,_⟩
   case inr=>cases z
   obtain⟨x0,x1,x2,x3,x4,x5⟩:=(HH.out.1.only0 HQ.out.1).d1
   have hb:=HQ.out.2.1
   obtain⟨W,hW⟩:=Ad (wr.alloc (.cells #[.int .i64 2,.int .i64 3,.int .i64 3,.int .u64 3,.int .u64 4,.slice oa1 1 oc1] 57))
   obtain⟨m,hm⟩:=Ad wr.heap.size
   have oW:Ac wr W:=by rw[hW];exact(Ac.refl wr).alloc _
   have bW:Am W m 57 #[.int .i64 2,.int .i64 3,.int .i64 3,.int .u64 3,.int .u64 4,.slice oa1 1 oc1]:=by rw[hW,hm];exact Am.new _ _ _
   have y2:=Ae W m 2 (.int .i64 3) (bW.cell 2)
   have y4:=Ae W m 4 (.int .u64 4) (bW.cell 4)
   have HN:Hid (Ac w W∧Ab W b0 0 (.slice (some ⟨g,0,none⟩) 2 vc)∧Km w.heap.size W false 2 none 0 0):=Aa ⟨HQ.out.1.trans oW,Ai oW HQ.out.2.1,.inl ⟨rfl,rfl,rfl,.inl rfl⟩⟩
   clear oW bW HQ
   exact Uo
  ·rcases HQ.out.2.2 with⟨rfl,rfl,rfl,_⟩|⟨_,z,_⟩
   case inr=>cases z
   have hb:=HQ.out.2.1
   have HN:=Aa HQ.out.1
   have CS:=Kb wr none 0 0 (.func (.func 153) #[] #[bp b0]) (by omega)
   obtain⟨W,hW⟩:=Ad (wr.alloc (.map #[] 0))
   obtain⟨mb,hmb⟩:=Ad wr.heap.size
   have HM:Hid (Ac w W∧DU W mb (fun _=>none)∧w.heap.size≤mb):=Aa (by
    rw[hW,hmb];exact⟨HN.out.alloc _,DU.made wr,HN.out.size⟩)
   have hmm:=@run_makeMap Tryz.prog
   clear HQ
   go_wp2_with fail
   refine CS.mono ?_
   rintro r w3 ⟨rfl,rfl⟩
   clear CS
   go_upto_region 10 with(fail)
   rw[←hW,←hmb]
   clear hW hmb hb
   go_wp2_with fail
   go_loopw [12,14,47] (fun s12 s14 s47 wr=>∃(v12 v14:Value),s12=v12∧s14=v14∧s47= .int .i64 0∧wr=W) (fun _ _ _ _=>0)
   case atStart=>exact⟨_,_,rfl,rfl,rfl,rfl⟩
   case round=>
    obtain⟨v12,v14,rfl,rfl,rfl,rfl⟩:=hrel
    go_wp2_with fail
    go_ret
    exact⟨mb,rfl,HM.out⟩
theorem Rf{w:World}{g:Nat}{oa0 oa1:Option Addr}{oc0 oc1 g0 g1:Nat}{p0 p1:Option Addr}{k0 k1:Nat}(h:FE w g oa0 oa1 oc0 oc1 g0 g1 p0 p1 k0 k1)(vc:Nat):
 Calls Tryz.prog 118 #[.slice (some ⟨g,0,none⟩) 2 vc,.int .u64 3,.int .i64 1] w (Rc w (AT (fun _=>none) 5 (some 7))):=by
 obtain⟨i0,hi0,hz0,hz1,hz2⟩:=info_parts EP
 have hmf:∀(fn:Go.Fn) (first cap:Array Value) (w:World),(Instr.makeFunc fn first cap).run Tryz.prog w= .ok (.func fn first cap) w:=fun _ _ _ _=>rfl
 obtain⟨W0,hW0⟩:=Ad (w.alloc (.cells #[.slice (some ⟨g,0,none⟩) 2 vc] 40))
 obtain⟨b0,hb0⟩:=Ad w.heap.size
 have o0:Ac w W0:=by rw[hW0];exact(Ac.refl w).alloc _
 have c0:=Ae W0 b0 0 (.slice (some ⟨g,0,none⟩) 2 vc) (by rw[hW0,hb0];exact Am.cell (Am.new w _ _) 0)
 have HH:=Aa (And.intro h hb0)
 have HQ0:Hid (Ac w W0∧Ab W0 b0 0 (.slice (some ⟨g,0,none⟩) 2 vc)∧Km w.heap.size W0 true 0 none 0 0):=Aa ⟨o0,c0,.inl ⟨rfl,rfl,rfl,.inr rfl⟩⟩
 clear h o0
 go_enter Tryz.func118,Tryz.ntmps118
 go_upto_region 2 with(fail)
 rw[←hW0,←hb0]
 clear hW0 hb0
 go_wp2_with fail
 clear c0
 go_loopw [7,8,9,17] (fun s7 s8 s9 s17 wr=>∃(q:Nat) (v8 v9:Value) (oa:Option Addr) (on oc:Nat),s8=v8∧s9=v9∧s7= .slice oa on oc∧s17= .int .i64 q∧q≤2∧Hid (Ac w wr∧Ab wr b0 0 (.slice (some ⟨g,0,none⟩) 2 vc)∧Km w.heap.size wr true q oa on oc)) (fun _ _ _ s17 _=>2-(intOf s17).toNat)
 case atStart=>exact⟨0,_,_,none,0,0,rfl,rfl,rfl,rfl,by omega,HQ0⟩
 case round=>
  obtain⟨q,v8,v9,oa,on,oc,rfl,rfl,rfl,rfl,hq,HQ⟩:=hrel
  clear HQ0
  rcases(show q=0∨q=1∨q=2 by omega)with rfl|rfl|rfl
  ·rcases HQ.out.2.2 with⟨rfl,rfl,rfl,_⟩|⟨_,_,z,_⟩
   case inr=>omega
   obtain⟨x0,x1,x2,x3,x4,x5⟩:=(HH.out.1.only0 HQ.out.1).d0
   have hb:=HQ.out.2.1
   obtain⟨W,hW⟩:=Ad (wr.alloc (.cells #[.int .i64 1,.int .i64 3,.int .i64 3,.int .u64 1,.int .u64 2,.slice oa0 1 oc0] 57))
   obtain⟨m,hm⟩:=Ad wr.heap.size
   have oW:Ac wr W:=by rw[hW];exact(Ac.refl wr).alloc _
   have bW:Am W m 57 #[.int .i64 1,.int .i64 3,.int .i64 3,.int .u64 1,.int .u64 2,.slice oa0 1 oc0]:=by rw[hW,hm];exact Am.new _ _ _
   have y2:=Ae W m 2 (.int .i64 3) (bW.cell 2)
   have y4:=Ae W m 4 (.int .u64 2) (bW.cell 4)
   have R5:(W.alloc (.cells #[.int .i64 0] 3)).ownsRow w.heap.size 3 1 (.slice none 0 0) 0 []:=World.ownsRow_nil _ _ _ _
   have hB5:w.heap.size≤(W.alloc (.cells #[.int .i64 0] 3)).heap.size:=((HQ.out.1.trans oW).alloc _).size
   have HN:=Aa (And.intro (HQ.out.1.trans oW) (Ai oW HQ.out.2.1))
   clear oW bW HQ hb
   go_upto_region 5 with(fail)
   rw[←hW,←hm]
   clear hW hm x0 x1 x2 x3 x4 x5
   go_wp2_with (at_builtin;go_loud (refine wpList_append_lies _ rfl _ _ 22 rfl w.heap.size 3 i0 _ 1 8 Tryz.underlying22 hi0 hz0 hz1 hz2 rfl (by omega) (.slice none 0 0) 0 [] rfl R5 ⟨W.heap.size,0,none⟩ 1 1 [.int .i64 0] rfl rfl (World.news_of_block (cs:=#[.int .i64 0]) (t:=3) (fr:=(0,0)) (heap_alloc_new W _)) (by simp[Value.oneCell']) (by omega) (by unfold maxLen;omega) (by omega) hB5 (W.heap.size+1) (by simp) ?_))
   intro gg cap w5 hown5 hgrow5 hat5 hlt5
   have HM:Hid (Ac w w5∧Ab w5 b0 0 (.slice (some ⟨g,0,none⟩) 2 vc)∧Km w.heap.size w5 true 1 (some ⟨gg,0,none⟩) 1 cap):=Aa (by
    have o9:Ac (W.alloc (.cells #[.int .i64 0] 3)) w5:=(Ac.refl _).grown hgrow5 (fun b hb=>by cases hb)
    exact⟨(HN.out.1.alloc _).trans o9,Ai o9 (Ai ((Ac.refl W).alloc _) HN.out.2),.inr ⟨rfl,rfl,by omega,hown5⟩⟩)
   clear hown5 hgrow5 hat5 hlt5 R5 hB5 y2 y4
   go_wp2_with fail
   go_roundw
   case rel=>exact⟨1,_,_,_,1,_,rfl,rfl,rfl,rfl,by omega,HM⟩
   case measure=>simp[intOf]
  ·rcases HQ.out.2.2 with⟨_,_,_,z⟩|⟨rfl,_,_,hown⟩
   case inl=>rcases z with z|z<;>cases z
   obtain⟨x0,x1,x2,x3,x4,x5⟩:=(HH.out.1.only0 HQ.out.1).d1
   have hb:=HQ.out.2.1
   obtain⟨W,hW⟩:=Ad (wr.alloc (.cells #[.int .i64 2,.int .i64 3,.int .i64 3,.int .u64 3,.int .u64 4,.slice oa1 1 oc1] 57))
   obtain⟨m,hm⟩:=Ad wr.heap.size
   have oW:Ac wr W:=by rw[hW];exact(Ac.refl wr).alloc _
   have bW:Am W m 57 #[.int .i64 2,.int .i64 3,.int .i64 3,.int .u64 3,.int .u64 4,.slice oa1 1 oc1]:=by rw[hW,hm];exact Am.new _ _ _
   have y2:=Ae W m 2 (.int .i64 3) (bW.cell 2)
   have y4:=Ae W m 4 (.int .u64 4) (bW.cell 4)
   have HN:Hid (Ac w W∧Ab W b0 0 (.slice (some ⟨g,0,none⟩) 2 vc)∧Km w.heap.size W true 2 oa 1 oc):=Aa ⟨HQ.out.1.trans oW,Ai oW HQ.out.2.1,.inr ⟨rfl,rfl,by omega,AD (S:=fun _=>False) hown oW (fun _ _ e=>e)⟩⟩
   clear oW bW HQ hown
   exact Uo
  ·rcases HQ.out.2.2 with⟨_,_,_,z⟩|⟨rfl,_,_,hown⟩
   case inl=>rcases z with z|z<;>cases z
   obtain⟨go,cap,hv,_,hgo⟩:=hown.form (by omega)
   injection hv with v1 v2 v3
   subst v1
   subst v3
   clear v2
   have hb:=HQ.out.2.1
   have HN:=Aa (And.intro HQ.out.1 (hown.cellAt 0 (by omega)))
   have CS:=Kb wr (some ⟨go,0,none⟩) 1 oc (.func (.func 153) #[] #[bp b0]) (by omega)
   obtain⟨W,hW⟩:=Ad (wr.alloc (.map #[] 0))
   obtain⟨mb,hmb⟩:=Ad wr.heap.size
   have oW:Ac wr W:=by rw[hW];exact(Ac.refl wr).alloc _
   have HM:Hid (Ac w W∧DU W mb (fun _=>none)∧w.heap.size≤mb∧FE W g oa0 oa1 oc0 oc1 g0 g1 p0 p1 k0 k1):=Aa (by
    refine⟨HN.out.1.trans oW,?_,by rw[hmb];exact HN.out.1.size,HH.out.1.only0 (HN.out.1.trans oW)⟩
    rw[hW,hmb];exact DU.made wr)
   have hcb:=Ae W b0 0 (.slice (some ⟨g,0,none⟩) 2 vc) (Ai oW hb)
   have hco:=Ae W go 0 (.int .i64 0) (Ai oW HN.out.2)
   have hmm:=@run_makeMap Tryz.prog
   clear HQ hown oW
   go_wp2_with fail
   refine CS.mono ?_
   rintro r w3 ⟨rfl,rfl⟩
   clear CS
   go_upto_region 10 with(fail)
   rw[←hW,←hmb]
   clear hW hmb hb
   go_wp2_with fail
   go_loopw [12,14,47] (fun s12 s14 s47 wr=>∃(q:Nat) (v12 v14:Value),s12=v12∧s14=v14∧s47= .int .i64 q∧q≤1∧Hid ((q=0→wr=W)∧(q=1→Ac w wr∧DU wr mb (AT (fun _=>none) 5 (some 7))∧w.heap.size≤mb))) (fun _ _ s47 _=>1-(intOf s47).toNat)
   case atStart=>exact⟨0,_,_,rfl,rfl,rfl,by omega,Aa ⟨fun _=>rfl,fun z=>by cases z⟩⟩
   case round=>
    obtain⟨q,v12,v14,rfl,rfl,rfl,hq,HR⟩:=hrel
    rcases(show q=0∨q=1 by omega)with rfl|rfl
    ·obtain rfl:=HR.out.1 rfl
     have x5:=HM.out.2.2.2.d0.2.2.2.2.2
     have ha0:=HM.out.2.2.2.a0
     subst ha0
     clear HR
     go_wp2_with fail
     go_loopw [14,57] (fun s14 s57 wr1=>∃(q1:Nat) (v14:Value),s14=v14∧s57= .int .i64 q1∧q1≤1∧Hid ((q1=0→wr1=wr)∧(q1=1→Ac w wr1∧DU wr1 mb (AT (fun _=>none) 5 (some 7))∧w.heap.size≤mb))) (fun _ s57 _=>1-(intOf s57).toNat)
     case atStart=>exact⟨0,_,rfl,rfl,by omega,Aa ⟨fun _=>rfl,fun z=>by cases z⟩⟩
     case round=>
      obtain⟨q1,v14,rfl,rfl,hq1,HR⟩:=hrel
      rcases(show q1=0∨q1=1 by omega)with rfl|rfl
      ·obtain rfl:=HR.out.1 rfl
       clear HR
       obtain⟨e0,e1,e2,e3,e4,e5,e6,e7,e8⟩:=HM.out.2.2.2.c0
       obtain⟨W4,hW4⟩:=Ad (wr.alloc (.cells #[.int .i64 2,.int .i64 5,.int .i64 0,.int .i64 7,.int .i64 0,.int .i64 0,.slice p0 0 k0,.int .i64 0,.int .i64 0] 66))
       obtain⟨m4,hm4⟩:=Ad wr.heap.size
       have o4:Ac wr W4:=by rw[hW4];exact(Ac.refl _).alloc _
       have b4:Am W4 m4 66 #[.int .i64 2,.int .i64 5,.int .i64 0,.int .i64 7,.int .i64 0,.int .i64 0,.slice p0 0 k0,.int .i64 0,.int .i64 0]:=by rw[hW4,hm4];exact Am.new _ _ _
       obtain⟨y0,y1,y2,y3,y4,y5,y6,y7,y8⟩:=EM b4
       have CP:=Oh (HM.out.2.1.only0 o4) p0 k0
       have H4:=Aa o4
       clear o4 b4
       go_upto_region 16 with(fail)
       rw[←hW4,←hm4]
       clear hW4 hm4 e0 e1 e2 e3 e4 e5 e6 e7 e8
       go_wp2_with fail
       refine CP.mono ?_
       rintro r w5 ⟨rfl,hS,hO⟩
       have HR:Hid (Ac w w5∧DU w5 mb (AT (fun _=>none) 5 (some 7))∧w.heap.size≤mb):=Aa ⟨Ah.news (S:=fun _=>False) (HM.out.1.trans H4.out) (fun b hb=>by rw[hb];exact HM.out.2.2.1) hO,hS,HM.out.2.2.1⟩
       clear CP hS hO y0 y1 y2 y3 y4 y5 y6 y7 y8
       go_wp2_with fail
       go_roundw
       case rel=>exact⟨_,_,_,_,_,_,_,_,_,⟨1,_,rfl,rfl,by omega,Aa ⟨fun z=>(by cases z),fun _=>HR.out⟩⟩,rfl⟩
       case measure=>simp[intOf]
      ·have HS:=Aa (HR.out.2 rfl)
       clear HR
       go_wp2_with fail
       go_roundw
       case rel=>exact⟨1,_,_,rfl,rfl,rfl,by omega,Aa ⟨fun z=>(by cases z),fun _=>HS.out⟩⟩
       case measure=>simp[intOf]
    ·have HS:=Aa (HR.out.2 rfl)
     clear HR
     go_wp2_with fail
     go_ret
     exact⟨mb,rfl,HS.out.1,HS.out.2.1,HS.out.2.2⟩
end
section
attribute [local go_sem ↓] Go.wp_at_zero Go.wp_at_succ
theorem Lu:Py Hb:=by
 intro i hi
 have h2:i<2:=hi
 match i,h2 with
 |0,_=>exact⟨rfl,rfl⟩
 |1,_=>exact⟨rfl,rfl⟩
theorem Pm{w:World}{g:Nat}{oa0 oa1:Option Addr}{oc0 oc1 g0 g1:Nat}{p0 p1:Option Addr}{k0 k1:Nat}(h:FE w g oa0 oa1 oc0 oc1 g0 g1 p0 p1 k0 k1)(vc:Nat):
 Calls Tryz.prog 96 #[.slice (some ⟨g,0,none⟩) 2 vc,.int .i64 0,.int .u64 1] w fun r w'=>r= .returned (.bool true)∧Ac w w':=by
 have CA:=RA h vc
 have HH:=Aa h
 clear h
 go_enter Tryz.func96,Tryz.ntmps96
 go_wp2_with fail
 refine CA.mono ?_
 rintro r w1 ⟨mb,rfl,o1,hS,hmb⟩
 clear CA
 have HM:=Aa (And.intro o1 (And.intro hS (And.intro hmb (HH.out.only0 o1))))
 have x5:=(HH.out.only0 o1).d0.2.2.2.2.2
 have ha:=HH.out.a0
 subst ha
 clear o1 hS hmb
 go_wp2_with fail
 go_loopw [9,20] (fun s9 s20 wr=>∃(q:Nat) (v9:Value),s9=v9∧s20= .int .i64 q∧q≤1∧Hid ((q=0→wr=w1)∧(q=1→Ac w wr))) (fun _ s20 _=>1-(intOf s20).toNat)
 case atStart=>exact⟨0,_,rfl,rfl,by omega,Aa ⟨fun _=>rfl,fun z=>by cases z⟩⟩
 case round=>
  obtain⟨q,v9,rfl,rfl,hq,HR⟩:=hrel
  rcases(show q=0∨q=1 by omega)with rfl|rfl
  ·obtain rfl:=HR.out.1 rfl
   clear HR
   obtain⟨e0,e1,e2,e3,e4,e5,e6,e7,e8⟩:=HM.out.2.2.2.c0
   obtain⟨W4,hW4⟩:=Ad (wr.alloc (.cells #[.int .i64 2,.int .i64 5,.int .i64 0,.int .i64 7,.int .i64 0,.int .i64 0,.slice p0 0 k0,.int .i64 0,.int .i64 0] 66))
   obtain⟨m4,hm4⟩:=Ad wr.heap.size
   have o4:Ac wr W4:=by rw[hW4];exact(Ac.refl _).alloc _
   have b4:Am W4 m4 66 #[.int .i64 2,.int .i64 5,.int .i64 0,.int .i64 7,.int .i64 0,.int .i64 0,.slice p0 0 k0,.int .i64 0,.int .i64 0]:=by rw[hW4,hm4];exact Am.new _ _ _
   obtain⟨y0,y1,y2,y3,y4,y5,y6,y7,y8⟩:=EM b4
   have CN:=QC (HM.out.2.1.only0 o4) rfl p0 k0
   have H4:=Aa o4
   have HB4:=Aa b4
   clear o4 b4
   go_upto_region 5 with(fail)
   rw[←hW4,←hm4]
   clear hW4 hm4 e0 e1 e2 e3 e4 e5 e6 e7 e8
   go_wp2_with fail
   refine CN.mono ?_
   rintro r w5 ⟨rfl,o5⟩
   have HO5:=Aa o5
   have CP:=Oh (HM.out.2.1.only0 (H4.out.trans o5)) p0 k0
   obtain⟨z0,z1,z2,z3,z4,z5,z6,z7,z8⟩:=EM (o5.blk HB4.out (fun e=>e))
   clear CN o5 y0 y1 y2 y3 y4 y5 y6 y7 y8
   go_wp2_with fail
   refine CP.mono ?_
   rintro r w6 ⟨rfl,hS,hO⟩
   have HR:Hid (Ac w w6):=Aa (Ah.news (S:=fun _=>False) ((HM.out.1.trans H4.out).trans HO5.out) (fun b hb=>by rw[hb];exact HM.out.2.2.1) hO)
   clear CP hS hO
   exact U9
  ·exact TU
theorem Li{w:World}{g:Nat}{oa0 oa1:Option Addr}{oc0 oc1 g0 g1:Nat}{p0 p1:Option Addr}{k0 k1:Nat}(h:FE w g oa0 oa1 oc0 oc1 g0 g1 p0 p1 k0 k1)(hD:BJ w (some ⟨g,0,none⟩) Hb)(vc:Nat):
 Calls Tryz.prog 64 #[.slice (some ⟨g,0,none⟩) 2 vc,.int .i64 1] w fun r w'=>r= .returned (.bool true)∧Ac w w':=by
 have CF:Calls Tryz.prog 95 #[.slice (some ⟨g,0,none⟩) 2 vc,.int .i64 1] w fun r w'=>r= .returned (.int .i64 0)∧Ac w w':=LP (c:=vc) hD Lu (by decide) 0 1 rfl (by decide)
 have HH:=Aa h
 clear h hD
 go_enter Tryz.func64,Tryz.ntmps64
 go_wp2_with fail
 refine CF.mono ?_
 rintro r w1 ⟨rfl,o1⟩
 clear CF
 obtain⟨x0,x1,x2,x3,x4,x5⟩:=(HH.out.only0 o1).d0
 have CL:Calls Tryz.prog 97 #[.agg #[.int .i64 1,.int .i64 3,.int .i64 3,.int .u64 1,.int .u64 2,.slice oa0 1 oc0]] w1 fun r w'=>r= .returned (.int .u64 1)∧Ac w1 w':=LL (w:=w1) (Ba Hb 0) oa0 oc0 (by decide) (by decide)
 have HO:=Aa o1
 clear o1
 go_wp2_with fail
 refine CL.mono ?_
 rintro r w2 ⟨rfl,o2⟩
 have CR:=Pm (HH.out.only0 (HO.out.trans o2)) vc
 have HO2:=Aa (HO.out.trans o2)
 clear CL o2 x0 x1 x2 x3 x4 x5
 go_wp2_with fail
 refine CR.mono ?_
 rintro r w3 ⟨rfl,o3⟩
 have HO3:=Aa (HO2.out.trans o3)
 clear CR o3
 go_wp2_with fail
 go_ret
 exact⟨rfl,HO3.out⟩
theorem JE{w:World}{g:Nat}{oa0 oa1:Option Addr}{oc0 oc1 g0 g1:Nat}{p0 p1:Option Addr}{k0 k1:Nat}(h:FE w g oa0 oa1 oc0 oc1 g0 g1 p0 p1 k0 k1)(hD:BJ w (some ⟨g,0,none⟩) Hb)(vc:Nat)(b0:Nat)(hb:w.cell? ⟨b0,0,none⟩=some (.slice (some ⟨g,0,none⟩) 2 vc)):
 Calls Tryz.prog 63 #[.agg #[.int .i64 1,.int .i64 3,.int .i64 3,.int .u64 1,.int .u64 2,.slice oa0 1 oc0],.pointer (some ⟨b0,0,none⟩)] w fun r w'=>r= .returned (.bool true)∧Ac w w':=by
 obtain⟨W,hW⟩:=Ad (w.alloc (.cells #[.int .i64 1,.int .i64 3,.int .i64 3,.int .u64 1,.int .u64 2,.slice oa0 1 oc0] 57))
 obtain⟨m,hm⟩:=Ad w.heap.size
 have oW:Ac w W:=by rw[hW];exact(Ac.refl w).alloc _
 have bW:Am W m 57 #[.int .i64 1,.int .i64 3,.int .i64 3,.int .u64 1,.int .u64 2,.slice oa0 1 oc0]:=by rw[hW,hm];exact Am.new _ _ _
 have y0:=Ae W m 0 (.int .i64 1) (bW.cell 0)
 have hb2:=Ai oW hb
 have CS:=Li (h.only0 oW) (hD.only0 oW) vc
 have HO:=Aa oW
 clear oW bW hb h hD
 go_enter Tryz.func63,Tryz.ntmps63
 go_upto_region 1 with(fail)
 rw[←hW,←hm]
 clear hW hm
 go_wp2_with fail
 refine CS.mono ?_
 rintro r w3 ⟨rfl,o3⟩
 have HO3:=Aa (HO.out.trans o3)
 clear CS o3
 go_wp2_with fail
 go_ret
 exact⟨rfl,HO3.out⟩
theorem NL{w:World}{g:Nat}{oa0 oa1:Option Addr}{oc0 oc1 g0 g1:Nat}{p0 p1:Option Addr}{k0 k1:Nat}(h:FE w g oa0 oa1 oc0 oc1 g0 g1 p0 p1 k0 k1)(vc:Nat):
 Calls Tryz.prog 96 #[.slice (some ⟨g,0,none⟩) 2 vc,.int .i64 1,.int .u64 3] w fun r w'=>r= .returned (.bool true)∧Ac w w':=by
 have CA:=Rf h vc
 have HH:=Aa h
 clear h
 go_enter Tryz.func96,Tryz.ntmps96
 go_wp2_with fail
 refine CA.mono ?_
 rintro r w1 ⟨mb,rfl,o1,hS,hmb⟩
 clear CA
 have HM:=Aa (And.intro o1 (And.intro hS (And.intro hmb (HH.out.only0 o1))))
 have x5:=(HH.out.only0 o1).d1.2.2.2.2.2
 have ha:=HH.out.a1
 subst ha
 clear o1 hS hmb
 go_wp2_with fail
 go_loopw [9,20] (fun s9 s20 wr=>∃(q:Nat) (v9:Value),s9=v9∧s20= .int .i64 q∧q≤1∧Hid ((q=0→wr=w1)∧(q=1→Ac w wr))) (fun _ s20 _=>1-(intOf s20).toNat)
 case atStart=>exact⟨0,_,rfl,rfl,by omega,Aa ⟨fun _=>rfl,fun z=>by cases z⟩⟩
 case round=>
  obtain⟨q,v9,rfl,rfl,hq,HR⟩:=hrel
  rcases(show q=0∨q=1 by omega)with rfl|rfl
  ·obtain rfl:=HR.out.1 rfl
   clear HR
   obtain⟨e0,e1,e2,e3,e4,e5,e6,e7,e8⟩:=HM.out.2.2.2.c1
   obtain⟨W4,hW4⟩:=Ad (wr.alloc (.cells #[.int .i64 1,.int .i64 5,.int .i64 0,.int .i64 0,.int .i64 0,.int .i64 7,.slice p1 0 k1,.int .i64 0,.int .i64 0] 66))
   obtain⟨m4,hm4⟩:=Ad wr.heap.size
   have o4:Ac wr W4:=by rw[hW4];exact(Ac.refl _).alloc _
   have b4:Am W4 m4 66 #[.int .i64 1,.int .i64 5,.int .i64 0,.int .i64 0,.int .i64 0,.int .i64 7,.slice p1 0 k1,.int .i64 0,.int .i64 0]:=by rw[hW4,hm4];exact Am.new _ _ _
   obtain⟨y0,y1,y2,y3,y4,y5,y6,y7,y8⟩:=EM b4
   have CN:=PS (HM.out.2.1.only0 o4) rfl p1 k1
   have H4:=Aa o4
   have HB4:=Aa b4
   clear o4 b4
   go_upto_region 5 with(fail)
   rw[←hW4,←hm4]
   clear hW4 hm4 e0 e1 e2 e3 e4 e5 e6 e7 e8
   go_wp2_with fail
   refine CN.mono ?_
   rintro r w5 ⟨rfl,o5⟩
   have HO5:=Aa o5
   have CP:=Ql (w:=w5) mb p1 k1
   obtain⟨z0,z1,z2,z3,z4,z5,z6,z7,z8⟩:=EM (o5.blk HB4.out (fun e=>e))
   clear CN o5 y0 y1 y2 y3 y4 y5 y6 y7 y8
   go_wp2_with fail
   refine CP.mono ?_
   rintro r w6 ⟨rfl,hO⟩
   have HR:Hid (Ac w w6):=Aa (((HM.out.1.trans H4.out).trans HO5.out).trans hO)
   clear CP hO
   exact U9
  ·exact TU
theorem KF{w:World}{g:Nat}{oa0 oa1:Option Addr}{oc0 oc1 g0 g1:Nat}{p0 p1:Option Addr}{k0 k1:Nat}(h:FE w g oa0 oa1 oc0 oc1 g0 g1 p0 p1 k0 k1)(hD:BJ w (some ⟨g,0,none⟩) Hb)(vc:Nat):
 Calls Tryz.prog 64 #[.slice (some ⟨g,0,none⟩) 2 vc,.int .i64 2] w fun r w'=>r= .returned (.bool true)∧Ac w w':=by
 have CF:Calls Tryz.prog 95 #[.slice (some ⟨g,0,none⟩) 2 vc,.int .i64 2] w fun r w'=>r= .returned (.int .i64 1)∧Ac w w':=LP (c:=vc) hD Lu (by decide) 1 2 rfl (by decide)
 have HH:=Aa h
 clear h hD
 go_enter Tryz.func64,Tryz.ntmps64
 go_wp2_with fail
 refine CF.mono ?_
 rintro r w1 ⟨rfl,o1⟩
 clear CF
 obtain⟨x0,x1,x2,x3,x4,x5⟩:=(HH.out.only0 o1).d1
 have CL:Calls Tryz.prog 97 #[.agg #[.int .i64 2,.int .i64 3,.int .i64 3,.int .u64 3,.int .u64 4,.slice oa1 1 oc1]] w1 fun r w'=>r= .returned (.int .u64 3)∧Ac w1 w':=LL (w:=w1) (Ba Hb 1) oa1 oc1 (by decide) (by decide)
 have HO:=Aa o1
 clear o1
 go_wp2_with fail
 refine CL.mono ?_
 rintro r w2 ⟨rfl,o2⟩
 have CR:=NL (HH.out.only0 (HO.out.trans o2)) vc
 have HO2:=Aa (HO.out.trans o2)
 clear CL o2 x0 x1 x2 x3 x4 x5
 go_wp2_with fail
 refine CR.mono ?_
 rintro r w3 ⟨rfl,o3⟩
 have HO3:=Aa (HO2.out.trans o3)
 clear CR o3
 go_wp2_with fail
 go_ret
 exact⟨rfl,HO3.out⟩
theorem J2{w:World}{g:Nat}{oa0 oa1:Option Addr}{oc0 oc1 g0 g1:Nat}{p0 p1:Option Addr}{k0 k1:Nat}(h:FE w g oa0 oa1 oc0 oc1 g0 g1 p0 p1 k0 k1)(hD:BJ w (some ⟨g,0,none⟩) Hb)(vc:Nat)(b0:Nat)(hb:w.cell? ⟨b0,0,none⟩=some (.slice (some ⟨g,0,none⟩) 2 vc)):
 Calls Tryz.prog 63 #[.agg #[.int .i64 2,.int .i64 3,.int .i64 3,.int .u64 3,.int .u64 4,.slice oa1 1 oc1],.pointer (some ⟨b0,0,none⟩)] w fun r w'=>r= .returned (.bool true)∧Ac w w':=by
 obtain⟨W,hW⟩:=Ad (w.alloc (.cells #[.int .i64 2,.int .i64 3,.int .i64 3,.int .u64 3,.int .u64 4,.slice oa1 1 oc1] 57))
 obtain⟨m,hm⟩:=Ad w.heap.size
 have oW:Ac w W:=by rw[hW];exact(Ac.refl w).alloc _
 have bW:Am W m 57 #[.int .i64 2,.int .i64 3,.int .i64 3,.int .u64 3,.int .u64 4,.slice oa1 1 oc1]:=by rw[hW,hm];exact Am.new _ _ _
 have y0:=Ae W m 0 (.int .i64 2) (bW.cell 0)
 have hb2:=Ai oW hb
 have CS:=KF (h.only0 oW) (hD.only0 oW) vc
 have HO:=Aa oW
 clear oW bW hb h hD
 go_enter Tryz.func63,Tryz.ntmps63
 go_upto_region 1 with(fail)
 rw[←hW,←hm]
 clear hW hm
 go_wp2_with fail
 refine CS.mono ?_
 rintro r w3 ⟨rfl,o3⟩
 have HO3:=Aa (HO.out.trans o3)
 clear CS o3
 go_wp2_with fail
 go_ret
 exact⟨rfl,HO3.out⟩
theorem NX{w:World}{g:Nat}{oa0 oa1:Option Addr}{oc0 oc1 g0 g1:Nat}{p0 p1:Option Addr}{k0 k1:Nat}(h:FE w g oa0 oa1 oc0 oc1 g0 g1 p0 p1 k0 k1)(hD:BJ w (some ⟨g,0,none⟩) Hb)(vc:Nat)(b0:Nat)(hb:w.cell? ⟨b0,0,none⟩=some (.slice (some ⟨g,0,none⟩) 2 vc)):
 Calls Tryz.prog 62 #[.slice (some ⟨g,0,none⟩) 2 vc,.func (.func 63) #[] #[.pointer (some ⟨b0,0,none⟩)]] w fun r w'=>r= .returned (.tuple #[.bool true,.int .i64 0])∧Ac w w':=by
 have HH:=Aa (And.intro h (And.intro hD hb))
 clear h hD hb
 go_enter Tryz.func62,Tryz.ntmps62
 go_wp2_with fail
 go_loopw [6,7,9,12] (fun s6 s7 s9 s12 wr=>∃(q:Nat) (v9:Value),s6= .bool true∧s7= .int .i64 0∧s9=v9∧s12= .int .i64 q∧q≤2∧Hid (Ac w wr)) (fun _ _ _ s12 _=>2-(intOf s12).toNat)
 case atStart=>exact⟨0,_,rfl,rfl,rfl,rfl,by omega,Aa (Ac.refl w)⟩
 case round=>
  obtain⟨q,v9,rfl,rfl,rfl,rfl,hq,HQ⟩:=hrel
  rcases(show q=0∨q=1∨q=2 by omega)with rfl|rfl|rfl
  ·obtain⟨x0,x1,x2,x3,x4,x5⟩:=(HH.out.1.only0 HQ.out).d0
   obtain⟨W,hW⟩:=Ad (wr.alloc (.cells #[.int .i64 1,.int .i64 3,.int .i64 3,.int .u64 1,.int .u64 2,.slice oa0 1 oc0] 57))
   obtain⟨m,hm⟩:=Ad wr.heap.size
   have oW:Ac wr W:=by rw[hW];exact(Ac.refl wr).alloc _
   have bW:Am W m 57 #[.int .i64 1,.int .i64 3,.int .i64 3,.int .u64 1,.int .u64 2,.slice oa0 1 oc0]:=by rw[hW,hm];exact Am.new _ _ _
   have y0:=Ae W m 0 (.int .i64 1) (bW.cell 0)
   have y1:=Ae W m 1 (.int .i64 3) (bW.cell 1)
   have y2:=Ae W m 2 (.int .i64 3) (bW.cell 2)
   have y3:=Ae W m 3 (.int .u64 1) (bW.cell 3)
   have y4:=Ae W m 4 (.int .u64 2) (bW.cell 4)
   have y5:=Ae W m 5 (.slice oa0 1 oc0) (bW.cell 5)
   have CR:=JE (HH.out.1.only0 (HQ.out.trans oW)) (HH.out.2.1.only0 (HQ.out.trans oW)) vc b0 (Ai (HQ.out.trans oW) HH.out.2.2)
   have HO:=Aa (HQ.out.trans oW)
   clear oW bW HQ
   go_upto_region 5 with(fail)
   rw[←hW,←hm]
   clear hW hm x0 x1 x2 x3 x4 x5
   go_wp2_with fail
   refine CR.mono ?_
   rintro r w5 ⟨rfl,o5⟩
   have HN:=Aa (HO.out.trans o5)
   clear CR o5 y0 y1 y2 y3 y4 y5
   go_wp2_with fail
   go_roundw
   case rel=>exact⟨1,_,rfl,rfl,rfl,rfl,by omega,HN⟩
   case measure=>simp[intOf]
  ·obtain⟨x0,x1,x2,x3,x4,x5⟩:=(HH.out.1.only0 HQ.out).d1
   obtain⟨W,hW⟩:=Ad (wr.alloc (.cells #[.int .i64 2,.int .i64 3,.int .i64 3,.int .u64 3,.int .u64 4,.slice oa1 1 oc1] 57))
   obtain⟨m,hm⟩:=Ad wr.heap.size
   have oW:Ac wr W:=by rw[hW];exact(Ac.refl wr).alloc _
   have bW:Am W m 57 #[.int .i64 2,.int .i64 3,.int .i64 3,.int .u64 3,.int .u64 4,.slice oa1 1 oc1]:=by rw[hW,hm];exact Am.new _ _ _
   have y0:=Ae W m 0 (.int .i64 2) (bW.cell 0)
   have y1:=Ae W m 1 (.int .i64 3) (bW.cell 1)
   have y2:=Ae W m 2 (.int .i64 3) (bW.cell 2)
   have y3:=Ae W m 3 (.int .u64 3) (bW.cell 3)
   have y4:=Ae W m 4 (.int .u64 4) (bW.cell 4)
   have y5:=Ae W m 5 (.slice oa1 1 oc1) (bW.cell 5)
   have CR:=J2 (HH.out.1.only0 (HQ.out.trans oW)) (HH.out.2.1.only0 (HQ.out.trans oW)) vc b0 (Ai (HQ.out.trans oW) HH.out.2.2)
   have HO:=Aa (HQ.out.trans oW)
   clear oW bW HQ
   go_upto_region 5 with(fail)
   rw[←hW,←hm]
   clear hW hm x0 x1 x2 x3 x4 x5
   go_wp2_with fail
   refine CR.mono ?_
   rintro r w5 ⟨rfl,o5⟩
   have HN:=Aa (HO.out.trans o5)
   clear CR o5 y0 y1 y2 y3 y4 y5
   go_wp2_with fail
   go_roundw
   case rel=>exact⟨2,_,rfl,rfl,rfl,rfl,by omega,HN⟩
   case measure=>simp[intOf]
  ·go_wp2_with fail
   go_ret2
   exact⟨rfl,HQ.out⟩
theorem MC{w:World}{va:Option Addr}(hD:BJ w va Hb)(vc:Nat):
 Calls Tryz.prog 31 #[.slice va 2 vc] w fun r w'=>r= .returned (.tuple #[.bool true,.int .i64 0])∧Ac w w':=by
 obtain⟨g,oa0,oa1,oc0,oc1,g0,g1,p0,p1,k0,k1,rfl,h⟩:=FE.of hD
 have hmf:∀(fn:Go.Fn) (first cap:Array Value) (w:World),(Instr.makeFunc fn first cap).run Tryz.prog w= .ok (.func fn first cap) w:=fun _ _ _ _=>rfl
 obtain⟨W,hW⟩:=Ad (w.alloc (.cells #[.slice (some ⟨g,0,none⟩) 2 vc] 40))
 obtain⟨m,hm⟩:=Ad w.heap.size
 have oW:Ac w W:=by rw[hW];exact(Ac.refl w).alloc _
 have bW:Am W m 40 #[.slice (some ⟨g,0,none⟩) 2 vc]:=by rw[hW,hm];exact Am.new _ _ _
 have y0:=Ae W m 0 (.slice (some ⟨g,0,none⟩) 2 vc) (bW.cell 0)
 have CS:=NX (h.only0 oW) (hD.only0 oW) vc m y0
 have HO:=Aa oW
 clear oW bW h hD
 go_enter Tryz.func31,Tryz.ntmps31
 go_upto_region 1 with(fail)
 rw[←hW,←hm]
 clear hW hm
 go_wp2_with fail
 refine CS.mono ?_
 rintro r w3 ⟨rfl,o3⟩
 have HO3:=Aa (HO.out.trans o3)
 clear CS o3
 go_wp2_with fail
 go_ret2
 exact⟨rfl,HO3.out⟩
end
section
def L5(E:En)(s:Int)(n:Nat):En:=((E.runs s n).map (·.2)).getD E
theorem Ec{E:En}{s:Int}{n:Nat}{r:Dt}(h:(E.runs s n).map (·.1)=some r):E.runs s n=some (r,L5 E s n):=by
 unfold L5
 cases h1:E.runs s n with
 |none=>rw[h1]at h;cases h
 |some x=>
  rw[h1]at h
  simp at h
  subst h
  simp
def RY:En:=E9 8 100
def R4:En:=(RY.begin 0 3).2.2
def Sk:En:=(R4.issue 0 ⟨2,5,0,7⟩).2
def Sm:En:=L5 Sk 0 7
def Sn:En:=(Sm.issue 0 ⟨6,0,0,0⟩).2
def Ra:En:=L5 Sn 0 6
def Si:En:=(Ra.begin 1 3).2.2
def SC:En:=(Si.issue 1 ⟨1,5,0,0⟩).2
def Su:En:=L5 SC 1 4
def SB:En:=(Su.issue 1 ⟨6,0,0,0⟩).2
def Rv:En:=L5 SB 1 8
deriving instance DecidableEq for Dt
deriving instance DecidableEq for DS
deriving instance DecidableEq for Ev
def If:List Ev:=[⟨1,1,1,⟨0,0,0,3⟩,⟨0,0,[],0,0⟩⟩,⟨2,1,0,⟨2,5,0,7⟩,⟨0,0,[],0,0⟩⟩,⟨3,1,2,⟨0,0,0,0⟩,⟨0,0,[],0,0⟩⟩,⟨5,1,0,⟨0,0,0,0⟩,⟨0,0,[],0,0⟩⟩,
 ⟨1,2,3,⟨0,0,0,3⟩,⟨0,0,[],0,0⟩⟩,⟨2,2,0,⟨1,5,0,0⟩,⟨0,7,[],0,0⟩⟩,⟨3,2,4,⟨0,0,0,0⟩,⟨0,0,[],0,0⟩⟩,⟨5,2,0,⟨0,0,0,0⟩,⟨0,0,[],0,0⟩⟩]
set_option maxRecDepth 100000
theorem Q_:(RY.begin 0 3).1=1∧(RY.begin 0 3).2.1=0:=by decide+kernel
theorem RS:(R4.issue 0 ⟨2,5,0,7⟩).1=0:=by decide+kernel
theorem Rd:(Sk.runs 0 7).map (·.1)=some ⟨0,0,[],0,0⟩:=by decide+kernel
theorem Sc:(Sm.issue 0 ⟨6,0,0,0⟩).1=0:=by decide+kernel
theorem QX:(Sn.runs 0 6).map (·.1)=some ⟨0,0,[],3,0⟩:=by decide+kernel
theorem QZ:(Ra.begin 1 3).1=2∧(Ra.begin 1 3).2.1=0:=by decide+kernel
theorem Sa:(Si.issue 1 ⟨1,5,0,0⟩).1=0:=by decide+kernel
theorem RX:(SC.runs 1 4).map (·.1)=some ⟨0,7,[],0,0⟩:=by decide+kernel
theorem RV:(Su.issue 1 ⟨6,0,0,0⟩).1=0:=by decide+kernel
theorem RH:(SB.runs 1 8).map (·.1)=some ⟨0,0,[],3,0⟩:=by decide+kernel
theorem I9:Rv.sh.tale=If:=by decide+kernel
theorem Sb:MI 0 R4 [⟨2,5,0,7⟩,⟨6,0,0,0⟩] [⟨0,0,[],0,0⟩,⟨0,0,[],3,0⟩] Ra (80+81*7+(80+81*6)):=
 .more (E1:=Sk) (E2:=Sm) (n:=7) (Prod.ext RS rfl) (by omega) (Ec Rd) rfl (.last (E1:=Sn) (n:=6) (Prod.ext Sc rfl) (by omega) (Ec QX) (by decide))
theorem R_:MI 1 Si [⟨1,5,0,0⟩,⟨6,0,0,0⟩] [⟨0,7,[],0,0⟩,⟨0,0,[],3,0⟩] Rv (80+81*4+(80+81*8)):=
 .more (E1:=SC) (E2:=Su) (n:=4) (Prod.ext Sa rfl) (by omega) (Ec RX) rfl (.last (E1:=SB) (n:=8) (Prod.ext RV rfl) (by omega) (Ec RH) (by decide))
theorem L9:RY.begin 0 3=(1,0,R4):=Prod.ext Q_.1 (Prod.ext Q_.2 rfl)
theorem Mx:Ra.begin 1 3=(2,0,Si):=Prod.ext QZ.1 (Prod.ext QZ.2 rfl)
theorem JN:As 256 RY:=Ir (by omega) (by omega) (by omega) (by omega)
theorem Oo:As 2000 Ra:=by
 have h1:As 257 R4:=D7 JN 0 3
 have h2:As 337 Sk:=Du h1 (by omega) 0 ⟨2,5,0,7⟩
 have h3:As 904 Sm:=(En.runs_fine (N:=337) (by omega) 7 h2 (by omega) (Ec Rd)).1
 have h4:As 984 Sn:=Du h3 (by omega) 0 ⟨6,0,0,0⟩
 have h5:As 1470 Ra:=(En.runs_fine (N:=984) (by omega) 6 h4 (by omega) (Ec QX)).1
 exact h5.mono (by omega)
end
section
attribute [local go_sem ↓] Go.wp_at_zero Go.wp_at_succ
theorem QA{B e:Nat}{w:World}{U T:Nat→Prop}{E:En}(h:DG B w U T e E)(hn:E.sh.tale.length≤1000000)(hps:∀i,i<E.sh.tale.length→(E.sh.tale.getD i default).res.pairs.length≤1000000000):
 Calls Tryz.prog 25 #[bp e] w (Ju w E.sh.tale):=by
 obtain⟨P,F,D,h1,rfl,h3,h4⟩:=h
 have c:=Ae w D.A.e 24 (.slice D.A.ta E.sh.tale.length D.A.tc) (h1.ex.sh.eng.cell 24)
 refine Pt (Z:=False) (H:=B) c ?_ hn hps
 have hr:=h1.ex.sh.tale
 rcases hr.2 with⟨e,h0⟩|⟨g,cap,cur,hv,hgB,hg,hnc,hcm,_⟩
 ·exact .inl (List.eq_nil_of_length_eq_zero h0)
 ·injection hv with e1 e2 e3
  refine .inr ⟨g,e1,hgB,lt_of_block hg,fun i hi=>⟨D.A.pa i,D.A.pc i,(h1.ex.prs i hi).prs,fun z=>z.elim,fun f v hv=>?_⟩⟩
  exact Tr
theorem MT.cell{w:World}{H:Nat}{oa:Option Addr}{rs:List Dt}(h:MT w H oa rs)(hn:rs≠[]):∃g,oa=some ⟨g,0,none⟩∧H≤g∧∀i,i<rs.length→w.cell? ⟨g,i*5+1,none⟩=some (.int .i64 (rs.getD i default).value)∧w.cell? ⟨g,i*5+3,none⟩=some (.int .i64 (rs.getD i default).over):=by
 rcases h with h|⟨g,h1,h2,h3,h4⟩
 ·exact absurd h hn
 ·refine⟨g,h1,h2,fun i hi=>?_⟩
  obtain⟨pa,pc,_,z⟩:=h4 i hi
  exact⟨z 1 _ rfl,z 3 _ rfl⟩
theorem Jj:If.foldl Ct []=Hb:=by rfl
theorem Nb:Fb [] 0 If=some ([(2,3),(4,3)],4):=by decide+kernel
theorem Iq(i:Nat)(hi:i<If.length):(If.getD i default).res.pairs=[]:=by
 have h8:i<8:=hi
 match i,h8 with
 |0,_=>rfl
 |1,_=>rfl
 |2,_=>rfl
 |3,_=>rfl
 |4,_=>rfl
 |5,_=>rfl
 |6,_=>rfl
 |7,_=>rfl
theorem IS(w:World):Calls Tryz.prog 11 #[] w fun r w'=>r= .returned (.bool true)∧Ac w w':=by
 have CN:=OM (slots:=8) (limit:=100) (by decide) w (Nat.le_refl _)
 go_enter Tryz.func11,Tryz.ntmps11
 go_wp2_with fail
 refine CN.mono ?_
 rintro r w1 ⟨e,U,rfl,h1,o1,a1⟩
 clear CN
 obtain⟨W,hW⟩:=Ad (w1.alloc (.cells #[.int .i64 2,.int .i64 5,.int .i64 0,.int .i64 7] 37))
 obtain⟨n1,hn1⟩:=Ad w1.heap.size
 have oW:Ac w1 W:=by rw[hW];exact(Ac.refl w1).alloc _
 have bW:Am W n1 37 #[.int .i64 2,.int .i64 5,.int .i64 0,.int .i64 7]:=by rw[hW,hn1];exact Am.new _ _ _
 have CW:Calls Tryz.prog 19 #[bp e,.int .i64 0,.int .i64 3,.slice (some ⟨n1,0,none⟩) 1 1] W (Hu w.heap.size W U (fun _=>False) e [⟨0,0,[],0,0⟩,⟨0,0,[],3,0⟩] Ra):=
  II (M:=3000) (c:=1) (h1.only0 oW) JN (by omega) 0 3 1 (DH.one (o:=⟨2,5,0,7⟩) bW) (fun x hx hu=>by cases hx;have:=h1.under n1 hu;omega) (by decide) (fun z=>by cases z) L9 Sb (by omega) (by omega)
 have H1:=Aa (And.intro (o1.trans oW) a1)
 clear bW oW o1 a1 h1
 go_wp2_with fail
 rw[←hn1,←hW]
 clear hn1 hW
 refine CW.mono ?_
 rintro r w2 ⟨oa,U2,rfl,h2,o2,k2,_⟩
 clear CW
 obtain⟨W2,hW2⟩:=Ad (w2.alloc (.cells #[.int .i64 1,.int .i64 5,.int .i64 0,.int .i64 0] 37))
 obtain⟨n2,hn2⟩:=Ad w2.heap.size
 have oW2:Ac w2 W2:=by rw[hW2];exact(Ac.refl w2).alloc _
 have bW2:Am W2 n2 37 #[.int .i64 1,.int .i64 5,.int .i64 0,.int .i64 0]:=by rw[hW2,hn2];exact Am.new _ _ _
 have CW:Calls Tryz.prog 19 #[bp e,.int .i64 1,.int .i64 3,.slice (some ⟨n2,0,none⟩) 1 1] W2 (Hu w.heap.size W2 U2 (fun _=>False) e [⟨0,7,[],0,0⟩,⟨0,0,[],3,0⟩] Rv):=
  II (M:=4000) (c:=1) (h2.only0 oW2) Oo (by omega) 1 3 2 (DH.one (o:=⟨1,5,0,0⟩) bW2) (fun x hx hu=>by cases hx;have:=h2.under n2 hu;omega) (by decide) (fun z=>by cases z) Mx R_ (by omega) (by omega)
 have H2:Hid (Ac w W2∧Cz U2 w.heap.size):=Aa (by
  obtain⟨q1,q2⟩:=H1.out
  exact⟨(Ah.news (S:=fun _=>False) q1 q2 o2).trans oW2,fun b hb=>(k2 b hb).elim (q2 b) (fun z=>Nat.le_trans q1.size z)⟩)
 clear bW2 oW2 o2 k2 h2 H1
 go_wp2_with fail
 rw[←hn2,←hW2]
 clear hn2 hW2
 refine CW.mono ?_
 rintro r w3 ⟨oa3,U3,rfl,h3,o3,k3,hRs⟩
 clear CW
 obtain⟨g3,rfl,_,hcs⟩:=hRs.cell (by decide)
 have CT:=QA h3 (by rw[I9];decide) (fun i hi=>by rw[I9]at hi ⊢;rw[Iq i hi];decide)
 rw[I9]at CT
 have H3:Hid (Ac w w3):=Aa (by
  obtain⟨q1,q2⟩:=H2.out
  exact Ah.news (S:=fun _=>False) q1 q2 o3)
 have v0:=Ae w3 g3 1 (.int .i64 7) ((hcs 0 (by decide)).1)
 have v1:=Ae w3 g3 8 (.int .i64 3) ((hcs 1 (by decide)).2)
 clear H2 o3 k3 hRs hcs h3
 go_wp2_with fail
 refine CT.mono ?_
 rintro r w4 ⟨ta,tc,rfl,o4,hE,_,_⟩
 clear CT
 have CD:=KW (w:=w4) (oc:=tc) hE (by decide) Nb Iq
 rw[Jj]at CD
 have H4:=Aa o4
 clear o4 hE
 go_wp2_with fail
 refine CD.mono ?_
 rintro r w5 ⟨va,rfl,o5,hD,_⟩
 clear CD
 have CR:=MC hD 2
 have H5:=Aa (H4.out.trans o5)
 clear o5 hD H4
 go_wp2_with fail
 refine CR.mono ?_
 rintro r w6 ⟨rfl,o6⟩
 clear CR
 have u0:=Ai (H5.out.trans o6) v0
 have u1:=Ai (H5.out.trans o6) v1
 have H6:=Aa ((H3.out.trans H5.out).trans o6)
 clear o6 v0 v1 H5 H3
 go_wp2_with fail
 go_ret
 exact⟨rfl,H6.out⟩
end
section
open Go.ChangeShapes Go.WideShapes Go.Deep
def CZ(ks:List IntKind)(ns:List Int):List Value:=List.zipWith Value.int ks ns
def Nm:List IntKind→List Int→Prop
 |k::ks,n::ns=>(Lit.int k n).wf=true∧Nm ks ns
 |_,_=>True
theorem K3{ks ks':List IntKind}{ns ns':List Int}(hl:ns.length=ks.length)(h:Nm ks ns)(h':Nm ks' ns'):Nm (ks++ks') (ns++ns'):=by
 induction ks generalizing ns with
 |nil=>cases ns with
  |nil=>exact h'
  |cons n ns=>simp at hl
 |cons k ks ih=>cases ns with
  |nil=>simp at hl
  |cons n ns=>exact⟨h.1,ih (by simpa using hl) h.2⟩
section
variable {H:Type} {enc:TypeId×Value→H} {P:Program} {W:World} {base:Nat} {spare:Nat→Bool} {held:Bool}
def Ez(enc:TypeId×Value→H)(P:Program)(W:World)(base:Nat)(spare:Nat→Bool)(held:Bool)(t:TypeId)(ks:List IntKind):Prop:=
 P.cellsOf t=ks.length∧∀n cs x,DataW.trod enc P W base spare held n t cs=some x→∃ns:List Int,ns.length=ks.length∧cs=CZ ks ns∧Nm ks ns
theorem Ez.int{t:TypeId}{k:IntKind}(ht:P.underlying t=some (.int k))(hc:P.cellsOf t=1):Ez enc P W base spare held t [k]:=by
 refine⟨hc,fun n cs x h=>?_⟩
 obtain⟨m,hm,_,hw⟩:=DataW.trod_int ht h
 exact⟨[m],rfl,by simpa[CZ]using hm,hw,trivial⟩
def FP(enc:TypeId×Value→H)(P:Program)(W:World)(base:Nat)(spare:Nat→Bool)(held:Bool)(o:Nat)(l:List Field)(ks:List IntKind):Prop:=
 ∀n (cs:List Value),o+ks.length≤cs.length→(∀f∈l,∃x,DataW.trod enc P W base spare held n f.type ((cs.drop f.offset).take (P.cellsOf f.type))=some x)→
  ∃ns:List Int,ns.length=ks.length∧(cs.drop o).take ks.length=CZ ks ns∧Nm ks ns
theorem FP.nil(o:Nat):FP enc P W base spare held o [] []:=fun n cs _ _=>⟨[],rfl,by simp[CZ],trivial⟩
theorem FP.cons{o:Nat}{f:Field}{l:List Field}{K ks:List IntKind}(hp:Ez enc P W base spare held f.type K)(ho:f.offset=o)(h:FP enc P W base spare held (o+K.length) l ks):FP enc P W base spare held o (f::l) (K++ks):=by
 intro n cs hl hf
 obtain⟨x,hx⟩:=hf f (by simp)
 rw[ho,hp.1]at hx
 obtain⟨n1,e1,e2,e3⟩:=hp.2 _ _ _ hx
 obtain⟨n2,d1,d2,d3⟩:=h n cs (by simp at hl;omega) (fun g hg=>hf g (by simp[hg]))
 refine⟨n1++n2,by simp[e1,d1],?_,K3 e1 e3 d3⟩
 rw[List.length_append,List.take_add,e2,List.drop_drop,d2]
 unfold CZ
 rw[List.zipWith_append (by rw[e1])]
theorem Ez.struct{t:TypeId}{fs:Array Field}{ks:List IntKind}(ht:P.underlying t=some (.struct fs))(hc:P.cellsOf t=ks.length)(h:FP enc P W base spare held 0 fs.toList ks):Ez enc P W base spare held t ks:=by
 refine⟨hc,fun n cs x hx=>?_⟩
 obtain⟨xs,m,_,_,hlen,hxl,hf⟩:=DataW.trod_struct ht hx
 obtain⟨ns,h1,h2,h3⟩:=h m cs (by omega) (fun f hfm=>by
  obtain⟨i,hi,he⟩:=List.getElem_of_mem hfm
  have:=hf i f (by rw[←he];simp at hi;simp[hi])
  simp at hi
  rw[List.getElem?_eq_getElem (by omega)]at this
  exact⟨_,this⟩)
 refine⟨ns,h1,?_,h3⟩
 rw[←h2,List.drop_zero,List.take_of_length_le (by omega)]
end
def Jw(ks:List IntKind)(w:World)(a:Option Addr)(rows:List (List Int)):Prop:=
 rows=[]∨∃b off,a=some ⟨b,off,none⟩∧∀i j,i<rows.length→j<ks.length→w.cell? ⟨b,off+i*ks.length+j,none⟩=(CZ ks (rows.getD i []))[j]?
theorem Jw.at{ks:List IntKind}{w:World}{a:Option Addr}{rows:List (List Int)}(h:Jw ks w a rows)(hn:0<rows.length):
 ∃b off,a=some ⟨b,off,none⟩∧∀i j,i<rows.length→j<ks.length→w.cell? ⟨b,off+i*ks.length+j,none⟩=(CZ ks (rows.getD i []))[j]? :=by
 rcases h with rfl|h
 ·simp at hn
 ·exact h
theorem Mc{H:Type}{enc:TypeId×Value→H}{P:Program}{W:World}{t e:TypeId}{ks:List IntKind}{a:Option Addr}{len cap:Nat}{d:DataW H}{p:List MemPlace}{ts:List TypeId}{ds:List (DataW H)}{bytes:Nat}(j:Nat)
 (ht:P.underlying t=some (.slice e)) (hp:Ez enc P W 0 (fun _=>true) true e ks) (hk:0<ks.length) (hb:P.bytesOf e=bytes)
 (h:DataW.Trod enc P W 0 (fun _=>true) true t (.slice a len cap) d p) (hsz:(DataW.weightsEach P ts ds).all (·≤reachBytes)=true) (hj:ts[j]? =some t) (hd:ds[j]? =some d):
 ∃rows:List (List Int),rows.length=len∧(Jw ks W a rows∧∀r∈rows,r.length=ks.length∧Nm ks r)∧len*bytes≤140737488351232∧len≤cap∧cap≤9223372036854775807:=by
 obtain⟨fuel,hf⟩:=h
 rcases open_slice ht hf with⟨hcs,hx⟩|⟨x,l,c,m,n,D,Pl,hcs,_,hl,hm,hmm,hx,hi⟩
 ·simp[Value.cells]at hcs
  obtain⟨rfl,rfl,rfl⟩:=hcs
  exact⟨[],rfl,⟨.inl rfl,by simp⟩,by omega,by omega,by omega⟩
 ·simp[Value.cells]at hcs
  obtain⟨rfl,rfl,rfl⟩:=hcs
  simp only[Prod.mk.injEq]at hx
  obtain⟨rfl,_⟩:=hx
  have hs:=sized_slice hsz hj hd ht
  simp only[if_true]at hmm
  rw[hb]at hs
  simp only[List.length_map,List.length_range,reachBytes]at hs
  have hs1:len*bytes≤(len+(m-len))*bytes:=Nat.mul_le_mul_right _ (by omega)
  unfold maxLen at hm
  have hB:∀i,i<m→∃r:List Int,r.length=ks.length∧Nm ks r∧∀j,j<ks.length→W.cell? (x.add (i*ks.length+j))=(CZ ks r)[j]? :=fun i h=>by
   obtain⟨cs',h1,h2⟩:=hi i h
   obtain⟨r,r1,r2,r3⟩:=hp.2 _ _ _ h2
   rw[hp.1]at h1
   obtain⟨_,hcl,hat⟩:=World.cells?_some h1
   refine⟨r,r1,r3,fun j hj=>?_⟩
   rw[←r2,←hat j hj,←Go.Deep.add_add]
  obtain⟨F,hF⟩:=choose_lt (α:=List Int) hB
  refine⟨(List.range len).map F,by simp,⟨?_,?_⟩,by omega,hl,by omega⟩
  ·by_cases h0:len=0
   ·left;simp[h0]
   ·obtain⟨b,off,spot⟩:=x
    have h00:=(hF 0 (by omega)).2.2 0 hk
    have hr0:=(hF 0 (by omega)).1
    have hspot:spot=none:=by
     have hz:(CZ ks (F 0))[0]? =some ((CZ ks (F 0))[0]'(by simp[CZ];omega)):=List.getElem?_eq_getElem _
     rw[hz]at h00
     simpa[Addr.add]using World.cell?_spot h00
    subst hspot
    refine .inr ⟨b,off,rfl,fun i j hi hj=>?_⟩
    simp at hi
    have:=(hF i (by omega)).2.2 j hj
    rw[Addr.add_lit]at this
    rw[Nat.add_assoc,this]
    simp[List.getD_eq_getElem?_getD,hi]
  ·intro r hr
   obtain⟨i,hi,rfl⟩:=List.mem_map.1 hr
   simp at hi
   exact⟨(hF i (by omega)).1,(hF i (by omega)).2.1⟩
end
section
open Go.ChangeShapes Go.WideShapes Go.Deep
def LC:List IntKind:=[.i64,.i64,.i64,.i64]
def BK:List IntKind:=[.i64,.i64,.i64,.i64,.i64,.i64,.i64]
theorem N2{H:Type}{enc:TypeId×Value→H}{W:World}:Ez enc Tryz.prog W 0 (fun _=>true) true 37 LC:=by
 have i1:Ez enc Tryz.prog W 0 (fun _=>true) true 3 [.i64]:=Ez.int Tryz.underlying3 (by kernel_rfl)
 refine Ez.struct Tryz.underlying37 (by kernel_rfl) ?_
 change FP enc Tryz.prog W 0 _ true 0 [_,_,_,_] ([.i64]++([.i64]++([.i64]++([.i64]++[]))))
 exact FP.cons i1 rfl (FP.cons i1 rfl (FP.cons i1 rfl (FP.cons i1 rfl (FP.nil _))))
theorem K5{H:Type}{enc:TypeId×Value→H}{W:World}:Ez enc Tryz.prog W 0 (fun _=>true) true 158 BK:=by
 have i1:Ez enc Tryz.prog W 0 (fun _=>true) true 3 [.i64]:=Ez.int Tryz.underlying3 (by kernel_rfl)
 refine Ez.struct Tryz.underlying158 (by kernel_rfl) ?_
 change FP enc Tryz.prog W 0 _ true 0 [_,_,_,_] ([.i64]++([.i64]++([.i64]++(LC++[]))))
 exact FP.cons i1 rfl (FP.cons i1 rfl (FP.cons i1 rfl (FP.cons N2 rfl (FP.nil _))))
theorem take_Pick{H:Type}{enc:TypeId×Value→H}{W:World}{a:Option Addr}{len cap:Nat}{d:DataW H}{p:List MemPlace}{ts:List TypeId}{ds:List (DataW H)}(j:Nat)
 (h:DataW.Trod enc Tryz.prog W 0 (fun _=>true) true 78 (.slice a len cap) d p) (hsz:(DataW.weightsEach Tryz.prog ts ds).all (·≤reachBytes)=true) (hj:ts[j]? =some 78) (hd:ds[j]? =some d):
 ∃rows:List (List Int),rows.length=len∧(Jw BK W a rows∧∀r∈rows,r.length=BK.length∧Nm BK r)∧len*56≤140737488351232∧len≤cap∧cap≤9223372036854775807:=
 Mc j Tryz.underlying78 K5 (by decide) (by kernel_rfl) h hsz hj hd
theorem LX{r:List Int}(hl:r.length=7):∃A S L K k h v:Int,CZ BK r=[.int .i64 A,.int .i64 S,.int .i64 L,.int .i64 K,.int .i64 k,.int .i64 h,.int .i64 v]:=by
 match r,hl with
 |[A,S,L,K,k,h,v],_=>exact⟨A,S,L,K,k,h,v,rfl⟩
theorem LS{l:List (List Int)}{k:Nat}(hk:k<l.length):l.getD k []∈l:=by
 rw[List.getD_eq_getElem?_getD,List.getElem?_eq_getElem hk];exact List.getElem_mem _
theorem Jw.pick{w:World}{a:Option Addr}{rows:List (List Int)}(h:Jw BK w a rows∧∀r∈rows,r.length=BK.length∧Nm BK r){i:Nat}(hi:i<rows.length):
 ∃(b off:Nat) (A S L K k hh v:Int),a=some ⟨b,off,none⟩∧Ab w b (off+i*7) (.int .i64 A)∧Ab w b (off+i*7+1) (.int .i64 S)∧Ab w b (off+i*7+2) (.int .i64 L)∧Ab w b (off+i*7+3) (.int .i64 K)∧Ab w b (off+i*7+4) (.int .i64 k)∧Ab w b (off+i*7+5) (.int .i64 hh)∧Ab w b (off+i*7+6) (.int .i64 v):=by
 obtain⟨b,off,rfl,hc⟩:=h.1.at (by omega)
 obtain⟨A,S,L,K,k,hh,v,hr⟩:=LX (h.2 _ (LS hi)).1
 refine⟨b,off,A,S,L,K,k,hh,v,rfl,?_,?_,?_,?_,?_,?_,?_⟩
 ·have:=hc i 0 hi (by decide);rw[hr]at this;exact this
 ·have:=hc i 1 hi (by decide);rw[hr]at this;exact this
 ·have:=hc i 2 hi (by decide);rw[hr]at this;exact this
 ·have:=hc i 3 hi (by decide);rw[hr]at this;exact this
 ·have:=hc i 4 hi (by decide);rw[hr]at this;exact this
 ·have:=hc i 5 hi (by decide);rw[hr]at this;exact this
 ·have:=hc i 6 hi (by decide);rw[hr]at this;exact this
end
section
attribute [local go_sem ↓] Go.wp_at_zero Go.wp_at_succ
def Kv(w wr:World)(x e N:Nat):Prop:=∃U M X,AY w.heap.size wr U x e M X∧Ci N X∧Ac w wr∧Cz (Bl U x M) w.heap.size
theorem Kv.next{w wr w':World}{x e N':Nat}{U:Nat→Prop}{M:GR}{X X':Bh}(o:Ac w wr)(a:Cz (Bl U x M) w.heap.size)(hk:Ci N' X')(g:Bd w.heap.size wr U x e M X' w'):Kv w w' x e N':=by
 obtain⟨U',M',h,o',k⟩:=g
 exact⟨U',M',X',h,hk,Ah.news (S:=fun _=>False) o a o',fun b hb=>(k b hb).elim (a b) (fun z=>Nat.le_trans o.size z)⟩
theorem Kv.mono{w wr:World}{x e N N':Nat}(h:Kv w wr x e N)(hn:N≤N'):Kv w wr x e N':=by
 obtain⟨U,M,X,h1,h2,h3,h4⟩:=h
 exact⟨U,M,X,h1,h2.mono hn,h3,h4⟩
def Rk(w:World)(r:Ending)(w':World):Prop:=∃x e,r= .returned (bp x)∧Kv w w' x e 24556
theorem Lg{w:World}(slots:Int)(hc:GI slots 300=true)(hs1:1≤slots)(hs2:slots≤256){a:Option Addr}{c:Nat}{z:List (List Int)}(hz:Jw BK w a z∧∀r∈z,r.length=BK.length∧Nm BK r)(hn:z.length≤9223372036854775807):
 Calls Tryz.prog 26 #[slots,.int .u64 300,.slice a z.length c,.int .i64 300] w (Rk w):=by
 have CN:=Rs hc w
 obtain⟨n,hnn⟩:=Ad z.length
 rw[←hnn]at hn ⊢
 have HH:=Aa (And.intro hz hnn)
 have HK:Hid (Ci 256 (Ls slots 300)):=Aa (PK hs1 hs2 (by omega) (by omega))
 clear hz hnn hc hs1 hs2
 go_enter Tryz.func26,Tryz.ntmps26
 go_wp2_with fail
 refine CN.mono ?_
 rintro r w1 ⟨x,e,U,rfl,h1,o1,hx,hU⟩
 clear CN
 have HP0:Hid (Kv w w1 x e (256+81*0)):=Aa ⟨U,PN,Ls slots 300,h1,HK.out,o1,fun b hb=>by
  rcases hb with y|y
  ·exact hU b y
  ·rcases y with y|y|⟨_,y,_⟩
   ·rw[y];exact hx
   ·exact y.elim
   ·cases y⟩
 clear h1 o1 hx hU HK
 go_wp2_with fail
 go_loopw [10] (fun s10 wr=>∃(q:Nat),s10= .int .i64 q∧q≤n∧q≤300∧Hid (Kv w wr x e (256+81*q))) (fun s10 _=>300-(intOf s10).toNat)
 case atStart=>exact⟨0,rfl,by omega,by omega,HP0⟩
 case round=>
  obtain⟨q,rfl,hqn,hq,HQ⟩:=hrel
  clear HP0
  by_cases h1:q<n
  ·have g1:(q:Int)<n:=by omega
   by_cases h2:q<300
   ·have g2:(q:Int)<300:=by omega
    obtain⟨U',M,X,hT,hk,hO,hA⟩:=HQ.out
    obtain⟨b,off,A,S,L,K,k,hh,v,rfl,y0,y1,y2,y3,y4,y5,y6⟩:=Jw.pick HH.out.1 (i:=q) (by have:=HH.out.2;omega)
    have z0:=Ai hO y0
    have z1:=Ai hO y1
    have z2:=Ai hO y2
    have z3:=Ai hO y3
    have z4:=Ai hO y4
    have z5:=Ai hO y5
    have z6:=Ai hO y6
    have CD:=RZ hT hk (by omega) (by omega) A S L K k hh v
    have HN:=Aa (fun(w':World) (g:Bd w.heap.size wr U' x e M (X.do_ A S L ⟨K,k,hh,v⟩) w')=>Kv.next (X:=X) hO hA ((hk.do_ (by omega) (by omega) A S L ⟨K,k,hh,v⟩)) g)
    clear y0 y1 y2 y3 y4 y5 y6 hT hk hO hA HQ
    go_wp2_with fail
    refine CD.mono ?_
    rintro r w2 ⟨rfl,hg⟩
    have HR:Hid (Kv w w2 x e (256+81*(q+1))):=Aa ((HN.out w2 hg).mono (by omega))
    clear CD HN hg z0 z1 z2 z3 z4 z5 z6
    go_wp2_with fail
    go_roundw
    case rel=>exact⟨q+1,by go_num,by omega,by omega,HR⟩
    case measure=>simp[intOf];omega
   ·have g2:¬(q:Int)<300:=by omega
    exact UI
  ·have g1:¬(q:Int)<n:=by omega
   exact UI
end
section
attribute [local go_sem ↓] Go.wp_at_zero Go.wp_at_succ
theorem Bh.step_looks{N:Nat}{X:Bh}(h:As N X.E)(hN:256≤N)(hN2:N≤30000000)(s:Int):X.E.looks≤(X.step s).E.looks∧(X.step s).E.looks≤X.E.looks+1:=by
 rcases Ej h hN hN2 s with⟨_,hi⟩|⟨_,_,hi⟩|⟨hs,hb,t,c,k,d,E',he,hi,hf2,hlk,_⟩
 ·unfold Bh.step;rw[hi,if_pos (show(1:Int)≠0 by decide)];omega
 ·unfold Bh.step;rw[hi,if_pos (show(9:Int)≠0 by decide)];omega
 ·have e:(X.step s).E=E':=by
   unfold Bh.step
   rw[hi]
   rw[if_neg (by simp)]
   split
   ·rfl
   ·split<;>rfl
  rw[e];exact⟨hlk.2.2.1,hlk.2.2.2⟩
theorem Bh.issue_looks{N:Nat}{X:Bh}(h:As N X.E)(hN:256≤N)(s:Int)(o:DS):(X.issue s o).E.looks=X.E.looks:=by
 have no:∀er E',er≠0→X.E.issue s o=(er,E')→(X.issue s o).E.looks=X.E.looks:=fun er E' he hi=>by
  unfold Bh.issue
  rw[hi,if_pos he]
 rcases Fh h hN s o with⟨_,hi⟩|⟨_,_,hi⟩|⟨_,y,_,⟨_,hi⟩|⟨_,_,hi⟩|⟨_,_,_,_,hi⟩|⟨_,_,_,E',hi,_,_,_,hl,_⟩⟩
 ·exact no 1 _ (by decide) hi
 ·exact no 9 _ (by decide) hi
 ·exact no 9 _ (by decide) hi
 ·exact no 9 _ (by decide) hi
 ·exact no 65 _ (by decide) hi
 ·have e:(X.issue s o).E=E':=by
   unfold Bh.issue
   rw[hi,if_neg (by simp)]
  rw[e];exact hl
def QO(w wr:World)(x e N:Nat)(L:Int):Prop:=∃U M X,AY w.heap.size wr U x e M X∧Ci N X∧Ac w wr∧Cz (Bl U x M) w.heap.size∧X.E.looks=L
theorem QO.next{w wr w':World}{x e N':Nat}{U:Nat→Prop}{M:GR}{X X':Bh}(o:Ac w wr)(a:Cz (Bl U x M) w.heap.size)(hk:Ci N' X')(g:Bd w.heap.size wr U x e M X' w'):QO w w' x e N' X'.E.looks:=by
 obtain⟨U',M',h,o',k⟩:=g
 exact⟨U',M',X',h,hk,Ah.news (S:=fun _=>False) o a o',fun b hb=>(k b hb).elim (a b) (fun z=>Nat.le_trans o.size z),rfl⟩
theorem Qf(x:Int):∃q r:Nat,bits .and .i64 x 255=(q:Int)∧q<256∧((q:Int)%40)=(r:Int)∧r<40:=by
 have h:=KH x
 refine⟨(x%256).toNat,(x%256).toNat%40,by rw[h];omega,by omega,by omega,by omega⟩
theorem topOne_walk(slots:Int)(a:Option Addr)(c:Nat)(z:List (List Int))(w:World)(_w0:(Lit.int .i64 slots).wf=true)(i1:Jw BK w a z∧∀r∈z,r.length=BK.length∧Nm BK r)(_s1:z.length*56≤140737488351232)(_l1:z.length≤c)(_m1:c≤9223372036854775807):
 Calls Tryz.prog 7 #[slots,.slice a z.length c] w fun e w'=>e= .returned (.bool true)∧Below w.heap.size w w':=by
 obtain⟨q0,r,e0,hq0,f0,hr⟩:=Qf slots
 have CP:=Lg (w:=w) ((r:Int)+1) (by simp[GI];omega) (by omega) (by omega) (c:=c) i1 (by omega)
 generalize z.length=n at *
 clear i1
 go_enter Tryz.func7,Tryz.ntmps7
 go_wp2_with fail
 refine CP.mono ?_
 rintro rr w1 ⟨x,e,rfl,h1⟩
 clear CP
 have HP0:Hid (Kv w w1 x e (24556+81*0)):=Aa h1
 clear h1
 go_wp2_with fail
 go_loopw [6,7,8,9] (fun s6 s7 s8 s9 wr=>∃(q:Nat) (v7 v8 v9:Value),s6= .int .i64 q∧s7=v7∧s8=v8∧s9=v9∧q≤3000∧Hid (Kv w wr x e (24556+81*q))) (fun s6 _ _ _ _=>3000-(intOf s6).toNat)
 case atStart=>exact⟨0,_,_,_,rfl,rfl,rfl,rfl,by omega,HP0⟩
 case round=>
  obtain⟨q,v7,v8,v9,rfl,rfl,rfl,rfl,hq,HQ⟩:=hrel
  clear HP0
  by_cases h3:q<3000
  ·have g3:(q:Int)<3000:=by omega
   obtain⟨U,M,X,hT,hk,hO,hA⟩:=HQ.out
   have CL:=P_ hT.en
   have cE:=hT.cE
   obtain⟨m,hm⟩:=Ad X.E.live.length
   rw[←hm]at CL
   have HH:=Aa (And.intro hT (And.intro hk (And.intro hO hA)))
   clear HQ hT hk hO hA hm
   by_cases hm0:0<m
   ·have gm:(0:Int)<m:=by omega
    go_wp2_with fail
    refine CL.mono ?_
    rintro rr w2 ⟨⟨la,lc,rfl⟩,o2⟩
    clear CL cE
    have hT2:=HH.out.1.only0 o2
    have cE:=hT2.cE
    obtain⟨lk,hlk⟩:=Ad X.E.looks
    have CK:=Bf hT2.en
    rw[←hlk]at CK
    obtain⟨sv,hsv⟩:=Aq (bits .and .i64 (q:Int) 7)
    have CS:=AQ hT2.en sv
    have hlk2:0≤lk∧lk≤300000:=by rw[hlk];have:=HH.out.2.1.fine.looks;omega
    have H2:=Aa (And.intro hT2 (And.intro HH.out.2.1 (And.intro (HH.out.2.2.1.trans o2) (And.intro HH.out.2.2.2 hlk))))
    have ewl:IntKind.i64.wrap (lk+1)=lk+1:=by rw[IntKind.wrap_i64];omega
    obtain⟨hlk0,hlk1⟩:=hlk2
    clear hT2 o2 HH hlk
    generalize X.E.status sv=st at CS
    obtain⟨b0,b1,b2,n3,n4,n5,n6,n7,n8⟩:=st
    unfold Cv.row at CS
    dsimp only at CS
    go_wp2_with fail
    refine CK.mono ?_
    rintro rr w3 ⟨rfl,rfl⟩
    clear CK
    go_wp2_with fail
    refine CS.mono ?_
    rintro rr w3 ⟨rfl,o3⟩
    clear CS cE
    obtain⟨W4,hW4⟩:=Ad (w3.alloc (.cells #[.bool b0,.bool b1,.bool b2,n3,n4,n5,.int .u64 n6,.int .u64 n7,n8] 46))
    obtain⟨m4,hm4⟩:=Ad w3.heap.size
    have o4:Ac w3 W4:=by rw[hW4];exact(Ac.refl _).alloc _
    have bk4:Am W4 m4 46 #[.bool b0,.bool b1,.bool b2,n3,n4,n5,.int .u64 n6,.int .u64 n7,n8]:=by rw[hW4,hm4];exact Am.new _ _ _
    have y0:=Ae W4 m4 0 (.bool b0) (bk4.cell 0)
    have y1:=Ae W4 m4 1 (.bool b1) (bk4.cell 1)
    have H4:=Aa (show AY w.heap.size W4 U x e M X∧Ci (24556+81*q) X∧Ac w W4∧Cz (Bl U x M) w.heap.size∧lk=X.E.looks from⟨H2.out.1.only0 (o3.trans o4),H2.out.2.1,H2.out.2.2.1.trans (o3.trans o4),H2.out.2.2.2.1,H2.out.2.2.2.2⟩)
    have cE:=H4.out.1.cE
    clear H2 o3 o4 bk4
    go_upto_region 10 with(fail)
    rw[←hW4,←hm4]
    clear hW4 hm4
    by_cases h5:q%5=4
    ·have g5:(q:Int)%5=4:=by omega
     have CW:=Kh H4.out.1.en H4.out.2.1.fine (by omega) (by omega)
     go_wp2_with fail
     refine CW.mono ?_
     rintro rr w5 ⟨rfl,hg⟩
     obtain⟨l2,HT,hla,hlb⟩:∃l2,Hid (QO w w5 x e (24556+81*(q+1)) l2)∧lk≤l2∧l2≤lk+1:=by
      obtain⟨U2,h2,o2,k2⟩:=Bd.eng H4.out.1 hg
      have hs:=EU H4.out.2.1.fine (by omega) (by omega)
      have hl:=H4.out.2.2.2.2
      refine⟨_,Aa (QO.next (X:=X) (X':=X.sweep) H4.out.2.2.1 H4.out.2.2.2.1 ((H4.out.2.1.sweep (by omega) (by omega)).mono (by omega)) ⟨U2,M,h2,o2,k2⟩),?_,?_⟩
      ·show lk≤X.E.sweep.2.looks
       rcases hs.2.1 with z|z<;>rw[z]<;>omega
      ·show X.E.sweep.2.looks≤lk+1
       rcases hs.2.1 with z|z<;>rw[z]<;>omega
     exact SU
    ·have g5:¬(q:Int)%5=4:=by omega
     by_cases hb1:b1=true
     ·subst hb1
      have CW:=LB H4.out.1 H4.out.2.1 (by omega) (by omega) sv
      go_wp2_with fail
      refine CW.mono ?_
      rintro rr w5 ⟨rfl,hg⟩
      obtain⟨l2,HT,hla,hlb⟩:∃l2,Hid (QO w w5 x e (24556+81*(q+1)) l2)∧lk≤l2∧l2≤lk+1:=by
       have hs:=Bh.step_looks (X:=X) H4.out.2.1.fine (by omega) (by omega) sv
       have hl:=H4.out.2.2.2.2
       exact⟨_,Aa (QO.next (X:=X) H4.out.2.2.1 H4.out.2.2.2.1 ((H4.out.2.1.step (by omega) (by omega) sv).mono (by omega)) hg),by omega,by omega⟩
      exact SU
     ·obtain rfl:b1=false:=by simpa using hb1
      by_cases hb0:b0=true
      ·subst hb0
       have CW:=JQ H4.out.1 H4.out.2.1 (by omega) (by omega) sv 6 0 0 0
       go_wp2_with fail
       refine CW.mono ?_
       rintro rr w5 ⟨rfl,hg⟩
       have HT:Hid (QO w w5 x e (24556+81*(q+1)) lk):=by
        have hs:=Bh.issue_looks (X:=X) H4.out.2.1.fine (by omega) sv ⟨6,0,0,0⟩
        have hl:=H4.out.2.2.2.2
        have hp:=QO.next (X:=X) H4.out.2.2.1 H4.out.2.2.2.1 ((H4.out.2.1.issue (by omega) sv ⟨6,0,0,0⟩).mono (M:=24556+81*(q+1)) (by omega)) hg
        rw[hs,←hl]at hp
        exact Aa hp
       clear CW hg H4 cE y0 y1
       obtain⟨U5,M5,X5,hT5,hk5,hO5,hA5,hl5⟩:=HT.out
       have CL0:=Bf hT5.en
       rw[hl5]at CL0
       have cE4:=hT5.cE
       clear hT5 hk5 hO5 hA5 hl5
       have hla:lk≤lk:=by omega
       have hlb:lk≤lk+1:=by omega
       go_wp2_with fail
       refine CL0.mono ?_
       rintro rr w6 ⟨rfl,rfl⟩
       clear CL0 cE4
       obtain⟨U5,M5,X5,hT5,hk5,hO5,hA5,hl5⟩:=HT.out
       have CL1:=Bf hT5.en
       rw[hl5]at CL1
       have gl1:¬(lk:Int)<lk:=by omega
       have gl2:¬(lk+1:Int)<lk:=by omega
       have cE5:=hT5.cE
       have HR:Hid (Kv w w5 x e (24556+81*(q+1))):=Aa ⟨U5,M5,X5,hT5,hk5,hO5,hA5⟩
       exact Uf
      ·obtain rfl:b0=false:=by simpa using hb0
       have HT:Hid (QO w W4 x e (24556+81*(q+1)) lk):=Aa ⟨U,M,X,H4.out.1,H4.out.2.1.mono (by omega),H4.out.2.2.1,H4.out.2.2.2.1,H4.out.2.2.2.2.symm⟩
       clear H4 cE
       have hla:lk≤lk:=by omega
       have hlb:lk≤lk+1:=by omega
       go_upto_region 18 with(fail)
       clear y0 y1
       obtain⟨U5,M5,X5,hT5,hk5,hO5,hA5,hl5⟩:=HT.out
       have CL1:=Bf hT5.en
       rw[hl5]at CL1
       have gl1:¬(lk:Int)<lk:=by omega
       have gl2:¬(lk+1:Int)<lk:=by omega
       have cE5:=hT5.cE
       have HR:Hid (Kv w W4 x e (24556+81*(q+1))):=Aa ⟨U5,M5,X5,hT5,hk5,hO5,hA5⟩
       exact Uf
   ·obtain rfl:m=0:=by omega
    go_wp2_with fail
    refine CL.mono ?_
    rintro rr w2 ⟨⟨la,lc,rfl⟩,o2⟩
    have HF:=Aa (HH.out.2.2.1.trans o2)
    clear CL cE HH o2
    have CA:=IS w2
    exact Tt
  ·have g3:¬(q:Int)<3000:=by omega
   have HF:Hid (Ac w wr):=Aa (by obtain⟨U,M,X,hT,hk,hO,hA⟩:=HQ.out;exact hO)
   clear HQ
   have CA:=IS wr
   exact Tt
end
end Go.Proofs.YtoakelhnhkilcaaGreat

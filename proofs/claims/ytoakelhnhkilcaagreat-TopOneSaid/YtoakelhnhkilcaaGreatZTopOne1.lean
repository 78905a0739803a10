/-
  TopOne:what its proof rests on,part 1.
-/
import Derived.WalkKit
import Derived.WalkSpells
import Derived.WalkLawsBesides
import Derived.Laws.LoneSync
import Derived.Lib.Hide
import Derived.Test.YtoakelhnhkilcaaGreatProg
import Derived.Deep.QuietTactic
import Derived.BigQuiet
import Derived.Deep.RegionHeld3
import Derived.Deep.RegionHeld
import Derived.StillTailTactics
import Derived.Maps.RangeWalk
import Derived.Laws.AppendOwn
import Derived.Laws.OwnMore
import Derived.Deep.Cut
import Derived.Deep.DrawnRows
import Derived.Deep.AppendLies
set_option linter.unusedVariables false
set_option linter.unusedSimpArgs false
set_option maxRecDepth 100000
set_option maxHeartbeats 64000000
namespace Go.Proofs.YtoakelhnhkilcaaGreat
open Go.RowKit
theorem TH{P:Prop}(h:P:=by
 have b2:(x==2305843009213693952)=false:=by simpa using h2
 have HK:Hid (BD x=0∧Br x=0):=Aa (by unfold BD Br;constructor<;>(repeat' split)<;>omega)
 go_enter Tryz.func85,Tryz.ntmps85
 go_upto_region 1 with(fail)
 rw[←hW,←HN.out]
 clear hW
 go_wp2_with fail
 have S2:=QG HBX.out (.int .i64 0) (.int .u64 (0))
 rw[HK.out.1,HK.out.2]
 exact bodyPost_ret (v:= .agg #[.int .i64 0,.int .u64 (0)]) (results_cell_row Tryz.results85 _ _ n0 _ _ _ _ rfl S2.1 Tryz.underlying195 rfl EV) rfl ⟨rfl,HO.out.box (by rw[HN.out];exact Nat.le_refl _) S2.2⟩):P:=h
theorem U7{P:Prop}(h:P:=by
 rw[List.length_append,List.length_singleton,Dp]
 congr 1
 ·refine Df _ (fun i hi=>?_)
  exact ST
 ·exact TI):P:=h
theorem EH{P:Prop}(h:P:=by
 rw[Ap _ _ _ e,List.getD_eq_getElem?_getD,List.getElem?_append_left (by omega),←List.getD_eq_getElem?_getD]
 exact(h.prs i (by omega)).move m):P:=h
theorem U_{P:Prop}(h:P:=by
 have:=(h.sh.pool.ty t1 (by decide) (by decide) (by decide)).ty t2 (by decide) (by decide) (by decide)
 exact⟨this.blk,this.slots,this.free⟩):P:=h
theorem TI{P:Prop}(h:P:=by
 rw[List.getD_eq_getElem?_getD,List.getElem?_append_right (Nat.le_refl _),Nat.sub_self];rfl):P:=h
theorem ST{P:Prop}(h:P:=by
 rw[List.getD_eq_getElem?_getD,List.getD_eq_getElem?_getD,List.getElem?_append_left hi]):P:=h
theorem Uw{P:Prop}(h:P:=by
 rcases NB x with⟨_,h1,h2⟩|⟨h1,h2,_⟩|⟨h1,h2,_⟩|⟨h1,h2⟩<;>omega):P:=h
theorem UW{P:Prop}(h:P:=by
 go_enter Tryz.func101,Tryz.ntmps101
 go_wp2_with fail
 go_ret
 exact⟨rfl,rfl⟩):P:=h
theorem UC{P:Prop}(h:P:=by
 go_enter Tryz.func102,Tryz.ntmps102
 go_wp2
 go_ret
 exact⟨by simp,by simp⟩):P:=h
theorem Um{P:Prop}(h:P:=by
 go_wp2_with (go_at_call 101;refine(Ph h i hi).mono ?_;rintro e w' ⟨rfl,rfl⟩)
 go_ret
 exact⟨rfl,h,Ah.refl _ _⟩):P:=h
theorem U8{P:Prop}(h:P:=by
 subst e
 rw[Au,List.getD_eq_getElem?_getD,List.getElem?_append_right (Nat.le_refl _),Nat.sub_self]
 exact hp.move m):P:=h
theorem TC{P:Prop}(h:P:=by
 rintro b (hb|rfl)
 ·exact .inl hb
 ·rcases hat with e|e
  ·exact .inl (h.sh.pt b e)
  ·exact .inr e):P:=h
theorem Tu{P:Prop}(h:P:=by
 exact fun k x hk=>⟨(h.tx.cel k x hk).1,(h.tx.cel k x hk).2.1.ty oT (by decide),.inl (h.tx.cel k x hk).2.2⟩):P:=h
theorem U6{P:Prop}(h:P:=by
 rintro b (hb|rfl)
 ·exact Nat.lt_of_lt_of_le (h.uQ b hb) hsz
 ·exact Nat.lt_of_lt_of_le hlt o2.size):P:=h
theorem Ty{P:Prop}(h:P:=by
 rintro b (hb|rfl)
 ·exact Nat.lt_of_lt_of_le (h.uP b hb) hsz
 ·exact Nat.lt_of_lt_of_le hlt o2.size):P:=h
theorem SD{P:Prop}(h:P:=by
 show(X.sh.tale++[_]).length≤N+1
 have:=h.sh.tlen
 rw[List.length_append,List.length_singleton];omega):P:=h
theorem UB{P:Prop}(h:P:=by
 exact(h.sh.ar.ty t1 (by decide) (by decide)).ty t2 (by decide) (by decide)):P:=h
theorem TS{P:Prop}(h:P:=by
 rintro b (hb|rfl)
 ·exact h.aQ b hb
 ·exact(hown.lt b rfl).1):P:=h
theorem UL{P:Prop}(h:P:=by
 rintro b (hb|rfl)
 ·exact h.aP b hb
 ·exact(hown.lt b rfl).1):P:=h
theorem Aq{α:Sort _}(a:α):∃b,a=b:=⟨a,rfl⟩
theorem Ad{α:Sort _}(a:α):∃b,b=a:=⟨a,rfl⟩
theorem Aa{p:Prop}(h:p):Hid p:=Lib.hid h
structure QU where
 (w:World)(x k:Nat)(v:Value)
def Ab(w:World)(x k:Nat)(v:Value):QU:=⟨w,x,k,v⟩
instance(w x k v):CoeDep QU (Ab w x k v) Prop:=⟨w.cell? ⟨x,k,none⟩=some v⟩
instance(x:Int):CoeDep Int x Value:=⟨.int .i64 x⟩
instance(x:Nat):CoeDep Nat x Value:=⟨.int .i64 x⟩
theorem Ae(w:World)(x k:Nat)(v:Value)(h:w.cell? ⟨x,k,none⟩=some v):w.cell? ⟨x,k,none⟩=some v:=h
section
def Am(w:World)(b:Nat)(t:TypeId)(cs:Array Value):Prop:=w.heap[b]? =some (.cells cs t (0,0))
theorem Am.lt{w:World}{b:Nat}{t:TypeId}{cs:Array Value}(h:Am w b t cs):b<w.heap.size:=lt_of_block h
theorem Am.cell{w:World}{b:Nat}{t:TypeId}{cs:Array Value}(h:Am w b t cs)(o:Nat):w.cell? ⟨b,o,none⟩=cs[o]? :=by
 unfold Am at h;simp[World.cell?,h]
theorem Am.free{w:World}{b:Nat}{t:TypeId}{cs:Array Value}(h:Am w b t cs)(o:Nat):w.frozen? ⟨b,o,none⟩=false:=by
 unfold Am at h;simp[World.frozen?,h]
theorem Am.set{w:World}{b:Nat}{t:TypeId}{cs:Array Value}(h:Am w b t cs)(o:Nat)(v:Value):Am (w.setCell ⟨b,o,none⟩ v) b t (cs.setIfInBounds o v):=by
 unfold Am at *
 have hlt:=lt_of_block h
 have h':w.heap[b]= .cells cs t (0,0):=by simpa[Array.getElem?_eq_getElem hlt]using h
 show(w.heap.modify b _)[b]? =_
 rw[Array.getElem?_eq_getElem (by simpa using hlt),Array.getElem_modify_self,h']
 rfl
theorem Am.other{w:World}{b:Nat}{t:TypeId}{cs:Array Value}(h:Am w b t cs)(a:Addr)(v:Value)(hne:b≠a.block):Am (w.setCell a v) b t cs:=by
 unfold Am at *
 rw[Below.heap_setCell _ _ _ _ hne];exact h
theorem Am.alloc{w:World}{b:Nat}{t:TypeId}{cs:Array Value}(h:Am w b t cs)(o:Obj):Am (w.alloc o) b t cs:=by
 have hlt:=h.lt
 unfold Am at *
 rw[Below.heap_alloc _ _ _ hlt];exact h
theorem Am.drew{w:World}{b:Nat}{t:TypeId}{cs:Array Value}(h:Am w b t cs):Am w.drew b t cs:=h
theorem Am.new(w:World)(t:TypeId)(cs:Array Value):Am (w.alloc (.cells cs t)) w.heap.size t cs:=by
 unfold Am
 show(w.heap.push _)[w.heap.size]? =_
 simp
theorem Am.new'(w:World)(t:TypeId)(cs:Array Value)(b:Nat)(hb:b=w.heap.size):Am (w.alloc (.cells cs t)) b t cs:=hb▸Am.new w t cs
theorem Am.inj{w:World}{b:Nat}{t t':TypeId}{cs cs':Array Value}(h:Am w b t cs)(h':Am w b t' cs'):cs=cs'∧t=t':=by
 unfold Am at *;rw[h]at h';simpa using h'
structure Ah(S:Nat→Prop)(w w':World):Prop where
 os:w'.os=w.os
 tape:w'.tape=w.tape
 output:w'.output=w.output
 size:w.heap.size≤w'.heap.size
 block:∀k,k<w.heap.size→¬S k→w'.heap[k]? =w.heap[k]?
theorem Ah.refl(S:Nat→Prop)(w:World):Ah S w w:=⟨rfl,rfl,rfl,Nat.le_refl _,fun _ _ _=>rfl⟩
theorem Ah.trans{S:Nat→Prop}{a b c:World}(h:Ah S a b)(k:Ah S b c):Ah S a c:=
 ⟨k.os.trans h.os,k.tape.trans h.tape,k.output.trans h.output,Nat.le_trans h.size k.size,fun i hi hn=>(k.block i (Nat.lt_of_lt_of_le hi h.size) hn).trans (h.block i hi hn)⟩
theorem Ah.mono{S T:Nat→Prop}{w w':World}(h:Ah S w w')(hs:∀k,k<w.heap.size→S k→T k):Ah T w w':=⟨h.os,h.tape,h.output,h.size,fun k hk hn=>h.block k hk (fun hS=>hn (hs k hk hS))⟩
theorem Ah.drew{S:Nat→Prop}{a w:World}(h:Ah S a w):Ah S a w.drew:=⟨h.os,h.tape,h.output,h.size,h.block⟩
theorem Ah.drewN{S:Nat→Prop}{a w:World}(h:Ah S a w)(n:Nat):Ah S a (w.drewN n):=⟨h.os,h.tape,h.output,h.size,h.block⟩
theorem Ah.alloc{S:Nat→Prop}{a w:World}(h:Ah S a w)(o:Obj):Ah S a (w.alloc o):=
 h.trans ⟨rfl,rfl,rfl,by simp,fun k hk _=>Below.heap_alloc _ _ _ hk⟩
theorem Ah.setCell{S:Nat→Prop}{a w:World}(h:Ah S a w){p:Addr}(hp:p.block<a.heap.size→S p.block)(u:Value):Ah S a (w.setCell p u):=by
 refine⟨h.os,h.tape,h.output,by simpa[World.setCell]using h.size,fun k hk hn=>?_⟩
 rw[Below.heap_setCell _ _ _ _ (fun e=>by subst e;exact hn (hp hk))]
 exact h.block k hk hn
theorem Ah.blk{S:Nat→Prop}{w w':World}(h:Ah S w w'){b:Nat}{t:TypeId}{cs:Array Value}(hb:Am w b t cs)(hn:¬S b):Am w' b t cs:=by
 have hlt:=hb.lt
 unfold Am at *
 rw[h.block b hlt hn];exact hb
theorem Ah.below{S:Nat→Prop}{w w':World}(h:Ah S w w')(B:Nat)(hB:B≤w.heap.size)(hs:∀k,S k→B≤k):Below B w w':=
 ⟨h.os,h.tape,h.output,h.size,fun k hk=>h.block k (by omega) (fun hS=>by have:=hs k hS;omega)⟩
def Ac(w w':World):Prop:=Ah (fun _=>False) w w'
theorem Ac.refl(w:World):Ac w w:=Ah.refl _ w
theorem Ac.trans{a b c:World}(h:Ac a b)(k:Ac b c):Ac a c:=Ah.trans h k
theorem Ac.alloc{a w:World}(h:Ac a w)(o:Obj):Ac a (w.alloc o):=Ah.alloc h o
theorem Ac.drew{a w:World}(h:Ac a w):Ac a w.drew:=Ah.drew h
theorem Ac.drewN{a w:World}(h:Ac a w)(n:Nat):Ac a (w.drewN n):=Ah.drewN h n
theorem Ac.setCell{a w:World}(h:Ac a w){p:Addr}(hp:a.heap.size≤p.block)(u:Value):Ac a (w.setCell p u):=Ah.setCell h (fun hk=>absurd hk (by omega)) u
theorem Ac.grown{a w w':World}{row:Option Nat}(h:Ac a w)(hg:w.grownBy w' row)(hr:∀k,row=some k→a.heap.size≤k):Ac a w':=by
 refine⟨hg.os.trans h.os,hg.tape.trans h.tape,hg.output.trans h.output,Nat.le_trans h.size hg.size,fun k hk hn=>?_⟩
 rw[hg.block k (Nat.lt_of_lt_of_le hk h.size) (fun e=>by have:=hr k e.symm;omega)]
 exact h.block k hk hn
theorem Ac.below{w w':World}(h:Ac w w'):Below w.heap.size w w':=Ah.below h _ (Nat.le_refl _) (fun _ hf=>hf.elim)
theorem Below.only0{w w':World}(h:Below w.heap.size w w'):Ac w w':=⟨h.os,h.tape,h.output,h.size,fun k hk _=>h.block k hk⟩
theorem Ac.any{w w':World}(h:Ac w w')(S:Nat→Prop):Ah S w w':=h.mono (fun _ _ hf=>hf.elim)
theorem BL{a b:Bool}(h:a=b):Ending.returned (.bool a)= .returned (.bool b):=by rw[h]
end
section
def Ok(k:IntKind)(w:World)(a:Option Addr)(zs:List Int):Prop:=
 zs=[]∨∃b off,a=some ⟨b,off,none⟩∧∀i,i<zs.length→w.cell? ⟨b,off+i,none⟩=some (.int k (zs.getD i 0))
theorem Ok.at{k:IntKind}{w:World}{a:Option Addr}{zs:List Int}(h:Ok k w a zs)(hn:0<zs.length):
 ∃b off,a=some ⟨b,off,none⟩∧∀i,i<zs.length→w.cell? ⟨b,off+i,none⟩=some (.int k (zs.getD i 0)):=by
 rcases h with rfl|h
 ·simp at hn
 ·exact h
end
end Go.Proofs.YtoakelhnhkilcaaGreat
namespace Go
section
variable {P:Program} {ops:Array Oper} {Q:Exit→Act→World→Prop} {md:Region.Mode} {S:World→Prop}
theorem Af(i:Nat){oi:Oper}{v:Value}{fuel:Nat}{listed l':Array Bool}{a a':Act}{w:World}
 (hi:ops[i]? =some oi:=by rfl) (hs:Region.noSelect ops=true:=by kernel_rfl) (hf:Region.free md ops listed i=true:=by kernel_rfl) (hr:(Region.ready md ops listed).contains i=true:=by kernel_rfl)
 (hQ:∀c a w,Q (.panic c) (a.put oi.dst v) w→Q (.panic c) a w:=by exact fun _ _ _ h=>h)
 (hg:Region.wanted oi (yielded ops a.tmps)=true:=by rfl)
 (hy:∀w,S w→(execOp a.eval oi).run P w= .ok (.value v) w:=by(intro w hSw;(try dsimp only at hSw);go_simp;try with_reducible rfl))
 (hS:S w:=by assumption)
 (hp:a.put oi.dst v=a':=by(try simp only[Act.put,List.getElem_toArray,List.getElem_cons_zero,List.getElem_cons_succ,List.setIfInBounds_toArray,List.set_cons_zero,List.set_cons_succ])<;>try rfl)
 (hl:listed.setIfInBounds i true=l':=by(try simp only[List.setIfInBounds_toArray,List.set_cons_zero,List.set_cons_succ])<;>try rfl)
 (h:wpAnyH P md ops Q S fuel l' a' w):wpAnyH P md ops Q S (fuel+1) listed a w:=by
 subst hp;subst hl
 exact wpAnyH_take hi hs hf hr hQ (.inl ⟨hg,hy⟩) hS h
theorem Aj(i:Nat){oi:Oper}{fuel:Nat}{listed l':Array Bool}{a a':Act}{w:World}
 (hi:ops[i]? =some oi:=by rfl) (hs:Region.noSelect ops=true:=by kernel_rfl) (hf:Region.free md ops listed i=true:=by kernel_rfl) (hr:(Region.ready md ops listed).contains i=true:=by kernel_rfl)
 (hQ:∀c a w,Q (.panic c) (a.put oi.dst undef) w→Q (.panic c) a w:=by exact fun _ _ _ h=>h)
 (hg:Region.wanted oi (yielded ops a.tmps)=false:=by rfl)
 (hS:S w:=by assumption)
 (hp:a.put oi.dst undef=a':=by(try simp only[Act.put,List.getElem_toArray,List.getElem_cons_zero,List.getElem_cons_succ,List.setIfInBounds_toArray,List.set_cons_zero,List.set_cons_succ])<;>try rfl)
 (hl:listed.setIfInBounds i true=l':=by(try simp only[List.setIfInBounds_toArray,List.set_cons_zero,List.set_cons_succ])<;>try rfl)
 (h:wpAnyH P md ops Q S fuel l' a' w):wpAnyH P md ops Q S (fuel+1) listed a w:=by
 subst hp;subst hl
 exact wpAnyH_take hi hs hf hr hQ (.inr ⟨hg,rfl⟩) hS h
theorem Ar{i:Nat}{o o':Oper}{fuel:Nat}{listed:Array Bool}{a:Act}{w:World}(hr:Region.ready md ops listed=[i]:=by kernel_rfl)(ho:ops[i]? =some o:=by rfl)
 (he:o=o':=by(try simp only[List.getElem_toArray,List.getElem_cons_zero,List.getElem_cons_succ])<;>try rfl)
 (h:∀K':Act→World→Prop,Shut (∀a w,S w→(S w→wpAnyH P md ops Q S fuel (listed.setIfInBounds i true) a w)→K' a w)→if Region.wanted o' (yielded ops a.tmps)=true then Oper.wp P o' a w K' Q else K' (a.put o'.dst undef) w):
 wpAnyH P md ops Q S (fuel+1) listed a w:=by subst he;exact wpAnyH_ready hr (by simp) (.cons ho h .nil)
theorem AK{i fuel:Nat}{listed l':Array Bool}{a a':Act}{w:World}{K':Act→World→Prop}(hK:Shut (∀a w,S w→(S w→wpAnyH P md ops Q S fuel (listed.setIfInBounds i true) a w)→K' a w))(hS:S w)
 (ha:a=a':=by(try simp only[Act.put,List.getElem_toArray,List.getElem_cons_zero,List.getElem_cons_succ,List.setIfInBounds_toArray,List.set_cons_zero,List.set_cons_succ])<;>try rfl)
 (hl:listed.setIfInBounds i true=l':=by(try simp only[List.setIfInBounds_toArray,List.set_cons_zero,List.set_cons_succ])<;>try rfl)
 (h:S w→wpAnyH P md ops Q S fuel l' a' w):K' a w:=by
 subst ha;subst hl
 exact hK.out _ _ hS h
end
end Go

namespace Go
section
variable {P:Program} {ops:Array Oper} {Q:Exit→Act→World→Prop} {md:Region.Mode} {S:World→Prop} {l:Nat}
def DW(P:Program)(md:Region.Mode)(ops:Array Oper)(Q:Exit→Act→World→Prop)(S:World→Prop)(l:Nat):Nat→Array Bool→Act→World→Prop
 |0,d,a,w=>Region.ready md ops d=[]∧Q .normal a w
 |n+1,d,a,w=>(Region.ready md ops d=[]→Q .normal a w)∧
  ∀i∈Region.ready md ops d,wpOp P ops Q i (fun a' w'=>(i=l∨S w')∧DW P md ops Q S l n (d.setIfInBounds i true) a' w') a w
theorem Gc:∀(n:Nat) (d:Array Bool) (a:Act) (w:World),DW P md ops Q S l n d a w→wpAny P md ops Q n d a w
 |0,_,_,_,h=>h
 |n+1,_,_,_,h=>⟨h.1,fun i hi=>wpOp_mono (fun a' w' h'=>Gc n _ a' w' h'.2) (h.2 i hi)⟩
def KV(md:Region.Mode)(ops:Array Oper)(l i:Nat):Bool:=match ops[l]? with
 |some o=>o.after.toList.any fun e=>Region.binds md e&&(e.on==i)
 |none=>true
theorem FR{k i:Nat}{d:Array Bool}(h:KV md ops k i=true)(hi:d.getD i true=false):k∉Region.ready md ops d:=by
 intro hl
 obtain⟨_,o,ho,hall⟩:=mem_ready.1 hl
 unfold KV at h
 rw[ho]at h
 simp only[List.any_eq_true,Bool.and_eq_true,beq_iff_eq]at h
 obtain⟨e,he,hb,heq⟩:=h
 have h1:=hall e (by simpa using he) hb
 have h0:=hi
 rw[heq]at h1
 rcases Nat.lt_or_ge i d.size with h'|h'
 ·simp[h']at h0 h1;rw[h0]at h1;cases h1
 ·simp[Array.getElem?_eq_none h']at h1
def DC(md:Region.Mode)(ops:Array Oper)(d:Array Bool):Nat→List Nat→Bool
 |i,[]=> !d.getD i true
 |i,k::c=> !d.getD i true&&(KV md ops k i&&DC md ops d k c)
theorem FS{d:Array Bool}{i:Nat}{c:List Nat}(h:DC md ops d i c=true):d.getD i true=false:=by
 cases c with
 |nil=>simpa[DC]using h
 |cons k c=>simp only[DC,Bool.and_eq_true]at h;simpa using h.1
theorem E_{d:Array Bool}:∀(c:List Nat) (i:Nat),DC md ops d i c=true→∀k∈c,k∉Region.ready md ops d:=by
 intro c
 induction c with
 |nil=>intro i _ k hk;cases hk
 |cons k0 c ih=>
  intro i h k hk
  have h0:=FS h
  simp only[DC,Bool.and_eq_true]at h
  rcases List.mem_cons.1 hk with rfl|hk
  ·exact FR h.2.1 h0
  ·exact ih k0 h.2.2 k hk
theorem K8{d:Array Bool}{j:Nat}(hj:j∈Region.ready md ops d):∀(c:List Nat) (i:Nat),j≠i→DC md ops d i c=true→DC md ops (d.setIfInBounds j true) i c=true:=by
 intro c
 induction c with
 |nil=>
  intro i hne h
  have h0:=FS h
  unfold DC
  rw[getD_set_ne true hne,h0];rfl
 |cons k c ih=>
  intro i hne h
  have h0:=FS h
  have hk:k∉Region.ready md ops d:=E_ (k::c) i h k (by simp)
  unfold DC at h ⊢
  simp only[Bool.and_eq_true]at h ⊢
  refine⟨by rw[getD_set_ne true hne,h0];rfl,h.2.1,ih k (fun e=>hk (e▸hj)) h.2.2⟩
theorem J4{i:Nat}{oi:Oper}{v:Value}(hi:ops[i]? =some oi)(hsel:∀(j:Nat) (o:Oper) cs b,ops[j]? =some o→o.op≠ .select cs b)
 (hQ:∀c a w,Q (.panic c) (a.put oi.dst v) w→Q (.panic c) a w) (ch:List Nat) (hl:l∈ch):
 ∀(n:Nat) (d:Array Bool) (a:Act) (w:World),DC md ops d i ch=true→
  (∀j oj,ops[j]? =some oj→j≠i→d.getD j true=false→(∀e∈oj.after,Region.binds md e=true→e.on≠i)→oi.apart ops oj=true)→
  i∈Region.ready md ops d→YieldsIf P ops S oi v a→S w→
  DW P md ops Q S l n (d.setIfInBounds i true) (a.put oi.dst v) w→DW P md ops Q S l (n+1) d a w:=by
 intro n
 induction n with
 |zero=>
  intro d a w hch _ hr hy hS H
  refine⟨fun h=>(by rw[h]at hr;cases hr),fun j hj=>?_⟩
  by_cases hji:j=i
  ·subst hji;exact hy.wpOp hi hS ⟨.inr hS,H⟩
  ·have:=ready_mono hj hji
   rw[H.1]at this
   cases this
 |succ n ih=>
  intro d a w hch hfree hr hy hS H
  refine⟨fun h=>(by rw[h]at hr;cases hr),fun j hj=>?_⟩
  by_cases hji:j=i
  ·subst hji;exact hy.wpOp hi hS ⟨.inr hS,H⟩
  ·have hjl:j≠l:=fun e=>E_ ch i hch l hl (e▸hj)
   have h1:=H.2 j (ready_mono hj hji)
   obtain⟨hjun,oj,hoj,hall⟩:=mem_ready.1 hj
   have hnot:∀e∈oj.after,Region.binds md e=true→e.on≠i:=fun e he hb heq=>by
    have h1:=hall e he hb
    have h0:=(mem_ready.1 hr).1
    rw[heq]at h1
    rcases Nat.lt_or_ge i d.size with h'|h'
    ·simp[h']at h0 h1;rw[h0]at h1;cases h1
    ·simp[Array.getElem?_eq_none h']at h1
   have h2:=wpOp_putIf hoj (hfree j oj hoj hji hjun hnot) (fun cs b=>hsel i oi cs b hi) (fun cs b=>hsel j oj cs b hoj) hQ hy (wpOp_mono (fun a' w' h3=>(⟨h3.1.resolve_left hjl,h3.2⟩:S w'∧_)) h1)
   have hfree':∀k ok,ops[k]? =some ok→k≠i→(d.setIfInBounds j true).getD k true=false→
    (∀e∈ok.after,Region.binds md e=true→e.on≠i)→oi.apart ops ok=true:=fun k ok hk hki hun hno=>by
    refine hfree k ok hk hki ?_ hno
    by_cases hjk:j=k
    ·subst hjk;exact hjun
    ·rw[getD_set_ne true hjk]at hun;exact hun
   refine wpOp_mono (fun a' w' h3=>⟨.inr h3.2.1,ih (d.setIfInBounds j true) a' w' (K8 hj ch i hji hch) hfree' (ready_mono hr (Ne.symm hji)) h3.1 h3.2.1 ?_⟩) h2
   rw[Array.setIfInBounds_comm _ _ hji]
   exact h3.2.2
theorem KI{i:Nat}{oi:Oper}{v:Value}{n:Nat}{d:Array Bool}{a:Act}{w:World}(hi:ops[i]? =some oi)
 (hs:Region.noSelect ops=true) (hf:Region.free md ops d i=true) (hr:(Region.ready md ops d).contains i=true) (ch:List Nat) (hl:ch.contains l=true) (hch:DC md ops d i ch=true)
 (hQ:∀c a w,Q (.panic c) (a.put oi.dst v) w→Q (.panic c) a w) (hy:YieldsIf P ops S oi v a) (hS:S w)
 (h:DW P md ops Q S l n (d.setIfInBounds i true) (a.put oi.dst v) w):DW P md ops Q S l (n+1) d a w:=
 J4 hi (Region.noSelect_spec hs) hQ ch (by simpa using hl) n d a w hch (Region.free_spec hi hf) (by simpa using hr) hy hS h
theorem KU{i:Nat}{o:Oper}{n:Nat}{d:Array Bool}{a:Act}{w:World}(hr:Region.ready md ops d=[i])(ho:ops[i]? =some o)
 (h:∀K':Act→World→Prop,Shut (∀a w,S w→(S w→DW P md ops Q S l n (d.setIfInBounds i true) a w)→K' a w)→if Region.wanted o (yielded ops a.tmps)=true then Oper.wp P o a w K' Q else K' (a.put o.dst undef) w):
 DW P md ops Q S l (n+1) d a w:=by
 refine⟨fun h0=>(by rw[h0]at hr;cases hr),fun j hj=>?_⟩
 rw[hr]at hj
 obtain rfl:j=i:=by simpa using hj
 exact wpOp_step ho (fun K' hK=>h K' (fun a w hS hW=>hK a w ⟨.inr hS,hW hS⟩))
theorem AI{o:Oper}{n:Nat}{d:Array Bool}{a:Act}{w:World}(hr:Region.ready md ops d=[l])(ho:ops[l]? =some o)(hd:Region.ready md ops (d.setIfInBounds l true)=[])
 (h:∀K':Act→World→Prop,Shut (∀a w,Q .normal a w→K' a w)→if Region.wanted o (yielded ops a.tmps)=true then Oper.wp P o a w K' Q else K' (a.put o.dst undef) w):
 DW P md ops Q S l (n+1) d a w:=by
 refine⟨fun h0=>(by rw[h0]at hr;cases hr),fun j hj=>?_⟩
 rw[hr]at hj
 obtain rfl:j=l:=by simpa using hj
 refine wpOp_step ho (fun K' hK=>h K' (fun a w hq=>hK a w ⟨.inl rfl,?_⟩))
 cases n with
 |zero=>exact⟨hd,hq⟩
 |succ n=>exact⟨fun _=>hq,by rw[hd];simp⟩
theorem Ao{id:Nat}{a:Act}{w:World}(l:Nat)(hm:P.follows .mixedOrders=true)(hS:S w.drew)
 (h:S w.drew→DW P .any ops Q S l ops.size (Array.replicate ops.size false) a w.drew):(Code.region id ops true).wp P Q a w:=
 wp_region_any hm (Gc _ _ _ _ (h hS))
end
end Go

namespace Go
section
variable {P:Program} {ops:Array Oper} {Q:Exit→Act→World→Prop} {md:Region.Mode} {S:World→Prop} {l:Nat}
theorem Av(i:Nat)(ch:List Nat){oi:Oper}{v:Value}{n:Nat}{d l':Array Bool}{a a':Act}{w:World}
 (hi:ops[i]? =some oi:=by rfl) (hs:Region.noSelect ops=true:=by kernel_rfl) (hf:Region.free md ops d i=true:=by kernel_rfl) (hr:(Region.ready md ops d).contains i=true:=by kernel_rfl)
 (hc:ch.contains l=true:=by kernel_rfl) (hch:DC md ops d i ch=true:=by kernel_rfl)
 (hQ:∀c a w,Q (.panic c) (a.put oi.dst v) w→Q (.panic c) a w:=by exact fun _ _ _ h=>h)
 (hg:Region.wanted oi (yielded ops a.tmps)=true:=by rfl)
 (hy:∀w,S w→(execOp a.eval oi).run P w= .ok (.value v) w:=by(intro w hSw;(try dsimp only at hSw);go_simp;try with_reducible rfl))
 (hS:S w:=by assumption)
 (hp:a.put oi.dst v=a':=by(try simp only[Act.put,List.getElem_toArray,List.getElem_cons_zero,List.getElem_cons_succ,List.setIfInBounds_toArray,List.set_cons_zero,List.set_cons_succ])<;>try rfl)
 (hl:d.setIfInBounds i true=l':=by(try simp only[List.setIfInBounds_toArray,List.set_cons_zero,List.set_cons_succ])<;>try rfl)
 (h:DW P md ops Q S l n l' a' w):DW P md ops Q S l (n+1) d a w:=by
 subst hp;subst hl
 exact KI hi hs hf hr ch hc hch hQ (.inl ⟨hg,hy⟩) hS h
theorem Bx{i:Nat}{o o':Oper}{n:Nat}{d:Array Bool}{a:Act}{w:World}(hr:Region.ready md ops d=[i]:=by kernel_rfl)(ho:ops[i]? =some o:=by rfl)
 (he:o=o':=by(try simp only[List.getElem_toArray,List.getElem_cons_zero,List.getElem_cons_succ])<;>try rfl)
 (h:∀K':Act→World→Prop,Shut (∀a w,S w→(S w→DW P md ops Q S l n (d.setIfInBounds i true) a w)→K' a w)→if Region.wanted o' (yielded ops a.tmps)=true then Oper.wp P o' a w K' Q else K' (a.put o'.dst undef) w):
 DW P md ops Q S l (n+1) d a w:=by subst he;exact KU hr ho h
theorem D_{i n:Nat}{d l':Array Bool}{a a':Act}{w:World}{K':Act→World→Prop}(hK:Shut (∀a w,S w→(S w→DW P md ops Q S l n (d.setIfInBounds i true) a w)→K' a w))(hS:S w)
 (ha:a=a':=by(try simp only[Act.put,List.getElem_toArray,List.getElem_cons_zero,List.getElem_cons_succ,List.setIfInBounds_toArray,List.set_cons_zero,List.set_cons_succ])<;>try rfl)
 (hl:d.setIfInBounds i true=l':=by(try simp only[List.setIfInBounds_toArray,List.set_cons_zero,List.set_cons_succ])<;>try rfl)
 (h:S w→DW P md ops Q S l n l' a' w):K' a w:=by
 subst ha;subst hl
 exact hK.out _ _ hS h
end
end Go
namespace Go.Proofs.YtoakelhnhkilcaaGreat
open Go.RowKit
section
structure Dt where
 e:Int
 value:Int
 pairs:List (Int×Int)
 over:Int
 reason:Int
def Dt.zero:Dt:=⟨0,0,[],0,0⟩
def Dt.err(e:Int):Dt:=⟨e,0,[],0,0⟩
structure DS where
 kind:Int
 key:Int
 hi:Int
 value:Int
def AT{α:Type}(f:Nat→α)(k:Nat)(x:α):Nat→α:=fun j=>if j=k then x else f j
theorem Au{α:Type}(f:Nat→α)(k:Nat)(x:α):AT f k x k=x:=by simp[AT]
theorem Ap{α:Type}(f:Nat→α)(k:Nat)(x:α){j:Nat}(h:j≠k):AT f k x j=f j:=by simp[AT,h]
def A0(k:Int):Bool:=decide (0≤k)&&decide (k≤63)
def AF(o:DS):Bool:=
 if o.kind=1∨o.kind=4 then A0 o.key&&decide (o.hi=0)&&decide (o.value=0)
 else if o.kind=2∨o.kind=3 then A0 o.key&&decide (o.hi=0)&&decide (0≤o.value)&&decide (o.value≤65535)
 else if o.kind=5 then A0 o.key&&decide (o.key≤o.hi)&&decide (o.hi≤63)&&decide (o.value=0)
 else if o.kind=6∨o.kind=7 then decide (o.key=0)&&decide (o.hi=0)&&decide (o.value=0)
 else false
def DY(o:DS):Bool:=decide (o.kind=6)||decide (o.kind=7)
def Be(j:Int):Bool:=decide (0≤j)&&decide (j<8)
def DV(n:Int):Bool:=decide (1≤n)&&decide (n≤3)
def GI(slots limit:Int):Bool:=decide (1≤slots)&&decide (slots≤256)&&decide (1≤limit)&&decide (limit≤1099511627776)
end
section
set_option maxRecDepth 100000
theorem Qk(P:Program)(x y:Int)(w:World):(Op.intArith .add .i64 x y).run P w= .ok (.int .i64 (wrap64 (x+y))) w:=by
 rw[←IntWalk.i64_left];rfl
theorem Kt(b:Nat)(o:Nat)(v:Int)(w:World)(hc:w.cell? ⟨b,o,none⟩=some (.int .u64 v)):
 Calls Tryz.prog 83 #[.pointer (some ⟨b,o,none⟩)] w fun e w'=>e= .returned (.int .u64 v)∧w=w':=by
 have h:=run_call_load (P:=Tryz.prog) Tryz.func109 (by kernel_rfl) (by kernel_rfl) (by kernel_rfl) .u64 (by kernel_rfl) hc
 go_enter Tryz.func83,Tryz.ntmps83
 go_wp2
 go_ret
 exact⟨rfl,rfl⟩
theorem Mq(b:Nat)(o:Nat)(u:Value)(v:Int)(w:World)(hc:w.cell? ⟨b,o,none⟩=some u)(hf:w.frozen? ⟨b,o,none⟩=false):
 Calls Tryz.prog 103 #[.pointer (some ⟨b,o,none⟩),.int .u64 v] w fun e w'=>e= .returned (.tuple #[])∧w.setCell ⟨b,o,none⟩ (.int .u64 v)=w':=by
 have h:=run_call_store (P:=Tryz.prog) Tryz.func127 (by kernel_rfl) (by kernel_rfl) (by kernel_rfl) (by kernel_rfl) (k:= .u64) (y:=v) hc hf
 go_enter Tryz.func103,Tryz.ntmps103
 go_wp2
 go_end0
 exact⟨rfl,rfl⟩
theorem LM(b:Nat)(o:Nat)(x a y:Int)(w:World)(hc:w.cell? ⟨b,o,none⟩=some (.int .u64 x))(hf:w.frozen? ⟨b,o,none⟩=false):
 Calls Tryz.prog 102 #[.pointer (some ⟨b,o,none⟩),.int .u64 a,.int .u64 y] w fun e w'=>e= .returned (.bool (decide (x=a)))∧(if x=a then w.setCell ⟨b,o,none⟩ (.int .u64 y)else w)=w':=by
 by_cases e:x=a
 ·subst e
  have h:=run_call_cas_hit (P:=Tryz.prog) Tryz.func126 (by kernel_rfl) (by kernel_rfl) (by kernel_rfl) .u64 (by kernel_rfl) (y:=y) hc hf
  exact UC
 ·have h:=run_call_cas_miss (P:=Tryz.prog) Tryz.func126 (by kernel_rfl) (by kernel_rfl) (by kernel_rfl) .u64 (by kernel_rfl) (y:=y) hc hf e
  exact UC
theorem PA(b:Nat)(o:Nat)(v:Int)(w:World)(hc:w.cell? ⟨b,o,none⟩=some (.int .i64 v)):
 Calls Tryz.prog 87 #[.pointer (some ⟨b,o,none⟩)] w fun e w'=>e= .returned (.int .i64 v)∧w=w':=by
 have h:=run_call_load (P:=Tryz.prog) Tryz.func110 (by kernel_rfl) (by kernel_rfl) (by kernel_rfl) .i64 (by kernel_rfl) hc
 go_enter Tryz.func87,Tryz.ntmps87
 go_wp2
 go_ret
 exact⟨rfl,rfl⟩
theorem QJ(b:Nat)(o:Nat)(x y:Int)(w:World)(hc:w.cell? ⟨b,o,none⟩=some (.int .i64 x))(hf:w.frozen? ⟨b,o,none⟩=false):
 Calls Tryz.prog 125 #[.pointer (some ⟨b,o,none⟩),y] w fun e w'=>e= .returned (.int .i64 (wrap64 (x+y)))∧w.setCell ⟨b,o,none⟩ (.int .i64 (wrap64 (x+y)))=w':=by
 have h:=run_call_add (P:=Tryz.prog) Tryz.func158 (by kernel_rfl) (by kernel_rfl) (by kernel_rfl) .i64 (by kernel_rfl) hc hf (Qk _ x y w)
 go_enter Tryz.func125,Tryz.ntmps125
 go_wp2
 go_ret
 exact⟨rfl,rfl⟩
end
section
set_option maxRecDepth 100000
structure AS where
 ws:List Int
 cnt:Int
def AS.on(s:AS)(i:Int):Bool:=decide (0≤i)&&decide (i<(s.ws.length:Int))
def AS.tick(s:AS)(i:Int):AS:=if s.on i then⟨s.ws,wrap64 (s.cnt+1)⟩else s
def AS.load(s:AS)(i:Int):Int:=if s.on i then s.ws.getD i.toNat 0 else 0
def AS.store(s:AS)(i v:Int):AS:=if s.on i then⟨s.ws.set i.toNat v,wrap64 (s.cnt+1)⟩else s
def AS.casOk(s:AS)(i old:Int):Bool:=s.on i&&decide (s.ws.getD i.toNat 0=old)
def AS.cas(s:AS)(i old new:Int):AS:=if s.casOk i old then s.store i new else s.tick i
structure AN(w:World)(a b:Nat)(s:AS):Prop where
 head:Am w a 183 #[.slice (some ⟨b,0,none⟩) s.ws.length s.ws.length,.int .i64 s.cnt]
 words:Am w b 191 (s.ws.map (Value.int .u64)).toArray
 ne:a≠b
 len:s.ws.length≤100000
theorem AN.only{w w':World}{a b:Nat}{s:AS}{S:Nat→Prop}(h:AN w a b s)(ho:Ah S w w')(ha:¬S a)(hb:¬S b):AN w' a b s:=
 ⟨ho.blk h.head ha,ho.blk h.words hb,h.ne,h.len⟩
theorem AN.drew{w:World}{a b:Nat}{s:AS}(h:AN w a b s):AN w.drew a b s:=⟨h.head,h.words,h.ne,h.len⟩
theorem AN.alloc{w:World}{a b:Nat}{s:AS}(h:AN w a b s)(o:Obj):AN (w.alloc o) a b s:=⟨h.head.alloc o,h.words.alloc o,h.ne,h.len⟩
theorem AN.tick{w:World}{a b:Nat}{s:AS}(h:AN w a b s)(c:Int):AN (w.setCell ⟨a,1,none⟩ (.int .i64 c)) a b ⟨s.ws,c⟩:=
 ⟨by simpa using h.head.set 1 (.int .i64 c),h.words.other _ _ (Ne.symm h.ne),h.ne,h.len⟩
theorem AN.put{w:World}{a b:Nat}{s:AS}(h:AN w a b s)(i:Nat)(v:Int):AN (w.setCell ⟨b,i,none⟩ (.int .u64 v)) a b ⟨s.ws.set i v,s.cnt⟩:=
 ⟨by simpa using h.head.other ⟨b,i,none⟩ (.int .u64 v) h.ne,by simpa[List.map_set]using h.words.set i (.int .u64 v),h.ne,by simpa using h.len⟩
theorem AN.c0{w:World}{a b:Nat}{s:AS}(h:AN w a b s):w.cell? ⟨a,0,none⟩=some (.slice (some ⟨b,0,none⟩) s.ws.length s.ws.length):=by rw[h.head.cell];rfl
theorem AN.c1{w:World}{a b:Nat}{s:AS}(h:AN w a b s):w.cell? ⟨a,1,none⟩=some (.int .i64 s.cnt):=by rw[h.head.cell];rfl
theorem AN.wd{w:World}{a b:Nat}{s:AS}(h:AN w a b s)(i:Nat)(hi:i<s.ws.length):w.cell? ⟨b,i,none⟩=some (.int .u64 (s.ws.getD i 0)):=by
 rw[h.words.cell];simp[hi]
def QN(a b:Nat):Nat→Prop:=fun k=>k=a∨k=b
theorem Lq{w:World}{a b:Nat}{s:AS}(h:AN w a b s)(i:Int)(h0:0≤i)(h1:i<s.ws.length):
 Calls Tryz.prog 101 #[.pointer (some ⟨a,0,none⟩),i] w fun e w'=>e= .returned (.pointer (some ⟨b,i.toNat,none⟩))∧w.setCell ⟨a,1,none⟩ (.int .i64 (wrap64 (s.cnt+1)))=w':=by
 have hl:=h.len
 have c0:=h.c0
 have c1:=h.c1
 have f1:=h.head.free 1
 have hne:=h.ne
 obtain⟨i,rfl⟩:=Int.eq_ofNat_of_zero_le h0
 go_enter Tryz.func101,Tryz.ntmps101
 go_wp2_with ((go_at_call 125;refine(QJ a 1 s.cnt 1 _ c1 f1).mono ?_;rintro e w' ⟨rfl,rfl⟩))
 go_ret
 exact⟨rfl,rfl⟩
theorem Ph{w:World}{a b:Nat}{s:AS}(h:AN w a b s)(i:Int)(hi:i<0∨(s.ws.length:Int)≤i):
 Calls Tryz.prog 101 #[.pointer (some ⟨a,0,none⟩),i] w fun e w'=>e= .returned (.pointer none)∧w=w':=by
 have hl:=h.len
 have c0:=h.c0
 by_cases hn:i<0
 ·exact UW
 ·have hg:(s.ws.length:Int)≤i:=by omega
  exact UW
theorem AS.on_iff(s:AS)(i:Int):s.on i=true↔0≤i∧i<(s.ws.length:Int):=by simp[AS.on]
theorem AS.on_not(s:AS)(i:Int):s.on i=false↔(i<0∨(s.ws.length:Int)≤i):=by
 rw[←Bool.not_eq_true,AS.on_iff];omega
theorem Ah.tick{w:World}(a b:Nat)(o:Nat)(v:Value):Ah (QN a b) w (w.setCell ⟨a,o,none⟩ v):=(Ah.refl _ w).setCell (fun _=> .inl rfl) v
theorem Ah.two{w w':World}{a b:Nat}(h:Ah (QN a b) w w')(o:Nat)(v:Value):Ah (QN a b) w (w'.setCell ⟨b,o,none⟩ v):=h.setCell (fun _=> .inr rfl) v
theorem Hh{w:World}{a b:Nat}{s:AS}(h:AN w a b s)(i:Int):
 Calls Tryz.prog 70 #[.pointer (some ⟨a,0,none⟩),i] w fun e w'=>e= .returned (.int .u64 (s.load i))∧AN w' a b (s.tick i)∧Ah (QN a b) w w':=by
 cases ho:s.on i with
 |true=>
  have e1:s.load i=s.ws.getD i.toNat 0:=by simp[AS.load,ho]
  have e2:s.tick i=⟨s.ws,wrap64 (s.cnt+1)⟩:=by simp[AS.tick,ho]
  rw[e1,e2]
  obtain⟨h0,h1⟩:=(AS.on_iff s i).1 ho
  clear ho e1 e2
  have hw:=(h.tick (wrap64 (s.cnt+1))).wd i.toNat (by simp;omega)
  dsimp only at hw
  generalize s.ws.getD i.toNat 0=x at hw ⊢
  go_enter Tryz.func70,Tryz.ntmps70
  go_wp2_with (first|(go_at_call 101;refine(Lq h i h0 h1).mono ?_;rintro e w' ⟨rfl,rfl⟩)|(go_at_call 83;refine(Kt b _ _ _ hw).mono ?_;rintro e w' ⟨rfl,rfl⟩))
  go_ret
  exact⟨rfl,h.tick _,Ah.tick a b 1 _⟩
 |false=>
  have e1:s.load i=0:=by simp[AS.load,ho]
  have e2:s.tick i=s:=by simp[AS.tick,ho]
  rw[e1,e2]
  have hi:=(AS.on_not s i).1 ho
  clear ho e1 e2
  go_enter Tryz.func70,Tryz.ntmps70
  exact Um
theorem GJ{w:World}{a b:Nat}{s:AS}(h:AN w a b s)(i v:Int):
 Calls Tryz.prog 74 #[.pointer (some ⟨a,0,none⟩),i,.int .u64 v] w fun e w'=>e= .returned (.tuple #[])∧AN w' a b (s.store i v)∧Ah (QN a b) w w':=by
 cases ho:s.on i with
 |true=>
  have e2:s.store i v=⟨s.ws.set i.toNat v,wrap64 (s.cnt+1)⟩:=by simp[AS.store,ho]
  rw[e2]
  obtain⟨h0,h1⟩:=(AS.on_iff s i).1 ho
  clear ho e2
  have ht:=h.tick (wrap64 (s.cnt+1))
  have hw:=ht.wd i.toNat (by simp;omega)
  have hf:=ht.words.free i.toNat
  go_enter Tryz.func74,Tryz.ntmps74
  go_wp2_with (first|(go_at_call 101;refine(Lq h i h0 h1).mono ?_;rintro e w' ⟨rfl,rfl⟩)|(go_at_call 103;refine(Mq b _ _ _ _ hw hf).mono ?_;rintro e w' ⟨rfl,rfl⟩))
  go_end0
  exact⟨rfl,ht.put _ _,(Ah.tick a b 1 _).two _ _⟩
 |false=>
  have e2:s.store i v=s:=by simp[AS.store,ho]
  rw[e2]
  have hi:=(AS.on_not s i).1 ho
  clear ho e2
  go_enter Tryz.func74,Tryz.ntmps74
  go_wp2_with (go_at_call 101;refine(Ph h i hi).mono ?_;rintro e w' ⟨rfl,rfl⟩)
  go_end0
  exact⟨rfl,h,Ah.refl _ _⟩
theorem IX{w:World}{a b:Nat}{s:AS}(h:AN w a b s)(i old new:Int):
 Calls Tryz.prog 72 #[.pointer (some ⟨a,0,none⟩),i,.int .u64 old,.int .u64 new] w fun e w'=>e= .returned (.bool (s.casOk i old))∧AN w' a b (s.cas i old new)∧Ah (QN a b) w w':=by
 cases ho:s.on i with
 |true=>
  obtain⟨h0,h1⟩:=(AS.on_iff s i).1 ho
  have ht:=h.tick (wrap64 (s.cnt+1))
  have hw:=ht.wd i.toNat (by simp;omega)
  have hf:=ht.words.free i.toNat
  by_cases he:s.ws.getD i.toNat 0=old
  ·have e1:s.casOk i old=true:=by simp[AS.casOk,ho,←he]
   have e2:s.cas i old new=⟨s.ws.set i.toNat new,wrap64 (s.cnt+1)⟩:=by simp[AS.cas,e1,AS.store,ho]
   rw[e1,e2]
   have hc:=LM b i.toNat _ old new _ hw hf
   simp only[he,decide_true,if_true]at hc
   clear ho e1 e2 he
   go_enter Tryz.func72,Tryz.ntmps72
   go_wp2_with (first|(go_at_call 101;refine(Lq h i h0 h1).mono ?_;rintro e w' ⟨rfl,rfl⟩)|(go_at_call 102;refine hc.mono ?_;rintro e w' ⟨rfl,rfl⟩))
   go_ret
   exact⟨rfl,ht.put _ _,(Ah.tick a b 1 _).two _ _⟩
  ·have e1:s.casOk i old=false:=by simp only[AS.casOk,ho,he,decide_false,Bool.and_false]
   have e2:s.cas i old new=⟨s.ws,wrap64 (s.cnt+1)⟩:=by simp[AS.cas,e1,AS.tick,ho]
   rw[e1,e2]
   have hc:=LM b i.toNat _ old new _ hw hf
   simp only[he,decide_false,if_false]at hc
   clear ho e1 e2 he
   go_enter Tryz.func72,Tryz.ntmps72
   go_wp2_with (first|(go_at_call 101;refine(Lq h i h0 h1).mono ?_;rintro e w' ⟨rfl,rfl⟩)|(go_at_call 102;refine hc.mono ?_;rintro e w' ⟨rfl,rfl⟩))
   go_ret
   exact⟨rfl,ht,Ah.tick a b 1 _⟩
 |false=>
  have e1:s.casOk i old=false:=by simp[AS.casOk,ho]
  have e2:s.cas i old new=s:=by simp[AS.cas,e1,AS.tick,ho]
  rw[e1,e2]
  have hi:=(AS.on_not s i).1 ho
  clear ho e1 e2
  go_enter Tryz.func72,Tryz.ntmps72
  exact Um
theorem Ey{w:World}{a b:Nat}{s:AS}(h:AN w a b s):
 Calls Tryz.prog 53 #[.pointer (some ⟨a,0,none⟩)] w fun e w'=>e= .returned (.int .i64 s.cnt)∧w=w':=by
 have c1:=h.c1
 go_enter Tryz.func53,Tryz.ntmps53
 go_wp2_with (go_at_call 87;refine(PA a 1 s.cnt _ c1).mono ?_;rintro e w' ⟨rfl,rfl⟩)
 go_ret
 exact⟨rfl,rfl⟩
end
section
def BD(w:Int):Int:=if w≤1099511627776 then 1 else if w=2305843009213693952 then 3 else if 4611686018427387904<w∧w≤4611686018427453439 then 2 else 0
def Br(w:Int):Int:=if w≤1099511627776 then w else if w=2305843009213693952 then 0 else if 4611686018427387904<w∧w≤4611686018427453439 then w-4611686018427387904 else 0
def Bj:Int:=2305843009213693952
def BA(id:Int):Int:=if 1≤id∧id≤65535 then 4611686018427387904+id else 0
def Es(t:Int):Int:=if t≤1099511627776 then t else 0
def A5(link:Int):Int:=link%131072-1
def Al(link w:Int):Int:=73+A5 link*3+w
def Bc(state fin:Int):Int:=fin*8+state
def Bp(t id:Int):Int:=t*65536+id
def Gf(slot tag:Int):Int:=if slot<0∨65535<slot∨tag<0∨65535<tag then 0 else tag*131072+(slot+1)
structure Dh where
 own:Int
 old:Int
 there:Bool
structure FQ where
 key:Nat
 link:Int
 got:Bool
instance:Inhabited FQ:=⟨⟨0,0,false⟩⟩
structure Dq where
 id:Int
 level:Int
 s:Int
 beg:Int
 fin:Int
 ops:Int
 keys:List Nat
 cells:Nat→Option Dh
 reads:List FQ
 bonds:List Int
 over:Bool
structure Cs where
 at_:Int
 old:Int
 new:Int
inductive Rz where
 |get
 |scan (key:Nat)
 |change
 |judge (i:Nat) (link:Int)
structure Cd where
 key:Nat
 at_:Int
 thn:Rz
inductive Da where
 |draw
 |turn (w now:Int)
 |helped
 |help (w now:Int)
 |start (h:Cd)
 |visit (h:Cd) (link:Int)
 |older (h:Cd) (link:Int)
 |maker (h:Cd) (link id:Int)
 |ended (h:Cd) (link maybe:Int)
 |ender (h:Cd) (link maybe id:Int)
 |seen (h:Cd) (link maybe:Int)
 |wait (i:Nat)
 |commit
 |abort (err reason:Int)
 |turns (l:List Cs) (r:Dt)
 |ends (r:Dt)
 |again (fin:Int)
 |own (link:Int)
 |own2 (link w id:Int)
 |claim (link w:Int)
 |fresh (link:Int)
 |free1 (link head at_:Int)
 |free2 (link head at_ id:Int)
 |freeN (link head at_:Int)
 |slot1 (x:Bool) (link head:Int)
 |slot2 (x:Bool) (link head:Int)
 |push1 (link head:Int)
 |push2 (link head:Int)
 |over1 (link:Int)
 |over2 (link head:Int)
 |over3 (link head:Int)
structure Cw where
 op:DS
 r:Dt
 waits:Bool
 over:Bool
 seq:Int
structure AP where
 slots:List (Int×Bool)
 free:List Nat
 worn:Int
 made:Bool
structure Ev where
 kind:Int
 t:Int
 n:Int
 op:DS
 res:Dt
structure Sh where
 slots:Int
 limit:Int
 a:AS
 p:AP
 vals:List (Nat×Int)
 tale:List Ev
structure Cx where
 sh:Sh
 t:Dq
 c:Cw
def Cx.setA(X:Cx)(a:AS):Cx:={X with sh:={X.sh with a:=a}}
def Cx.place(X:Cx)(id:Int):Int:=73+X.sh.slots*3+id
def Cx.ev(X:Cx)(e:Ev):Cx:={X with sh:={X.sh with tale:=X.sh.tale++[e]}}
def Ev.mk3(kind t n:Int):Ev:=⟨kind,t,n,⟨0,0,0,0⟩,.zero⟩
def Cx.val(X:Cx)(link:Int):Nat×Int:=X.sh.vals.getD (A5 link).toNat (0,0)
def Cx.setVal(X:Cx)(link:Int)(v:Nat×Int):Cx:={X with sh:={X.sh with vals:=X.sh.vals.set (A5 link).toNat v}}
def Cx.setP(X:Cx)(p:AP):Cx:={X with sh:={X.sh with p:=p}}
def Cx.setT(X:Cx)(t:Dq):Cx:={X with t:=t}
def Cx.setC(X:Cx)(c:Cw):Cx:={X with c:=c}
def Cx.helpW(X:Cx)(w:Int):Cx:=X.setA (X.sh.a.cas (X.place (w%65536)) (Bc 1 0) (Bc 2 (w/65536)))
def Cx.bind(X:Cx)(to:Int):Cx:=if to∈X.t.bonds then X else(X.setT {X.t with bonds:=X.t.bonds++[to]}).ev (.mk3 4 X.t.id to)
def Cx.read(X:Cx)(key:Nat)(link:Int)(got:Bool):Cx:=X.setT {X.t with reads:=X.t.reads++[⟨key,link,got⟩]}
def Cx.take(X:Cx)(key:Nat)(x:Dh):Cx:=X.setT {X.t with cells:=AT X.t.cells key (some x),keys:=X.t.keys++[key]}
def Cx.setCell(X:Cx)(key:Nat)(x:Dh):Cx:=X.setT {X.t with cells:=AT X.t.cells key (some x)}
def Cx.key(X:Cx):Nat:=X.c.op.key.toNat
def Cx.tell(X:Cx)(n:Int)(key:Nat):Cx:=X.setC {X.c with r:={X.c.r with pairs:=X.c.r.pairs++[((key:Int),n)]}}
def Cx.finish(X:Cx)(r:Dt):Cx:=X.setC {X.c with r:=r,over:=true}
def Cx.over(X:Cx)(e:Ev):Cx:=if X.t.over then X else(X.setT {X.t with over:=true}).ev e
def Cn:Nat→List Nat
 |0=>[]
 |n+1=>n::Cn n
def AP.ready(p:AP):AP:=if p.made then p else{p with free:=Cn p.slots.length,made:=true}
def AP.link(p:AP)(i:Nat):Int:=Gf i (p.slots.getD i (0,false)).1
def AP.take(p:AP):Int×Int×AP:=match p.ready.free.getLast? with
 |none=>(0,15,p.ready)
 |some i=>(p.link i,0,{p.ready with free:=p.ready.free.dropLast,slots:=p.slots.set i ((p.slots.getD i (0,false)).1,true)})
def AP.live(p:AP)(link:Int):Bool:=decide (0≤A5 link)&&decide (A5 link<p.slots.length)&&(p.slots.getD (A5 link).toNat (0,false)).2&&decide (p.link (A5 link).toNat=link)
def AP.give(p:AP)(link:Int):AP:=if p.live link then
 if(p.slots.getD (A5 link).toNat (0,false)).1=65535 then{p with slots:=p.slots.set (A5 link).toNat (65535,false),worn:=p.worn+1}
 else{p with slots:=p.slots.set (A5 link).toNat ((p.slots.getD (A5 link).toNat (0,false)).1+1,false),free:=p.free++[(A5 link).toNat]}
 else p
def FQ.needs(r:FQ)(t:Dq):Bool:=(t.cells r.key).isNone&&(decide (t.level=3)||(decide (t.level=2)&&r.got))
def Ga(t:Dq)(i:Nat):Da:=if i=t.bonds.length then .commit else .wait i
def F7(t:Dq):Nat→Nat→Da
 |0,_=>Ga t 0
 |n+1,i=>if(t.reads.getD i default).needs t then .start ⟨(t.reads.getD i default).key,t.fin,.judge i (t.reads.getD i default).link⟩else F7 t n (i+1)
def Cc(t:Dq)(i:Nat):Da:=F7 t (t.reads.length-i) i
def De:Cx→Nat→Nat→Cx×Da
 |X,0,_=>(X,.ends X.c.r)
 |X,n+1,key=>if X.c.op.hi<key then(X,.ends X.c.r)else match X.t.cells key with
  |some x=>De (if x.there then X.tell (X.val x.own).2 key else X) n (key+1)
  |none=>(X,.start ⟨key,X.t.beg,.scan key⟩)
def E8(X:Cx)(key:Nat):Cx×Da:=De X (65-key) key
def Di(X:Cx)(x:Bool)(link head:Int):Cx×Da:=
 if link=0 then
  if X.sh.p.take.2.1≠0 then(X.setP X.sh.p.take.2.2,.abort 14 5)
  else((X.setP X.sh.p.take.2.2).setVal X.sh.p.take.1 (X.key,X.c.op.value),.slot1 x X.sh.p.take.1 head)
 else(X.setVal link (X.key,X.c.op.value),.slot1 x link head)
def DA(X:Cx)(link:Int):Cx×Da:=(if link≠0 then X.setP (X.sh.p.give link)else X,.abort 14 2)
def DZ(X:Cx)(link head at_:Int):Cx×Da:=if at_=0 then Di X false link head else(X,.free1 link head at_)
def Cu(X:Cx)(x:Dh):Cx×Da:=
 if x.there∧X.c.op.kind=2 then(X,.ends (.err 12))
 else if ¬x.there∧X.c.op.kind≠2 then(X,.ends (.err 11))
 else if x.own=0 then Di X true 0 0
 else(X,.again (if X.c.op.kind=4 then BA X.t.id else Bj))
def Ca(X:Cx)(h:Cd)(link:Int):Cx×Da:=match h.thn with
 | .get=>(X.read h.key link (decide (link≠0)),if link=0 then .ends (.err 11)else .ends ⟨0,(X.val link).2,[],0,0⟩)
 | .scan key=>E8 (if link≠0 then(X.read key link false).tell (X.val link).2 key else X.read key link false) (key+1)
 | .change=>if link≠0∧X.c.op.kind=2 then(X.read h.key link false,.ends (.err 12))
  else if link=0∧X.c.op.kind≠2 then(X.read h.key link false,.ends (.err 11))
  else if link=0 then(X,.fresh 0)else(X,.own link)
 | .judge i l=>(X,if link≠l then .abort 14 3 else Cc X.t (i+1))
def Cy(X:Cx)(h:Cd)(link maybe:Int):Cx×Da:=if maybe=0 then Ca X h link else(X,.seen h link maybe)
def CJ(X:Cx)(h:Cd)(link:Int):Cx×Da:=if link=0 then Ca X h 0 else(X,.visit h link)
def Bs(t:Dq):List Nat→List Cs
 |[]=>[]
 |k::l=>(match t.cells k with
  |none=>[]
  |some x=>(if x.own≠0 then⟨Al x.own 0,0,Es t.fin⟩::(if x.there then[]else[⟨Al x.own 1,0,Es t.fin⟩])else[])++(if x.old≠0 then[⟨Al x.old 1,0,Es t.fin⟩]else[]))++Bs t l
def BM(t:Dq):List Nat→List Cs
 |[]=>[]
 |k::l=>(match t.cells k with
  |none=>[]
  |some x=>if x.old≠0 then[⟨Al x.old 1,BA t.id,Bj⟩]else[])++BM t l
def Cb(X:Cx):Cx×Da:=
 if X.c.op.kind=1 then match X.t.cells X.key with
  |some x=>(X,if x.there then .ends ⟨0,(X.val x.own).2,[],0,0⟩else .ends (.err 11))
  |none=>(X,.start ⟨X.key,X.t.beg,.get⟩)
 else if X.c.op.kind=5 then E8 X X.key
 else if X.c.op.kind=6 then(X,.draw)
 else if X.c.op.kind=7 then(X,.abort 0 1)
 else match X.t.cells X.key with
  |some x=>Cu X x
  |none=>(X,.start ⟨X.key,X.t.beg,.change⟩)
def Ay(X:Cx):Da→Cx×Option Da
 | .draw=>let w:=X.sh.a.load 0
  let X1:=X.setA (X.sh.a.tick 0)
  if X.sh.limit≤w/65536 then(X1,some (.abort 14 6))else if w%65536=0 then(X1,some (.turn w (w/65536)))else(X1,some (.help w (w/65536)))
 | .help w now=>(X.helpW w,some (.turn w now))
 | .turn w now=>if X.sh.a.casOk 0 w then(((X.setA (X.sh.a.cas 0 w (Bp (now+1) X.t.id))).setT {X.t with fin:=now+1}).ev (.mk3 3 X.t.id (now+1)),some .helped)
  else(X.setA (X.sh.a.cas 0 w (Bp (now+1) X.t.id)),some .draw)
 | .helped=>(X.helpW (Bp X.t.fin X.t.id),some (Cc X.t 0))
 | .start h=>let r:=CJ (X.setA (X.sh.a.tick (9+h.key))) h (X.sh.a.load (9+h.key));(r.1,some r.2)
 | .visit h link=>let w:=X.sh.a.load (Al link 0)
  let X1:=X.setA (X.sh.a.tick (Al link 0))
  if BD w=1∧Br w≤h.at_ then(X1,some (.ended h link 0))else if BD w≠2∨Br w=X.t.id then(X1,some (.older h link))else(X1,some (.maker h link (Br w)))
 | .older h link=>let r:=CJ (X.setA (X.sh.a.tick (Al link 2))) h (X.sh.a.load (Al link 2));(r.1,some r.2)
 | .maker h link id=>let w:=X.sh.a.load (X.place id)
  let X1:=X.setA (X.sh.a.tick (X.place id))
  if w/8=0∨h.at_<w/8∨w%8=4 then(X1,some (.older h link))else if w%8=2 then(X1,some (.ended h link id))else(X1,some (.ended h link 0))
 | .ended h link maybe=>let w:=X.sh.a.load (Al link 1)
  let X1:=X.setA (X.sh.a.tick (Al link 1))
  if BD w=1∧Br w≤h.at_ then(X1,some (.older h link))else if BD w≠2∨Br w=X.t.id then((Cy X1 h link maybe).1,some (Cy X1 h link maybe).2)else(X1,some (.ender h link maybe (Br w)))
 | .ender h link maybe id=>let w:=X.sh.a.load (X.place id)
  let X1:=X.setA (X.sh.a.tick (X.place id))
  if w/8=0∨h.at_<w/8∨w%8=4 then((Cy X1 h link maybe).1,some (Cy X1 h link maybe).2)else if w%8=2 then(X1.bind id,some (.older h link))else(X1,some (.older h link))
 | .seen h link maybe=>let w:=X.sh.a.load (X.place maybe)
  let X1:=X.setA (X.sh.a.tick (X.place maybe))
  if w%8=4 then(X1,some (.start h))else if w%8=2 then((Ca (X1.bind maybe) h link).1,some (Ca (X1.bind maybe) h link).2)else((Ca X1 h link).1,some (Ca X1 h link).2)
 | .wait i=>let w:=X.sh.a.load (X.place (X.t.bonds.getD i 0))
  let X1:=X.setA (X.sh.a.tick (X.place (X.t.bonds.getD i 0)))
  if w%8=3 then(X1,some (Ga X.t (i+1)))else if w%8=4 then(X1,some (.abort 14 4))else(X1.setC {X.c with waits:=true},some (.wait i))
 | .commit=>(((X.setA (X.sh.a.store (X.place X.t.id) (Bc 3 X.t.fin))).over (.mk3 5 X.t.id 0)),some (.turns (Bs X.t X.t.keys) ⟨0,0,[],3,0⟩))
 | .abort err reason=>(((X.setA (X.sh.a.store (X.place X.t.id) (Bc 4 X.t.fin))).over ⟨6,X.t.id,0,⟨0,0,0,0⟩,⟨0,0,[],0,reason⟩⟩),some (.turns (BM X.t X.t.keys) ⟨err,0,[],4,reason⟩))
 | .turns [] r=>((X.setA (X.sh.a.store (1+X.t.s) 0)).finish r,none)
 | .turns (x::l) r=>(X.setA (if x.old=0 then X.sh.a.store x.at_ x.new else X.sh.a.cas x.at_ x.old x.new),some (.turns l r))
 | .ends r=>(X.finish r,none)
 | .again fin=>match X.t.cells X.key with
  |none=>(X,none)
  |some x=>let X1:=(X.setA (X.sh.a.store (Al x.own 1) fin)).setCell X.key {x with there:=decide (X.c.op.kind≠4)}
   (if X.c.op.kind≠4 then X1.setVal x.own ((X.val x.own).1,X.c.op.value)else X1,some (.ends .zero))
 | .own link=>let w:=X.sh.a.load (Al link 1)
  let X1:=X.setA (X.sh.a.tick (Al link 1))
  if BD w=3 then(X1,some (.claim link w))else if BD w=2 then(X1,some (.own2 link w (Br w)))else(X1,some (.abort 14 2))
 | .own2 link w id=>let x:=X.sh.a.load (X.place id)
  let X1:=X.setA (X.sh.a.tick (X.place id))
  if x%8≠4 then(X1,some (.abort 14 2))else(X1,some (.claim link w))
 | .claim link w=>let X1:=X.setA (X.sh.a.cas (Al link 1) w (BA X.t.id))
  if X.sh.a.casOk (Al link 1) w then
   if X.c.op.kind=4 then(X1.take X.key ⟨0,link,false⟩,some (.ends .zero))
   else let r:=Di (X1.take X.key ⟨0,link,false⟩) true 0 0;(r.1,some r.2)
  else(X1,some (.own link))
 | .fresh link=>let w:=X.sh.a.load (9+X.c.op.key)
  let r:=DZ (X.setA (X.sh.a.tick (9+X.c.op.key))) link w w;(r.1,some r.2)
 | .free1 link head at_=>let w:=X.sh.a.load (Al at_ 0)
  let X1:=X.setA (X.sh.a.tick (Al at_ 0))
  if BD w=1∧Br w≤X.t.beg then(X1,some (.freeN link head at_))else if BD w≠2 then let r:=DA X1 link;(r.1,some r.2)else(X1,some (.free2 link head at_ (Br w)))
 | .free2 link head at_ id=>let w:=X.sh.a.load (X.place id)
  let X1:=X.setA (X.sh.a.tick (X.place id))
  if w%8=4∨0<w/8∧w/8≤X.t.beg then(X1,some (.freeN link head at_))else let r:=DA X1 link;(r.1,some r.2)
 | .freeN link head at_=>let r:=DZ (X.setA (X.sh.a.tick (Al at_ 2))) link head (X.sh.a.load (Al at_ 2));(r.1,some r.2)
 | .slot1 x link head=>(X.setA (X.sh.a.store (Al link 0) (BA X.t.id)),some (.slot2 x link head))
 | .slot2 x link head=>(X.setA (X.sh.a.store (Al link 1) Bj),some (if x then .over1 link else .push1 link head))
 | .push1 link head=>(X.setA (X.sh.a.store (Al link 2) head),some (.push2 link head))
 | .push2 link head=>let X1:=X.setA (X.sh.a.cas (9+X.c.op.key) head link)
  if X.sh.a.casOk (9+X.c.op.key) head then(X1.take X.key ⟨link,0,true⟩,some (.ends .zero))else(X1,some (.fresh link))
 | .over1 link=>(X.setA (X.sh.a.tick (9+X.c.op.key)),some (.over2 link (X.sh.a.load (9+X.c.op.key))))
 | .over2 link head=>(X.setA (X.sh.a.store (Al link 2) head),some (.over3 link head))
 | .over3 link head=>let X1:=X.setA (X.sh.a.cas (9+X.c.op.key) head link)
  if X.sh.a.casOk (9+X.c.op.key) head then match X.t.cells X.key with
   |none=>(X1,none)
   |some x=>(X1.setCell X.key ⟨link,x.old,true⟩,some (.ends .zero))
  else(X1,some (.over1 link))
end
section
open Go.Maps (Keyed)
abbrev MD:=DataW Unit
abbrev MR:=Value→Option (MD×List MemPlace)
def Ee(k:Nat):Lit:= .int .i64 k
theorem JG{a b:Nat}(h:Ee a=Ee b):a=b:=by
 unfold Ee at h;injection h with _ h;omega
theorem Jn(k:Nat)(hk:k<64):(Lit.int .i64 (k:Int)).wf=true:=WalkArith.wf_i64 (by omega)
theorem OZ(k:Nat):WideAt.IsKeyLit (Ee k):=by unfold Ee;simp[WideAt.IsKeyLit]
structure Eg(P:Program)(K:TypeId)(R:MR)(w:World)(b:Nat)(f:Nat→Option MD)(D:MD):Prop where
 own:w.ownsMap P K R b 64 D
 keys:∀l,Maps.has D l=true→∃k:Nat,k<64∧l=Ee k
 at_:∀k:Nat,k<64→∀z,D.atKey (Ee k) z=(f k).getD z
variable {P:Program} {K:TypeId} {R:MR} {w:World} {b:Nat} {f:Nat→Option MD} {D:MD}
theorem Eg.has(h:Eg P K R w b f D)(k:Nat)(hk:k<64):Maps.has D (Ee k)=(f k).isSome:=by
 cases hf:f k with
 |none=>exact Maps.has_false_of_atKey (fun z=>by rw[h.at_ k hk,hf];rfl)
 |some y=>exact Maps.has_true_of_atKey (y:=y) (fun z=>by rw[h.at_ k hk,hf];rfl)
theorem MU{w':World}{n:Nat}(h:w.ownsMap P K R b n D)(hb:w'.heap[b]? =w.heap[b]?):w'.ownsMap P K R b n D:=by
 obtain⟨es,clock,h1,r⟩:=h
 exact⟨es,clock,hb.trans h1,r⟩
theorem Eg.congr{w':World}(h:Eg P K R w b f D)(hb:w'.heap[b]? =w.heap[b]?):Eg P K R w' b f D:=⟨MU h.own hb,h.keys,h.at_⟩
theorem Eg.only{S:Nat→Prop}{w':World}(h:Eg P K R w b f D)(o:Ah S w w')(hn:¬S b):Eg P K R w' b f D:=h.congr (o.block b h.own.lt hn)
theorem Iw:∀(n:Nat) (l:List Nat),l.Nodup→(∀x∈l,x<n)→l.length≤n:=by
 intro n
 induction n with
 |zero=>
  intro l _ h
  cases l with
  |nil=>simp
  |cons a l=>exact absurd (h a (by simp)) (by omega)
 |succ n ih=>
  intro l nd h
  by_cases hm:n∈l
  ·have h1:=ih (l.erase n) (nd.erase n) (fun x hx=>by
    have hx':=(nd.mem_erase_iff).1 hx
    have:=h x hx'.2
    have:=hx'.1
    omega)
   have h2:=List.length_erase_of_mem hm
   omega
  ·have h1:=ih l nd (fun x hx=>by
    have:=h x hx
    have:x≠n:=fun e=>hm (e▸hx)
    omega)
   omega
theorem Ki(es:List (Lit×MD))(hd:es.Pairwise (fun p q=>p.1≠q.1))(hk:∀p∈es,∃k:Nat,k<64∧p.1=Ee k):es.length≤64:=by
 let g:Lit×MD→Nat:=fun p=>match p.1 with| .int _ x=>x.toNat|_=>0
 have hg:∀p∈es,p.1=Ee (g p)∧g p<64:=fun p hp=>by
  obtain⟨k,hk1,hk2⟩:=hk p hp
  have:g p=k:=by simp[g,hk2,Ee]
  rw[this];exact⟨hk2,hk1⟩
 have h1:(es.map g).Nodup:=by
  rw[List.nodup_iff_pairwise_ne,List.pairwise_map]
  refine(List.Pairwise.and_mem.1 hd).imp ?_
  rintro a c ⟨ha,hc,hne⟩ e
  exact hne (by rw[(hg a ha).1,(hg c hc).1,e])
 have h2:=Iw 64 _ h1 (fun x hx=>by
  obtain⟨p,hp,rfl⟩:=List.mem_map.1 hx
  exact(hg p hp).2)
 simpa using h2
theorem Rr{n:Nat}(h:w.ownsMap P K R b n D)(Kd:Keyed P K)(hk:∀l,Maps.has D l=true→∃k:Nat,k<64∧l=Ee k):w.ownsMap P K R b 64 D:=by
 have hE:=h.entries Kd
 obtain⟨es,clock,hb,F,hs,hD⟩:=h
 refine⟨es,clock,hb,F,?_,hD⟩
 obtain⟨l,rfl,hp,hl⟩:=hE
 have e1:l=(es.toList.map (WideElems.rg P K R)).foldr DataW.insert []:=by injection hD
 have e2:l.length=es.size:=by rw[e1,length_read]
 rw[←e2]
 refine Ki l hp (fun p hm=>hk p.1 ?_)
 show l.any _=true
 exact List.any_eq_true.2 ⟨p,hm,WideAt.sameKey_self (hl p hm)⟩
theorem Eg.made(w:World)(P:Program)(K:TypeId)(R:MR):Eg P K R (w.alloc (.map #[] 0)) w.heap.size (fun _=>none) (.map []):=
 ⟨(World.ownsMap_made w P K R).mono (by omega),fun l hl=>by simp[Maps.has]at hl,fun k _ z=>rfl⟩
theorem Eg.look{T E:TypeId}(h:Eg P K R w b f D)(Kd:Keyed P K)(hK:P.underlying K=some (.int .i64))(ht:P.underlying T=some (.map K E)){z:Value}(hz:(zeroValue E).run P w= .ok z w){zd:MD}{zp:List MemPlace}(hzd:R z=some (zd,zp))(k:Nat)(hk:k<64):
 ∃v ps,(Instr.lookup T (.map (some b)) (.int .i64 k) false).run P w= .ok v w∧R v=some ((f k).getD zd,ps):=by
 obtain⟨v,ps,h1,h2⟩:=h.own.lookup Kd ht hz hzd (Maps.keyOf_int_mk hK (Jn k hk))
 refine⟨v,ps,h1,?_⟩
 rw[h2]
 have:=h.at_ k hk zd
 unfold Ee at this
 rw[this]
theorem Eg.store{T E:TypeId}(h:Eg P K R w b f D)(Kd:Keyed P K)(hK:P.underlying K=some (.int .i64))(ht:P.underlying T=some (.map K E))(k:Nat)(hk:k<64){v:Value}{d:MD}{ps:List MemPlace}(hv:R v=some (d,ps)):
 ∃w' D',(Instr.mapUpdate T (.map (some b)) (.int .i64 k) v).run P w= .ok () w'∧Eg P K R w' b (fun j=>if j=k then some d else f j) D'∧Ah (fun c=>c=b) w w':=by
 obtain⟨w',h1,h2,h3⟩:=h.own.update Kd ht (by unfold maxLen;omega) (Maps.keyOf_int_mk hK (Jn k hk)) hv
 have hM:Maps.IsMap D:=h.own.isMap
 change w'.ownsMap P K R b (64+1) (D.put (Ee k) d)at h2
 have hks:∀l,Maps.has (D.put (Ee k) d) l=true→∃k:Nat,k<64∧l=Ee k:=by
  intro l hl
  by_cases e:l=Ee k
  ·exact⟨k,hk,e⟩
  ·rw[Maps.has_put_other e]at hl
   exact h.keys l hl
 refine⟨w',_,h1,⟨Rr h2 Kd hks,hks,?_⟩,⟨h3.os,h3.tape,h3.output,h3.size,fun c hc hn=>h3.block c hc (fun e=>hn (Option.some.inj e))⟩⟩
 ·intro j hj z
  show(D.put (Ee k) d).atKey (Ee j) z=_
  by_cases e:j=k
  ·subst e
   rw[Maps.atKey_put_same hM (OZ j)];simp
  ·rw[Maps.atKey_put_other (fun e'=>e (JG e')),h.at_ j hj];simp[e]
end
section
def AR(P Q:Nat→Prop):Prop:=∀b,P b→¬Q b
def AC(N:Nat)(P P':Nat→Prop):Prop:=∀b,P' b→P b∨N≤b
def Bo(P:Nat→Prop)(N:Nat):Prop:=∀b,P b→b<N
theorem AR.symm{P Q:Nat→Prop}(h:AR P Q):AR Q P:=fun b hq hp=>h b hp hq
theorem AC.refl(N:Nat)(P:Nat→Prop):AC N P P:=fun _ h=> .inl h
theorem AC.trans{N M:Nat}{P Q R:Nat→Prop}(h:AC N P Q)(k:AC M Q R)(hNM:N≤M):AC N P R:=fun b hb=>by
 rcases k b hb with h1|h1
 ·exact h b h1
 ·exact .inr (Nat.le_trans hNM h1)
theorem AR.grew{N:Nat}{P P' Q:Nat→Prop}(h:AR P Q)(g:AC N P P')(hq:Bo Q N):AR P' Q:=fun b hp hQ=>by
 rcases g b hp with h1|h1
 ·exact h b h1 hQ
 ·have:=hq b hQ;omega
theorem Bo.mono{P:Nat→Prop}{N M:Nat}(h:Bo P N)(hn:N≤M):Bo P M:=fun b hb=>Nat.lt_of_lt_of_le (h b hb) hn
def Cz(P:Nat→Prop)(B:Nat):Prop:=∀b,P b→B≤b
theorem Ah.toward{P Q:Nat→Prop}{w w':World}(h:Ah P w w')(hs:∀b,P b→Q b):Ah Q w w':=h.mono (fun k _ hk=>hs k hk)
def AA(v:Value):Nat→Prop:=fun b=>v.ownBlock=some b
theorem Ce(n c:Nat)(b:Nat):¬AA (.slice none n c) b:=by simp[AA,Value.ownBlock]
theorem AE{g o n c b:Nat}:AA (.slice (some ⟨g,o,none⟩) n c) b↔b=g:=by simp[AA,Value.ownBlock,eq_comm]
theorem AD{B s:Nat}{w w':World}{e:TypeId}{v:Value}{n:Nat}{xs:List Value}{S:Nat→Prop}(h:w.ownsRow B e s v n xs)(ho:Ah S w w')(hs:AR (AA v) S):w'.ownsRow B e s v n xs:=by
 obtain⟨h1,h2⟩:=h
 refine⟨h1,?_⟩
 rcases h2 with h2|⟨g,cap,cur,rfl,hg,hh,r⟩
 ·exact .inl h2
 ·exact .inr ⟨g,cap,cur,rfl,hg,by rw[ho.block g (lt_of_block hh) (hs g rfl)];exact hh,r⟩
theorem Bn{B s:Nat}{w:World}{e t:TypeId}{v:Value}{n b:Nat}{xs:List Value}{cs:Array Value}(h:w.ownsRow B e s v n xs)(hb:Am w b t cs)(hne:e≠t):¬AA v b:=by
 rcases h.2 with⟨rfl,_⟩|⟨g,cap,cur,rfl,hg,hh,r⟩
 ·exact Ce _ _ _
 ·intro hk
  obtain rfl:=AE.1 hk
  exact hne (Am.inj (show Am w _ _ cur from hh) hb).2
theorem Dg{B B' s s':Nat}{w:World}{e e':TypeId}{v v':Value}{n n':Nat}{xs xs':List Value}(h:w.ownsRow B e s v n xs)(h':w.ownsRow B' e' s' v' n' xs')(hne:e≠e'):AR (AA v) (AA v'):=by
 intro b hv hv'
 rcases h'.2 with⟨rfl,_⟩|⟨g,cap,cur,rfl,hg,hh,r⟩
 ·exact Ce _ _ _ hv'
 ·obtain rfl:=AE.1 hv'
  exact Bn h (show Am w _ _ cur from hh) hne hv
theorem Ni{B B' s:Nat}{w:World}{e:TypeId}{v:Value}{n:Nat}{xs:List Value}(h:w.ownsRow B e s v n xs)(hB:B'≤B):w.ownsRow B' e s v n xs:=by
 obtain⟨h1,h2⟩:=h
 refine⟨h1,?_⟩
 rcases h2 with h2|⟨g,cap,cur,rfl,hg,r⟩
 ·exact .inl h2
 ·exact .inr ⟨g,cap,cur,rfl,Nat.le_trans hB hg,r⟩
end
section
def DI(c:Nat→List Value)(n:Nat):List Value:=(List.range n).flatMap c
theorem Dp(c:Nat→List Value)(n:Nat):DI c (n+1)=DI c n++c n:=by
 unfold DI;rw[List.range_succ,List.flatMap_append];simp
theorem BF{c:Nat→List Value}{w:Nat}(h:∀i,(c i).length=w):∀n,(DI c n).length=n*w
 |0=>by simp[DI]
 |n+1=>by rw[Dp,List.length_append,BF h n,h n,Nat.add_mul,Nat.one_mul]
theorem Bu{c:Nat→List Value}{w:Nat}(h:∀i,(c i).length=w):∀n i f,i<n→f<w→(DI c n)[i*w+f]? =(c i)[f]?
 |0,i,f,hi,hf=>by omega
 |n+1,i,f,hi,hf=>by
  rw[Dp]
  by_cases e:i<n
  ·have:i*w+f<n*w:=by
    have h1:(i+1)*w≤n*w:=Nat.mul_le_mul_right _ e
    rw[Nat.add_mul,Nat.one_mul]at h1
    omega
   rw[List.getElem?_append_left (by rw[BF h n];exact this),Bu h n i f e hf]
  ·obtain rfl:i=n:=by omega
   rw[List.getElem?_append_right (by rw[BF h i];omega),BF h i,Nat.add_sub_cancel_left]
theorem Df{c c':Nat→List Value}:∀n,(∀i,i<n→c i=c' i)→DI c n=DI c' n
 |0,_=>rfl
 |n+1,h=>by rw[Dp,Dp,Df n (fun i hi=>h i (by omega)),h n (by omega)]
theorem Kr{c:Nat→List Value}{w n:Nat}(h:∀i,(c i).length=w)(hw:0<w){l:List Value}(hl:l.length=n*w)(hg:∀i f,i<n→f<w→l[i*w+f]? =(c i)[f]?):l=DI c n:=by
 apply List.ext_getElem?
 intro j
 by_cases hj:j<n*w
 ·have h1:j/w<n:=(Nat.div_lt_iff_lt_mul hw).2 hj
  have h2:j%w<w:=Nat.mod_lt _ hw
  have e:j=j/w*w+j%w:=by rw[Nat.mul_comm];exact(Nat.div_add_mod j w).symm
  rw[e,hg _ _ h1 h2,Bu h n _ _ h1 h2]
 ·rw[List.getElem?_eq_none (by omega),List.getElem?_eq_none (by rw[BF h n];omega)]
theorem Eh{c c':Nat→List Value}{w n i f:Nat}{v:Value}(h:∀i,(c i).length=w)(hi:i<n)(hf:f<w)(he:∀k,k<n→k≠i→c' k=c k)(hc:c' i=(c i).set f v)(h':∀i,(c' i).length=w):(DI c n).set (i*w+f) v=DI c' n:=by
 refine Kr h' (by omega) (by rw[List.length_set,BF h n]) (fun k g hk hg=>?_)
 rw[List.getElem?_set]
 by_cases e:i*w+f=k*w+g
 ·have e1:i=k:=by
   rcases Nat.lt_trichotomy i k with x|x|x
   ·have:(i+1)*w≤k*w:=Nat.mul_le_mul_right _ x
    rw[Nat.add_mul,Nat.one_mul]at this
    omega
   ·exact x
   ·have:(k+1)*w≤i*w:=Nat.mul_le_mul_right _ x
    rw[Nat.add_mul,Nat.one_mul]at this
    omega
  subst e1
  have e2:f=g:=by omega
  subst e2
  rw[if_pos rfl,hc,List.getElem?_set,if_pos rfl,BF h n,h i]
  have:i*w+f<n*w:=by
   have h1:(i+1)*w≤n*w:=Nat.mul_le_mul_right _ hi
   rw[Nat.add_mul,Nat.one_mul]at h1
   omega
  rw[if_pos this,if_pos hf]
 ·rw[if_neg e,Bu h n k g hk hg]
  by_cases ek:k=i
  ·subst ek
   rw[hc,List.getElem?_set,if_neg (by omega)]
  ·rw[he k hk ek]
def AJ:List (Int×Int)→List Value
 |[]=>[]
 |p::l=> .int .i64 p.1:: .int .i64 p.2::AJ l
theorem FF(l:List (Int×Int)):(AJ l).length=l.length*2:=by
 induction l with
 |nil=>rfl
 |cons a l ih=>simp[AJ,ih];omega
theorem Iv(a b:List (Int×Int)):AJ (a++b)=AJ a++AJ b:=by
 induction a with
 |nil=>rfl
 |cons x a ih=>simp only[List.cons_append,AJ,ih]
def Aw(ts:List TypeId)(w w':World):Prop:=Ah (fun b=>∃t cs,t∈ts∧Am w b t cs) w w'
theorem Aw.of{w w':World}{b:Nat}{t:TypeId}{cs:Array Value}(o:Ah (fun k=>k=b) w w')(h:Am w b t cs):Aw [t] w w':=
 o.mono (fun k _ hk=>⟨t,cs,by simp,by rw[hk];exact h⟩)
theorem Aw.zero{w w':World}(o:Ac w w')(ts:List TypeId):Aw ts w w':=o.mono (fun _ _ hf=>hf.elim)
theorem Am.ty{w w':World}{b:Nat}{t:TypeId}{cs:Array Value}(h:Am w b t cs){ts:List TypeId}(o:Aw ts w w')(ht:t∉ts):Am w' b t cs:=
 Ah.blk o h (fun⟨u,cs',hu,hb⟩=>ht (by rw[(h.inj hb).2];exact hu))
theorem Er{B s:Nat}{w:World}{e:TypeId}{v:Value}{n b:Nat}{xs:List Value}(h:w.ownsRow B e s v n xs)(hb:AA v b):∃cur,Am w b e cur:=by
 rcases h.2 with⟨rfl,_⟩|⟨g,cap,cur,rfl,_,hg,_⟩
 ·exact absurd hb (Ce _ _ _)
 ·have:=AE.1 hb
  subst this
  exact⟨cur,hg⟩
theorem AO{B s:Nat}{w w':World}{e:TypeId}{v:Value}{n:Nat}{xs:List Value}(h:w.ownsRow B e s v n xs){ts:List TypeId}(o:Aw ts w w')(ht:e∉ts):w'.ownsRow B e s v n xs:=by
 refine AD h o (fun b hb=>?_)
 rintro⟨u,cs',hu,hb'⟩
 obtain⟨cur,hc⟩:=Er h hb
 exact ht (by rw[(hc.inj hb').2];exact hu)
theorem Aw.row{B s:Nat}{w w':World}{e:TypeId}{v:Value}{n:Nat}{xs:List Value}(h:w.ownsRow B e s v n xs)(o:Ah (AA v) w w'):Aw [e] w w':=
 o.mono (fun k _ hk=>by obtain⟨cur,hc⟩:=Er h hk;exact⟨e,cur,by simp,hc⟩)
end
section
open Go.Maps (Keyed)
abbrev DP(b:Nat):Addr:=⟨b,0,none⟩
def D8:MR:=fun v=>match v with
 | .pointer none=>some (.nil,[])
 | .pointer (some ⟨b,0,none⟩)=>some (.lit (.int .i64 b),[])
 |_=>none
theorem Fu{v:Value}{d:MD}{ps:List MemPlace}(h:D8 v=some (d,ps)):(v= .pointer none∧d= .nil)∨∃b:Nat,v= .pointer (some (DP b))∧d= .lit (.int .i64 b):=by
 unfold D8 at h
 split at h
 ·simp at h;exact .inl ⟨rfl,h.1.symm⟩
 ·simp at h;exact .inr ⟨_,rfl,h.1.symm⟩
 ·simp at h
abbrev Jh:TypeId:=3
theorem JA:Keyed Tryz.prog Jh:=Maps.int_keyed Tryz.underlying3
def ID(ca:Nat→Nat)(cells:Nat→Option Dh):Nat→Option MD:=fun k=>(cells k).map fun _=> .lit (.int .i64 (ca k))
abbrev Ia(w:World)(b:Nat)(ca:Nat→Nat)(cells:Nat→Option Dh):Prop:=∃D,Eg Tryz.prog Jh D8 w b (ID ca cells) D
theorem Ia.only{w w':World}{b:Nat}{ca:Nat→Nat}{cells:Nat→Option Dh}{S:Nat→Prop}(h:Ia w b ca cells)(o:Ah S w w')(hn:¬S b):Ia w' b ca cells:=by obtain⟨D,h⟩:=h;exact⟨D,h.only o hn⟩
theorem KK{P:Program}{K:TypeId}{R:MR}{w:World}{b n c:Nat}{D:MD}{t:TypeId}{cs:Array Value}(h:w.ownsMap P K R b n D)(hb:Am w c t cs):b≠c:=by
 rintro rfl
 obtain⟨es,clock,h1,_⟩:=h
 unfold Am at hb
 rw[hb]at h1;cases h1
theorem Ia.ne{w:World}{b c:Nat}{ca:Nat→Nat}{cells:Nat→Option Dh}{t:TypeId}{cs:Array Value}(h:Ia w b ca cells)(hb:Am w c t cs):b≠c:=by obtain⟨D,h⟩:=h;exact KK h.own hb
theorem Am.ne{w:World}{b c:Nat}{t t':TypeId}{cs cs':Array Value}(h:Am w b t cs)(h':Am w c t' cs')(ht:t≠t'):b≠c:=by
 rintro rfl
 exact ht (h.inj h').2
def Gi(r:Dt)(a:Option Addr)(c:Nat):List Value:=[.int .i64 r.e,.int .i64 r.value,.slice a r.pairs.length c,.int .i64 r.over,.int .i64 r.reason]
def I0(r:Dt)(a:Option Addr)(c:Nat):Value:= .agg #[.int .i64 r.e,.int .i64 r.value,.slice a r.pairs.length c,.int .i64 r.over,.int .i64 r.reason]
def EQ(v:Ev)(a:Option Addr)(c:Nat):List Value:=[.int .i64 v.kind,.int .i64 v.t,.int .u64 v.n,.int .i64 v.op.kind,.int .i64 v.op.key,.int .i64 v.op.hi,.int .i64 v.op.value,.int .i64 v.res.e,.int .i64 v.res.value,.slice a v.res.pairs.length c,.int .i64 v.res.over,.int .i64 v.res.reason]
def KY(v:Ev)(a:Option Addr)(c:Nat):Value:= .agg #[.int .i64 v.kind,.int .i64 v.t,.int .u64 v.n,.int .i64 v.op.kind,.int .i64 v.op.key,.int .i64 v.op.hi,.int .i64 v.op.value,.int .i64 v.res.e,.int .i64 v.res.value,.slice a v.res.pairs.length c,.int .i64 v.res.over,.int .i64 v.res.reason]
theorem PO(v:Ev)(a:Option Addr)(c:Nat):(EQ v a c).length=12:=rfl
instance:Inhabited Ev:=⟨⟨0,0,0,⟨0,0,0,0⟩,.zero⟩⟩
def Dm(l:List Ev)(pa:Nat→Option Addr)(pc:Nat→Nat):List Value:=DI (fun i=>EQ (l.getD i default) (pa i) (pc i)) l.length
def DQ(l:List (Nat×Int)):List Value:=DI (fun i=>[.int .i64 (l.getD i (0,0)).1,.int .i64 (l.getD i (0,0)).2]) l.length
def CU(l:List (Int×Bool)):List Value:=DI (fun i=>[.int .i64 (l.getD i (0,false)).1,.bool (l.getD i (0,false)).2]) l.length
def GG(l:List FQ):List Value:=DI (fun i=>[.int .i64 (l.getD i default).key,.int .u64 (l.getD i default).link,.bool (l.getD i default).got]) l.length
def Dz(l:List Nat):List Value:=l.map fun(k:Nat)=>Value.int .i64 (k:Int)
def GM(l:List Int):List Value:=l.map fun k=>Value.int .i64 k
def Gb(x:Dh):Array Value:=#[.int .u64 x.own,.int .u64 x.old,.bool x.there]
structure EA where
 e:Nat
 a:Nat
 aw:Nat
 p:Nat
 ps:Nat
 v:Nat
 fa:Option Addr
 fc:Nat
 ta:Option Addr
 tc:Nat
 pa:Nat→Option Addr
 pc:Nat→Nat
structure EK where
 tp:Nat→Value
 cp:Nat→Value
 made:Int
 seq:Int
 looks:Int
 nx:Value
 low:Int
 cs:Value
 tn:Bool
structure SA where
 t:Nat
 m:Nat
 x:Nat→Nat
 ka:Option Addr
 kc:Nat
 ra:Option Addr
 rc:Nat
 ba:Option Addr
 bc:Nat
 c:Nat
 qa:Option Addr
 qc:Nat
def Fd(A:EA)(K:EK)(s:Sh):Array Value:=#[.int .i64 s.slots,.int .u64 s.limit,.pointer (some (DP A.a)),.pointer (some (DP A.p)),.slice (some (DP A.v)) s.vals.length s.vals.length,
 K.tp 0,K.tp 1,K.tp 2,K.tp 3,K.tp 4,K.tp 5,K.tp 6,K.tp 7,K.cp 0,K.cp 1,K.cp 2,K.cp 3,K.cp 4,K.cp 5,K.cp 6,K.cp 7,
 .int .i64 K.made,.int .i64 K.seq,.int .i64 K.looks,.slice A.ta s.tale.length A.tc,K.nx,.int .u64 K.low,K.cs,.bool K.tn]
def D2(A:EA)(p:AP):Array Value:=#[.slice (some (DP A.ps)) p.slots.length p.slots.length,.int .i64 65535,.slice A.fa p.free.length A.fc,.int .i64 p.worn,.int .u32 (if p.made then 1 else 0),.int .i32 0,.int .u32 0]
def Ep(S:SA)(t:Dq):Array Value:=#[.int .i64 t.id,.int .i64 t.level,.int .i64 t.s,.int .u64 t.beg,.int .u64 t.fin,.int .i64 t.ops,.slice S.ka t.keys.length S.kc,.map (some S.m),.slice S.ra t.reads.length S.rc,.slice S.ba t.bonds.length S.bc,
 .int .u32 (if t.over then 1 else 0),.int .i32 0,.int .u32 0,.bool t.over]
def BW(S:SA)(c:Cw)(nx:Value):Array Value:=#[.int .i64 c.op.kind,.int .i64 c.op.key,.int .i64 c.op.hi,.int .i64 c.op.value,nx,.int .i64 c.r.e,.int .i64 c.r.value,.slice S.qa c.r.pairs.length S.qc,.int .i64 c.r.over,.int .i64 c.r.reason,.bool c.waits,.bool c.over,.int .i64 c.seq]
def AU(w:World)(P Q R:Nat→Prop)(a:Option Addr)(ps:List (Int×Int)):Prop:=ps=[]∨∃b off cs,a=some ⟨b,off,none⟩∧¬P b∧¬Q b∧¬R b∧Am w b 77 cs∧∀i,i<ps.length→w.cell? ⟨b,off+i*2,none⟩=some (.int .i64 (ps.getD i (0,0)).1)∧w.cell? ⟨b,off+(i*2+1),none⟩=some (.int .i64 (ps.getD i (0,0)).2)
abbrev PQ(P Q:Nat→Prop):Nat→Prop:=fun b=>P b∨Q b
structure Ag(w w':World)(P Q P' Q':Nat→Prop):Prop where
 o:Ah (PQ P Q) w w'
 gp:AC w.heap.size P P'
 gq:AC w.heap.size Q Q'
theorem Ag.refl(w:World)(P Q:Nat→Prop):Ag w w P Q P Q:=⟨Ah.refl _ _,AC.refl _ _,AC.refl _ _⟩
theorem Ag.only0{w w':World}(P Q:Nat→Prop)(o:Ac w w'):Ag w w' P Q P Q:=⟨o.any _,AC.refl _ _,AC.refl _ _⟩
theorem Ag.trans{w w1 w2:World}{P Q P1 Q1 P2 Q2:Nat→Prop}(h:Ag w w1 P Q P1 Q1)(k:Ag w1 w2 P1 Q1 P2 Q2):Ag w w2 P Q P2 Q2:=by
 refine⟨⟨k.o.os.trans h.o.os,k.o.tape.trans h.o.tape,k.o.output.trans h.o.output,Nat.le_trans h.o.size k.o.size,fun b hb hn=>?_⟩,h.gp.trans k.gp h.o.size,h.gq.trans k.gq h.o.size⟩
 rw[k.o.block b (Nat.lt_of_lt_of_le hb h.o.size) (fun hx=>?_)]
 ·exact h.o.block b hb hn
 ·rcases hx with hx|hx
  ·rcases h.gp b hx with y|y
   ·exact hn (.inl y)
   ·omega
  ·rcases h.gq b hx with y|y
   ·exact hn (.inr y)
   ·omega
theorem Ag.far{w w':World}{P Q P' Q':Nat→Prop}(m:Ag w w' P Q P' Q'){b:Nat}(hb:b<w.heap.size)(hp:¬P b)(hq:¬Q b):¬P' b∧¬Q' b:=by
 refine⟨fun h=>?_,fun h=>?_⟩
 ·rcases m.gp b h with x|x
  ·exact hp x
  ·omega
 ·rcases m.gq b h with x|x
  ·exact hq x
  ·omega
theorem AU.move{w w':World}{P Q R P' Q':Nat→Prop}{a:Option Addr}{ps:List (Int×Int)}(h:AU w P Q R a ps)(m:Ag w w' P Q P' Q'):AU w' P' Q' R a ps:=by
 rcases h with h|⟨b,off,cs,h1,h2,h3,h4,h5,h6⟩
 ·exact .inl h
 ·have f:=m.far h5.lt h2 h3
  have e:w'.heap[b]? =w.heap[b]? :=m.o.block b h5.lt (fun x=>x.elim h2 h3)
  exact .inr ⟨b,off,cs,h1,f.1,f.2,h4,m.o.blk h5 (fun x=>x.elim h2 h3),fun i hi=>⟨(World.cell?_of_block e).trans (h6 i hi).1,(World.cell?_of_block e).trans (h6 i hi).2⟩⟩
theorem AU.ty{w w':World}{P Q R:Nat→Prop}{a:Option Addr}{ps:List (Int×Int)}(h:AU w P Q R a ps){ts:List TypeId}(o:Aw ts w w')(ht:77∉ts):AU w' P Q R a ps:=by
 rcases h with h|⟨b,off,cs,h1,h2,h3,h4,h5,h6⟩
 ·exact .inl h
 ·have h5':=h5.ty o ht
  have e:w'.heap[b]? =w.heap[b]? :=by rw[show w'.heap[b]? =_ from h5',show w.heap[b]? =_ from h5]
  exact .inr ⟨b,off,cs,h1,h2,h3,h4,h5',fun i hi=>⟨(World.cell?_of_block e).trans (h6 i hi).1,(World.cell?_of_block e).trans (h6 i hi).2⟩⟩
structure A_(B:Nat)(w:World)(A:EA)(p:AP):Prop where
 blk:Am w A.p 186 (D2 A p)
 slots:Am w A.ps 228 (CU p.slots).toArray
 free:w.ownsRow B 3 1 (.slice A.fa p.free.length A.fc) p.free.length (Dz p.free)
structure JC(B:Nat)(w:World)(P:Nat→Prop)(A:EA)(K:EK)(s:Sh):Prop where
 eng:Am w A.e 107 (Fd A K s)
 ar:AN w A.a A.aw s.a
 pool:A_ B w A s.p
 vals:Am w A.v 148 (DQ s.vals).toArray
 tale:w.ownsRow B 153 12 (.slice A.ta s.tale.length A.tc) s.tale.length (Dm s.tale A.pa A.pc)
 pe:P A.e
 pa:P A.a∧P A.aw
 pp:P A.p∧P A.ps
 pf:∀b,AA (.slice A.fa s.p.free.length A.fc) b→P b
 pv:P A.v
 pt:∀b,AA (.slice A.ta s.tale.length A.tc) b→P b
structure Dc(B:Nat)(w:World)(Q:Nat→Prop)(S:SA)(t:Dq):Prop where
 blk:Am w S.t 123 (Ep S t)
 map:Ia w S.m S.x t.cells
 cel:∀k x,t.cells k=some x→k<64∧Am w (S.x k) 250 (Gb x)∧Q (S.x k)
 xinj:∀k l x y,t.cells k=some x→t.cells l=some y→S.x k=S.x l→k=l
 keys:w.ownsRow B 3 1 (.slice S.ka t.keys.length S.kc) t.keys.length (Dz t.keys)
 reads:w.ownsRow B 273 3 (.slice S.ra t.reads.length S.rc) t.reads.length (GG t.reads)
 bonds:w.ownsRow B 3 1 (.slice S.ba t.bonds.length S.bc) t.bonds.length (GM t.bonds)
 kb:AR (AA (.slice S.ka t.keys.length S.kc)) (AA (.slice S.ba t.bonds.length S.bc))
 qt:Q S.t
 qm:Q S.m
 qk:∀b,AA (.slice S.ka t.keys.length S.kc) b→Q b
 qr:∀b,AA (.slice S.ra t.reads.length S.rc) b→Q b
 qb:∀b,AA (.slice S.ba t.bonds.length S.bc) b→Q b
structure Gm(B:Nat)(w:World)(Q:Nat→Prop)(S:SA)(c:Cw)(nx:Value):Prop where
 blk:Am w S.c 127 (BW S c nx)
 prs:w.ownsRow B 77 2 (.slice S.qa c.r.pairs.length S.qc) c.r.pairs.length (AJ c.r.pairs)
 qc:Q S.c
 qp:∀b,AA (.slice S.qa c.r.pairs.length S.qc) b→Q b
structure CX(B:Nat)(w:World)(P Q R:Nat→Prop)(A:EA)(K:EK)(S:SA)(nx:Value)(X:Cx):Prop where
 sh:JC B w P A K X.sh
 tx:Dc B w Q S X.t
 cl:Gm B w Q S X.c nx
 ap:AR P Q
 uP:Bo P w.heap.size
 uQ:Bo Q w.heap.size
 aP:Cz P B
 aQ:Cz Q B
 uR:Bo R w.heap.size
 prs:∀i,i<X.sh.tale.length→AU w P Q R (A.pa i) (X.sh.tale.getD i default).res.pairs
def An(w:World)(P Q R:Nat→Prop)(b:Nat)(t:TypeId)(cs:Array Value):Prop:=Am w b t cs∧¬P b∧¬Q b∧¬R b
theorem An.step{w w':World}{P Q R P' Q':Nat→Prop}{b:Nat}{t:TypeId}{cs:Array Value}(h:An w P Q R b t cs)(o:Ah (PQ P Q) w w')(gp:AC w.heap.size P P')(gq:AC w.heap.size Q Q'):An w' P' Q' R b t cs:=by
 refine⟨o.blk h.1 (fun hb=>hb.elim h.2.1 h.2.2.1),fun hp=>?_,fun hq=>?_,h.2.2.2⟩
 ·rcases gp b hp with x|x
  ·exact h.2.1 x
  ·have:=h.1.lt;omega
 ·rcases gq b hq with x|x
  ·exact h.2.2.1 x
  ·have:=h.1.lt;omega
theorem An.new{w:World}{P Q R:Nat→Prop}(hp:Bo P w.heap.size)(hq:Bo Q w.heap.size)(hr:Bo R w.heap.size)(t:TypeId)(cs:Array Value):An (w.alloc (.cells cs t)) P Q R w.heap.size t cs:=
 ⟨Am.new _ _ _,fun h=>by have:=hp _ h;omega,fun h=>by have:=hq _ h;omega,fun h=>by have:=hr _ h;omega⟩
theorem Ia.ty{w w':World}{b:Nat}{ca:Nat→Nat}{cells:Nat→Option Dh}(h:Ia w b ca cells){ts:List TypeId}(o:Aw ts w w'):Ia w' b ca cells:=
 h.only o (fun⟨t,cs,_,hb⟩=>h.ne hb rfl)
theorem Dc.ty{B:Nat}{w w':World}{Q:Nat→Prop}{S:SA}{t:Dq}(h:Dc B w Q S t){ts:List TypeId}(o:Aw ts w w')(h1:123∉ts)(h2:250∉ts)(h3:3∉ts)(h4:273∉ts):Dc B w' Q S t:=
 ⟨h.blk.ty o h1,h.map.ty o,fun k x hk=>⟨(h.cel k x hk).1,(h.cel k x hk).2.1.ty o h2,(h.cel k x hk).2.2⟩,h.xinj,AO h.keys o h3,AO h.reads o h4,AO h.bonds o h3,h.kb,h.qt,h.qm,h.qk,h.qr,h.qb⟩
theorem Gm.ty{B:Nat}{w w':World}{Q:Nat→Prop}{S:SA}{c:Cw}{nx:Value}(h:Gm B w Q S c nx){ts:List TypeId}(o:Aw ts w w')(h1:127∉ts)(h2:77∉ts):Gm B w' Q S c nx:=
 ⟨h.blk.ty o h1,AO h.prs o h2,h.qc,h.qp⟩
theorem A_.ty{B:Nat}{w w':World}{A:EA}{p:AP}(h:A_ B w A p){ts:List TypeId}(o:Aw ts w w')(h1:186∉ts)(h2:228∉ts)(h3:3∉ts):A_ B w' A p:=
 ⟨h.blk.ty o h1,h.slots.ty o h2,AO h.free o h3⟩
theorem AN.ty{w w':World}{a b:Nat}{s:AS}(h:AN w a b s){ts:List TypeId}(o:Aw ts w w')(h1:183∉ts)(h2:191∉ts):AN w' a b s:=
 ⟨h.head.ty o h1,h.words.ty o h2,h.ne,h.len⟩
theorem AN.onlyT{w w':World}{a b:Nat}{s:AS}(h:AN w a b s)(o:Ah (QN a b) w w'):Aw [183,191] w w':=
 o.mono (fun k _ hk=>by
  rcases hk with rfl|rfl
  ·exact⟨_,_,by simp,h.head⟩
  ·exact⟨_,_,by simp,h.words⟩)
theorem JC.ty{B:Nat}{w w':World}{P:Nat→Prop}{A:EA}{K:EK}{s:Sh}(h:JC B w P A K s){ts:List TypeId}(o:Aw ts w w')(h1:107∉ts)(h2:183∉ts)(h3:191∉ts)(h4:186∉ts)(h5:228∉ts)(h6:3∉ts)(h7:148∉ts)(h8:153∉ts):JC B w' P A K s:=
 ⟨h.eng.ty o h1,h.ar.ty o h2 h3,h.pool.ty o h4 h5 h6,h.vals.ty o h7,AO h.tale o h8,h.pe,h.pa,h.pp,h.pf,h.pv,h.pt⟩
section
variable {B:Nat} {w w':World} {P Q R:Nat→Prop} {A:EA} {K:EK} {S:SA} {nx:Value} {X:Cx}
theorem CX.arena(h:CX B w P Q R A K S nx X){a:AS}(ha:AN w' A.a A.aw a)(o:Ah (QN A.a A.aw) w w'):
 CX B w' P Q R A K S nx (X.setA a)∧Ag w w' P Q P Q:=by
 have t:=h.sh.ar.onlyT o
 have m:Ag w w' P Q P Q:=⟨o.mono (fun k _ hk=> .inl (by
  rcases hk with rfl|rfl
  ·exact h.sh.pa.1
  ·exact h.sh.pa.2)),AC.refl _ _,AC.refl _ _⟩
 exact⟨⟨⟨h.sh.eng.ty t (by decide),ha,h.sh.pool.ty t (by decide) (by decide) (by decide),h.sh.vals.ty t (by decide),AO h.sh.tale t (by decide),h.sh.pe,h.sh.pa,h.sh.pp,h.sh.pf,h.sh.pv,h.sh.pt⟩,
  h.tx.ty t (by decide) (by decide) (by decide) (by decide),h.cl.ty t (by decide) (by decide),h.ap,h.uP.mono o.size,h.uQ.mono o.size,h.aP,h.aQ,h.uR.mono o.size,fun i hi=>(h.prs i hi).move m⟩,m⟩
theorem CX.only0(h:CX B w P Q R A K S nx X)(o:Ac w w'):CX B w' P Q R A K S nx X:=by
 have t:Aw [] w w':=Aw.zero o []
 exact⟨h.sh.ty t (by simp) (by simp) (by simp) (by simp) (by simp) (by simp) (by simp) (by simp),h.tx.ty t (by simp) (by simp) (by simp) (by simp),h.cl.ty t (by simp) (by simp),h.ap,h.uP.mono o.size,h.uQ.mono o.size,h.aP,h.aQ,h.uR.mono o.size,fun i hi=>(h.prs i hi).move (Ag.only0 P Q o)⟩
def Ih:List TypeId:=[107,183,191,186,228,3,148,153,123,250,273,127,77]
theorem CX.ty(h:CX B w P Q R A K S nx X){ts:List TypeId}(o:Aw ts w w')(ht:∀t,t∈Ih→t∉ts)(hs:w.heap.size≤w'.heap.size):CX B w' P Q R A K S nx X:=by
 have n:∀t,t∈Ih→t∉ts:=ht
 exact⟨h.sh.ty o (n _ (by decide)) (n _ (by decide)) (n _ (by decide)) (n _ (by decide)) (n _ (by decide)) (n _ (by decide)) (n _ (by decide)) (n _ (by decide)),h.tx.ty o (n _ (by decide)) (n _ (by decide)) (n _ (by decide)) (n _ (by decide)),h.cl.ty o (n _ (by decide)) (n _ (by decide)),h.ap,h.uP.mono hs,h.uQ.mono hs,h.aP,h.aQ,h.uR.mono hs,fun i hi=>(h.prs i hi).ty o (n _ (by decide))⟩
theorem CX.setNew(h:CX B w P Q R A K S nx X){b:Nat}{t:TypeId}{cs:Array Value}(hf:An w P Q R b t cs)(ht:t∉Ih)(o:Nat)(v:Value):CX B (w.setCell ⟨b,o,none⟩ v) P Q R A K S nx X:=
 h.ty (Aw.of (Ah.setCell (S:=fun c=>c=b) (Ah.refl _ w) (fun _=>rfl) v) hf.1) (fun u hu hm=>by simp at hm;subst hm;exact ht hu) (by simp[World.setCell])
theorem Ag.setNew{w0:World}{P' Q':Nat→Prop}(m:Ag w0 w P Q P' Q'){b:Nat}(hb:w0.heap.size≤b)(o:Nat)(v:Value):Ag w0 (w.setCell ⟨b,o,none⟩ v) P Q P' Q':=
 ⟨m.o.setCell (fun hk=>absurd hk (by show ¬b<w0.heap.size;omega)) v,m.gp,m.gq⟩
theorem An.setOwn{b:Nat}{t:TypeId}{cs:Array Value}(h:An w P Q R b t cs)(o:Nat)(v:Value):An (w.setCell ⟨b,o,none⟩ v) P Q R b t (cs.setIfInBounds o v):=⟨h.1.set o v,h.2⟩
theorem An.c0{b:Nat}{t:TypeId}{v:Value}(h:An w P Q R b t #[v]):w.cell? ⟨b,0,none⟩=some v:=h.1.cell 0
theorem An.zf{b:Nat}{t:TypeId}{cs:Array Value}(h:An w P Q R b t cs)(o:Nat):w.frozen? ⟨b,o,none⟩=false:=h.1.free o
theorem An.d0{b:Nat}{t:TypeId}{v u:Value}(h:An w P Q R b t #[v,u]):w.cell? ⟨b,0,none⟩=some v:=h.1.cell 0
theorem An.d1{b:Nat}{t:TypeId}{v u:Value}(h:An w P Q R b t #[v,u]):w.cell? ⟨b,1,none⟩=some u:=h.1.cell 1
theorem Dc.q{t:Dq}(h:Dc B w Q S t)(a:Option Addr)(c:Nat):Dc B w Q {S with qa:=a,qc:=c} t:=
 ⟨h.blk,h.map,h.cel,h.xinj,h.keys,h.reads,h.bonds,h.kb,h.qt,h.qm,h.qk,h.qr,h.qb⟩
theorem CX.call(h:CX B w P Q R A K S nx X){c':Cw}{nx':Value}{qa:Option Addr}{qc:Nat}{Q':Nat→Prop}(m:Ag w w' P Q P Q'){ts:List TypeId}(o:Aw ts w w')(hts:∀t,t∈ts→t=127∨t=77)
 (hb:Am w' S.c 127 (BW {S with qa:=qa,qc:=qc} c' nx')) (hp:w'.ownsRow B 77 2 (.slice qa c'.r.pairs.length qc) c'.r.pairs.length (AJ c'.r.pairs)) (hq:∀b,AA (.slice qa c'.r.pairs.length qc) b→Q' b) (hQ:∀b,Q b→Q' b) (ap:AR P Q') (uQ:Bo Q' w'.heap.size) (aQ:Cz Q' B):
 CX B w' P Q' R A K {S with qa:=qa,qc:=qc} nx' (X.setC c'):=by
 have n:∀u:TypeId,u≠127→u≠77→u∉ts:=fun u h1 h2 h3=>(hts u h3).elim h1 h2
 have T:=(h.tx.ty o (n _ (by decide) (by decide)) (n _ (by decide) (by decide)) (n _ (by decide) (by decide)) (n _ (by decide) (by decide))).q qa qc
 exact⟨h.sh.ty o (n _ (by decide) (by decide)) (n _ (by decide) (by decide)) (n _ (by decide) (by decide)) (n _ (by decide) (by decide)) (n _ (by decide) (by decide)) (n _ (by decide) (by decide)) (n _ (by decide) (by decide)) (n _ (by decide) (by decide)),
  ⟨T.blk,T.map,fun k x hk=>⟨(T.cel k x hk).1,(T.cel k x hk).2.1,hQ _ (T.cel k x hk).2.2⟩,T.xinj,T.keys,T.reads,T.bonds,T.kb,hQ _ T.qt,hQ _ T.qm,fun b hb=>hQ _ (T.qk b hb),fun b hb=>hQ _ (T.qr b hb),fun b hb=>hQ _ (T.qb b hb)⟩,
  ⟨hb,hp,hQ _ h.cl.qc,hq⟩,ap,h.uP.mono m.o.size,uQ,h.aP,aQ,h.uR.mono m.o.size,fun i hi=>(h.prs i hi).move m⟩
end
end
section
def AM(n:Int)(l:Int):Prop:=0≤l∧l<18446744073709551616∧(l=0∨(0≤A5 l∧A5 l<n))
theorem AM.zero(n:Int):AM n 0:=⟨by omega,by omega,.inl rfl⟩
structure AW(N:Nat)(s:Sh):Prop where
 n1:1≤s.slots
 n2:s.slots≤256
 l1:1≤s.limit
 l2:s.limit≤1099511627776
 alen:(s.a.ws.length:Int)=73+s.slots*3+2001
 word:∀i,0≤s.a.ws.getD i 0∧s.a.ws.getD i 0<18446744073709551616
 vlen:(s.vals.length:Int)=s.slots
 plen:s.p.slots.length=s.vals.length
 tags:∀i,0≤(s.p.slots.getD i (0,false)).1∧(s.p.slots.getD i (0,false)).1≤65535
 free:∀i,i∈s.p.free→i<s.vals.length
 flen:s.p.free.length≤N
 worn:0≤s.p.worn∧s.p.worn≤N
 tlen:s.tale.length≤N
 head:∀k,k<64→AM s.slots (s.a.ws.getD (9+k) 0)
 next:∀i:Nat,i<s.vals.length→AM s.slots (s.a.ws.getD (73+i*3+2) 0)
structure Dy(N:Nat)(n:Int)(t:Dq):Prop where
 id1:1≤t.id
 id2:t.id≤2000
 lv:1≤t.level∧t.level≤3
 s1:0≤t.s∧t.s≤7
 beg:0≤t.beg∧t.beg≤1099511627776
 fin:0≤t.fin∧t.fin≤1099511627776
 klen:t.keys.length≤N
 rlen:t.reads.length≤N
 blen:t.bonds.length≤N
 keys:∀k,k∈t.keys→(t.cells k).isSome
 cell:∀k x,t.cells k=some x→k<64∧AM n x.own∧AM n x.old∧(x.there=true→x.own≠0)
 read:∀r,r∈t.reads→r.key<64
 bond:∀b,b∈t.bonds→0≤b∧b≤65535
structure EG(N:Nat)(c:Cw):Prop where
 key:0≤c.op.key∧c.op.key≤63
 hi:0≤c.op.hi∧c.op.hi≤63
 val:0≤c.op.value∧c.op.value≤65535
 plen:c.r.pairs.length≤N
structure Ax(N:Nat)(X:Cx):Prop where
 sh:AW N X.sh
 tx:Dy N X.sh.slots X.t
 cl:EG N X.c
theorem AW.mono{N M:Nat}{s:Sh}(h:AW N s)(hm:N≤M):AW M s:=
 ⟨h.n1,h.n2,h.l1,h.l2,h.alen,h.word,h.vlen,h.plen,h.tags,h.free,Nat.le_trans h.flen hm,⟨h.worn.1,by have:=h.worn.2;omega⟩,Nat.le_trans h.tlen hm,h.head,h.next⟩
theorem Dy.mono{N M:Nat}{n:Int}{t:Dq}(h:Dy N n t)(hm:N≤M):Dy M n t:=
 ⟨h.id1,h.id2,h.lv,h.s1,h.beg,h.fin,Nat.le_trans h.klen hm,Nat.le_trans h.rlen hm,Nat.le_trans h.blen hm,h.keys,h.cell,h.read,h.bond⟩
theorem EG.mono{N M:Nat}{c:Cw}(h:EG N c)(hm:N≤M):EG M c:=⟨h.key,h.hi,h.val,Nat.le_trans h.plen hm⟩
theorem Ax.mono{N M:Nat}{X:Cx}(h:Ax N X)(hm:N≤M):Ax M X:=⟨h.sh.mono hm,h.tx.mono hm,h.cl.mono hm⟩
theorem AG{a:AS}(h:∀i,0≤a.ws.getD i 0∧a.ws.getD i 0<18446744073709551616)(i:Int):0≤a.load i∧a.load i<18446744073709551616:=by
 unfold AS.load
 split
 ·exact h _
 ·omega
theorem NB(x:Int):(x≤1099511627776∧BD x=1∧Br x=x)∨(BD x=3∧Br x=0∧x=2305843009213693952)∨(BD x=2∧Br x=x-4611686018427387904∧4611686018427387904<x∧x≤4611686018427453439)∨(BD x=0∧Br x=0):=by
 unfold BD Br
 by_cases h1:x≤1099511627776
 ·exact .inl ⟨h1,by rw[if_pos h1],by rw[if_pos h1]⟩
 ·by_cases h2:x=2305843009213693952
  ·exact .inr (.inl ⟨by rw[if_neg h1,if_pos h2],by rw[if_neg h1,if_pos h2],h2⟩)
  ·by_cases h3:4611686018427387904<x∧x≤4611686018427453439
   ·exact .inr (.inr (.inl ⟨by rw[if_neg h1,if_neg h2,if_pos h3],by rw[if_neg h1,if_neg h2,if_pos h3],h3⟩))
   ·exact .inr (.inr (.inr ⟨by rw[if_neg h1,if_neg h2,if_neg h3],by rw[if_neg h1,if_neg h2,if_neg h3]⟩))
theorem FV{x:Int}(h:BD x=2):1≤Br x∧Br x≤65535:=by
 exact Uw
theorem NV{x:Int}(h:BD x≠3)(h2:BD x≠2):BD x=0∨BD x=1:=by
 exact Uw
theorem FC(x:Int)(h0:0≤x):0≤Br x∧Br x≤1099511627776:=by
 exact Uw
theorem AW.tick{N:Nat}{s:Sh}(h:AW N s)(i:Int):AW N {s with a:=s.a.tick i}:=by
 have e:(s.a.tick i).ws=s.a.ws:=by unfold AS.tick;split<;>rfl
 exact⟨h.n1,h.n2,h.l1,h.l2,by rw[e];exact h.alen,by rw[e];exact h.word,h.vlen,h.plen,h.tags,h.free,h.flen,h.worn,h.tlen,by rw[e];exact h.head,by rw[e];exact h.next⟩
theorem Ax.tick{N:Nat}{X:Cx}(h:Ax N X)(i:Int):Ax N (X.setA (X.sh.a.tick i)):=⟨h.sh.tick i,h.tx,h.cl⟩
theorem Ax.read{N:Nat}{X:Cx}(h:Ax N X){key:Nat}(hk:key<64)(l:Int)(g:Bool):Ax (N+1) (X.read key l g):=by
 refine⟨h.sh.mono (by omega),?_,h.cl.mono (by omega)⟩
 have T:=h.tx.mono (M:=N+1) (by omega)
 refine⟨T.id1,T.id2,T.lv,T.s1,T.beg,T.fin,T.klen,?_,T.blen,T.keys,T.cell,?_,T.bond⟩
 ·show(X.t.reads++[_]).length≤N+1
  have:=h.tx.rlen
  rw[List.length_append,List.length_singleton];omega
 ·intro r hr
  have hr':r∈X.t.reads++[(⟨key,l,g⟩:FQ)]:=hr
  rcases List.mem_append.1 hr' with x|x
  ·exact h.tx.read r x
  ·simp at x;rw[x];exact hk
theorem Ax.tell{N:Nat}{X:Cx}(h:Ax N X)(n:Int)(key:Nat):Ax (N+1) (X.tell n key):=by
 refine⟨h.sh.mono (by omega),h.tx.mono (by omega),?_⟩
 have C:=h.cl
 refine⟨C.key,C.hi,C.val,?_⟩
 show(X.c.r.pairs++[_]).length≤N+1
 have:=C.plen
 rw[List.length_append,List.length_singleton];omega
theorem Ax.bind{N:Nat}{X:Cx}(h:Ax N X){x:Int}(h0:0≤x)(h1:x≤65535):Ax (N+1) (X.bind x):=by
 unfold Cx.bind
 split
 ·exact h.mono (by omega)
 ·have T:=h.tx.mono (M:=N+1) (by omega)
  have H:=h.sh.mono (M:=N+1) (by omega)
  refine⟨⟨H.n1,H.n2,H.l1,H.l2,H.alen,H.word,H.vlen,H.plen,H.tags,H.free,H.flen,H.worn,?_,H.head,H.next⟩,⟨T.id1,T.id2,T.lv,T.s1,T.beg,T.fin,T.klen,T.rlen,?_,T.keys,T.cell,T.read,?_⟩,h.cl.mono (by omega)⟩
  ·exact SD
  ·show(X.t.bonds++[_]).length≤N+1
   have:=h.tx.blen
   rw[List.length_append,List.length_singleton];omega
  ·intro b hb
   have hb':b∈X.t.bonds++[x]:=hb
   rcases List.mem_append.1 hb' with y|y
   ·exact h.tx.bond b y
   ·simp at y;rw[y];exact⟨h0,h1⟩
end
section
abbrev bp(b:Nat):Value:= .pointer (some (DP b))
section
variable (w:World) (P Q R:Nat→Prop) (A:EA) (S:SA)
def bE(b:Nat):Prop:=An w P Q R b 39 #[bp A.e]
def bT(b:Nat):Prop:=An w P Q R b 96 #[bp S.t]
def bC(b:Nat):Prop:=An w P Q R b 101 #[bp S.c]
def bU(b:Nat)(v:Int):Prop:=An w P Q R b 31 #[.int .u64 v]
def bI(b:Nat)(v:Int):Prop:=An w P Q R b 3 #[.int .i64 v]
def bN(b:Nat)(v:Int):Prop:=An w P Q R b 50 #[.int .i64 v]
def bX(b:Nat)(k:Option Nat):Prop:=An w P Q R b 248 #[.pointer (k.map fun k=>DP (S.x k))]
def bR(X:Cx)(b:Nat)(r:Dt):Prop:=∃pa pc,An w P Q R b 64 (Gi r pa pc).toArray∧((r.pairs=[]∧pa=none∧pc=0)∨(pa=S.qa∧pc=S.qc∧r.pairs=X.c.r.pairs))
def bH(b:Nat)(x:Bool)(head:Int):Prop:=(x=true∧An w P Q R b 291 #[.slice none 0 0])∨(x=false∧∃g,An w P Q R b 291 #[.slice (some (DP g)) 1 1]∧bU w P Q R g head)
def El(l:List Cs):List Value:=DI (fun i=>[.int .i64 (l.getD i ⟨0,0,0⟩).at_,.int .u64 (l.getD i ⟨0,0,0⟩).old,.int .u64 (l.getD i ⟨0,0,0⟩).new]) l.length
def Co(a:Option Addr)(l:List Cs):Prop:=l=[]∨∃g off,a=some ⟨g,off*3,none⟩∧¬P g∧¬Q g∧¬R g∧g<w.heap.size∧
 ∀i,i<l.length→Ab w g ((off+i)*3) (.int .i64 (l.getD i ⟨0,0,0⟩).at_)∧Ab w g ((off+i)*3+1) (.int .u64 (l.getD i ⟨0,0,0⟩).old)∧Ab w g ((off+i)*3+2) (.int .u64 (l.getD i ⟨0,0,0⟩).new)
def bL(b:Nat)(l:List Cs):Prop:=∃a c,An w P Q R b 257 #[.slice a l.length c]∧l.length≤c∧c≤9223372036854775807∧Co w P Q R a l
def FY(key:Nat):Rz→Value→Prop
 | .get,v=>∃t k e c,v= .func (.func 130) #[] #[bp t,bp k,bp e,bp c]∧bT w P Q R S t∧bI w P Q R k key∧bE w P Q R A e∧bC w P Q R S c
 | .scan ky,v=>∃t k f e c tc tk,v= .func (.func 133) #[] #[bp t,bp k,bp f,bp e,bp c]∧bT w P Q R S t∧bI w P Q R k ky∧An w P Q R f 255 #[.func (.func 132) #[] #[bp tc,bp tk]]∧bC w P Q R S tc∧bI w P Q R tk ky∧bE w P Q R A e∧bC w P Q R S c
 | .change,v=>∃c t k e,v= .func (.func 145) #[] #[bp c,bp t,bp k,bp e]∧bC w P Q R S c∧bT w P Q R S t∧bI w P Q R k key∧bE w P Q R A e
 | .judge i l,v=>∃r e t c k y g,v= .func (.func 164) #[] #[bp r,bp e,bp t,bp c,bp k]∧An w P Q R r 273 #[.int .i64 y,.int .u64 l,.bool g]∧bE w P Q R A e∧bT w P Q R S t∧bC w P Q R S c∧bI w P Q R k i
def CH(h:Nat)(u:Cd):Prop:=∃v,An w P Q R h 271 #[bp A.e,bp S.t,.int .i64 u.key,.int .u64 u.at_,v]∧FY w P Q R A S u.key u.thn v
def Lz(b:Nat)(u:Cd):Prop:=∃h,An w P Q R b 269 #[bp h]∧CH w P Q R A S h u
def BP(X:Cx):Da→Value→Prop
 | .draw,v=>∃e t c,v= .func (.func 134) #[] #[bp e,bp t,bp c]∧bE w P Q R A e∧bT w P Q R S t∧bC w P Q R S c
 | .turn x now,v=>∃e a b t c,v= .func (.func 135) #[] #[bp e,bp a,bp b,bp t,bp c]∧bE w P Q R A e∧bU w P Q R a x∧bU w P Q R b now∧bT w P Q R S t∧bC w P Q R S c
 | .helped,v=>∃e t c,v= .func (.func 136) #[] #[bp e,bp t,bp c]∧bE w P Q R A e∧bT w P Q R S t∧bC w P Q R S c
 | .help x now,v=>∃e a f e2 a2 b2 t c,v= .func (.func 138) #[] #[bp e,bp a,bp f]∧bE w P Q R A e∧bU w P Q R a x∧An w P Q R f 124 #[.func (.func 135) #[] #[bp e2,bp a2,bp b2,bp t,bp c]]∧bE w P Q R A e2∧bU w P Q R a2 x∧bU w P Q R b2 now∧bT w P Q R S t∧bC w P Q R S c
 | .start u,v=>∃h,v= .func (.func 161) #[bp h] #[]∧CH w P Q R A S h u
 | .visit u l,v=>∃h a,v= .func (.func 211) #[] #[bp h,bp a]∧Lz w P Q R A S h u∧bU w P Q R a l
 | .older u l,v=>∃h a,v= .func (.func 256) #[] #[bp h,bp a]∧Lz w P Q R A S h u∧bU w P Q R a l
 | .maker u l id,v=>∃h i a,v= .func (.func 234) #[] #[bp h,bp i,bp a]∧Lz w P Q R A S h u∧bI w P Q R i id∧bU w P Q R a l
 | .ended u l m,v=>∃h a i,v= .func (.func 253) #[] #[bp h,bp a,bp i]∧Lz w P Q R A S h u∧bU w P Q R a l∧bI w P Q R i m
 | .ender u l m id,v=>∃h d a i,v= .func (.func 273) #[] #[bp h,bp d,bp a,bp i]∧Lz w P Q R A S h u∧bI w P Q R d id∧bU w P Q R a l∧bI w P Q R i m
 | .seen u l m,v=>∃h i a,v= .func (.func 271) #[] #[bp h,bp i,bp a]∧Lz w P Q R A S h u∧bI w P Q R i m∧bU w P Q R a l
 | .wait i,v=>∃e t k c g,v= .func (.func 187) #[] #[bp e,bp t,bp k,bp c,bp g]∧bE w P Q R A e∧bT w P Q R S t∧bI w P Q R k i∧bC w P Q R S c∧An w P Q R g 125 #[v]
 | .commit,v=>∃e t c,v= .func (.func 213) #[] #[bp e,bp t,bp c]∧bE w P Q R A e∧bT w P Q R S t∧bC w P Q R S c
 | .abort er re,v=>∃e t i c n,v= .func (.func 139) #[] #[bp e,bp t,bp i,bp c,bp n]∧bE w P Q R A e∧bT w P Q R S t∧bI w P Q R i re∧bC w P Q R S c∧bN w P Q R n er
 | .turns [] r,v=>∃e t c y,v= .func (.func 168) #[] #[bp e,bp t,bp c,bp y]∧bE w P Q R A e∧bT w P Q R S t∧bC w P Q R S c∧bR w P Q R S X y r
 | .turns (x::l) r,v=>∃a e t c y,v= .func (.func 169) #[] #[bp a,bp e,bp t,bp c,bp y]∧bL w P Q R a (x::l)∧bE w P Q R A e∧bT w P Q R S t∧bC w P Q R S c∧bR w P Q R S X y r
 | .ends r,v=>∃e c y,v= .func (.func 159) #[] #[bp e,bp c,bp y]∧bE w P Q R A e∧bC w P Q R S c∧bR w P Q R S X y r
 | .again fin,v=>∃e x a c,v= .func (.func 171) #[] #[bp e,bp x,bp a,bp c]∧bE w P Q R A e∧bX w P Q R S x (some X.key)∧bU w P Q R a fin∧bC w P Q R S c
 | .own l,v=>∃e a t c,v= .func (.func 174) #[] #[bp e,bp a,bp t,bp c]∧bE w P Q R A e∧bU w P Q R a l∧bT w P Q R S t∧bC w P Q R S c
 | .own2 l x id,v=>∃e i t c a b,v= .func (.func 176) #[] #[bp e,bp i,bp t,bp c,bp a,bp b]∧bE w P Q R A e∧bI w P Q R i id∧bT w P Q R S t∧bC w P Q R S c∧bU w P Q R a l∧bU w P Q R b x
 | .claim l x,v=>∃e a b t c,v= .func (.func 199) #[] #[bp e,bp a,bp b,bp t,bp c]∧bE w P Q R A e∧bU w P Q R a l∧bU w P Q R b x∧bT w P Q R S t∧bC w P Q R S c
 | .fresh l,v=>∃e c t a,v= .func (.func 172) #[] #[bp e,bp c,bp t,bp a]∧bE w P Q R A e∧bC w P Q R S c∧bT w P Q R S t∧bU w P Q R a l
 | .free1 l hd at_,v=>∃e p t f c a e2 t2 c2 a2 b2 p2,v= .func (.func 196) #[] #[bp e,bp p,bp t,bp f,bp c,bp a]∧bE w P Q R A e∧bU w P Q R p at_∧bT w P Q R S t∧An w P Q R f 124 #[.func (.func 195) #[] #[bp e2,bp t2,bp c2,bp a2,bp b2,bp p2]]∧bC w P Q R S c∧bU w P Q R a l∧
  bE w P Q R A e2∧bT w P Q R S t2∧bC w P Q R S c2∧bU w P Q R a2 l∧bU w P Q R b2 hd∧bU w P Q R p2 at_
 | .free2 l hd at_ id,v=>∃e s t f c a e2 t2 c2 a2 b2 p2,v= .func (.func 198) #[] #[bp e,bp s,bp t,bp f,bp c,bp a]∧bE w P Q R A e∧An w P Q R s 195 #[.int .i64 2,.int .u64 id]∧bT w P Q R S t∧An w P Q R f 124 #[.func (.func 195) #[] #[bp e2,bp t2,bp c2,bp a2,bp b2,bp p2]]∧bC w P Q R S c∧bU w P Q R a l∧
  bE w P Q R A e2∧bT w P Q R S t2∧bC w P Q R S c2∧bU w P Q R a2 l∧bU w P Q R b2 hd∧bU w P Q R p2 at_
 | .freeN l hd at_,v=>∃e t c a b p,v= .func (.func 195) #[] #[bp e,bp t,bp c,bp a,bp b,bp p]∧bE w P Q R A e∧bT w P Q R S t∧bC w P Q R S c∧bU w P Q R a l∧bU w P Q R b hd∧bU w P Q R p at_
 | .slot1 x l hd,v=>∃e a t y c h,v= .func (.func 191) #[] #[bp e,bp a,bp t,bp y,bp c,bp h]∧bE w P Q R A e∧bU w P Q R a l∧bT w P Q R S t∧bX w P Q R S y (if x then some X.key else none)∧bC w P Q R S c∧bH w P Q R h x hd
 | .slot2 x l hd,v=>∃e a y t c h,v= .func (.func 192) #[] #[bp e,bp a,bp y,bp t,bp c,bp h]∧bE w P Q R A e∧bU w P Q R a l∧bX w P Q R S y (if x then some X.key else none)∧bT w P Q R S t∧bC w P Q R S c∧bH w P Q R h x hd
 | .push1 l hd,v=>∃e a b c t,v= .func (.func 220) #[] #[bp e,bp a,bp b,bp c,bp t]∧bE w P Q R A e∧bU w P Q R a l∧bU w P Q R b hd∧bC w P Q R S c∧bT w P Q R S t
 | .push2 l hd,v=>∃e c b a t,v= .func (.func 221) #[] #[bp e,bp c,bp b,bp a,bp t]∧bE w P Q R A e∧bC w P Q R S c∧bU w P Q R b hd∧bU w P Q R a l∧bT w P Q R S t
 | .over1 l,v=>∃e c a t x,v= .func (.func 222) #[] #[bp e,bp c,bp a,bp t,bp x]∧bE w P Q R A e∧bC w P Q R S c∧bU w P Q R a l∧bT w P Q R S t∧bX w P Q R S x (some X.key)
 | .over2 l hd,v=>∃e a b c t x,v= .func (.func 223) #[] #[bp e,bp a,bp b,bp c,bp t,bp x]∧bE w P Q R A e∧bU w P Q R a l∧bU w P Q R b hd∧bC w P Q R S c∧bT w P Q R S t∧bX w P Q R S x (some X.key)
 | .over3 l hd,v=>∃e c b a t x,v= .func (.func 224) #[] #[bp e,bp c,bp b,bp a,bp t,bp x]∧bE w P Q R A e∧bC w P Q R S c∧bU w P Q R b hd∧bU w P Q R a l∧bT w P Q R S t∧bX w P Q R S x (some X.key)
def Rl(X:Cx):Option Da→Value→Prop
 |none,v=>v= .nilFunc
 |some k,v=>BP w P Q R A S X k v
end
structure At(A A':EA)(S S':SA):Prop where
 e:A'.e=A.e
 a:A'.a=A.a
 v:A'.v=A.v
 t:S'.t=S.t
 c:S'.c=S.c
theorem At.refl(A:EA)(S:SA):At A A S S:=⟨rfl,rfl,rfl,rfl,rfl⟩
theorem At.trans{A A1 A2:EA}{S S1 S2:SA}(h:At A A1 S S1)(k:At A1 A2 S1 S2):At A A2 S S2:=⟨k.e.trans h.e,k.a.trans h.a,k.v.trans h.v,k.t.trans h.t,k.c.trans h.c⟩
theorem An.move{w w':World}{P Q R P' Q':Nat→Prop}{b:Nat}{t:TypeId}{cs:Array Value}(h:An w P Q R b t cs)(m:Ag w w' P Q P' Q'):An w' P' Q' R b t cs:=h.step m.o m.gp m.gq
def Ak(B:Nat)(w:World)(P Q R:Nat→Prop)(A:EA)(K:EK)(S:SA)(nx:Value)(X':Cx)(o:Option Da)(e:Ending)(w':World):Prop:=
 ∃P' Q' A' S' v,e= .returned v∧CX B w' P' Q' R A' K S' nx X'∧Rl w' P' Q' R A' S' X' o v∧Ag w w' P Q P' Q'∧At A A' S S'
end
section
section
variable {w w':World} {P Q R P' Q':Nat→Prop} {A A':EA} {S S':SA}
theorem bE.mv{b:Nat}(h:bE w P Q R A b)(m:Ag w w' P Q P' Q')(k:At A A' S S'):bE w' P' Q' R A' b:=by unfold bE at *;rw[k.e];exact h.move m
theorem bT.mv{b:Nat}(h:bT w P Q R S b)(m:Ag w w' P Q P' Q')(k:At A A' S S'):bT w' P' Q' R S' b:=by unfold bT at *;rw[k.t];exact h.move m
theorem bC.mv{b:Nat}(h:bC w P Q R S b)(m:Ag w w' P Q P' Q')(k:At A A' S S'):bC w' P' Q' R S' b:=by unfold bC at *;rw[k.c];exact h.move m
theorem bU.mv{b:Nat}{v:Int}(h:bU w P Q R b v)(m:Ag w w' P Q P' Q'):bU w' P' Q' R b v:=An.move h m
theorem bI.mv{b:Nat}{v:Int}(h:bI w P Q R b v)(m:Ag w w' P Q P' Q'):bI w' P' Q' R b v:=An.move h m
theorem FY.mv{key:Nat}{t:Rz}{v:Value}(h:FY w P Q R A S key t v)(m:Ag w w' P Q P' Q')(k:At A A' S S'):FY w' P' Q' R A' S' key t v:=by
 cases t with
 |get=>obtain⟨t,ky,e,c,h1,h2,h3,h4,h5⟩:=h;exact⟨t,ky,e,c,h1,h2.mv m k,h3.mv m,h4.mv m k,h5.mv m k⟩
 |scan ky=>obtain⟨t,y,f,e,c,tc,tk,h1,h2,h3,h4,h5,h6,h7,h8⟩:=h;exact⟨t,y,f,e,c,tc,tk,h1,h2.mv m k,h3.mv m,h4.move m,h5.mv m k,h6.mv m,h7.mv m k,h8.mv m k⟩
 |change=>obtain⟨c,t,y,e,h1,h2,h3,h4,h5⟩:=h;exact⟨c,t,y,e,h1,h2.mv m k,h3.mv m k,h4.mv m,h5.mv m k⟩
 |judge i l=>obtain⟨r,e,t,c,ky,y,g,h1,h2,h3,h4,h5,h6⟩:=h;exact⟨r,e,t,c,ky,y,g,h1,h2.move m,h3.mv m k,h4.mv m k,h5.mv m k,h6.mv m⟩
theorem CH.mv{h:Nat}{u:Cd}(H:CH w P Q R A S h u)(m:Ag w w' P Q P' Q')(k:At A A' S S'):CH w' P' Q' R A' S' h u:=by
 obtain⟨v,h1,h2⟩:=H
 refine⟨v,?_,h2.mv m k⟩
 rw[k.e,k.t];exact h1.move m
theorem An.alloc{b:Nat}{t:TypeId}{cs:Array Value}(h:An w P Q R b t cs)(o:Obj):An (w.alloc o) P Q R b t cs:=⟨h.1.alloc o,h.2⟩
end
theorem An.new'{B:Nat}{w:World}{P Q R:Nat→Prop}{A:EA}{K:EK}{S:SA}{nx:Value}{X:Cx}(h:CX B w P Q R A K S nx X)(b:Nat)(hb:b=w.heap.size)(t:TypeId)(cs:Array Value):An (w.alloc (.cells cs t)) P Q R b t cs:=by
 subst hb;exact An.new h.uP h.uQ h.uR t cs
theorem CX.alloc{B:Nat}{w:World}{P Q R:Nat→Prop}{A:EA}{K:EK}{S:SA}{nx:Value}{X:Cx}(h:CX B w P Q R A K S nx X)(o:Obj):CX B (w.alloc o) P Q R A K S nx X:=h.only0 ((Ac.refl w).alloc o)
theorem Pn{B:Nat}{w:World}{P Q R:Nat→Prop}{A:EA}{K:EK}{S:SA}{nx:Value}{X:Cx}(h:CX B w P Q R A K S nx X)(l:Int):
 Calls Tryz.prog 147 #[bp A.e,bp S.t,bp S.c,.int .u64 l] w (Ak B w P Q R A K S nx X (some (.own l))):=by
 have F0:=An.new' (h) (w.heap.size) (by simp) 39 #[bp A.e]
 have C0:=(h).alloc (.cells #[bp A.e] 39)
 have F1:=An.new' (C0) (w.heap.size+1) (by simp) 96 #[bp S.t]
 have C1:=(C0).alloc (.cells #[bp S.t] 96)
 have F2:=An.new' (C1) (w.heap.size+2) (by simp) 101 #[bp S.c]
 have C2:=(C1).alloc (.cells #[bp S.c] 101)
 have F3:=An.new' (C2) (w.heap.size+3) (by simp) 31 #[.int .u64 l]
 have C3:=(C2).alloc (.cells #[.int .u64 l] 31)
 have M:Ag w ((((w.alloc (.cells #[bp A.e] 39)).alloc (.cells #[bp S.t] 96)).alloc (.cells #[bp S.c] 101)).alloc (.cells #[.int .u64 l] 31)) P Q P Q:=Ag.only0 P Q (((((Ac.refl w).alloc _).alloc _).alloc _).alloc _)
 have HR:Hid (Ak B w P Q R A K S nx X (some (.own l)) (.returned (.func (.func 174) #[] #[.pointer (some ⟨w.heap.size,0,none⟩),.pointer (some ⟨w.heap.size+3,0,none⟩),.pointer (some ⟨w.heap.size+1,0,none⟩),.pointer (some ⟨w.heap.size+2,0,none⟩)])) ((((w.alloc (.cells #[bp A.e] 39)).alloc (.cells #[bp S.t] 96)).alloc (.cells #[bp S.c] 101)).alloc (.cells #[.int .u64 l] 31))):=Aa ⟨P,Q,A,S,_,rfl,C3,⟨w.heap.size,w.heap.size+3,w.heap.size+1,w.heap.size+2,rfl,(((F0.alloc _).alloc _).alloc _),F3,((F1.alloc _).alloc _),(F2.alloc _)⟩,M,At.refl A S⟩
 clear M C0 F0 C1 F1 C2 F2 C3 F3
 go_enter Tryz.func147,Tryz.ntmps147
 go_wp2_with fail
 go_ret
 exact HR.out
theorem Kj{B:Nat}{w:World}{P Q R:Nat→Prop}{A:EA}{K:EK}{S:SA}{nx:Value}{X:Cx}(h:CX B w P Q R A K S nx X)(l:Int):
 Calls Tryz.prog 146 #[bp A.e,bp S.t,bp S.c,.int .u64 l] w (Ak B w P Q R A K S nx X (some (.fresh l))):=by
 have F0:=An.new' (h) (w.heap.size) (by simp) 39 #[bp A.e]
 have C0:=(h).alloc (.cells #[bp A.e] 39)
 have F1:=An.new' (C0) (w.heap.size+1) (by simp) 96 #[bp S.t]
 have C1:=(C0).alloc (.cells #[bp S.t] 96)
 have F2:=An.new' (C1) (w.heap.size+2) (by simp) 101 #[bp S.c]
 have C2:=(C1).alloc (.cells #[bp S.c] 101)
 have F3:=An.new' (C2) (w.heap.size+3) (by simp) 31 #[.int .u64 l]
 have C3:=(C2).alloc (.cells #[.int .u64 l] 31)
 have M:Ag w ((((w.alloc (.cells #[bp A.e] 39)).alloc (.cells #[bp S.t] 96)).alloc (.cells #[bp S.c] 101)).alloc (.cells #[.int .u64 l] 31)) P Q P Q:=Ag.only0 P Q (((((Ac.refl w).alloc _).alloc _).alloc _).alloc _)
 have HR:Hid (Ak B w P Q R A K S nx X (some (.fresh l)) (.returned (.func (.func 172) #[] #[.pointer (some ⟨w.heap.size,0,none⟩),.pointer (some ⟨w.heap.size+2,0,none⟩),.pointer (some ⟨w.heap.size+1,0,none⟩),.pointer (some ⟨w.heap.size+3,0,none⟩)])) ((((w.alloc (.cells #[bp A.e] 39)).alloc (.cells #[bp S.t] 96)).alloc (.cells #[bp S.c] 101)).alloc (.cells #[.int .u64 l] 31))):=Aa ⟨P,Q,A,S,_,rfl,C3,⟨w.heap.size,w.heap.size+2,w.heap.size+1,w.heap.size+3,rfl,(((F0.alloc _).alloc _).alloc _),(F2.alloc _),((F1.alloc _).alloc _),F3⟩,M,At.refl A S⟩
 clear M C0 F0 C1 F1 C2 F2 C3 F3
 go_enter Tryz.func146,Tryz.ntmps146
 go_wp2_with fail
 go_ret
 exact HR.out
theorem JK{B:Nat}{w:World}{P Q R:Nat→Prop}{A:EA}{K:EK}{S:SA}{nx:Value}{X:Cx}(h:CX B w P Q R A K S nx X)(l x:Int):
 Calls Tryz.prog 175 #[bp A.e,bp S.t,bp S.c,.int .u64 l,.int .u64 x] w (Ak B w P Q R A K S nx X (some (.claim l x))):=by
 have F0:=An.new' (h) (w.heap.size) (by simp) 39 #[bp A.e]
 have C0:=(h).alloc (.cells #[bp A.e] 39)
 have F1:=An.new' (C0) (w.heap.size+1) (by simp) 96 #[bp S.t]
 have C1:=(C0).alloc (.cells #[bp S.t] 96)
 have F2:=An.new' (C1) (w.heap.size+2) (by simp) 101 #[bp S.c]
 have C2:=(C1).alloc (.cells #[bp S.c] 101)
 have F3:=An.new' (C2) (w.heap.size+3) (by simp) 31 #[.int .u64 l]
 have C3:=(C2).alloc (.cells #[.int .u64 l] 31)
 have F4:=An.new' (C3) (w.heap.size+4) (by simp) 31 #[.int .u64 x]
 have C4:=(C3).alloc (.cells #[.int .u64 x] 31)
 have M:Ag w (((((w.alloc (.cells #[bp A.e] 39)).alloc (.cells #[bp S.t] 96)).alloc (.cells #[bp S.c] 101)).alloc (.cells #[.int .u64 l] 31)).alloc (.cells #[.int .u64 x] 31)) P Q P Q:=Ag.only0 P Q ((((((Ac.refl w).alloc _).alloc _).alloc _).alloc _).alloc _)
 have HR:Hid (Ak B w P Q R A K S nx X (some (.claim l x)) (.returned (.func (.func 199) #[] #[.pointer (some ⟨w.heap.size,0,none⟩),.pointer (some ⟨w.heap.size+3,0,none⟩),.pointer (some ⟨w.heap.size+4,0,none⟩),.pointer (some ⟨w.heap.size+1,0,none⟩),.pointer (some ⟨w.heap.size+2,0,none⟩)])) (((((w.alloc (.cells #[bp A.e] 39)).alloc (.cells #[bp S.t] 96)).alloc (.cells #[bp S.c] 101)).alloc (.cells #[.int .u64 l] 31)).alloc (.cells #[.int .u64 x] 31))):=Aa ⟨P,Q,A,S,_,rfl,C4,⟨w.heap.size,w.heap.size+3,w.heap.size+4,w.heap.size+1,w.heap.size+2,rfl,((((F0.alloc _).alloc _).alloc _).alloc _),(F3.alloc _),F4,(((F1.alloc _).alloc _).alloc _),((F2.alloc _).alloc _)⟩,M,At.refl A S⟩
 clear M C0 F0 C1 F1 C2 F2 C3 F3 C4 F4
 go_enter Tryz.func175,Tryz.ntmps175
 go_wp2_with fail
 go_ret
 exact HR.out
theorem Qu{B:Nat}{w:World}{P Q R:Nat→Prop}{A:EA}{K:EK}{S:SA}{nx:Value}{X:Cx}(h:CX B w P Q R A K S nx X)(l hd:Int):
 Calls Tryz.prog 193 #[bp A.e,bp S.t,bp S.c,.int .u64 l,.int .u64 hd] w (Ak B w P Q R A K S nx X (some (.push1 l hd))):=by
 have F0:=An.new' (h) (w.heap.size) (by simp) 39 #[bp A.e]
 have C0:=(h).alloc (.cells #[bp A.e] 39)
 have F1:=An.new' (C0) (w.heap.size+1) (by simp) 96 #[bp S.t]
 have C1:=(C0).alloc (.cells #[bp S.t] 96)
 have F2:=An.new' (C1) (w.heap.size+2) (by simp) 101 #[bp S.c]
 have C2:=(C1).alloc (.cells #[bp S.c] 101)
 have F3:=An.new' (C2) (w.heap.size+3) (by simp) 31 #[.int .u64 l]
 have C3:=(C2).alloc (.cells #[.int .u64 l] 31)
 have F4:=An.new' (C3) (w.heap.size+4) (by simp) 31 #[.int .u64 hd]
 have C4:=(C3).alloc (.cells #[.int .u64 hd] 31)
 have M:Ag w (((((w.alloc (.cells #[bp A.e] 39)).alloc (.cells #[bp S.t] 96)).alloc (.cells #[bp S.c] 101)).alloc (.cells #[.int .u64 l] 31)).alloc (.cells #[.int .u64 hd] 31)) P Q P Q:=Ag.only0 P Q ((((((Ac.refl w).alloc _).alloc _).alloc _).alloc _).alloc _)
 have HR:Hid (Ak B w P Q R A K S nx X (some (.push1 l hd)) (.returned (.func (.func 220) #[] #[.pointer (some ⟨w.heap.size,0,none⟩),.pointer (some ⟨w.heap.size+3,0,none⟩),.pointer (some ⟨w.heap.size+4,0,none⟩),.pointer (some ⟨w.heap.size+2,0,none⟩),.pointer (some ⟨w.heap.size+1,0,none⟩)])) (((((w.alloc (.cells #[bp A.e] 39)).alloc (.cells #[bp S.t] 96)).alloc (.cells #[bp S.c] 101)).alloc (.cells #[.int .u64 l] 31)).alloc (.cells #[.int .u64 hd] 31))):=Aa ⟨P,Q,A,S,_,rfl,C4,⟨w.heap.size,w.heap.size+3,w.heap.size+4,w.heap.size+2,w.heap.size+1,rfl,((((F0.alloc _).alloc _).alloc _).alloc _),(F3.alloc _),F4,((F2.alloc _).alloc _),(((F1.alloc _).alloc _).alloc _)⟩,M,At.refl A S⟩
 clear M C0 F0 C1 F1 C2 F2 C3 F3 C4 F4
 go_enter Tryz.func193,Tryz.ntmps193
 go_wp2_with fail
 go_ret
 exact HR.out
theorem LO{B:Nat}{w:World}{P Q R:Nat→Prop}{A:EA}{K:EK}{S:SA}{nx:Value}{X:Cx}(h:CX B w P Q R A K S nx X)(l:Int):
 Calls Tryz.prog 194 #[bp A.e,bp S.t,bp S.c,.pointer (some (DP (S.x X.key))),.int .u64 l] w (Ak B w P Q R A K S nx X (some (.over1 l))):=by
 have F0:=An.new' (h) (w.heap.size) (by simp) 39 #[bp A.e]
 have C0:=(h).alloc (.cells #[bp A.e] 39)
 have F1:=An.new' (C0) (w.heap.size+1) (by simp) 96 #[bp S.t]
 have C1:=(C0).alloc (.cells #[bp S.t] 96)
 have F2:=An.new' (C1) (w.heap.size+2) (by simp) 101 #[bp S.c]
 have C2:=(C1).alloc (.cells #[bp S.c] 101)
 have F3:=An.new' (C2) (w.heap.size+3) (by simp) 248 #[.pointer (some (DP (S.x X.key)))]
 have C3:=(C2).alloc (.cells #[.pointer (some (DP (S.x X.key)))] 248)
 have F4:=An.new' (C3) (w.heap.size+4) (by simp) 31 #[.int .u64 l]
 have C4:=(C3).alloc (.cells #[.int .u64 l] 31)
 have M:Ag w (((((w.alloc (.cells #[bp A.e] 39)).alloc (.cells #[bp S.t] 96)).alloc (.cells #[bp S.c] 101)).alloc (.cells #[.pointer (some (DP (S.x X.key)))] 248)).alloc (.cells #[.int .u64 l] 31)) P Q P Q:=Ag.only0 P Q ((((((Ac.refl w).alloc _).alloc _).alloc _).alloc _).alloc _)
 have HR:Hid (Ak B w P Q R A K S nx X (some (.over1 l)) (.returned (.func (.func 222) #[] #[.pointer (some ⟨w.heap.size,0,none⟩),.pointer (some ⟨w.heap.size+2,0,none⟩),.pointer (some ⟨w.heap.size+4,0,none⟩),.pointer (some ⟨w.heap.size+1,0,none⟩),.pointer (some ⟨w.heap.size+3,0,none⟩)])) (((((w.alloc (.cells #[bp A.e] 39)).alloc (.cells #[bp S.t] 96)).alloc (.cells #[bp S.c] 101)).alloc (.cells #[.pointer (some (DP (S.x X.key)))] 248)).alloc (.cells #[.int .u64 l] 31))):=Aa ⟨P,Q,A,S,_,rfl,C4,⟨w.heap.size,w.heap.size+2,w.heap.size+4,w.heap.size+1,w.heap.size+3,rfl,((((F0.alloc _).alloc _).alloc _).alloc _),((F2.alloc _).alloc _),F4,(((F1.alloc _).alloc _).alloc _),(F3.alloc _)⟩,M,At.refl A S⟩
 clear M C0 F0 C1 F1 C2 F2 C3 F3 C4 F4
 go_enter Tryz.func194,Tryz.ntmps194
 go_wp2_with fail
 go_ret
 exact HR.out
theorem Dr{B:Nat}{w:World}{P Q R:Nat→Prop}{A:EA}{K:EK}{S:SA}{nx:Value}{X:Cx}(h:CX B w P Q R A K S nx X)(er re:Int):
 Calls Tryz.prog 107 #[bp A.e,bp S.t,bp S.c,er,re] w (Ak B w P Q R A K S nx X (some (.abort er re))):=by
 have F0:=An.new' (h) (w.heap.size) (by simp) 39 #[bp A.e]
 have C0:=(h).alloc (.cells #[bp A.e] 39)
 have F1:=An.new' (C0) (w.heap.size+1) (by simp) 96 #[bp S.t]
 have C1:=(C0).alloc (.cells #[bp S.t] 96)
 have F2:=An.new' (C1) (w.heap.size+2) (by simp) 101 #[bp S.c]
 have C2:=(C1).alloc (.cells #[bp S.c] 101)
 have F3:=An.new' (C2) (w.heap.size+3) (by simp) 50 #[er]
 have C3:=(C2).alloc (.cells #[er] 50)
 have F4:=An.new' (C3) (w.heap.size+4) (by simp) 3 #[re]
 have C4:=(C3).alloc (.cells #[re] 3)
 have M:Ag w (((((w.alloc (.cells #[bp A.e] 39)).alloc (.cells #[bp S.t] 96)).alloc (.cells #[bp S.c] 101)).alloc (.cells #[er] 50)).alloc (.cells #[re] 3)) P Q P Q:=Ag.only0 P Q ((((((Ac.refl w).alloc _).alloc _).alloc _).alloc _).alloc _)
 have HR:Hid (Ak B w P Q R A K S nx X (some (.abort er re)) (.returned (.func (.func 139) #[] #[.pointer (some ⟨w.heap.size,0,none⟩),.pointer (some ⟨w.heap.size+1,0,none⟩),.pointer (some ⟨w.heap.size+4,0,none⟩),.pointer (some ⟨w.heap.size+2,0,none⟩),.pointer (some ⟨w.heap.size+3,0,none⟩)])) (((((w.alloc (.cells #[bp A.e] 39)).alloc (.cells #[bp S.t] 96)).alloc (.cells #[bp S.c] 101)).alloc (.cells #[er] 50)).alloc (.cells #[re] 3))):=Aa ⟨P,Q,A,S,_,rfl,C4,⟨w.heap.size,w.heap.size+1,w.heap.size+4,w.heap.size+2,w.heap.size+3,rfl,((((F0.alloc _).alloc _).alloc _).alloc _),(((F1.alloc _).alloc _).alloc _),F4,((F2.alloc _).alloc _),(F3.alloc _)⟩,M,At.refl A S⟩
 clear M C0 F0 C1 F1 C2 F2 C3 F3 C4 F4
 go_enter Tryz.func107,Tryz.ntmps107
 go_wp2_with fail
 go_ret
 exact HR.out
theorem Me{B:Nat}{w:World}{P Q R:Nat→Prop}{A:EA}{K:EK}{S:SA}{nx:Value}{X:Cx}(h:CX B w P Q R A K S nx X):
 Calls Tryz.prog 186 #[bp A.e,bp S.t,bp S.c] w (Ak B w P Q R A K S nx X (some (.commit))):=by
 have F0:=An.new' (h) (w.heap.size) (by simp) 39 #[bp A.e]
 have C0:=(h).alloc (.cells #[bp A.e] 39)
 have F1:=An.new' (C0) (w.heap.size+1) (by simp) 96 #[bp S.t]
 have C1:=(C0).alloc (.cells #[bp S.t] 96)
 have F2:=An.new' (C1) (w.heap.size+2) (by simp) 101 #[bp S.c]
 have C2:=(C1).alloc (.cells #[bp S.c] 101)
 have M:Ag w (((w.alloc (.cells #[bp A.e] 39)).alloc (.cells #[bp S.t] 96)).alloc (.cells #[bp S.c] 101)) P Q P Q:=Ag.only0 P Q ((((Ac.refl w).alloc _).alloc _).alloc _)
 have HR:Hid (Ak B w P Q R A K S nx X (some (.commit)) (.returned (.func (.func 213) #[] #[.pointer (some ⟨w.heap.size,0,none⟩),.pointer (some ⟨w.heap.size+1,0,none⟩),.pointer (some ⟨w.heap.size+2,0,none⟩)])) (((w.alloc (.cells #[bp A.e] 39)).alloc (.cells #[bp S.t] 96)).alloc (.cells #[bp S.c] 101))):=Aa ⟨P,Q,A,S,_,rfl,C2,⟨w.heap.size,w.heap.size+1,w.heap.size+2,rfl,((F0.alloc _).alloc _),(F1.alloc _),F2⟩,M,At.refl A S⟩
 clear M C0 F0 C1 F1 C2 F2
 go_enter Tryz.func186,Tryz.ntmps186
 go_wp2_with fail
 go_ret
 exact HR.out
theorem Lv{B:Nat}{w:World}{P Q R:Nat→Prop}{A:EA}{K:EK}{S:SA}{nx:Value}{X:Cx}(h:CX B w P Q R A K S nx X):
 Calls Tryz.prog 106 #[bp A.e,bp S.t,bp S.c] w (Ak B w P Q R A K S nx X (some (.draw))):=by
 have F0:=An.new' (h) (w.heap.size) (by simp) 39 #[bp A.e]
 have C0:=(h).alloc (.cells #[bp A.e] 39)
 have F1:=An.new' (C0) (w.heap.size+1) (by simp) 96 #[bp S.t]
 have C1:=(C0).alloc (.cells #[bp S.t] 96)
 have F2:=An.new' (C1) (w.heap.size+2) (by simp) 101 #[bp S.c]
 have C2:=(C1).alloc (.cells #[bp S.c] 101)
 have M:Ag w (((w.alloc (.cells #[bp A.e] 39)).alloc (.cells #[bp S.t] 96)).alloc (.cells #[bp S.c] 101)) P Q P Q:=Ag.only0 P Q ((((Ac.refl w).alloc _).alloc _).alloc _)
 have HR:Hid (Ak B w P Q R A K S nx X (some (.draw)) (.returned (.func (.func 134) #[] #[.pointer (some ⟨w.heap.size,0,none⟩),.pointer (some ⟨w.heap.size+1,0,none⟩),.pointer (some ⟨w.heap.size+2,0,none⟩)])) (((w.alloc (.cells #[bp A.e] 39)).alloc (.cells #[bp S.t] 96)).alloc (.cells #[bp S.c] 101))):=Aa ⟨P,Q,A,S,_,rfl,C2,⟨w.heap.size,w.heap.size+1,w.heap.size+2,rfl,((F0.alloc _).alloc _),(F1.alloc _),F2⟩,M,At.refl A S⟩
 clear M C0 F0 C1 F1 C2 F2
 go_enter Tryz.func106,Tryz.ntmps106
 go_wp2_with fail
 go_ret
 exact HR.out
theorem Dv{B:Nat}{w:World}{P Q R:Nat→Prop}{A:EA}{K:EK}{S:SA}{nx:Value}{X:Cx}(h:CX B w P Q R A K S nx X){hu:Nat}{u:Cd}(H:CH w P Q R A S hu u)(l:Int):
 Calls Tryz.prog 233 #[bp hu,.int .u64 l] w (Ak B w P Q R A K S nx X (some (.older u l))):=by
 have F0:=An.new' (h) (w.heap.size) (by simp) 269 #[bp hu]
 have C0:=(h).alloc (.cells #[bp hu] 269)
 have F1:=An.new' (C0) (w.heap.size+1) (by simp) 31 #[.int .u64 l]
 have C1:=(C0).alloc (.cells #[.int .u64 l] 31)
 have M:Ag w ((w.alloc (.cells #[bp hu] 269)).alloc (.cells #[.int .u64 l] 31)) P Q P Q:=Ag.only0 P Q (((Ac.refl w).alloc _).alloc _)
 have HR:Hid (Ak B w P Q R A K S nx X (some (.older u l)) (.returned (.func (.func 256) #[] #[.pointer (some ⟨w.heap.size,0,none⟩),.pointer (some ⟨w.heap.size+1,0,none⟩)])) ((w.alloc (.cells #[bp hu] 269)).alloc (.cells #[.int .u64 l] 31))):=Aa ⟨P,Q,A,S,_,rfl,C1,⟨w.heap.size,w.heap.size+1,rfl,⟨hu,(F0.alloc _),H.mv M (At.refl A S)⟩,F1⟩,M,At.refl A S⟩
 clear M C0 F0 C1 F1
 go_enter Tryz.func233,Tryz.ntmps233
 go_wp2_with fail
 go_ret
 exact HR.out
theorem Ha{B:Nat}{w:World}{P Q R:Nat→Prop}{A:EA}{K:EK}{S:SA}{nx:Value}{X:Cx}(h:CX B w P Q R A K S nx X){hu:Nat}{u:Cd}(H:CH w P Q R A S hu u)(l m:Int):
 Calls Tryz.prog 232 #[bp hu,.int .u64 l,m] w (Ak B w P Q R A K S nx X (some (.ended u l m))):=by
 have F0:=An.new' (h) (w.heap.size) (by simp) 269 #[bp hu]
 have C0:=(h).alloc (.cells #[bp hu] 269)
 have F1:=An.new' (C0) (w.heap.size+1) (by simp) 31 #[.int .u64 l]
 have C1:=(C0).alloc (.cells #[.int .u64 l] 31)
 have F2:=An.new' (C1) (w.heap.size+2) (by simp) 3 #[m]
 have C2:=(C1).alloc (.cells #[m] 3)
 have M:Ag w (((w.alloc (.cells #[bp hu] 269)).alloc (.cells #[.int .u64 l] 31)).alloc (.cells #[m] 3)) P Q P Q:=Ag.only0 P Q ((((Ac.refl w).alloc _).alloc _).alloc _)
 have HR:Hid (Ak B w P Q R A K S nx X (some (.ended u l m)) (.returned (.func (.func 253) #[] #[.pointer (some ⟨w.heap.size,0,none⟩),.pointer (some ⟨w.heap.size+1,0,none⟩),.pointer (some ⟨w.heap.size+2,0,none⟩)])) (((w.alloc (.cells #[bp hu] 269)).alloc (.cells #[.int .u64 l] 31)).alloc (.cells #[m] 3))):=Aa ⟨P,Q,A,S,_,rfl,C2,⟨w.heap.size,w.heap.size+1,w.heap.size+2,rfl,⟨hu,((F0.alloc _).alloc _),H.mv M (At.refl A S)⟩,(F1.alloc _),F2⟩,M,At.refl A S⟩
 clear M C0 F0 C1 F1 C2 F2
 go_enter Tryz.func232,Tryz.ntmps232
 go_wp2_with fail
 go_ret
 exact HR.out
theorem N0{B:Nat}{w:World}{P Q R:Nat→Prop}{A:EA}{K:EK}{S:SA}{nx:Value}{X:Cx}(h:CX B w P Q R A K S nx X){hu:Nat}{u:Cd}(H:CH w P Q R A S hu u)(l m id:Int):
 Calls Tryz.prog 255 #[bp hu,.int .u64 l,m,id] w (Ak B w P Q R A K S nx X (some (.ender u l m id))):=by
 have F0:=An.new' (h) (w.heap.size) (by simp) 269 #[bp hu]
 have C0:=(h).alloc (.cells #[bp hu] 269)
 have F1:=An.new' (C0) (w.heap.size+1) (by simp) 31 #[.int .u64 l]
 have C1:=(C0).alloc (.cells #[.int .u64 l] 31)
 have F2:=An.new' (C1) (w.heap.size+2) (by simp) 3 #[m]
 have C2:=(C1).alloc (.cells #[m] 3)
 have F3:=An.new' (C2) (w.heap.size+3) (by simp) 3 #[id]
 have C3:=(C2).alloc (.cells #[id] 3)
 have M:Ag w ((((w.alloc (.cells #[bp hu] 269)).alloc (.cells #[.int .u64 l] 31)).alloc (.cells #[m] 3)).alloc (.cells #[id] 3)) P Q P Q:=Ag.only0 P Q (((((Ac.refl w).alloc _).alloc _).alloc _).alloc _)
 have HR:Hid (Ak B w P Q R A K S nx X (some (.ender u l m id)) (.returned (.func (.func 273) #[] #[.pointer (some ⟨w.heap.size,0,none⟩),.pointer (some ⟨w.heap.size+3,0,none⟩),.pointer (some ⟨w.heap.size+1,0,none⟩),.pointer (some ⟨w.heap.size+2,0,none⟩)])) ((((w.alloc (.cells #[bp hu] 269)).alloc (.cells #[.int .u64 l] 31)).alloc (.cells #[m] 3)).alloc (.cells #[id] 3))):=Aa ⟨P,Q,A,S,_,rfl,C3,⟨w.heap.size,w.heap.size+3,w.heap.size+1,w.heap.size+2,rfl,⟨hu,(((F0.alloc _).alloc _).alloc _),H.mv M (At.refl A S)⟩,F3,((F1.alloc _).alloc _),(F2.alloc _)⟩,M,At.refl A S⟩
 clear M C0 F0 C1 F1 C2 F2 C3 F3
 go_enter Tryz.func255,Tryz.ntmps255
 go_wp2_with fail
 go_ret
 exact HR.out
end
section
theorem Kq(x:Int)(i:Nat)(hi:i≤63):((BitVec.ofInt 64 x &&& BitVec.ofInt 64 (2^i-1)).toNat:Int)=x%2^i:=by
 have hpos:0<2^i:=Nat.two_pow_pos i
 have hlt:2^i-1<2^64:=Nat.lt_of_lt_of_le (Nat.sub_lt hpos (by decide)) (Nat.pow_le_pow_right (by decide) (by omega))
 have hc:((2:Int)^i-1)=((2^i-1:Nat):Int):=by rw[Int.natCast_sub hpos];simp
 rw[hc,BitVec.toNat_and,BitVec.ofInt_natCast,BitVec.toNat_ofNat,Nat.mod_eq_of_lt hlt,Nat.and_two_pow_sub_one_eq_mod,BitVec.toNat_ofInt]
 have hm:(2:Int)^i ∣ 2^64:=by
  refine⟨2^(64-i),?_⟩
  rw[←Int.pow_add];congr 1;omega
 rw[Int.natCast_emod,Int.toNat_of_nonneg (Int.emod_nonneg _ (by decide))]
 simp only[Int.natCast_pow]
 exact Int.emod_emod_of_dvd x hm
theorem I2(x:Int)(i:Nat)(hi:i≤62):bits .and .i64 x (2^i-1)=x%2^i:=by
 have h:=Kq x i (by omega)
 have h0:0≤x%(2:Int)^i:=Int.emod_nonneg _ (Int.pow_ne_zero (by decide))
 have h1:x%(2:Int)^i<2^i:=Int.emod_lt_of_pos _ (Int.pow_pos (by decide))
 have h2:(2:Int)^i≤2^62:=by exact_mod_cast Nat.pow_le_pow_right (by decide) hi
 show IntKind.i64.wrap ((BitVec.ofInt 64 x &&& BitVec.ofInt 64 (2^i-1)).toNat:Int)=_
 rw[h,IntKind.wrap_i64]
 generalize x%(2:Int)^i=y at *
 omega
theorem ER(x:Int)(i:Nat)(hi:i≤63):bits .and .u64 x (2^i-1)=x%2^i:=by
 have h:=Kq x i (by omega)
 have h0:0≤x%(2:Int)^i:=Int.emod_nonneg _ (Int.pow_ne_zero (by decide))
 have h1:x%(2:Int)^i<2^i:=Int.emod_lt_of_pos _ (Int.pow_pos (by decide))
 have h2:(2:Int)^i≤2^63:=by exact_mod_cast Nat.pow_le_pow_right (by decide) hi
 show IntKind.u64.wrap ((BitVec.ofInt 64 x &&& BitVec.ofInt 64 (2^i-1)).toNat:Int)=_
 rw[h,IntKind.wrap_u64]
 generalize x%(2:Int)^i=y at *
 omega
theorem KH(x:Int):bits .and .i64 x 255=x%256:=I2 x 8 (by decide)
end
section
theorem Ru(k a b:Nat)(hb:b<2^k)(h:2^k*a+b<18446744073709551616):bits .or .u64 ((2^k*a:Nat):Int) (b:Int)=((2^k*a+b:Nat):Int):=by
 show IntKind.u64.wrap (((BitVec.ofInt 64 ((2^k*a:Nat):Int) ||| BitVec.ofInt 64 (b:Int)).toNat:Nat):Int)=_
 rw[BitVec.toNat_or,BitVec.ofInt_natCast,BitVec.ofInt_natCast,BitVec.toNat_ofNat,BitVec.toNat_ofNat,Nat.mod_eq_of_lt (by omega),Nat.mod_eq_of_lt (by omega),←Nat.two_pow_add_eq_or_of_lt hb,IntKind.wrap_u64]
 omega
theorem Ij(k:Nat)(m:Int)(hm:m=((2^k:Nat):Int))(x y:Int)(hx:0≤x)(hy:0≤y)(hb:y<m)(h:x*m+y<18446744073709551616):bits .or .u64 (x*m) y=x*m+y:=by
 subst hm
 have e1:x*((2^k:Nat):Int)=((2^k*x.toNat:Nat):Int):=by
  rw[Int.natCast_mul,Int.toNat_of_nonneg hx,Int.mul_comm]
 have e2:y=(y.toNat:Int):=(Int.toNat_of_nonneg hy).symm
 have h2:2^k*x.toNat+y.toNat<18446744073709551616:=by
  have h4:=h
  rw[e1,e2,←Int.natCast_add]at h4
  exact Int.ofNat_lt.1 (by simpa using h4)
 have h3:y.toNat<2^k:=by
  rw[e2]at hb
  exact Int.ofNat_lt.1 hb
 rw[e1,e2,Ru k _ _ h3 h2,Int.natCast_add,←e2]
theorem UU(x:Int):bits .and .u64 x 7=x%8:=ER x 3 (by decide)
theorem Mv(x:Int):bits .and .u64 x 65535=x%65536:=ER x 16 (by decide)
theorem Ms(x:Int):bits .and .u64 x 131071=x%131072:=ER x 17 (by decide)
end
section
theorem Ah.set1(w:World)(n o:Nat)(v:Value):Ah (fun c=>c=n) w (w.setCell ⟨n,o,none⟩ v):=Ah.setCell (S:=fun c=>c=n) (Ah.refl _ w) (fun _=>rfl) v
theorem Ac.box{w W w9:World}{n0:Nat}(oW:Ac w W)(hn:w.heap.size≤n0)(o9:Ah (fun c=>c=n0) W w9):Ac w w9:=
 ⟨o9.os.trans oW.os,o9.tape.trans oW.tape,o9.output.trans oW.output,Nat.le_trans oW.size o9.size,fun k hk hk'=>by
  rw[o9.block k (Nat.lt_of_lt_of_le hk oW.size) (fun e=>by omega)]
  exact oW.block k hk hk'⟩
theorem EV:(Tryz.prog.info? 195).map (·.size)=some 2:=by kernel_rfl
theorem QG{w:World}{n:Nat}{t:TypeId}{a b:Value}(h:Am w n t #[a,b])(a' b':Value):
 Am ((w.setCell ⟨n,0,none⟩ a').setCell ⟨n,1,none⟩ b') n t #[a',b']∧Ah (fun c=>c=n) w ((w.setCell ⟨n,0,none⟩ a').setCell ⟨n,1,none⟩ b'):=
 ⟨(h.set 0 a').set 1 b',(Ah.set1 w n 0 a').trans (Ah.set1 _ n 1 b')⟩
theorem BI(x:Int)(w:World):Calls Tryz.prog 85 #[.int .u64 x] w fun e w'=>e= .returned (.agg #[.int .i64 (BD x),.int .u64 (Br x)])∧Ac w w':=by
 obtain⟨W,hW⟩:=Ad (w.alloc (.cells #[.int .i64 0,.int .u64 0] 195))
 obtain⟨n0,hn0⟩:=Ad w.heap.size
 have BX:Am W n0 195 #[.int .i64 0,.int .u64 0]:=by rw[hW,hn0];exact Am.new _ _ _
 have HO:=Aa (show Ac w W by rw[hW];exact(Ac.refl w).alloc _)
 have HN:=Aa hn0
 have b0:=Ae W n0 0 (.int .i64 0) (BX.cell 0)
 have b1:=Ae W n0 1 (.int .u64 0) (BX.cell 1)
 have bf:=fun i=>BX.free i
 have HBX:=Aa BX
 clear BX hn0
 rcases(show x≤1099511627776∨(1099511627776<x∧x=2305843009213693952)∨(1099511627776<x∧x≠2305843009213693952∧4611686018427387904<x∧x≤4611686018427453439)∨(1099511627776<x∧x≠2305843009213693952∧4611686018427387904<x∧4611686018427453439<x)∨(1099511627776<x∧x≠2305843009213693952∧x≤4611686018427387904) by omega)with h1|⟨h1,h2⟩|⟨h1,h2,h3,h4⟩|⟨h1,h2,h3,h4⟩|⟨h1,h2,h3⟩
 ·have HK:Hid (BD x=1∧Br x=x):=Aa (by unfold BD Br;constructor<;>(repeat' split)<;>omega)
  go_enter Tryz.func85,Tryz.ntmps85
  go_upto_region 1 with(fail)
  rw[←hW,←HN.out]
  clear hW
  go_wp2_with fail
  have S2:=QG HBX.out (.int .i64 1) (.int .u64 (x))
  rw[HK.out.1,HK.out.2]
  exact bodyPost_ret (v:= .agg #[.int .i64 1,.int .u64 (x)]) (results_cell_row Tryz.results85 _ _ n0 _ _ _ _ rfl S2.1 Tryz.underlying195 rfl EV) rfl ⟨rfl,HO.out.box (by rw[HN.out];exact Nat.le_refl _) S2.2⟩
 ·subst h2
  have HK:Hid (BD 2305843009213693952=3∧Br 2305843009213693952=0):=Aa (by unfold BD Br;constructor<;>(repeat' split)<;>omega)
  go_enter Tryz.func85,Tryz.ntmps85
  go_upto_region 1 with(fail)
  rw[←hW,←HN.out]
  clear hW
  go_wp2_with fail
  have S2:=QG HBX.out (.int .i64 3) (.int .u64 (0))
  rw[HK.out.1,HK.out.2]
  exact bodyPost_ret (v:= .agg #[.int .i64 3,.int .u64 (0)]) (results_cell_row Tryz.results85 _ _ n0 _ _ _ _ rfl S2.1 Tryz.underlying195 rfl EV) rfl ⟨rfl,HO.out.box (by rw[HN.out];exact Nat.le_refl _) S2.2⟩
 ·have b2:(x==2305843009213693952)=false:=by simpa using h2
  have e:IntKind.u64.wrap (x-4611686018427387904)=x-4611686018427387904:=by rw[IntKind.wrap_u64];omega
  have HK:Hid (BD x=2∧Br x=x-4611686018427387904):=Aa (by unfold BD Br;constructor<;>(repeat' split)<;>omega)
  go_enter Tryz.func85,Tryz.ntmps85
  go_upto_region 1 with(fail)
  rw[←hW,←HN.out]
  clear hW
  go_wp2_with fail
  have S2:=QG HBX.out (.int .i64 2) (.int .u64 (x-4611686018427387904))
  rw[HK.out.1,HK.out.2]
  exact bodyPost_ret (v:= .agg #[.int .i64 2,.int .u64 (x-4611686018427387904)]) (results_cell_row Tryz.results85 _ _ n0 _ _ _ _ rfl S2.1 Tryz.underlying195 rfl EV) rfl ⟨rfl,HO.out.box (by rw[HN.out];exact Nat.le_refl _) S2.2⟩
 ·exact TH
 ·exact TH
theorem LU(t:Int)(w:World)(h:t≤1099511627776):Calls Tryz.prog 214 #[.int .u64 t] w fun e w'=>e= .returned (.tuple #[.int .u64 t,.bool true])∧w=w':=by
 go_enter Tryz.func214,Tryz.ntmps214
 go_wp2_with fail
 go_ret2;exact⟨rfl,rfl⟩
theorem OE(id:Int)(w:World)(h1:1≤id)(h2:id≤65535):Calls Tryz.prog 167 #[id] w fun e w'=>e= .returned (.tuple #[.int .u64 (BA id),.bool true])∧w=w':=by
 have HM:Hid (BA id=4611686018427387904+id):=Aa (by unfold BA;rw[if_pos ⟨h1,h2⟩])
 have e1:IntKind.u64.wrap (4611686018427387904+id)=4611686018427387904+id:=by rw[IntKind.wrap_u64];omega
 have e2:IntKind.u64.wrap id=id:=by rw[IntKind.wrap_u64];omega
 go_enter Tryz.func167,Tryz.ntmps167
 go_wp2_with fail
 rw[HM.out]
 go_ret2;exact⟨rfl,rfl⟩
theorem Dw(w:World):Calls Tryz.prog 142 #[] w fun e w'=>e= .returned (.int .u64 Bj)∧w=w':=by
 go_enter Tryz.func142,Tryz.ntmps142
 go_wp2_with fail
 go_ret;exact⟨rfl,rfl⟩
theorem DL(x:Int)(w:World)(h0:0≤x):Calls Tryz.prog 84 #[.int .u64 x] w fun e w'=>(∃(t:Int) (m:Bool),e= .returned (.tuple #[.int .i64 (A5 x),.int .i64 t,.bool m]))∧w=w':=by
 unfold A5
 have a1:=Ms x
 have r0:0≤x%131072:=by omega
 have r1:x%131072≤131071:=by omega
 generalize x%131072=y at *
 have e1:IntKind.i64.wrap y=y:=by rw[IntKind.wrap_i64];omega
 have e2:IntKind.i64.wrap (y-1)=y-1:=by rw[IntKind.wrap_i64];omega
 go_enter Tryz.func84,Tryz.ntmps84
 go_wp2_with fail
 go_ret3;exact⟨⟨_,_,rfl⟩,rfl⟩
theorem ML(i t:Int)(w:World)(hi:0≤i)(hi':i≤65535)(ht:0≤t)(ht':t≤65535):Calls Tryz.prog 177 #[i,t] w fun e w'=>e= .returned (.tuple #[.int .u64 (Gf i t),.bool true])∧w=w':=by
 have HM:Hid (Gf i t=t*131072+(i+1)):=Aa (by unfold Gf;rw[if_neg (by omega)])
 have e1:bits .or .u64 (t*131072) (i+1)=t*131072+(i+1):=Ij 17 131072 (by decide) _ _ ht (by omega) (by omega) (by omega)
 have e2:IntKind.u64.wrap t=t:=by rw[IntKind.wrap_u64];omega
 have e3:IntKind.u64.wrap (t*131072)=t*131072:=by rw[IntKind.wrap_u64];omega
 have e4:IntKind.i64.wrap (i+1)=i+1:=by rw[IntKind.wrap_i64];omega
 have e5:IntKind.u64.wrap (i+1)=i+1:=by rw[IntKind.wrap_u64];omega
 go_enter Tryz.func177,Tryz.ntmps177
 go_wp2_with fail
 rw[HM.out]
 go_ret2;exact⟨rfl,rfl⟩
theorem Bb(x k:Int)(w:World)(h0:0≤x)(hk:0≤k)(hk':k≤2):Calls Tryz.prog 47 #[.int .u64 x,k] w fun e w'=>e= .returned (.int .i64 (Al x k))∧w=w':=by
 have C:=DL x w h0
 have HM:Hid (Al x k=73+A5 x*3+k):=Aa rfl
 have i0: -1≤A5 x:=by unfold A5;omega
 have i1:A5 x≤131071:=by unfold A5;omega
 generalize A5 x=y at *
 have e1:IntKind.i64.wrap (y*3)=y*3:=by rw[IntKind.wrap_i64];omega
 have e2:IntKind.i64.wrap (73+y*3)=73+y*3:=by rw[IntKind.wrap_i64];omega
 have e3:IntKind.i64.wrap (73+y*3+k)=73+y*3+k:=by rw[IntKind.wrap_i64];omega
 go_enter Tryz.func47,Tryz.ntmps47
 go_wp2_with fail
 refine C.mono ?_
 rintro e w1 ⟨⟨t,m,rfl⟩,rfl⟩
 clear C
 go_wp2_with fail
 rw[HM.out]
 go_ret;exact⟨rfl,rfl⟩
theorem EO(x:Int)(w:World)(h0:0≤x)(h1:x<18446744073709551616):Calls Tryz.prog 68 #[.int .u64 x] w fun e w'=>e= .returned (.tuple #[.int .u64 (x/65536),.int .i64 (x%65536)])∧w=w':=by
 have a1:=Mv x
 have r0:0≤x%65536:=by omega
 have r1:x%65536≤65535:=by omega
 have d0:0≤x/65536:=by omega
 have d1:x/65536<18446744073709551616:=by omega
 have e1:IntKind.i64.wrap (x%65536)=x%65536:=by rw[IntKind.wrap_i64];omega
 have e2:IntKind.u64.wrap (x/65536)=x/65536:=by rw[IntKind.wrap_u64];omega
 go_enter Tryz.func68,Tryz.ntmps68
 go_wp2_with fail
 go_ret2;exact⟨rfl,rfl⟩
theorem Dn(x:Int)(w:World)(h0:0≤x)(h1:x<18446744073709551616):Calls Tryz.prog 86 #[.int .u64 x] w fun e w'=>e= .returned (.tuple #[.int .i64 (x%8),.int .u64 (x/8)])∧w=w':=by
 have a1:=UU x
 have r0:0≤x%8:=by omega
 have r1:x%8≤7:=by omega
 have d0:0≤x/8:=by omega
 have d1:x/8<18446744073709551616:=by omega
 have e1:IntKind.i64.wrap (x%8)=x%8:=by rw[IntKind.wrap_i64];omega
 have e2:IntKind.u64.wrap (x/8)=x/8:=by rw[IntKind.wrap_u64];omega
 go_enter Tryz.func86,Tryz.ntmps86
 go_wp2_with fail
 go_ret2;exact⟨rfl,rfl⟩
theorem EW(s f:Int)(w:World)(s0:0≤s)(s1:s≤7)(f0:0≤f)(f1:f<2305843009213693952):Calls Tryz.prog 76 #[s,.int .u64 f] w fun e w'=>e= .returned (.int .u64 (Bc s f))∧w=w':=by
 have HM:Hid (Bc s f=f*8+s):=Aa rfl
 have e1:bits .or .u64 (f*8) s=f*8+s:=Ij 3 8 (by decide) _ _ f0 s0 (by omega) (by omega)
 have e2:IntKind.u64.wrap (f*8)=f*8:=by rw[IntKind.wrap_u64];omega
 have e3:IntKind.u64.wrap s=s:=by rw[IntKind.wrap_u64];omega
 go_enter Tryz.func76,Tryz.ntmps76
 go_wp2_with fail
 rw[HM.out]
 go_ret;exact⟨rfl,rfl⟩
theorem Hi(t id:Int)(w:World)(s0:0≤id)(s1:id≤65535)(f0:0≤t)(f1:t<281474976710656):Calls Tryz.prog 73 #[.int .u64 t,id] w fun e w'=>e= .returned (.int .u64 (Bp t id))∧w=w':=by
 have HM:Hid (Bp t id=t*65536+id):=Aa rfl
 have e1:bits .or .u64 (t*65536) id=t*65536+id:=Ij 16 65536 (by decide) _ _ f0 s0 (by omega) (by omega)
 have e2:IntKind.u64.wrap (t*65536)=t*65536:=by rw[IntKind.wrap_u64];omega
 have e3:IntKind.u64.wrap id=id:=by rw[IntKind.wrap_u64];omega
 go_enter Tryz.func73,Tryz.ntmps73
 go_wp2_with fail
 rw[HM.out]
 go_ret;exact⟨rfl,rfl⟩
end
section
def EC(S:SA)(X:Cx)(r:Dt)(pa:Option Addr)(pc:Nat):Prop:=(r.pairs=[]∧pa=none∧pc=0)∨(pa=S.qa∧pc=S.qc∧r.pairs=X.c.r.pairs)
theorem EC.nil(S:SA)(X:Cx)(e v o re:Int):EC S X ⟨e,v,[],o,re⟩ none 0:= .inl ⟨rfl,rfl,rfl⟩
theorem Hz{B:Nat}{w:World}{P Q R:Nat→Prop}{A:EA}{K:EK}{S:SA}{nx:Value}{X:Cx}(h:CX B w P Q R A K S nx X)(r:Dt)(pa:Option Addr)(pc:Nat)(hr:EC S X r pa pc):
 Calls Tryz.prog 128 #[bp A.e,bp S.c,I0 r pa pc] w fun e w'=>Ak B w P Q R A K S nx X (some (.ends r)) e w'∧Ac w w':=by
 have F0:=An.new' h w.heap.size (by simp) 39 #[bp A.e]
 have C0:=h.alloc (.cells #[bp A.e] 39)
 have F1:=An.new' C0 (w.heap.size+1) (by simp) 101 #[bp S.c]
 have C1:=C0.alloc (.cells #[bp S.c] 101)
 have F2:=An.new' C1 (w.heap.size+2) (by simp) 64 (Gi r pa pc).toArray
 have C2:=C1.alloc (.cells (Gi r pa pc).toArray 64)
 have M:Ag w (((w.alloc (.cells #[bp A.e] 39)).alloc (.cells #[bp S.c] 101)).alloc (.cells (Gi r pa pc).toArray 64)) P Q P Q:=Ag.only0 P Q ((((Ac.refl w).alloc _).alloc _).alloc _)
 have HR:Hid (Ak B w P Q R A K S nx X (some (.ends r)) (.returned (.func (.func 159) #[] #[.pointer (some ⟨w.heap.size,0,none⟩),.pointer (some ⟨w.heap.size+1,0,none⟩),.pointer (some ⟨w.heap.size+2,0,none⟩)])) (((w.alloc (.cells #[bp A.e] 39)).alloc (.cells #[bp S.c] 101)).alloc (.cells (Gi r pa pc).toArray 64))):=
  Aa ⟨P,Q,A,S,_,rfl,C2,⟨w.heap.size,w.heap.size+1,w.heap.size+2,rfl,(F0.alloc _).alloc _,F1.alloc _,⟨pa,pc,F2,hr⟩⟩,M,At.refl A S⟩
 clear M F0 F1 F2 C0 C1 C2
 unfold I0
 go_enter Tryz.func128,Tryz.ntmps128
 go_wp2_with fail
 go_ret
 exact⟨HR.out,(((Ac.refl w).alloc _).alloc _).alloc _⟩
theorem QD{B:Nat}{w:World}{P Q R:Nat→Prop}{A:EA}{K:EK}{S:SA}{nx:Value}{X:Cx}(h:CX B w P Q R A K S nx X)(r:Dt)(pa:Option Addr)(pc:Nat)(hr:EC S X r pa pc):
 Calls Tryz.prog 128 #[bp A.e,bp S.c,I0 r pa pc] w (Ak B w P Q R A K S nx X (some (.ends r))):=(Hz h r pa pc hr).mono (fun _ _ h=>h.1)
theorem Cg{B:Nat}{w:World}{P Q R:Nat→Prop}{A:EA}{K:EK}{S:SA}{nx:Value}{X:Cx}(h:CX B w P Q R A K S nx X)(e v o re:Int):
 Calls Tryz.prog 128 #[bp A.e,bp S.c,.agg #[e,v,.slice none 0 0,o,re]] w (Ak B w P Q R A K S nx X (some (.ends ⟨e,v,[],o,re⟩))):=
 QD h ⟨e,v,[],o,re⟩ none 0 (EC.nil S X e v o re)
theorem Sv{w:World}{n o:Nat}{t:TypeId}{cs cs':Array Value}(h:Am w n t cs)(a b c d e:Value)(hc:((((cs.setIfInBounds o a).setIfInBounds (o+1) b).setIfInBounds (o+2) c).setIfInBounds (o+3) d).setIfInBounds (o+4) e=cs'):
 Am (((((w.setCell ⟨n,o,none⟩ a).setCell ⟨n,o+1,none⟩ b).setCell ⟨n,o+2,none⟩ c).setCell ⟨n,o+3,none⟩ d).setCell ⟨n,o+4,none⟩ e) n t cs'∧Ah (fun c=>c=n) w (((((w.setCell ⟨n,o,none⟩ a).setCell ⟨n,o+1,none⟩ b).setCell ⟨n,o+2,none⟩ c).setCell ⟨n,o+3,none⟩ d).setCell ⟨n,o+4,none⟩ e):=
 ⟨hc▸((((h.set o a).set (o+1) b).set (o+2) c).set (o+3) d).set (o+4) e,((((Ah.set1 w n o a).trans (Ah.set1 _ n (o+1) b)).trans (Ah.set1 _ n (o+2) c)).trans (Ah.set1 _ n (o+3) d)).trans (Ah.set1 _ n (o+4) e)⟩
section
variable {B:Nat} {w w':World} {P Q R:Nat→Prop} {A:EA} {K:EK} {S:SA} {nx:Value} {X:Cx}
theorem CX.small{S':Nat→Prop}(h:CX B w P Q R A K S nx X)(o:Ah S' w w')(hs:∀b,S' b→P b∨Q b):Ag w w' P Q P Q:=⟨o.mono (fun k _ hk=>hs k hk),AC.refl _ _,AC.refl _ _⟩
theorem CX.finish(h:CX B w P Q R A K S nx X)(r:Dt)(pa:Option Addr)(pc:Nat)(hr:EC S X r pa pc){w':World}(o:Ah (fun b=>b=S.c) w w')
 (hb:Am w' S.c 127 (BW {S with qa:=pa,qc:=pc} {X.c with r:=r,over:=true} nx)):
 CX B w' P Q R A K {S with qa:=pa,qc:=pc} nx (X.finish r)∧Ag w w' P Q P Q:=by
 have m:Ag w w' P Q P Q:=h.small o (fun b hb=> .inr (by rw[hb];exact h.cl.qc))
 have t:Aw [127] w w':=Aw.of o h.cl.blk
 refine⟨h.call m t (fun t ht=>by simp at ht;exact .inl ht) hb ?_ ?_ (fun _ h=>h) h.ap (h.uQ.mono o.size) h.aQ,m⟩
 ·rcases hr with⟨h1,rfl,rfl⟩|⟨rfl,rfl,h1⟩
  ·show w'.ownsRow B _ 2 (.slice none r.pairs.length 0) r.pairs.length (AJ r.pairs)
   rw[h1];exact World.ownsRow_nil _ _ _ _
  ·show w'.ownsRow B _ 2 (.slice S.qa r.pairs.length S.qc) r.pairs.length (AJ r.pairs)
   rw[h1];exact AO h.cl.prs t (by decide)
 ·intro b hb'
  rcases hr with⟨h1,rfl,rfl⟩|⟨rfl,rfl,h1⟩
  ·exact absurd hb' (Ce _ _ _)
  ·refine h.cl.qp b ?_
   rw[←h1];exact hb'
end
theorem IY{B:Nat}{w:World}{P Q R:Nat→Prop}{A:EA}{K:EK}{S:SA}{nx:Value}{X:Cx}(h:CX B w P Q R A K S nx X)(r:Dt)(pa:Option Addr)(pc:Nat)(hr:EC S X r pa pc):
 Calls Tryz.prog 160 #[bp A.e,bp S.c,I0 r pa pc] w (Ak B w P Q R A K S nx (X.finish r) none):=by
 obtain⟨W,hW⟩:=Ad (w.alloc (.cells (Gi r pa pc).toArray 64))
 obtain⟨n0,hn0⟩:=Ad w.heap.size
 have oW:Ac w W:=by rw[hW];exact(Ac.refl w).alloc _
 have hC:=h.only0 oW
 have BX:Am W n0 64 (Gi r pa pc).toArray:=by rw[hW,hn0];exact Am.new _ _ _
 have b0:=Ae W n0 0 (.int .i64 r.e) (BX.cell 0)
 have b1:=Ae W n0 1 (.int .i64 r.value) (BX.cell 1)
 have b2:=Ae W n0 2 (.slice pa r.pairs.length pc) (BX.cell 2)
 have b3:=Ae W n0 3 (.int .i64 r.over) (BX.cell 3)
 have b4:=Ae W n0 4 (.int .i64 r.reason) (BX.cell 4)
 have BC:=hC.cl.blk
 have c5:=Ae W S.c 5 (.int .i64 X.c.r.e) (BC.cell 5)
 have c6:=Ae W S.c 6 (.int .i64 X.c.r.value) (BC.cell 6)
 have c7:=Ae W S.c 7 (.slice S.qa X.c.r.pairs.length S.qc) (BC.cell 7)
 have c8:=Ae W S.c 8 (.int .i64 X.c.r.over) (BC.cell 8)
 have c9:=Ae W S.c 9 (.int .i64 X.c.r.reason) (BC.cell 9)
 have c11:=Ae W S.c 11 (.bool X.c.over) (BC.cell 11)
 have bf:=fun i=>BC.free i
 have S5:=Sv BC (.int .i64 r.e) (.int .i64 r.value) (.slice pa r.pairs.length pc) (.int .i64 r.over) (.int .i64 r.reason) (o:=5) (cs':=BW {S with qa:=pa,qc:=pc} {X.c with r:=r} nx) rfl
 have S6:=S5.1.set 11 (.bool true)
 have O6:=S5.2.trans (Ah.set1 _ S.c 11 (.bool true))
 have HF:=Aa (hC.finish r pa pc hr O6 S6)
 have HR:=Aa (show Ak B w P Q R A K S nx (X.finish r) none (.returned .nilFunc) _ from⟨P,Q,A,_,_,rfl,HF.out.1,rfl,(Ag.only0 P Q oW).trans HF.out.2,⟨rfl,rfl,rfl,rfl,rfl⟩⟩)
 have HN:=Aa hn0
 clear BX BC S5 S6 O6 HF hn0 h hC oW
 unfold I0
 go_enter Tryz.func160,Tryz.ntmps160
 go_upto_region 1 with(fail)
 rw[show w.alloc (.cells #[Value.int .i64 r.e,r.value,.slice pa r.pairs.length pc,r.over,r.reason] 64)=W from hW.symm,←HN.out]
 clear hW
 go_wp2_with fail
 go_ret
 exact HR.out
end
section
section
variable {B:Nat} {w:World} {P Q R:Nat→Prop} {A:EA} {K:EK} {S:SA} {nx:Value} {X:Cx}
theorem Bw(h:CX B w P Q R A K S nx X)(i:Int):
 Calls Tryz.prog 70 #[bp A.a,i] w fun e w'=>e= .returned (.int .u64 (X.sh.a.load i))∧CX B w' P Q R A K S nx (X.setA (X.sh.a.tick i))∧Ag w w' P Q P Q:=
 (Hh h.sh.ar i).mono (fun e w' hw=>⟨hw.1,h.arena hw.2.1 hw.2.2⟩)
theorem CY(h:CX B w P Q R A K S nx X)(i v:Int):
 Calls Tryz.prog 74 #[bp A.a,i,.int .u64 v] w fun e w'=>e= .returned (.tuple #[])∧CX B w' P Q R A K S nx (X.setA (X.sh.a.store i v))∧Ag w w' P Q P Q:=
 (GJ h.sh.ar i v).mono (fun e w' hw=>⟨hw.1,h.arena hw.2.1 hw.2.2⟩)
theorem Gr(h:CX B w P Q R A K S nx X)(i old new:Int):
 Calls Tryz.prog 72 #[bp A.a,i,.int .u64 old,.int .u64 new] w fun e w'=>e= .returned (.bool (X.sh.a.casOk i old))∧CX B w' P Q R A K S nx (X.setA (X.sh.a.cas i old new))∧Ag w w' P Q P Q:=
 (IX h.sh.ar i old new).mono (fun e w' hw=>⟨hw.1,h.arena hw.2.1 hw.2.2⟩)
theorem CX.drew(h:CX B w P Q R A K S nx X):CX B w.drew P Q R A K S nx X:=h.only0 ((Ac.refl w).drew)
theorem Ak.comp{w1:World}{P1 Q1:Nat→Prop}{A1:EA}{S1:SA}{X':Cx}{o:Option Da}{e:Ending}{w':World}(r:Ak B w1 P1 Q1 R A1 K S1 nx X' o e w')(m:Ag w w1 P Q P1 Q1)(k:At A A1 S S1):Ak B w P Q R A K S nx X' o e w':=by
 obtain⟨P',Q',A',S',v,h1,h2,h3,h4,h5⟩:=r
 exact⟨P',Q',A',S',v,h1,h2,h3,m.trans h4,k.trans h5⟩
theorem Ak.ret{X':Cx}{o:Option Da}{e:Ending}{w':World}(r:Ak B w P Q R A K S nx X' o e w'):∃v,e= .returned v:=by obtain⟨P',Q',A',S',v,h1,_⟩:=r;exact⟨v,h1⟩
theorem CX.ca(h:CX B w P Q R A K S nx X):w.cell? ⟨A.e,2,none⟩=some (bp A.a):=h.sh.eng.cell 2
theorem CX.cn(h:CX B w P Q R A K S nx X):w.cell? ⟨A.e,0,none⟩=some (.int .i64 X.sh.slots):=h.sh.eng.cell 0
end
theorem BS(e:Nat)(n id:Int)(w:World)(hc:w.cell? ⟨e,0,none⟩=some (.int .i64 n))(n0:0≤n)(n1:n≤256)(i0:0≤id)(i1:id≤65535):
 Calls Tryz.prog 75 #[bp e,id] w fun ed w'=>ed= .returned (.int .i64 (73+n*3+id))∧w=w':=by
 have e1:IntKind.i64.wrap (n*3)=n*3:=by rw[IntKind.wrap_i64];omega
 have e2:IntKind.i64.wrap (73+n*3)=73+n*3:=by rw[IntKind.wrap_i64];omega
 have e3:IntKind.i64.wrap (73+n*3+id)=73+n*3+id:=by rw[IntKind.wrap_i64];omega
 go_enter Tryz.func75,Tryz.ntmps75
 go_wp2_with fail
 go_ret
 exact⟨rfl,rfl⟩
theorem GY(t:Nat)(id:Int)(w:World)(hc:w.cell? ⟨t,0,none⟩=some (.int .i64 id))(i0:1≤id)(i1:id≤65535):
 Calls Tryz.prog 141 #[bp t] w fun ed w'=>ed= .returned (.int .u64 (BA id))∧w=w':=by
 have C:=OE id w i0 i1
 go_enter Tryz.func141,Tryz.ntmps141
 go_wp2_with fail
 refine C.mono ?_
 rintro e w1 ⟨rfl,rfl⟩
 clear C
 go_wp2_with fail
 go_ret
 exact⟨rfl,rfl⟩
end
section
attribute [local go_sem ↓] Go.wp_at_zero Go.wp_at_succ
theorem Jl:(Tryz.prog.info? 153).map (fun i=>(i.zero,i.size,i.bytes))=some (some (.agg #[.int .i64 0,.int .i64 0,.int .u64 0,.int .i64 0,.int .i64 0,.int .i64 0,.int .i64 0,.int .i64 0,.int .i64 0,.slice none 0 0,.int .i64 0,.int .i64 0]),12,112):=by kernel_rfl
theorem Nh(l:List Ev)(pa:Nat→Option Addr)(pc:Nat→Nat):(Dm l pa pc).length=l.length*12:=BF (fun i=>PO _ _ _) _
theorem FO(l:List Ev)(v:Ev)(pa:Nat→Option Addr)(pc:Nat→Nat)(a:Option Addr)(c:Nat):Dm (l++[v]) (AT pa l.length a) (AT pc l.length c)=Dm l pa pc++EQ v a c:=by
 unfold Dm
 rw[List.length_append,List.length_singleton,Dp]
 congr 1
 ·refine Df _ (fun i hi=>?_)
  rw[Ap _ _ _ (by omega),Ap _ _ _ (by omega)]
  congr 1
  exact ST
 ·rw[Au,Au]
  congr 1
  exact TI
section
variable {B:Nat} {w w':World} {P Q R:Nat→Prop} {A:EA} {K:EK} {S:SA} {nx:Value} {X:Cx}
theorem Ah.grownRow{w w1:World}{v:Value}(hg:w.grownBy w1 v.ownBlock):Ah (AA v) w w1:=⟨hg.os,hg.tape,hg.output,hg.size,fun b hb hn=>hg.block b hb (fun e=>hn e.symm)⟩
theorem CX.evd(h:CX B w P Q R A K S nx X)(v:Ev)(pa:Option Addr)(pc:Nat)(hp:AU w P Q R pa v.res.pairs){gg cap:Nat}{w1:World}
 (hown:w1.ownsRow B 153 12 (.slice (some ⟨gg,0,none⟩) (X.sh.tale.length+1) cap) (X.sh.tale.length+1) (Dm X.sh.tale A.pa A.pc++EQ v pa pc)) (hg:w.grownBy w1 (Value.slice A.ta X.sh.tale.length A.tc).ownBlock)
 (hat:(Value.slice A.ta X.sh.tale.length A.tc).ownBlock=some gg∨w.heap.size≤gg) (hlt:gg<w1.heap.size):
 ∃P' A',CX B (w1.setCell ⟨A.e,24,none⟩ (.slice (some ⟨gg,0,none⟩) (X.sh.tale.length+1) cap)) P' Q R A' K S nx (X.ev v)∧Ag w (w1.setCell ⟨A.e,24,none⟩ (.slice (some ⟨gg,0,none⟩) (X.sh.tale.length+1) cap)) P Q P' Q∧At A A' S S∧A'.fa=A.fa:=by
 have o1:=Ah.grownRow hg
 have t1:Aw [153] w w1:=Aw.row h.sh.tale o1
 have be:=h.sh.eng.ty t1 (by decide)
 have o2:Ah (fun b=>b=A.e) w1 (w1.setCell ⟨A.e,24,none⟩ (.slice (some ⟨gg,0,none⟩) (X.sh.tale.length+1) cap)):=Ah.setCell (S:=fun b=>b=A.e) (Ah.refl _ w1) (fun _=>rfl) _
 have t2:Aw [107] w1 _:=Aw.of o2 be
 have B2:=be.set 24 (.slice (some ⟨gg,0,none⟩) (X.sh.tale.length+1) cap)
 generalize w1.setCell ⟨A.e,24,none⟩ (.slice (some ⟨gg,0,none⟩) (X.sh.tale.length+1) cap)=w2 at *
 have hgQ:¬Q gg:=by
  intro hq
  rcases hat with e|e
  ·exact h.ap gg (h.sh.pt gg e) hq
  ·have:=h.uQ gg hq;omega
 have gp:AC w.heap.size P (fun b=>P b∨b=gg):=by
  exact TC
 have m:Ag w w2 P Q (fun b=>P b∨b=gg) Q:=by
  refine⟨⟨o2.os.trans o1.os,o2.tape.trans o1.tape,o2.output.trans o1.output,Nat.le_trans o1.size o2.size,fun b hb hn=>?_⟩,gp,AC.refl _ _⟩
  rw[o2.block b (Nat.lt_of_lt_of_le hb o1.size) (fun e=>hn (.inl (by rw[e];exact h.sh.pe))),o1.block b hb (fun e=>hn (.inl (h.sh.pt b e)))]
 have hsz:=Nat.le_trans o1.size o2.size
 refine⟨fun b=>P b∨b=gg,{A with ta:=some ⟨gg,0,none⟩,tc:=cap,pa:=AT A.pa X.sh.tale.length pa,pc:=AT A.pc X.sh.tale.length pc},⟨⟨?_,?_,?_,?_,?_,.inl h.sh.pe,⟨.inl h.sh.pa.1,.inl h.sh.pa.2⟩,⟨.inl h.sh.pp.1,.inl h.sh.pp.2⟩,fun b hb=> .inl (h.sh.pf b hb),.inl h.sh.pv,fun b hb=> .inr (AE.1 hb)⟩,?_,?_,?_,?_,h.uQ.mono hsz,?_,h.aQ,h.uR.mono hsz,?_⟩,m,⟨rfl,rfl,rfl,rfl,rfl⟩,rfl⟩
 ·have:(X.ev v).sh.tale.length=X.sh.tale.length+1:=by show(X.sh.tale++[v]).length=_;simp
  show Am w2 A.e _ (Fd _ K (X.ev v).sh)
  unfold Fd
  rw[this]
  exact B2
 ·exact UB
 ·exact U_
 ·exact(h.sh.vals.ty t1 (by decide)).ty t2 (by decide)
 ·show w2.ownsRow B _ 12 (.slice (some ⟨gg,0,none⟩) (X.sh.tale++[v]).length cap) (X.sh.tale++[v]).length (Dm (X.sh.tale++[v]) (AT A.pa X.sh.tale.length pa) (AT A.pc X.sh.tale.length pc))
  rw[FO,show(X.sh.tale++[v]).length=X.sh.tale.length+1 by simp]
  exact AO hown t2 (by decide)
 ·exact(h.tx.ty t1 (by decide) (by decide) (by decide) (by decide)).ty t2 (by decide) (by decide) (by decide) (by decide)
 ·exact(h.cl.ty t1 (by decide) (by decide)).ty t2 (by decide) (by decide)
 ·rintro b (hb|rfl) hq
  ·exact h.ap b hb hq
  ·exact hgQ hq
 ·exact Ty
 ·exact UL
 ·intro i hi
  have hi':i<X.sh.tale.length+1:=by have:(X.ev v).sh.tale.length=X.sh.tale.length+1:=by show(X.sh.tale++[v]).length=_;simp
                                    omega
  show AU w2 _ Q R (AT A.pa X.sh.tale.length pa i) ((X.sh.tale++[v]).getD i default).res.pairs
  by_cases e:i=X.sh.tale.length
  ·exact U8
  ·exact EH
end
theorem Ib{B:Nat}{w:World}{P Q R:Nat→Prop}{A:EA}{Ke:EK}{S:SA}{nx:Value}{X:Cx}(h:CX B w P Q R A Ke S nx X)(hl:X.sh.tale.length≤1000000000)(hBw:B≤w.heap.size)(v:Ev)(pa:Option Addr)(pc:Nat)(hp:AU w P Q R pa v.res.pairs):
 Calls Tryz.prog 77 #[bp A.e,KY v pa pc] w fun e w'=>e= .returned (.tuple #[])∧∃P' A',CX B w' P' Q R A' Ke S nx (X.ev v)∧Ag w w' P Q P' Q∧At A A' S S:=by
 obtain⟨W,hW⟩:=Ad (w.alloc (.cells (EQ v pa pc).toArray 153))
 obtain⟨n0,hn0⟩:=Ad w.heap.size
 have oW:Ac w W:=by rw[hW];exact(Ac.refl w).alloc _
 have BX:Am W n0 153 (EQ v pa pc).toArray:=by rw[hW,hn0];exact Am.new _ _ _
 have hpW:AU W P Q R pa v.res.pairs:=hp.move (Ag.only0 P Q oW)
 have hC:=h.only0 oW
 obtain⟨rb,hrb⟩:=Ad W.drew.heap.size
 obtain⟨W6,hW6⟩:=Ad (W.drew.alloc (.cells (EQ v pa pc).toArray 153))
 have oW6:Ac W W6:=by rw[hW6];exact((Ac.refl W).drew).alloc _
 have hC6:=hC.only0 oW6
 have hp6:AU W6 P Q R pa v.res.pairs:=hpW.move (Ag.only0 P Q oW6)
 have m6:Ag w W6 P Q P Q:=Ag.only0 P Q (oW.trans oW6)
 have n0R:¬AA (.slice A.ta X.sh.tale.length A.tc) n0:=fun hb=>by have:=h.uP n0 (h.sh.pt n0 hb);omega
 have HE:=Aa (fun(gg cap:Nat) (w1:World) (h1:w1.ownsRow B 153 12 (.slice (some ⟨gg,0,none⟩) (X.sh.tale.length+1) cap) (X.sh.tale.length+1) (Dm X.sh.tale A.pa A.pc++EQ v pa pc)) (h2:W6.grownBy w1 (Value.slice A.ta X.sh.tale.length A.tc).ownBlock) (h3:(Value.slice A.ta X.sh.tale.length A.tc).ownBlock=some gg∨gg=rb+1) (h4:gg<w1.heap.size)=>
  hC6.evd v pa pc hp6 h1 h2 (h3.imp (fun x=>x) (fun e=>by rw[e,hrb,hW6];simp)) h4)
 have hB6:B≤W6.heap.size:=Nat.le_trans hBw (Nat.le_trans oW.size oW6.size)
 have R6:=hC6.sh.tale
 have e24:=Ae W.drew A.e 24 (.slice A.ta X.sh.tale.length A.tc) (hC.sh.eng.cell 24)
 have e26:=Ae W6 A.e 24 (.slice A.ta X.sh.tale.length A.tc) (hC6.sh.eng.cell 24)
 have f26:W6.frozen? ⟨A.e,24,none⟩=false:=hC6.sh.eng.free 24
 have lt6:A.e<W6.heap.size:=hC6.sh.eng.lt
 have ne6:¬AA (.slice A.ta X.sh.tale.length A.tc) A.e:=Bn R6 hC6.sh.eng (by decide)
 have B6:Am W6 n0 153 (EQ v pa pc).toArray:=oW6.blk BX (fun h=>h)
 have ln6:n0<W6.heap.size:=B6.lt
 have KB:Hid (∀(wx:World),Am wx n0 153 (EQ v pa pc).toArray→Ab wx n0 0 (.int .i64 v.kind)∧Ab wx n0 1 (.int .i64 v.t)∧Ab wx n0 2 (.int .u64 v.n)∧Ab wx n0 3 (.int .i64 v.op.kind)∧Ab wx n0 4 (.int .i64 v.op.key)∧Ab wx n0 5 (.int .i64 v.op.hi)∧Ab wx n0 6 (.int .i64 v.op.value)∧Ab wx n0 7 (.int .i64 v.res.e)∧Ab wx n0 8 (.int .i64 v.res.value)∧Ab wx n0 9 (.slice pa v.res.pairs.length pc)∧Ab wx n0 10 (.int .i64 v.res.over)∧Ab wx n0 11 (.int .i64 v.res.reason)):=Aa (fun wx hb=>⟨hb.cell 0,hb.cell 1,hb.cell 2,hb.cell 3,hb.cell 4,hb.cell 5,hb.cell 6,hb.cell 7,hb.cell 8,hb.cell 9,hb.cell 10,hb.cell 11⟩)
 have HB0:=Aa (show Am W.drew n0 153 (EQ v pa pc).toArray from BX)
 have HB6:=Aa B6
 have HN:=Aa hn0
 have HM6:=Aa m6
 obtain⟨i0,hi0,hz0,hz1,hz2⟩:=info_parts Jl
 clear h hC hp hpW hp6 hC6 BX B6 oW oW6 m6 hn0
 unfold KY
 go_enter Tryz.func77,Tryz.ntmps77
 go_upto_region 1 with(fail)
 rw[show w.alloc (.cells #[Value.int .i64 v.kind,v.t,.int .u64 v.n,v.op.kind,v.op.key,v.op.hi,v.op.value,v.res.e,v.res.value,.slice pa v.res.pairs.length pc,v.res.over,v.res.reason] 153)=W from hW.symm,←HN.out]
 clear hW
 have K0:=KB.out _ HB0.out
 have K6:=KB.out _ HB6.out
 have hW6':W6=W.drew.alloc (.cells #[Value.int .i64 v.kind,v.t,.int .u64 v.n,v.op.kind,v.op.key,v.op.hi,v.op.value,v.res.e,v.res.value,.slice pa v.res.pairs.length pc,v.res.over,v.res.reason] 153):=hW6
 rw[hW6']at e26 f26 lt6 R6 K6 ln6 hB6 HE HB6 HM6
 clear hW6 hW6'
 rw[hrb]at HE
 refine Ao (S:=(fun w'=>Ab w' A.e 24 (.slice A.ta X.sh.tale.length A.tc)∧Ab w' n0 0 (.int .i64 v.kind)∧Ab w' n0 1 (.int .i64 v.t)∧Ab w' n0 2 (.int .u64 v.n)∧Ab w' n0 3 (.int .i64 v.op.kind)∧Ab w' n0 4 (.int .i64 v.op.key)∧Ab w' n0 5 (.int .i64 v.op.hi)∧Ab w' n0 6 (.int .i64 v.op.value)∧Ab w' n0 7 (.int .i64 v.res.e)∧Ab w' n0 8 (.int .i64 v.res.value)∧Ab w' n0 9 (.slice pa v.res.pairs.length pc)∧Ab w' n0 10 (.int .i64 v.res.over)∧Ab w' n0 11 (.int .i64 v.res.reason))) 10 (by kernel_rfl) ?_ (fun hHeld=>?_)
 ·first|exact⟨e24,K0⟩|exact⟨e26,K6⟩|exact⟨e2z,Kz⟩
 refine Av 0 [10] (h:=Av 1 [10] (h:=Av 2 [10] (h:=Av 3 [10] (h:=Av 4 [10] (h:=Av 5 [10] (h:=Bx (i:=6) (h:=fun K hK=>?_)))))))
 go_simp
 skip
 try go_wp2_with fail
 refine D_ hK (by first|exact⟨e24,K0⟩|exact⟨e26,K6⟩|exact⟨e2z,Kz⟩) (h:=fun hHeld=>?_);clear hK K
 refine Bx (i:=7) (h:=fun K hK=>?_)
 try simp only[List.getElem_toArray,List.getElem_cons_zero,List.getElem_cons_succ]
 (rw[if_pos (by simp[Region.wanted])];refine wp_append_lies _ _ _ _ (by rfl) B 153 i0 _ 12 112 Tryz.underlying74 hi0 hz0 hz1 hz2 rfl (by omega) (.slice A.ta X.sh.tale.length A.tc) X.sh.tale.length (Dm X.sh.tale A.pa A.pc) (by rfl) R6 ⟨W.heap.size,0,none⟩ 1 1 (EQ v pa pc) (by rfl) (by rfl) (World.news_of_block (cs:=(EQ v pa pc).toArray) (t:=153) (fr:=(0,0)) (heap_alloc_new W.drew _)) (by simp[EQ,Value.oneCell']) (by omega) (by unfold maxLen;omega) (by omega) hB6 (W.heap.size+1) (by simp) ?_;intro gg cap w1 hown2 hgrow hat hlt2;have e2z:=Ae w1 A.e 24 (.slice A.ta X.sh.tale.length A.tc) ((hgrow.cell_far ⟨A.e,24,none⟩ lt6 (fun e=>ne6 e.symm)).trans e26);have f2z:w1.frozen? ⟨A.e,24,none⟩=false:=(hgrow.frozen_far ⟨A.e,24,none⟩ lt6 (fun e=>ne6 e.symm)).trans f26;have Kz:=KB.out w1 ((hgrow.block n0 ln6 (fun e=>n0R e.symm)).trans HB6.out))
 refine D_ hK (by first|exact⟨e24,K0⟩|exact⟨e26,K6⟩|exact⟨e2z,Kz⟩) (h:=fun hHeld=>?_);clear hK K
 refine Av 8 [9,10] (h:=Av 9 [10] (h:=?_))
 refine AI (by kernel_rfl) rfl (by kernel_rfl) (fun K hK=>?_)
 try simp only[List.getElem_toArray,List.getElem_cons_zero,List.getElem_cons_succ]
 go_simp
 skip
 try go_wp2_with fail
 refine hK.out _ _ ?_
 clear hK K
 try simp only[Act.put,List.getElem_toArray,List.getElem_cons_zero,List.getElem_cons_succ,List.setIfInBounds_toArray,List.set_cons_zero,List.set_cons_succ]
 obtain⟨P7,A7,h7,m7,k7,-⟩:=HE.out gg cap w1 hown2 hgrow hat hlt2
 have HX:=Aa (show CX B _ P7 Q R A7 Ke S nx (X.ev v)∧Ag w _ P Q P7 Q∧At A A7 S S from⟨h7,HM6.out.trans m7,k7⟩)
 clear h7 m7 k7
 go_end0
 exact⟨rfl,P7,A7,HX.out⟩
end
section
def Fj(xs:List Int)(x:Int)(k:Nat):Prop:=∀j,j<k→xs.getD j 0≠x
theorem NF{xs:List Int}{x:Int}(h:Fj xs x xs.length):x∉xs:=by
 intro hm
 obtain⟨i,hi,rfl⟩:=List.getElem_of_mem hm
 exact h i hi (by simp[List.getD_eq_getElem?_getD,List.getElem?_eq_getElem hi])
theorem MJ{xs:List Int}{x:Int}{k:Nat}(h:Fj xs x k)(h1:xs.getD k 0≠x):Fj xs x (k+1):=by
 intro j hj
 rcases Nat.lt_succ_iff_lt_or_eq.mp hj with hj|rfl
 ·exact h j hj
 ·exact h1
theorem Mm{xs:List Int}{x:Int}{k:Nat}(h:Fj xs x k)(hk:k<xs.length)(h1:xs.getD k 0=x):x∈xs:=by
 rw[←h1,List.getD_eq_getElem?_getD,List.getElem?_eq_getElem hk];exact List.getElem_mem _
theorem MB(a:Option Addr)(c:Nat)(xs:List Int)(x:Int)(w:World)(hx:Ok .i64 w a xs)(lx:xs.length≤1000000000):
 Calls Tryz.prog 283 #[.slice a xs.length c,x] w fun e w'=>(∃r:Int,e= .returned (.int .i64 r)∧decide (0≤r)=decide (x∈xs))∧w=w':=by
 go_enter Tryz.func283,Tryz.ntmps283
 go_wp2_with fail
 go_loopw [8] (fun i wr=>∃k:Nat,k≤xs.length∧i= .int .i64 k∧Fj xs x k∧w=wr) (fun i _=>xs.length-(intOf i).toNat)
 case atStart=>exact⟨0,Nat.zero_le _,rfl,fun j hj=>absurd hj (by omega),rfl⟩
 case round=>
  obtain⟨k,hk,rfl,hm,rfl⟩:=hrel
  have HM:=Aa hm
  clear hm
  by_cases hlt:k<xs.length
  ·obtain⟨b,off,rfl,hc⟩:=hx.at (by omega)
   have hc0:=hc k hlt
   have HX:=Aa hx
   clear hc hx
   obtain⟨y,hy⟩:=Ad (xs.getD k 0)
   rw[←hy]at hc0
   have HY:=Aa hy
   clear hy
   by_cases he:x=y
   ·subst he
    go_wp2_with fail
    go_ret
    exact⟨⟨_,rfl,by simp[Mm HM.out hlt HY.out.symm]⟩,rfl⟩
   ·go_wp2_with fail
    go_roundw
    case rel=>exact⟨k+1,by omega,by go_num,MJ HM.out (fun h=>he (by rw[HY.out,h])),trivial⟩
    case measure=>simp[intOf];omega
  ·obtain rfl:k=xs.length:=by omega
   clear hx
   go_wp2_with fail
   go_ret
   exact⟨⟨_,rfl,by simp[NF HM.out]⟩,rfl⟩
theorem Jq(a:Option Addr)(c:Nat)(xs:List Int)(x:Int)(w:World)(hx:Ok .i64 w a xs)(lx:xs.length≤1000000000):
 Calls Tryz.prog 282 #[.slice a xs.length c,x] w fun e w'=>e= .returned (.bool (decide (x∈xs)))∧w=w':=by
 have H:=MB a c xs x w hx lx
 go_enter Tryz.func282,Tryz.ntmps282
 go_wp2_with fail
 refine H.mono ?_
 rintro e w1 ⟨⟨r,rfl,hr⟩,rfl⟩
 have HR:=Aa hr
 clear hr H
 go_wp2_with fail
 go_ret
 exact⟨BL HR.out,rfl⟩
end
section
section
variable {B:Nat} {w w':World} {P Q R:Nat→Prop} {A:EA} {K:EK} {S:SA} {nx:Value} {X:Cx}
theorem JC.far{s:Sh}(h:JC B w P A K s)(o:Ah Q w w')(ap:AR P Q):JC B w' P A K s:=
 ⟨o.blk h.eng (ap _ h.pe),h.ar.only o (ap _ h.pa.1) (ap _ h.pa.2),⟨o.blk h.pool.blk (ap _ h.pp.1),o.blk h.pool.slots (ap _ h.pp.2),AD h.pool.free o (fun b hb=>ap b (h.pf b hb))⟩,o.blk h.vals (ap _ h.pv),AD h.tale o (fun b hb=>ap b (h.pt b hb)),h.pe,h.pa,h.pp,h.pf,h.pv,h.pt⟩
theorem CX.txn(h:CX B w P Q R A K S nx X){t':Dq}{S':SA}{Q':Nat→Prop}(m:Ag w w' P Q P Q')(o:Ah Q w w'){ts:List TypeId}(ot:Aw ts w w')(h1:127∉ts)(h2:77∉ts)
 (T:Dc B w' Q' S' t') (hS:S'.c=S.c∧S'.qa=S.qa∧S'.qc=S.qc) (hQ:∀b,Q b→Q' b) (ap:AR P Q') (uQ:Bo Q' w'.heap.size) (aQ:Cz Q' B):CX B w' P Q' R A K S' nx (X.setT t'):=by
 have C:=h.cl.ty ot h1 h2
 obtain⟨e1,e2,e3⟩:=hS
 refine⟨h.sh.far o h.ap,T,⟨?_,?_,?_,?_⟩,ap,h.uP.mono m.o.size,uQ,h.aP,aQ,h.uR.mono m.o.size,fun i hi=>(h.prs i hi).move m⟩
 ·rw[e1]
  show Am w' S.c _ (BW S' X.c nx)
  unfold BW
  rw[e2,e3]
  exact C.blk
 ·rw[e2,e3];exact C.prs
 ·rw[e1];exact hQ _ C.qc
 ·rw[e2,e3];exact fun b hb=>hQ _ (C.qp b hb)
theorem CX.rowGrow(h:CX B w P Q R A K S nx X){e:TypeId}{sz:Nat}{v:Value}{n:Nat}{xs:List Value}(hrow:w.ownsRow B e sz v n xs)(hq:∀b,AA v b→Q b)(he:e≠123)(i:Nat)(u:Value){gg cap:Nat}{w1:World}{xs':List Value}(hown:w1.ownsRow B e sz (.slice (some ⟨gg,0,none⟩) (n+1) cap) (n+1) xs')(hg:w.grownBy w1 v.ownBlock)
 (hat:v.ownBlock=some gg∨w.heap.size≤gg) (hlt:gg<w1.heap.size):
 Ag w (w1.setCell ⟨S.t,i,none⟩ u) P Q P (fun b=>Q b∨b=gg)∧Ah Q w (w1.setCell ⟨S.t,i,none⟩ u)∧Aw [e,123] w (w1.setCell ⟨S.t,i,none⟩ u)∧Am (w1.setCell ⟨S.t,i,none⟩ u) S.t 123 ((Ep S X.t).setIfInBounds i u)∧
  (w1.setCell ⟨S.t,i,none⟩ u).ownsRow B e sz (.slice (some ⟨gg,0,none⟩) (n+1) cap) (n+1) xs'∧AR P (fun b=>Q b∨b=gg)∧Bo (fun b=>Q b∨b=gg) (w1.setCell ⟨S.t,i,none⟩ u).heap.size∧Cz (fun b=>Q b∨b=gg) B:=by
 have o1:=Ah.grownRow hg
 have t1:Aw [e] w w1:=Aw.row hrow o1
 have bt:=h.tx.blk.ty t1 (by simp;exact fun x=>he x.symm)
 have o2:Ah (fun b=>b=S.t) w1 (w1.setCell ⟨S.t,i,none⟩ u):=Ah.setCell (S:=fun b=>b=S.t) (Ah.refl _ w1) (fun _=>rfl) _
 have t2:Aw [123] w1 _:=Aw.of o2 bt
 have B2:=bt.set i u
 generalize w1.setCell ⟨S.t,i,none⟩ u=w2 at *
 have hsz:=Nat.le_trans o1.size o2.size
 have oQ:Ah Q w w2:=by
  refine⟨o2.os.trans o1.os,o2.tape.trans o1.tape,o2.output.trans o1.output,hsz,fun b hb hn=>?_⟩
  rw[o2.block b (Nat.lt_of_lt_of_le hb o1.size) (fun e=>hn (by rw[e];exact h.tx.qt)),o1.block b hb (fun e=>hn (hq b e))]
 have gq:AC w.heap.size Q (fun b=>Q b∨b=gg):=by
  rintro b (hb|rfl)
  ·exact .inl hb
  ·rcases hat with e|e
   ·exact .inl (hq b e)
   ·exact .inr e
 refine⟨⟨oQ.mono (fun _ _ hk=> .inr hk),AC.refl _ _,gq⟩,oQ,?_,B2,AO hown t2 (by simp;exact he),?_,?_,?_⟩
 ·refine⟨oQ.os,oQ.tape,oQ.output,hsz,fun b hb hn=>?_⟩
  rw[o2.block b (Nat.lt_of_lt_of_le hb o1.size) (fun e=>hn ⟨123,Ep S X.t,by simp,by rw[e];exact h.tx.blk⟩),t1.block b hb (fun⟨t,cs,ht,hb'⟩=>hn ⟨t,cs,by simp at ht;simp[ht],hb'⟩)]
 ·rintro b hp (hb|rfl)
  ·exact h.ap b hp hb
  ·rcases hat with e|e
   ·exact h.ap b hp (hq b e)
   ·have:=h.uP b hp;omega
 ·exact U6
 ·exact TS
theorem Lh(l:List FQ)(r:FQ):GG (l++[r])=GG l++[.int .i64 r.key,.int .u64 r.link,.bool r.got]:=by
 unfold GG
 exact U7
theorem CX.readd(h:CX B w P Q R A K S nx X)(r:FQ){gg cap:Nat}{w1:World}
 (hown:w1.ownsRow B 273 3 (.slice (some ⟨gg,0,none⟩) (X.t.reads.length+1) cap) (X.t.reads.length+1) (GG X.t.reads++[.int .i64 r.key,.int .u64 r.link,.bool r.got])) (hg:w.grownBy w1 (Value.slice S.ra X.t.reads.length S.rc).ownBlock)
 (hat:(Value.slice S.ra X.t.reads.length S.rc).ownBlock=some gg∨w.heap.size≤gg) (hlt:gg<w1.heap.size):
 ∃Q' S',CX B (w1.setCell ⟨S.t,8,none⟩ (.slice (some ⟨gg,0,none⟩) (X.t.reads.length+1) cap)) P Q' R A K S' nx (X.read r.key r.link r.got)∧Ag w (w1.setCell ⟨S.t,8,none⟩ (.slice (some ⟨gg,0,none⟩) (X.t.reads.length+1) cap)) P Q P Q'∧At A A S S'∧S'.x=S.x∧S'.qa=S.qa∧S'.qc=S.qc:=by
 obtain⟨m,oQ,oT,B2,own2,ap,uq,aq⟩:=h.rowGrow h.tx.reads h.tx.qr (by decide) 8 (.slice (some ⟨gg,0,none⟩) (X.t.reads.length+1) cap) hown hg hat hlt
 generalize w1.setCell ⟨S.t,8,none⟩ (.slice (some ⟨gg,0,none⟩) (X.t.reads.length+1) cap)=w2 at *
 have hn:(X.t.reads++[r]).length=X.t.reads.length+1:=by simp
 refine⟨fun b=>Q b∨b=gg,{S with ra:=some ⟨gg,0,none⟩,rc:=cap},h.txn m oQ oT (by decide) (by decide) ⟨?_,?_,?_,h.tx.xinj,?_,?_,?_,h.tx.kb,.inl h.tx.qt,.inl h.tx.qm,fun b hb=> .inl (h.tx.qk b hb),fun b hb=> .inr (AE.1 hb),fun b hb=> .inl (h.tx.qb b hb)⟩ ⟨rfl,rfl,rfl⟩ (fun _ hb=> .inl hb) ap uq aq,m,⟨rfl,rfl,rfl,rfl,rfl⟩,rfl,rfl,rfl⟩
 ·show Am w2 S.t _ (Ep _ {X.t with reads:=X.t.reads++[⟨r.key,r.link,r.got⟩]})
  unfold Ep
  rw[show(X.t.reads++[(⟨r.key,r.link,r.got⟩:FQ)]).length=X.t.reads.length+1 by simp]
  exact B2
 ·exact h.tx.map.ty oT
 ·exact Tu
 ·exact AO h.tx.keys oT (by decide)
 ·show w2.ownsRow B _ 3 (.slice (some ⟨gg,0,none⟩) (X.t.reads++[r]).length cap) (X.t.reads++[r]).length (GG (X.t.reads++[r]))
  rw[hn,Lh];exact own2
 ·exact AO h.tx.bonds oT (by decide)
end
theorem L2:(Tryz.prog.info? 273).map (fun i=>(i.zero,i.size,i.bytes))=some (some (.agg #[.int .i64 0,.int .u64 0,.bool false]),3,24):=by kernel_rfl
theorem CX.hB{B:Nat}{w:World}{P Q R:Nat→Prop}{A:EA}{K:EK}{S:SA}{nx:Value}{X:Cx}(h:CX B w P Q R A K S nx X):B≤w.heap.size:=by have:=h.aP _ h.sh.pe;have:=h.sh.eng.lt;omega
theorem FX{B:Nat}{w:World}{P Q R:Nat→Prop}{A:EA}{Ke:EK}{S:SA}{nx:Value}{X:Cx}(h:CX B w P Q R A Ke S nx X)(hl:X.t.reads.length≤1000000000)(k:Nat)(l:Int)(g:Bool):
 Calls Tryz.prog 131 #[bp S.t,k,.int .u64 l,.bool g] w fun e w'=>e= .returned (.tuple #[])∧∃Q' S',CX B w' P Q' R A Ke S' nx (X.read k l g)∧Ag w w' P Q P Q'∧At A A S S'∧S'.x=S.x∧S'.qa=S.qa∧S'.qc=S.qc:=by
 obtain⟨W,hW⟩:=Ad (w.alloc (.cells #[k,.int .u64 l,.bool g] 273))
 have oW:Ac w W:=by rw[hW];exact(Ac.refl w).alloc _
 have hC:=h.only0 oW
 have r8:=Ae w S.t 8 (.slice S.ra X.t.reads.length S.rc) (h.tx.blk.cell 8)
 have e8:=Ae W S.t 8 (.slice S.ra X.t.reads.length S.rc) (hC.tx.blk.cell 8)
 have f8:W.frozen? ⟨S.t,8,none⟩=false:=hC.tx.blk.free 8
 have lt8:S.t<W.heap.size:=hC.tx.blk.lt
 have R6:=hC.tx.reads
 have ne8:¬AA (.slice S.ra X.t.reads.length S.rc) S.t:=Bn R6 hC.tx.blk (by decide)
 have hB6:=hC.hB
 have HE:=Aa (fun(gg cap:Nat) (w1:World) (h1:w1.ownsRow B 273 3 (.slice (some ⟨gg,0,none⟩) (X.t.reads.length+1) cap) (X.t.reads.length+1) (GG X.t.reads++[.int .i64 k,.int .u64 l,.bool g])) (h2:W.grownBy w1 (Value.slice S.ra X.t.reads.length S.rc).ownBlock) (h3:(Value.slice S.ra X.t.reads.length S.rc).ownBlock=some gg∨gg=w.heap.size+1) (h4:gg<w1.heap.size)=>
  hC.readd ⟨k,l,g⟩ h1 h2 (h3.imp (fun x=>x) (fun e=>by rw[e,hW];simp)) h4)
 have HM:=Aa (Ag.only0 P Q oW)
 obtain⟨i0,hi0,hz0,hz1,hz2⟩:=info_parts L2
 rw[hW]at e8 f8 lt8 R6 hB6 HE HM
 clear h hC oW hW
 go_enter Tryz.func131,Tryz.ntmps131
 go_wp2_with (at_builtin;refine wpList_append_lies _ rfl _ _ 109 rfl B 273 i0 _ 3 24 Tryz.underlying109 hi0 hz0 hz1 hz2 rfl (by omega) (.slice S.ra X.t.reads.length S.rc) X.t.reads.length (GG X.t.reads) rfl R6 ⟨w.heap.size,0,none⟩ 1 1 [.int .i64 k,.int .u64 l,.bool g] rfl rfl (World.news_of_block (cs:=#[.int .i64 k,.int .u64 l,.bool g]) (t:=273) (fr:=(0,0)) (heap_alloc_new w _)) (by simp[Value.oneCell']) (by omega) (by unfold maxLen;omega) (by omega) hB6 (w.heap.size+1) (by simp) ?_)
 intro gg cap w1 hown hgrow hat hlt
 have e9:=Ae w1 S.t 8 (.slice S.ra X.t.reads.length S.rc) ((hgrow.cell_far ⟨S.t,8,none⟩ lt8 (fun e=>ne8 e.symm)).trans e8)
 have f9:w1.frozen? ⟨S.t,8,none⟩=false:=(hgrow.frozen_far ⟨S.t,8,none⟩ lt8 (fun e=>ne8 e.symm)).trans f8
 obtain⟨Q',S',h7,m7,k7⟩:=HE.out gg cap w1 hown hgrow hat hlt
 have HX:=Aa (And.intro h7 (And.intro (HM.out.trans m7) k7))
 clear h7 m7 k7 hown hgrow hat hlt e8 f8 r8
 go_wp2_with fail
 go_end0
 exact⟨rfl,Q',S',HX.out⟩
theorem Mb(l:List Int)(x:Int):GM (l++[x])=GM l++[.int .i64 x]:=by simp[GM]
theorem CX.bondd{B:Nat}{w:World}{P Q R:Nat→Prop}{A:EA}{K:EK}{S:SA}{nx:Value}{X:Cx}(h:CX B w P Q R A K S nx X)(x:Int){gg cap:Nat}{w1:World}
 (hown:w1.ownsRow B 3 1 (.slice (some ⟨gg,0,none⟩) (X.t.bonds.length+1) cap) (X.t.bonds.length+1) (GM X.t.bonds++[.int .i64 x])) (hg:w.grownBy w1 (Value.slice S.ba X.t.bonds.length S.bc).ownBlock)
 (hat:(Value.slice S.ba X.t.bonds.length S.bc).ownBlock=some gg∨w.heap.size≤gg) (hlt:gg<w1.heap.size):
 ∃Q' S',CX B (w1.setCell ⟨S.t,9,none⟩ (.slice (some ⟨gg,0,none⟩) (X.t.bonds.length+1) cap)) P Q' R A K S' nx (X.setT {X.t with bonds:=X.t.bonds++[x]})∧Ag w (w1.setCell ⟨S.t,9,none⟩ (.slice (some ⟨gg,0,none⟩) (X.t.bonds.length+1) cap)) P Q P Q'∧At A A S S'∧S'.x=S.x∧S'.qa=S.qa∧S'.qc=S.qc:=by
 obtain⟨m,oQ,oT,B2,own2,ap,uq,aq⟩:=h.rowGrow h.tx.bonds h.tx.qb (by decide) 9 (.slice (some ⟨gg,0,none⟩) (X.t.bonds.length+1) cap) hown hg hat hlt
 have o1:=Ah.grownRow hg
 have bt:=h.tx.blk.ty (Aw.row h.tx.bonds o1) (by decide)
 have hk1:=AD h.tx.keys o1 h.tx.kb
 have hk2:(w1.setCell ⟨S.t,9,none⟩ (.slice (some ⟨gg,0,none⟩) (X.t.bonds.length+1) cap)).ownsRow B 3 1 (.slice S.ka X.t.keys.length S.kc) X.t.keys.length (Dz X.t.keys):=
  AD hk1 (Ah.setCell (S:=fun b=>b=S.t) (Ah.refl _ w1) (fun _=>rfl) _) (fun b hb e=>by subst e;exact Bn hk1 bt (by decide) hb)
 generalize w1.setCell ⟨S.t,9,none⟩ (.slice (some ⟨gg,0,none⟩) (X.t.bonds.length+1) cap)=w2 at *
 have hn:(X.t.bonds++[x]).length=X.t.bonds.length+1:=by simp
 refine⟨fun b=>Q b∨b=gg,{S with ba:=some ⟨gg,0,none⟩,bc:=cap},h.txn m oQ oT (by decide) (by decide) ⟨?_,?_,?_,h.tx.xinj,hk2,?_,?_,?_,.inl h.tx.qt,.inl h.tx.qm,fun b hb=> .inl (h.tx.qk b hb),fun b hb=> .inl (h.tx.qr b hb),fun b hb=> .inr (AE.1 hb)⟩ ⟨rfl,rfl,rfl⟩ (fun _ hb=> .inl hb) ap uq aq,m,⟨rfl,rfl,rfl,rfl,rfl⟩,rfl,rfl,rfl⟩
 ·show Am w2 S.t _ (Ep _ {X.t with bonds:=X.t.bonds++[x]})
  unfold Ep
  rw[hn]
  exact B2
 ·exact h.tx.map.ty oT
 ·exact Tu
 ·exact AO h.tx.reads oT (by decide)
 ·show w2.ownsRow B _ 1 (.slice (some ⟨gg,0,none⟩) (X.t.bonds++[x]).length cap) (X.t.bonds++[x]).length (GM (X.t.bonds++[x]))
  rw[hn,Mb];exact own2
 ·intro b hb hg'
  have e:b=gg:=AE.1 hg'
  subst e
  rcases hat with e|e
  ·exact h.tx.kb b hb e
  ·have:=h.uQ b (h.tx.qk b hb);omega
theorem EP:(Tryz.prog.info? 3).map (fun i=>(i.zero,i.size,i.bytes))=some (some (.int .i64 0),1,8):=by kernel_rfl
theorem Pf{B n c:Nat}{w:World}{a:Option Addr}{xs:List Int}(h:w.ownsRow B 3 1 (.slice a n c) xs.length (GM xs)):Ok .i64 w a xs:=by
 rcases h.2 with⟨e,h0⟩|⟨g,cap,cur,hv,_⟩
 ·exact .inl (List.eq_nil_of_length_eq_zero h0)
 ·have h':=h
  injection hv with e1 e2 e3
  subst e1 e2 e3
  refine .inr ⟨g,0,rfl,fun i hi=>?_⟩
  rw[Nat.zero_add,h'.cellAt i (by omega)]
  simp[GM,hi]
theorem LD{B:Nat}{w:World}{P Q R:Nat→Prop}{A:EA}{Ke:EK}{S:SA}{nx:Value}{X:Cx}(h:CX B w P Q R A Ke S nx X)(hl:X.t.bonds.length≤1000000000)(hl2:X.sh.tale.length≤1000000000)(x:Int)(x0:0≤x)(x1:x≤65535):
 Calls Tryz.prog 272 #[bp A.e,bp S.t,x] w fun e w'=>e= .returned (.tuple #[])∧∃P' Q' A' S',CX B w' P' Q' R A' Ke S' nx (X.bind x)∧Ag w w' P Q P' Q'∧At A A' S S'∧S'.x=S.x∧S'.qa=S.qa∧S'.qc=S.qc:=by
 have r9:=Ae w S.t 9 (.slice S.ba X.t.bonds.length S.bc) (h.tx.blk.cell 9)
 have CN:=Jq S.ba S.bc X.t.bonds x w (Pf h.tx.bonds) hl
 by_cases hm:x∈X.t.bonds
 ·rw[decide_eq_true hm]at CN
  have HX:=Aa (show CX B w P Q R A Ke S nx (X.bind x) by unfold Cx.bind;rw[if_pos hm];exact h)
  clear h
  go_enter Tryz.func272,Tryz.ntmps272
  go_wp2_with fail
  refine CN.mono ?_
  rintro e w1 ⟨rfl,rfl⟩
  clear CN
  go_wp2_with fail
  go_end0
  exact⟨rfl,P,Q,A,S,HX.out,Ag.refl _ _ _,At.refl A S,rfl,rfl,rfl⟩
 ·rw[decide_eq_false hm]at CN
  have HB:=Aa (show X.bind x=(X.setT {X.t with bonds:=X.t.bonds++[x]}).ev (.mk3 4 X.t.id x) by unfold Cx.bind;rw[if_neg hm])
  obtain⟨W,hW⟩:=Ad (w.alloc (.cells #[x] 3))
  have oW:Ac w W:=by rw[hW];exact(Ac.refl w).alloc _
  have hC:=h.only0 oW
  have e8:=Ae W S.t 9 (.slice S.ba X.t.bonds.length S.bc) (hC.tx.blk.cell 9)
  have f8:W.frozen? ⟨S.t,9,none⟩=false:=hC.tx.blk.free 9
  have lt8:S.t<W.heap.size:=hC.tx.blk.lt
  have R6:=hC.tx.bonds
  have ne8:¬AA (.slice S.ba X.t.bonds.length S.bc) S.t:=Bn R6 hC.tx.blk (by decide)
  have hB6:=hC.hB
  have HE:=Aa (fun(gg cap:Nat) (w1:World) (h1:w1.ownsRow B 3 1 (.slice (some ⟨gg,0,none⟩) (X.t.bonds.length+1) cap) (X.t.bonds.length+1) (GM X.t.bonds++[.int .i64 x])) (h2:W.grownBy w1 (Value.slice S.ba X.t.bonds.length S.bc).ownBlock) (h3:(Value.slice S.ba X.t.bonds.length S.bc).ownBlock=some gg∨gg=w.heap.size+1) (h4:gg<w1.heap.size)=>
   hC.bondd x h1 h2 (h3.imp (fun x=>x) (fun e=>by rw[e,hW];simp)) h4)
  have HM:=Aa (Ag.only0 P Q oW)
  have ew:IntKind.u64.wrap x=x:=by rw[IntKind.wrap_u64];omega
  obtain⟨i0,hi0,hz0,hz1,hz2⟩:=info_parts EP
  rw[hW]at e8 f8 lt8 R6 hB6 HE HM
  clear h hC oW hW
  go_enter Tryz.func272,Tryz.ntmps272
  go_wp2_with fail
  refine CN.mono ?_
  rintro e w1 ⟨rfl,rfl⟩
  clear CN
  go_wp2_with (at_builtin;refine wpList_append_lies _ rfl _ _ 22 rfl B 3 i0 _ 1 8 Tryz.underlying22 hi0 hz0 hz1 hz2 rfl (by omega) (.slice S.ba X.t.bonds.length S.bc) X.t.bonds.length (GM X.t.bonds) rfl R6 ⟨w.heap.size,0,none⟩ 1 1 [.int .i64 x] rfl rfl (World.news_of_block (cs:=#[.int .i64 x]) (t:=3) (fr:=(0,0)) (heap_alloc_new w _)) (by simp[Value.oneCell']) (by omega) (by unfold maxLen;omega) (by omega) hB6 (w.heap.size+1) (by simp) ?_)
  intro gg cap w1 hown hgrow hat hlt
  have e9:=Ae w1 S.t 9 (.slice S.ba X.t.bonds.length S.bc) ((hgrow.cell_far ⟨S.t,9,none⟩ lt8 (fun e=>ne8 e.symm)).trans e8)
  have f9:w1.frozen? ⟨S.t,9,none⟩=false:=(hgrow.frozen_far ⟨S.t,9,none⟩ lt8 (fun e=>ne8 e.symm)).trans f8
  obtain⟨Q',S',h7,m7,k7,x7,q7,c7⟩:=HE.out gg cap w1 hown hgrow hat hlt
  have t0:(w1.setCell ⟨S.t,9,none⟩ (.slice (some ⟨gg,0,none⟩) (X.t.bonds.length+1) cap)).cell? ⟨S.t,0,none⟩=some (.int .i64 X.t.id):=by
   have:=h7.tx.blk.cell 0
   rw[k7.t]at this
   exact this
  have CE:=Ib h7 hl2 h7.hB (.mk3 4 X.t.id x) none 0 (.inl rfl)
  have HX:=Aa (HM.out.trans m7)
  have HK:=Aa (show At A A S S'∧S'.x=S.x∧S'.qa=S.qa∧S'.qc=S.qc from⟨k7,x7,q7,c7⟩)
  clear h7 m7 hown hgrow hat hlt e8 f8 r9 k7 x7 q7 c7
  go_wp2_with fail
  refine CE.mono ?_
  rintro e w2 ⟨rfl,P2,A2,h2,m2,k2⟩
  have HY:=Aa (show CX B w2 P2 Q' R A2 Ke S' nx (X.bind x)∧Ag w w2 P Q P2 Q'∧At A A2 S S' from⟨by rw[HB.out];exact h2,HX.out.trans m2,HK.out.1.trans k2⟩)
  clear h2 m2 k2 CE
  go_wp2_with fail
  go_end0
  exact⟨rfl,P2,Q',A2,S',HY.out.1,HY.out.2.1,HY.out.2.2,HK.out.2⟩
end
section
theorem Pk(l:List (Nat×Int)):(DQ l).length=l.length*2:=BF (w:=2) (c:=fun i=>[.int .i64 (l.getD i (0,0)).1,.int .i64 (l.getD i (0,0)).2]) (fun i=>rfl) _
theorem Ka(l:List (Nat×Int)){i:Nat}(hi:i<l.length):(DQ l)[i*2]? =some (.int .i64 (l.getD i (0,0)).1)∧(DQ l)[i*2+1]? =some (.int .i64 (l.getD i (0,0)).2):=
 ⟨Bu (w:=2) (fun i=>rfl) _ i 0 hi (by decide),Bu (w:=2) (fun i=>rfl) _ i 1 hi (by decide)⟩
section
variable {B N:Nat} {w w':World} {P Q R:Nat→Prop} {A:EA} {Ke:EK} {S:SA} {nx:Value} {X:Cx}
theorem CX.val0(h:CX B w P Q R A Ke S nx X){i:Nat}(hi:i<X.sh.vals.length):w.cell? ⟨A.v,i*2,none⟩=some (.int .i64 (X.sh.vals.getD i (0,0)).1):=by
 rw[h.sh.vals.cell];simpa using(Ka X.sh.vals hi).1
theorem CX.val1(h:CX B w P Q R A Ke S nx X){i:Nat}(hi:i<X.sh.vals.length):w.cell? ⟨A.v,i*2+1,none⟩=some (.int .i64 (X.sh.vals.getD i (0,0)).2):=by
 rw[h.sh.vals.cell];simpa using(Ka X.sh.vals hi).2
theorem AM.ix{n l:Int}(h:AM n l)(hn:l≠0):0≤A5 l∧A5 l<n:=by
 rcases h.2.2 with e|e
 ·exact absurd e hn
 ·exact e
theorem Ax.ix(h:Ax N X){l:Int}(hl:AM X.sh.slots l)(hn:l≠0):(A5 l).toNat<X.sh.vals.length∧((A5 l).toNat:Int)=A5 l:=by
 have h1:=hl.ix hn
 have h2:=h.sh.vlen
 omega
theorem CX.tfield(h:CX B w P Q R A Ke S nx X){t':Dq}{i:Nat}{u:Value}(hc:(Ep S X.t).setIfInBounds i u=Ep S t')(e1:t'.keys=X.t.keys)(e2:t'.cells=X.t.cells)(e3:t'.reads=X.t.reads)(e4:t'.bonds=X.t.bonds):
 CX B (w.setCell ⟨S.t,i,none⟩ u) P Q R A Ke S nx (X.setT t')∧Ag w (w.setCell ⟨S.t,i,none⟩ u) P Q P Q:=by
 have o:Ah (fun b=>b=S.t) w (w.setCell ⟨S.t,i,none⟩ u):=Ah.setCell (S:=fun b=>b=S.t) (Ah.refl _ w) (fun _=>rfl) _
 have ot:Aw [123] w _:=Aw.of o h.tx.blk
 have B2:=h.tx.blk.set i u
 generalize w.setCell ⟨S.t,i,none⟩ u=w2 at *
 have oQ:Ah Q w w2:=o.mono (fun k _ hk=>by rw[hk];exact h.tx.qt)
 have m:Ag w w2 P Q P Q:=h.small o (fun b hb=> .inr (by rw[hb];exact h.tx.qt))
 refine⟨h.txn m oQ ot (by decide) (by decide) ⟨by rw[←hc];exact B2,by rw[e2];exact h.tx.map.ty ot,?_,by rw[e2];exact h.tx.xinj,by rw[e1];exact AO h.tx.keys ot (by decide),by rw[e3];exact AO h.tx.reads ot (by decide),by rw[e4];exact AO h.tx.bonds ot (by decide),by rw[e1,e4];exact h.tx.kb,h.tx.qt,h.tx.qm,by rw[e1];exact h.tx.qk,by rw[e3];exact h.tx.qr,by rw[e4];exact h.tx.qb⟩ ⟨rfl,rfl,rfl⟩ (fun _ hb=>hb) h.ap (h.uQ.mono o.size) h.aQ,m⟩
 rw[e2]
 exact fun k x hk=>⟨(h.tx.cel k x hk).1,(h.tx.cel k x hk).2.1.ty ot (by decide),(h.tx.cel k x hk).2.2⟩
end
theorem Fz{B N:Nat}{w:World}{P Q R:Nat→Prop}{A:EA}{Ke:EK}{S:SA}{nx:Value}{X:Cx}(h:CX B w P Q R A Ke S nx X)(hN:Ax N X)(l:Int)(hl:AM X.sh.slots l)(hn:l≠0):
 Calls Tryz.prog 49 #[bp A.e,.int .u64 l] w fun e w'=>e= .returned (.pointer (some ⟨A.v,(A5 l).toNat*2,none⟩))∧w=w':=by
 have C:=DL l w hl.1
 have e4:=Ae w A.e 4 (.slice (some (DP A.v)) X.sh.vals.length X.sh.vals.length) (h.sh.eng.cell 4)
 obtain⟨i1,i2⟩:=hN.ix hl hn
 rw[←i2]at C
 generalize(A5 l).toNat=i at *
 clear h hN hl i2
 go_enter Tryz.func49,Tryz.ntmps49
 go_wp2_with fail
 refine C.mono ?_
 rintro e w1 ⟨⟨t,m,rfl⟩,rfl⟩
 clear C
 go_wp2_with fail
 go_ret
 exact⟨rfl,rfl⟩
theorem GU{B:Nat}{w:World}{P Q R:Nat→Prop}{A:EA}{Ke:EK}{S:SA}{nx:Value}{X:Cx}(h:CX B w P Q R A Ke S nx X)(key:Nat)(at_:Int)(thn:Rz)(tv:Value)(ht:FY w P Q R A S key thn tv):
 Calls Tryz.prog 129 #[bp A.e,bp S.t,key,.int .u64 at_,tv] w (Ak B w P Q R A Ke S nx X (some (.start ⟨key,at_,thn⟩))):=by
 have F0:=An.new' h w.heap.size rfl 271 #[bp A.e,bp S.t,key,.int .u64 at_,tv]
 have C0:=h.alloc (.cells #[bp A.e,bp S.t,key,.int .u64 at_,tv] 271)
 have M:Ag w (w.alloc (.cells #[bp A.e,bp S.t,key,.int .u64 at_,tv] 271)) P Q P Q:=Ag.only0 P Q ((Ac.refl w).alloc _)
 have HR:Hid (Ak B w P Q R A Ke S nx X (some (.start ⟨key,at_,thn⟩)) (.returned (.func (.func 161) #[.pointer (some ⟨w.heap.size,0,none⟩)] #[])) (w.alloc (.cells #[bp A.e,bp S.t,key,.int .u64 at_,tv] 271))):=
  Aa ⟨P,Q,A,S,_,rfl,C0,⟨w.heap.size,rfl,tv,F0,ht.mv M (At.refl A S)⟩,M,At.refl A S⟩
 have htv:∃F cap,tv= .func F #[] cap:=by
  cases thn with
  |get=>obtain⟨t,k,e,c,h1,_⟩:=ht;exact⟨_,_,h1⟩
  |scan ky=>obtain⟨t,y,f,e,c,tc,tk,h1,_⟩:=ht;exact⟨_,_,h1⟩
  |change=>obtain⟨c,t,y,e,h1,_⟩:=ht;exact⟨_,_,h1⟩
  |judge i l=>obtain⟨r,e,t,c,ky,y,g,h1,_⟩:=ht;exact⟨_,_,h1⟩
 obtain⟨F,cap,rfl⟩:=htv
 clear M F0 C0 ht h
 go_enter Tryz.func129,Tryz.ntmps129
 go_wp2_with fail
 go_ret
 exact HR.out
end
section
attribute [local go_sem ↓] Go.wp_at_zero Go.wp_at_succ
theorem Gt:(Tryz.prog.info? 77).map (fun i=>(i.zero,i.size,i.bytes))=some (some (.agg #[.int .i64 0,.int .i64 0]),2,16):=by kernel_rfl
theorem CX.telld{B:Nat}{w:World}{P Q R:Nat→Prop}{A:EA}{K:EK}{S:SA}{nx:Value}{X:Cx}(h:CX B w P Q R A K S nx X)(n:Int)(key:Nat){gg cap:Nat}{w1:World}
 (hown:w1.ownsRow B 77 2 (.slice (some ⟨gg,0,none⟩) (X.c.r.pairs.length+1) cap) (X.c.r.pairs.length+1) (AJ X.c.r.pairs++[.int .i64 key,.int .i64 n])) (hg:w.grownBy w1 (Value.slice S.qa X.c.r.pairs.length S.qc).ownBlock)
 (hat:(Value.slice S.qa X.c.r.pairs.length S.qc).ownBlock=some gg∨w.heap.size≤gg) (hlt:gg<w1.heap.size):
 ∃Q' S',CX B (w1.setCell ⟨S.c,7,none⟩ (.slice (some ⟨gg,0,none⟩) (X.c.r.pairs.length+1) cap)) P Q' R A K S' nx (X.tell n key)∧Ag w (w1.setCell ⟨S.c,7,none⟩ (.slice (some ⟨gg,0,none⟩) (X.c.r.pairs.length+1) cap)) P Q P Q'∧At A A S S'∧S'.x=S.x:=by
 have o1:=Ah.grownRow hg
 have t1:Aw [77] w w1:=Aw.row h.cl.prs o1
 have bt:=h.cl.blk.ty t1 (by decide)
 have o2:Ah (fun b=>b=S.c) w1 (w1.setCell ⟨S.c,7,none⟩ (.slice (some ⟨gg,0,none⟩) (X.c.r.pairs.length+1) cap)):=Ah.setCell (S:=fun b=>b=S.c) (Ah.refl _ w1) (fun _=>rfl) _
 have t2:Aw [127] w1 _:=Aw.of o2 bt
 have B2:=bt.set 7 (.slice (some ⟨gg,0,none⟩) (X.c.r.pairs.length+1) cap)
 generalize w1.setCell ⟨S.c,7,none⟩ (.slice (some ⟨gg,0,none⟩) (X.c.r.pairs.length+1) cap)=w2 at *
 have hsz:=Nat.le_trans o1.size o2.size
 have oQ:Ah Q w w2:=by
  refine⟨o2.os.trans o1.os,o2.tape.trans o1.tape,o2.output.trans o1.output,hsz,fun b hb hn=>?_⟩
  rw[o2.block b (Nat.lt_of_lt_of_le hb o1.size) (fun e=>hn (by rw[e];exact h.cl.qc)),o1.block b hb (fun e=>hn (h.cl.qp b e))]
 have gq:AC w.heap.size Q (fun b=>Q b∨b=gg):=by
  rintro b (hb|rfl)
  ·exact .inl hb
  ·rcases hat with e|e
   ·exact .inl (h.cl.qp b e)
   ·exact .inr e
 have m:Ag w w2 P Q P (fun b=>Q b∨b=gg):=⟨oQ.mono (fun _ _ hk=> .inr hk),AC.refl _ _,gq⟩
 have oT:Aw [127,77] w w2:=by
  refine⟨oQ.os,oQ.tape,oQ.output,hsz,fun b hb hn=>?_⟩
  rw[o2.block b (Nat.lt_of_lt_of_le hb o1.size) (fun e=>hn ⟨127,BW S X.c nx,by simp,by rw[e];exact h.cl.blk⟩),t1.block b hb (fun⟨t,cs,ht,hb'⟩=>hn ⟨t,cs,by simp at ht;simp[ht],hb'⟩)]
 have hn:(X.c.r.pairs++[((key:Int),n)]).length=X.c.r.pairs.length+1:=by simp
 refine⟨fun b=>Q b∨b=gg,{S with qa:=some ⟨gg,0,none⟩,qc:=cap},h.call m oT (fun t ht=>by simpa using ht) ?_ ?_ (fun b hb=> .inr (AE.1 hb)) (fun _ hb=> .inl hb) ?_ ?_ ?_,m,⟨rfl,rfl,rfl,rfl,rfl⟩,rfl⟩
 ·show Am w2 S.c _ (BW _ {X.c with r:={X.c.r with pairs:=X.c.r.pairs++[((key:Int),n)]}} nx)
  unfold BW
  rw[hn]
  exact B2
 ·show w2.ownsRow B _ 2 (.slice (some ⟨gg,0,none⟩) (X.c.r.pairs++[((key:Int),n)]).length cap) (X.c.r.pairs++[((key:Int),n)]).length (AJ (X.c.r.pairs++[((key:Int),n)]))
  rw[hn,Iv]
  exact AO hown t2 (by decide)
 ·rintro b hp (hb|rfl)
  ·exact h.ap b hp hb
  ·rcases hat with e|e
   ·exact h.ap b hp (h.cl.qp b e)
   ·have:=h.uP b hp;omega
 ·exact U6
 ·exact TS
theorem JU{B:Nat}{w:World}{P Q R:Nat→Prop}{A:EA}{Ke:EK}{S:SA}{nx:Value}{X:Cx}(h:CX B w P Q R A Ke S nx X)(hl:X.c.r.pairs.length≤1000000000)(n:Int)(key:Nat){tc tk:Nat}(hc:bC w P Q R S tc)(hk:bI w P Q R tk key):
 Calls Tryz.prog 132 #[n,bp tc,bp tk] w fun e w'=>e= .returned (.tuple #[])∧∃Q' S',CX B w' P Q' R A Ke S' nx (X.tell n key)∧Ag w w' P Q P Q'∧At A A S S'∧S'.x=S.x:=by
 obtain⟨W6,hW6⟩:=Ad (w.drew.alloc (.cells #[key,n] 77))
 have oW6:Ac w W6:=by rw[hW6];exact((Ac.refl w).drew).alloc _
 have hC6:=h.only0 oW6
 have m6:Ag w W6 P Q P Q:=Ag.only0 P Q oW6
 have hcF:An w P Q R tc 101 #[bp S.c]:=hc
 have hkF:An w P Q R tk 3 #[key]:=hk
 have hB6:=hC6.hB
 have R6:=hC6.cl.prs
 have e7:=Ae w.drew S.c 7 (.slice S.qa X.c.r.pairs.length S.qc) (h.cl.blk.cell 7)
 have a7:=Ae w.drew tc 0 (bp S.c) hcF.c0
 have b7:=Ae w.drew tk 0 (.int .i64 key) hkF.c0
 have e76:=Ae W6 S.c 7 (.slice S.qa X.c.r.pairs.length S.qc) (hC6.cl.blk.cell 7)
 have f76:W6.frozen? ⟨S.c,7,none⟩=false:=hC6.cl.blk.free 7
 have lt6:S.c<W6.heap.size:=hC6.cl.blk.lt
 have ne6:¬AA (.slice S.qa X.c.r.pairs.length S.qc) S.c:=Bn R6 hC6.cl.blk (by decide)
 have hcF6:=hcF.move m6
 have hkF6:=hkF.move m6
 have a76:=hcF6.c0
 have b76:=hkF6.c0
 have lc6:=hcF6.1.lt
 have lk6:=hkF6.1.lt
 have nc6:¬AA (.slice S.qa X.c.r.pairs.length S.qc) tc:=fun hb=>hcF6.2.2.1 (hC6.cl.qp _ hb)
 have nk6:¬AA (.slice S.qa X.c.r.pairs.length S.qc) tk:=fun hb=>hkF6.2.2.1 (hC6.cl.qp _ hb)
 have HE:=Aa (fun(gg cap:Nat) (w1:World) (h1:w1.ownsRow B 77 2 (.slice (some ⟨gg,0,none⟩) (X.c.r.pairs.length+1) cap) (X.c.r.pairs.length+1) (AJ X.c.r.pairs++[.int .i64 key,.int .i64 n])) (h2:W6.grownBy w1 (Value.slice S.qa X.c.r.pairs.length S.qc).ownBlock) (h3:(Value.slice S.qa X.c.r.pairs.length S.qc).ownBlock=some gg∨gg=w.heap.size+1) (h4:gg<w1.heap.size)=>
  hC6.telld n key h1 h2 (h3.imp (fun x=>x) (fun e=>by rw[e,hW6];simp)) h4)
 have HM6:=Aa m6
 obtain⟨i0,hi0,hz0,hz1,hz2⟩:=info_parts Gt
 rw[hW6]at e76 f76 lt6 R6 a76 b76 lc6 lk6 hB6 HE HM6
 clear h hC6 oW6 m6 hcF hkF hcF6 hkF6 hc hk hW6
 go_enter Tryz.func132,Tryz.ntmps132
 go_upto_region 0 with(fail)
 refine Ao (S:=(fun w'=>Ab w' S.c 7 (.slice S.qa X.c.r.pairs.length S.qc)∧Ab w' tc 0 (bp S.c)∧Ab w' tk 0 (.int .i64 key))) 14 (by kernel_rfl) ?_ (fun hHeld=>?_)
 ·first|exact⟨e7,a7,b7⟩|exact⟨e76,a76,b76⟩|exact⟨e7z,a7z,b7z⟩
 refine Av 0 [14] (h:=Av 1 [14] (h:=Av 2 [14] (h:=Av 3 [14] (h:=Av 4 [14] (h:=Av 5 [14] (h:=Av 6 [14] (h:=Av 7 [14] (h:=Av 8 [14] (h:=Bx (i:=9) (h:=fun K hK=>?_))))))))))
 go_simp
 skip
 try go_wp2_with fail
 refine D_ hK (by first|exact⟨e7,a7,b7⟩|exact⟨e76,a76,b76⟩|exact⟨e7z,a7z,b7z⟩) (h:=fun hHeld=>?_);clear hK K
 refine Bx (i:=10) (h:=fun K hK=>?_)
 try simp only[List.getElem_toArray,List.getElem_cons_zero,List.getElem_cons_succ]
 (rw[if_pos (by simp[Region.wanted])];refine wp_append_lies _ _ _ _ (by rfl) B 77 i0 _ 2 16 Tryz.underlying62 hi0 hz0 hz1 hz2 rfl (by omega) (.slice S.qa X.c.r.pairs.length S.qc) X.c.r.pairs.length (AJ X.c.r.pairs) (by rfl) R6 ⟨w.heap.size,0,none⟩ 1 1 [.int .i64 key,.int .i64 n] (by rfl) (by rfl) (World.news_of_block (cs:=#[.int .i64 key,.int .i64 n]) (t:=77) (fr:=(0,0)) (heap_alloc_new w.drew _)) (by simp[Value.oneCell']) (by omega) (by unfold maxLen;omega) (by omega) hB6 (w.heap.size+1) (by simp) ?_;intro gg cap w1 hown2 hgrow hat hlt2;have e7z:=Ae w1 S.c 7 (.slice S.qa X.c.r.pairs.length S.qc) ((hgrow.cell_far ⟨S.c,7,none⟩ lt6 (fun e=>ne6 e.symm)).trans e76);have f7z:w1.frozen? ⟨S.c,7,none⟩=false:=(hgrow.frozen_far ⟨S.c,7,none⟩ lt6 (fun e=>ne6 e.symm)).trans f76;have a7z:=Ae w1 tc 0 (bp S.c) ((hgrow.cell_far ⟨tc,0,none⟩ lc6 (fun e=>nc6 e.symm)).trans a76);have b7z:=Ae w1 tk 0 (.int .i64 key) ((hgrow.cell_far ⟨tk,0,none⟩ lk6 (fun e=>nk6 e.symm)).trans b76))
 refine D_ hK (by first|exact⟨e7,a7,b7⟩|exact⟨e76,a76,b76⟩|exact⟨e7z,a7z,b7z⟩) (h:=fun hHeld=>?_);clear hK K
 refine Av 11 [12,13,14] (h:=Av 12 [13,14] (h:=Av 13 [14] (h:=?_)))
 refine AI (by kernel_rfl) rfl (by kernel_rfl) (fun K hK=>?_)
 try simp only[List.getElem_toArray,List.getElem_cons_zero,List.getElem_cons_succ]
 go_simp
 skip
 try go_wp2_with fail
 refine hK.out _ _ ?_
 clear hK K
 try simp only[Act.put,List.getElem_toArray,List.getElem_cons_zero,List.getElem_cons_succ,List.setIfInBounds_toArray,List.set_cons_zero,List.set_cons_succ]
 obtain⟨Q7,S7,h7,m7,k7⟩:=HE.out gg cap w1 hown2 hgrow hat hlt2
 have HX:=Aa (And.intro h7 (And.intro (HM6.out.trans m7) k7))
 clear h7 m7 k7
 go_end0
 exact⟨rfl,Q7,S7,HX.out⟩
end
end Go.Proofs.YtoakelhnhkilcaaGreat

import Derived.Test.YtcholkmididfmaaGreatDoorJe
import Derived.Test.YtcholkmididfmaaGreatDoorDw
set_option linter.unusedVariables false
set_option linter.unusedSimpArgs false
namespace Go.Proofs.Y
open Go.RowKit Go.Am Go.Sy
def lF(S:RM)(t:Nat):RM:=b6 S t (atR (S.th t) (IntKind.i64.wrap ((S.th t).at_+1)))
structure DoI(n t op a:Nat)(s:WdS):Prop where
 op_:s.x.op=(op:Int)
 ops:8≤op∧op≤17
 a_:15≤op→s.x.a=(a:Int)
 wd:op≤11→WdI n t ⟨s.K,lF s.S t,s.x⟩
 at_:0≤(s.S.th t).at_∧(s.S.th t).at_<1000
 has:(s.S.th t).has.length=3
 told:(s.S.th t).told.length≤1000
 a4:op=12→0≤s.x.a∧s.x.a<4
 a3:op=13∨15≤op→0≤s.x.a∧s.x.a<3
 lv:op=14→t<s.K.c.progs.length∧(s.S.th t).at_<(s.S.th t).mate.length∧(0≤at0 (s.S.th t).mate (s.S.th t).at_∧at0 (s.S.th t).mate (s.S.th t).at_<(at3 s.K.c.progs t).length)∧
  0≤(at2 (at3 s.K.c.progs t) (at0 (s.S.th t).mate (s.S.th t).at_)).a∧(at2 (at3 s.K.c.progs t) (at0 (s.S.th t).mate (s.S.th t).at_)).a<3
 wt:op=15→s.x.a<s.K.c.conds.length∧0≤at0 s.K.c.conds s.x.a∧at0 s.K.c.conds s.x.a<3
 q:∀c,c<3→(s.S.q c).length≤1000∧∀u∈s.S.q c,0≤u∧u<(n:Int)
def doA(op a:Nat)(x:Instr):V:=.agg [li op,bif Nat.ble 15 op then li a else iv x.a,iv x.b,iv x.c,iv x.n]
def doD(n t op a:Nat):FrD cod:=⟨8+n,fun _=>true,WdS,DoI n t op a,fun s=>[.ptr 0 0,li t,doA op a s.x],fun s _=>qG s.K.c n s.S,
 [⟨bg×RM,fun s r=>r.1=s.K.c∧r.2=doR s.K t s.S s.x,fun r=>.any,fun r _=>vQ r.1 n (8+n) r.2⟩],fun _ _=>0⟩
def yL:Nat→List V→Option Nat
 |_,[]=>none
 |i,.R k::t=>bif Nat.beq (i%11) 7 then some k else yL (i+1) t
 |i,_::t=>yL (i+1) t
def SJ(h:SH cod):Option Nat:=match bF h 3 with
 |some (.cells b)=>yL 0 b
 |_=>none
noncomputable def b64:Code:=Tryz.f64.body.getD .skip
noncomputable def x2(n t:Nat):List (FuncId×Ctr cod):=[(94,EE n t)]
structure DwS where
 S:RM
def dwL(n t op a:Nat)(s:WdS):LpD cod:=⟨8+n,DwS,fun z=>(bif Nat.beq op 16 then z.S=lF s.S t else cW z.S a (z.S.q a).length=doR s.K t s.S s.x)∧(∀u∈z.S.q a,0≤u∧u<(n:Int)),fun z=>(z.S.q a).length,
 fun z=>[(0,.ptr 0 0),(1,li t),(5,.ptr (8+n) 0),(6,.ptr 3 (11*t))],fun z=>(AE s.K.c n (9+n) z.S).map some++List.replicate (3+n) none++[some (.cells [li op,li a,iv s.x.b,iv s.x.c,iv s.x.n])]++(uY n z.S).map some⟩
noncomputable def doC(n t op a:Nat)(s:WdS):Ctr cod:=dD vr M7 (Bp SJ (iy F (bf (x2 n t)) 2000 Tryz.f64 b64 (fun _ _=>bif Nat.ble 16 op then [(19,dwL n t op a s)]else []) (fun _ _=>0)))
def Te(x y:Man)(P:Prop):Prop:=x.at_=y.at_∧x.fuel=y.fuel∧x.status=y.status∧x.r0=y.r0∧x.r1=y.r1∧x.r2=y.r2∧x.r3=y.r3∧x.told=y.told∧x.has=y.has∧x.wants=y.wants∧x.mate=y.mate∧P
def moE(f g:Nat→Man):Nat→Prop→Prop
 |0,P=>P
 |k+1,P=>moE f g k (Te (f k) (g k) P)
theorem j1(f:Nat→Man){P:Prop}(h:P):∀n,moE f f n P
 |0=>h
 |n+1=>by
  exact j1 f ⟨rfl,rfl,rfl,rfl,rfl,rfl,rfl,rfl,rfl,rfl,rfl,h⟩ n
def roL(n:Nat)(c:bg)(S:RM)(Q:bg×RM→Prop):Prop:=∃r:bg×RM,S.w=r.2.w∧S.o=r.2.o∧S.q 0=r.2.q 0∧S.q 1=r.2.q 1∧S.q 2=r.2.q 2∧moE S.th r.2.th n (cE c r.1 (Q r∧True))
theorem DK{n:Nat}{c:bg}{S:RM}{Q:bg×RM→Prop}(h:Q (c,S)):roL n c S Q:=⟨(c,S),rfl,rfl,rfl,rfl,rfl,j1 _ (fY c ⟨h,trivial⟩) _⟩
def N5(l:Int):Prop:=(0:Int)≤l∧l=l∧l*8≤281474976710656∧l≤9223372036854775807
section
variable (n t op a:Nat)(s:WdS)
def doL(c:bg)(S:RM):Prop:=roL n c S fun r=>r.1=s.K.c∧r.2=doR s.K t s.S s.x
def L8(S:RM)(d:bg×RM×Bool→Prop):Prop:=∃z:WdS,S.w=z.S.w∧S.o=z.S.o∧S.q 0=z.S.q 0∧S.q 1=z.S.q 1∧S.q 2=z.S.q 2∧mlE S.th z.S.th n (ai t=ai t∧(op:Int)=z.x.op∧s.x.a=z.x.a∧s.x.b=z.x.b∧s.x.c=z.x.c∧s.x.n=z.x.n∧
 mcE S.th z.S.th n (cE s.K.c z.K.c (WdI n t z∧(∀y:bg×RM×Bool,y.1=z.K.c∧y.2.1=hY z.K z.S t z.x∧y.2.2=!ck z.K z.S t z.x→d y)∧True)))
def do8:Prop:=L8 n t op s (lF s.S t) fun y=>((!y.2.2)=true→N5 ((y.2.1.th t).has.length:Int)∧
 doL n t s y.1 (b6 y.2.1 t (haR (stR (atR (y.2.1.th t) (IntKind.i64.wrap ((y.2.1.th t).at_-1))) 2) (List.replicate ((y.2.1.th t).has.length:Int).toNat 0))))∧((!y.2.2)=false→doL n t s y.1 y.2.1)
def N8:Prop:=(s.S.th t).told.length*8≤140737488355328∧fE (cP (s.S.th t)) s.x.a fun v=>((s.S.th t).told.length+[v].length)*8≤140737488355328∧(s.S.th t).told++[v]≠[]∧doL n t s s.K.c (b6 s.S t (toR (atR (s.S.th t) (IntKind.i64.wrap ((s.S.th t).at_+1))) ((s.S.th t).told++[v])))
def hasB(i v:Int)(K:RM→Prop):Prop:=bn i (s.S.th t).has (K (b6 s.S t (haR (atR (s.S.th t) (IntKind.i64.wrap ((s.S.th t).at_+1))) ((s.S.th t).has.set i.toNat v))))
def LH:Prop:=let i:=IntKind.i64.wrap (IntKind.i64.wrap ((s.S.th t).at_+1)-1)
 bnN t s.K.c.progs.length (((0:Int)≤i∧i<((s.S.th t).mate.length:Int))∧((0:Int)≤at0 (s.S.th t).mate i∧at0 (s.S.th t).mate i<((at3 s.K.c.progs t).length:Int))∧hasB t s (at2 (at3 s.K.c.progs t) (at0 (s.S.th t).mate i)).a 0 (doL n t s s.K.c))
def NT:Prop:=bnN a s.K.c.conds.length (hasB t s (at0 s.K.c.conds a) 0 fun S=>(s.S.q a).length*8≤140737488355328∧((s.S.q a).length+[(t:Int)].length)*8≤140737488355328∧doL n t s s.K.c { b6 S t (stR (S.th t) 4)with q:=dL s.S.q a (s.S.q a++[(t:Int)]) })
def Ai(S:RM)(Q:DwS→Prop):Prop:=∃z:DwS,S.w=z.S.w∧S.o=z.S.o∧ai t=ai t∧ai op=ai op∧ai a=ai a∧s.x.b=s.x.b∧s.x.c=s.x.c∧s.x.n=s.x.n∧S.q 0=z.S.q 0∧S.q 1=z.S.q 1∧S.q 2=z.S.q 2∧moE S.th z.S.th n (cE s.K.c s.K.c ((dwL n t op a s).I z∧Q z))
theorem xV{S:RM}{Q:DwS→Prop}(h:(dwL n t op a s).I ⟨S⟩∧Q ⟨S⟩):Ai n t op a s S Q:=⟨⟨S⟩,rfl,rfl,rfl,rfl,rfl,rfl,rfl,rfl,rfl,rfl,rfl,j1 _ (fY _ h) _⟩
def wk1(S:RM)(u:Nat):RM:={ S with th:=iW S.th u (waR (stR (S.th u) 0) true),q:=dL S.q a (((S.q a).drop 1).take (((S.q a).length:Int).toNat-1)) }
def O8:Prop:=(∀y:DwS,(dwL n t op a s).I y→(decide (((y.S.q a).length:Int)>0)=true→((0:Int)≤0∧(0:Int)<((y.S.q a).length:Int))∧((0:Int)≤0∧(0:Int)<((y.S.q a).length:Int))∧
 ixP (at0 (y.S.q a) 0) n fun u=>((0:Int)≤1∧(1:Int)≤((y.S.q a).length:Int)∧((y.S.q a).length:Int)≤((y.S.q a).length:Int))∧
  (bif Nat.beq op 16 then doL n t s s.K.c (wk1 a y.S u)else Ai n t op a s (wk1 a y.S u) fun z=>(dwL n t op a s).m z<(dwL n t op a s).m y∧True))∧
 (decide (((y.S.q a).length:Int)>0)=false→doL n t s s.K.c y.S))∧Ai n t op a s (lF s.S t) fun _=>True
def drP:Prop:=bif Nat.ble op 11 then do8 n t op s else bif Nat.beq op 12 then N8 n t s else bif Nat.beq op 13 then hasB t s s.x.a (IntKind.i64.wrap (1+s.x.b)) (doL n t s s.K.c)else bif Nat.beq op 14 then LH n t s else bif Nat.beq op 15 then NT n t a s else O8 n t op a s
end
def mn:List (Nat×Nat):=[(8,0),(9,0),(10,0),(11,0),(12,0),(13,0),(14,0),(15,0),(15,1),(15,2),(16,0),(16,1),(16,2),(17,0),(17,1),(17,2)]
end Go.Proofs.Y
namespace Go.Proofs.Y
open Go.RowKit Go.Am Go.Sy
set_option maxRecDepth 100000
theorem N1(s:WdS)(h:SH cod):mn.map (fun p=>Go.Sy.Tree.holds (vcC (doC 1 0 p.1 p.2 s) (doD 1 0 p.1 p.2) s h))=mn.map (fun p=>drP 1 0 p.1 p.2 s):=by kernel_rfl
theorem ND(s:WdS)(h:SH cod):mn.map (fun p=>Go.Sy.Tree.holds (vcC (doC 2 0 p.1 p.2 s) (doD 2 0 p.1 p.2) s h))=mn.map (fun p=>drP 2 0 p.1 p.2 s):=by kernel_rfl
theorem P4(s:WdS)(h:SH cod):mn.map (fun p=>Go.Sy.Tree.holds (vcC (doC 2 1 p.1 p.2 s) (doD 2 1 p.1 p.2) s h))=mn.map (fun p=>drP 2 1 p.1 p.2 s):=by kernel_rfl
theorem Oq(s:WdS)(h:SH cod):mn.map (fun p=>Go.Sy.Tree.holds (vcC (doC 3 0 p.1 p.2 s) (doD 3 0 p.1 p.2) s h))=mn.map (fun p=>drP 3 0 p.1 p.2 s):=by kernel_rfl
theorem Qb(s:WdS)(h:SH cod):mn.map (fun p=>Go.Sy.Tree.holds (vcC (doC 3 1 p.1 p.2 s) (doD 3 1 p.1 p.2) s h))=mn.map (fun p=>drP 3 1 p.1 p.2 s):=by kernel_rfl
theorem Ph(s:WdS)(h:SH cod):mn.map (fun p=>Go.Sy.Tree.holds (vcC (doC 3 2 p.1 p.2 s) (doD 3 2 p.1 p.2) s h))=mn.map (fun p=>drP 3 2 p.1 p.2 s):=by kernel_rfl
end Go.Proofs.Y
namespace Go.Proofs.Y
open Go.RowKit Go.Am Go.Sy
variable {k:Int}{x:Instr}
theorem mC(h:bX x=true)(d:shA x.op=k)(b:k=1∨k=2∨k=3):0≤x.a∧x.a<4:=by
 simp only[bX]at h;rcases b with rfl|rfl|rfl<;>(simp only[cU,ko,decide_eq_true_eq]at h;grind)
theorem Kz(h:bX x=true)(a:shB x.op=1):0≤x.b∧x.b<4:=by
 simp only[bX]at h;simp only[cU,ko,decide_eq_true_eq]at h;grind
theorem K1(h:bX x=true)(a:x.op=13):x.b=0∨x.b=1:=by
 simp only[bX]at h;have e:shB x.op=4:=by rw[a];rfl
 simp only[cU,ko,decide_eq_true_eq]at h;grind
structure CH(c:bg):Prop where
 locks:c.locks.length=3
 conds:c.conds=[0,1,2]
 reg:∀d:Int,dm c.locks d= -1∨dm c.locks d=0∨dm c.locks d=1∨dm c.locks d=2
section
variable {c:bg}{p:List Instr}
theorem j8(hc:CH c){k:Int}(h:0≤k∧k<3):at0 c.conds k=k:=by
 rw[hc.conds];have:k=0∨k=1∨k=2:=by omega
 rcases this with rfl|rfl|rfl<;>rfl
theorem kf(hc:CH c)(g:Good c p){i:Nat}(h:i<p.length)(d:opP p i=13):(0≤(at2 p i).a∧(at2 p i).a<3)∧∀y∈oiF p i,y.a<(at2 p i).a:=by
 have d:(at2 p (i:Int)).op=13:=d;obtain⟨w,n,b,f⟩:=g.chk i h;have j:=mC (g.may i h) (k:=2) (by rw[d];rfl) (by decide)
 unfold cL at b;by_cases h1:(at2 p (i:Int)).a≥c.locks.length
 ·grind
 ·have hl:=hc.locks;refine⟨⟨j.1,by omega⟩,fun y q=>?_⟩
  have m:w.o≠[]:=fun e=>by grind
  grind
theorem AB(hc:CH c)(h:Good c p):∀i,i≤p.length→(oiF p i).Pairwise (fun x y=>x.a<y.a)∧∀x∈oiF p i,0≤x.a∧x.a<3
 |0,_=>by
  have:oiF p 0=[]:=rfl;simp_all
 |i+1,m=>by
  obtain⟨h1,t⟩:=AB hc h i (by omega)
  obtain⟨q,u,g1,n⟩:=nG h.jmp.st (i:=i) m;obtain⟨f,g,o⟩:=mO g1 m n
  by_cases b:opP p i=13
  ·obtain⟨v,w⟩:=kf hc h m b;have e:oiF p (i+1)=oiF p i++[at2 p i]:=by rw[oiF,f b,List.map_append];rfl
   grind
  ·by_cases d:opP p i=14
   ·obtain⟨j,s⟩:=g d;have e:oiF p i=oiF p (i+1)++[at2 p j]:=by rw[oiF,s,List.map_append];rfl
    grind
   ·have e:oiF p (i+1)=oiF p i:=by rw[oiF,oiF,o b d]
    grind
end
theorem pO(p:List Instr)(a:Nat):dK p a=(oiF p a).map fun x=>⟨x.a,x.b==1⟩:=by rw[dK,oiF,List.map_map];rfl
structure vU(l:List Held):Prop where
 lt:l.Pairwise (fun x y=>x.lock<y.lock)
 in3:∀x∈l,0≤x.lock∧x.lock<3
theorem oc{c:bg}{p:List Instr}(hc:CH c)(b:Good c p){a:Nat}(d:a≤p.length):vU (dK p a):=by
 obtain⟨h1,e⟩:=AB hc b a d;rw[pO];refine⟨List.pairwise_map.2 h1,fun x f=>?_⟩
 grind
theorem GH:vU []:=⟨.nil,fun x h=>by cases h⟩
variable {l:List Held}
theorem hF(h:∀x∈l,x.lock≠k):dC l k=0:=by
 unfold dC;grind
theorem mc(a:vU l){x:Held}(b:x∈l):dC l x.lock=if x.read=true then 2 else 1:=by
 unfold dC;cases hf:l.find? (fun h=>h.lock==x.lock)with
 |none=>
  grind
 |some y=>
  have h1:=List.mem_of_find?_eq_some hf;have:y=x:=by
   obtain⟨i,e,e1⟩:=List.mem_iff_getElem.1 h1;obtain⟨j,f,e2⟩:=List.mem_iff_getElem.1 b;have d:=List.pairwise_iff_getElem.1 a.lt;grind
  rw[this]
theorem n8{x:Held}(h:∀y∈l,y.lock≠x.lock)(k:Int):dC (l++[x]) k=if k=x.lock then(if x.read=true then 2 else 1)else dC l k:=by
 unfold dC;grind
theorem Dq(g:vU l)(b:Bool):l.all (bJ k b)=!(dC l k==1||(dC l k==2 && !b)):=by
 by_cases h:∃x∈l,x.lock=k
 ·obtain⟨x,a,rfl⟩:=h;rw[mc g a];have f:∀y∈l,y.lock=x.lock→y=x:=by
   intro y d e;obtain⟨i,o,e1⟩:=List.mem_iff_getElem.1 d;obtain⟨j,q,e2⟩:=List.mem_iff_getElem.1 a;have n:=List.pairwise_iff_getElem.1 g.lt;grind
  cases hrd:x.read with
  |true=>
   cases b with
   |true=>
    have:l.all (bJ x.lock true)=true:=List.all_eq_true.2 fun y d=>by
     unfold bJ
     grind
    grind
   |false=>
    have:l.all (bJ x.lock false)=false:=List.all_eq_false.2 ⟨x,a,by unfold bJ;simp⟩
    grind
  |false=>
   have:l.all (bJ x.lock b)=false:=List.all_eq_false.2 ⟨x,a,by unfold bJ;grind⟩
   grind
 ·have m:∀x∈l,x.lock≠k:=fun x a e=>h ⟨x,a,e⟩
  rw[hF m];have:l.all (bJ k b)=true:=List.all_eq_true.2 fun y d=>by unfold bJ;grind
  grind
end Go.Proofs.Y
namespace Go.Proofs.Y
open Go.RowKit Go.Am Go.Sy
structure KOk(K:MK)(n:Nat):Prop where
 conf:CH K.c
 n3:n≤3
 pl:K.c.progs.length=n
 ml:K.m.length=n
 gd:∀t,t<n→Good K.c (at3 K.c.progs t)
 mt:∀t,t<n→at5 K.m t=(bA (at3 K.c.progs t)).1
section
variable {K:MK}{n:Nat}{a:Nat→Nat}{S:MT}{T:RM}
theorem jt(b:KOk K n)(d:bY K n a S){t:Nat}(c:t<n):vU (S.th t).opn:=by
 have h:=d.th t c;rw[h.opn]
 by_cases e:(S.th t).status=0∧(S.th t).awake<0
 ·rw[if_pos e];exact oc b.conf (b.gd t c) h.le
 ·rw[if_neg e];exact GH
theorem free_eq(d:KOk K n)(e:bY K n a S)(f:Both K n S T){lock:Int}(hl:0≤lock∧lock<3)(b:Bool):eU (mb S.th n) lock b=we n T.th lock b:=by
 have key:∀u,u<n→(S.th u).opn.all (bJ lock b)=!(at0 (T.th u).has lock==1||(at0 (T.th u).has lock==2 && !b)):=fun u hu=>by
  have h:=(f.th u hu).has lock.toNat (by omega)
  rw[Int.toNat_of_nonneg hl.1]at h;rw[h];exact Dq (jt d e hu) b
 rw[Bool.eq_iff_iff];unfold eU we;rw[List.all_eq_true,List.all_eq_true];constructor
 ·intro h u hu;have hu:=List.mem_range.1 hu;rw[← key u hu];exact h _ (mZ.2 ⟨u,hu,rfl⟩)
 ·intro h x c;obtain⟨u,hu,rfl⟩:=mZ.1 c;grind
theorem iC(g:KOk K n){t:Nat}(j:t<n){b:Nat}(m:b<(at3 K.c.progs t).length)(f:opP (at3 K.c.progs t) b=15):
 (0≤(at2 (at3 K.c.progs t) b).a∧(at2 (at3 K.c.progs t) b).a<3)∧dK (at3 K.c.progs t) b=[⟨at0 K.c.conds (at2 (at3 K.c.progs t) b).a,false⟩]:=by
 obtain⟨w,u,hc,_⟩:=(g.gd t j).chk b m;have v:=mC ((g.gd t j).may b m) (k:=3) (by rw[show(at2 (at3 K.c.progs t) (b:Int)).op=15 from f];rfl) (by decide)
 have f:(at2 (at3 K.c.progs t) (b:Int)).op=15:=f;unfold cL at hc;unfold fU at hc;have p:K.c.conds.length=3:=by rw[g.conf.conds];rfl
 by_cases h1:(at2 (at3 K.c.progs t) (b:Int)).a≥K.c.conds.length
 ·grind
 ·by_cases q:(w.o.length:Int)≠1∨(at2 w.o 0).a≠at0 K.c.conds (at2 (at3 K.c.progs t) (b:Int)).a
  ·grind
  ·by_cases x:(at2 w.o 0).b=1
   ·grind
   ·have d:w.o.length=1:=by
     grind
    have s:(at2 w.o 0).a=at0 K.c.conds (at2 (at3 K.c.progs t) (b:Int)).a:=Classical.byContradiction fun e=>q (.inr e)
    obtain⟨y,h⟩:=List.length_eq_one_iff.1 d;have z:at2 w.o 0=y:=by rw[h];exact kS (l:=[y]) (i:=0) (Nat.lt_succ_self 0)
    rw[pO,← u,h];grind
theorem tG(d:KOk K n){t:Nat}(f:t<n){b:Nat}(g:b<(at3 K.c.progs t).length)(m:opP (at3 K.c.progs t) b=15):dK (at3 K.c.progs t) (b+1)=dK (at3 K.c.progs t) b∧b+1<(at3 K.c.progs t).length:=by
 obtain⟨q,o,g1,k⟩:=nG (d.gd t f).jmp.st g;obtain⟨_,_,l⟩:=mO g1 g k;have e:=l (by omega) (by omega)
 have e2:dK (at3 K.c.progs t) (b+1)=dK (at3 K.c.progs t) b:=by rw[dK,dK,e]
 refine⟨e2, ?_⟩;rcases qk (b+1) (at3 K.c.progs t).length with h|h
 ·exact h
 ·have hl:b+1=(at3 K.c.progs t).length:=by omega
  have j:=(d.gd t f).jmp.fin;rw[← hl,e]at j;have:=(iC d f g m).2;rw[dK,j]at this;cases this
theorem j0(k:KOk K n)(w:bY K n a S)(x:Both K n S T)(t:Nat):cj (bw K n S) t=gu K n T t:=by
 unfold cj gu;show(if((t:Int)<0∨(t:Int)≥(mb S.th n).length∨(bN (mb S.th n) t).status≠0)then false else _)=_
 rw[eu]
 by_cases h:t<n
 ·have l:bN (mb S.th n) (t:Int)=S.th t:=lb h;have p:bN (bw K n S).all (t:Int)=S.th t:=l;have m:=x.th t h;have e:=w.th t h;rw[l,m.status]
  by_cases y:(S.th t).status=0
  ·have A:¬((t:Int)<0∨(t:Int)≥(n:Int)∨(S.th t).status≠0):=by grind
   have B:t<n∧(S.th t).status=0:=⟨h,y⟩;rw[if_neg A,if_pos B,p,m.wants]
   by_cases j:(S.th t).awake≥0
   ·rw[if_pos j,decide_eq_true j,if_pos rfl];obtain⟨b,u,v,f⟩:=e.wait (.inl j);have f:=f j;have C:=e.le;obtain⟨z,H⟩:=iC k h (b:=b) (by omega) v
    have g:(T.th t).at_-1=(b:Int):=by rw[m.at_,e.at_,u];omega
    rw[g,f];show eU (mb S.th n) (at0 K.c.conds _) false=_;exact free_eq k w x (by rw[j8 k.conf z];exact z) false
   ·have q:(S.th t).awake<0:=by omega
    rw[if_neg j,decide_eq_false j,if_neg (show ¬false=true by decide)]
    have g:(T.th t).at_=(S.th t).at_:=m.at_;have s:a t<(at3 K.c.progs t).length:=e.run y;have d:ins (bw K n S) t=at2 (at3 K.c.progs t) (a t):=by
     rw[ins,p,e.at_];rfl
    have o:fi (bw K n S) t=(decide ((S.th t).fuel>0) && ((at2 (at3 K.c.progs t) (a t)).op==13)):=by
     rw[fi,p,decide_eq_true q,Bool.true_and,d]
    rw[o,g,e.at_,m.fuel,d];have D:=e.fu.1
    by_cases E:(S.th t).fuel=0
    ·rw[E];rfl
    ·have e1:decide ((S.th t).fuel>0)=true:=decide_eq_true (by omega)
     have e2:((S.th t).fuel==0)=false:=by grind
     rw[e1,e2,Bool.true_and,Bool.false_or]
     by_cases G:(at2 (at3 K.c.progs t) (a t)).op=13
     ·have e3:((at2 (at3 K.c.progs t) (a t)).op==13)=true:=by grind
      have e4:((at2 (at3 K.c.progs t) (a t)).op !=13)=false:=by grind
      rw[e3,if_pos rfl,e4,Bool.false_or];exact free_eq k w x (kf k.conf (k.gd t h) s G).1 _
     grind
  grind
 grind
end
end Go.Proofs.Y
namespace Go.Proofs.Y
open Go.RowKit Go.Am Go.Sy
variable {l:List Int}
theorem qD(hl:l.length=3)(h:∀k:Nat,k<3→at0 l k=0):cA l=false:=by
 match l,hl with
 | [x,y,z],_=>
  have b:=h 0 (by decide)
  have h1:=h 1 (by decide)
  have c:=h 2 (by decide)
  have d:x=0:=b;have e1:y=0:=h1;have e2:z=0:=c;rw[d,e1,e2];rfl
theorem wX{k:Nat}(b:k<l.length)(h:at0 l k≠0):cA l=true:=by
 unfold cA;rw[List.any_eq_true];rw[gv b]at h;exact⟨l[k],List.getElem_mem b,by grind⟩
theorem oM{l:List Held}(c:vU l){h:List Int}(hl:h.length=3)(d:∀k:Nat,k<3→at0 h k=dC l k):cA h=decide (l.length>0):=by
 cases l with
 |nil=>
  rw[qD hl fun k g=>by rw[d k g];rfl]
  rfl
 |cons x l=>
  have b:x∈x::l:=List.mem_cons_self;have f:=c.in3 x b;have e:=d x.lock.toNat (by omega)
  rw[Int.toNat_of_nonneg f.1,mc c b]at e;have e2:cA h=true:=wX (k:=x.lock.toNat) (by omega) (by
   grind)
  grind
def uH(K:MK)(t:Nat)(z:Man):Man:=if z.status=0∧z.at_=(at3 K.c.progs t).length∧cA z.has=false then stR z 1 else z
section
variable {K:MK}{n t:Nat}{p:List Instr}{m:List Int}
theorem Mf{c:bg}(hc:CH c)(B:Good c p)(C:at3 K.c.progs t=p){y:One}{z:Man}{a:Nat}(b:vd p m y z)(u:y.status=0)(D:y.awake<0)(f:y.at_=(a:Int))(o:a≤p.length)(v:y.opn=dK p a)
 (q:0≤y.fuel∧y.fuel≤1000) (d:y.log.length+y.fuel≤1000):vd p m (gR K t y) (uH K t z)∧u3 p a (gR K t y):=by
 have s:z.status=0:=by rw[b.status];exact u
 have w:z.at_=(a:Int):=by rw[b.at_];exact f
 unfold gR uH;rw[C];rcases qk a p.length with h|h
 ·rw[if_neg (fun e=>by grind),if_neg (fun e=>by grind)]
  exact⟨b,f,o,fun _=>h,by grind,fun e=>by omega,fun e=>by omega,.inl u,q,d⟩
 ·have x:a=p.length:=by omega
  have g:y.opn=[]:=by rw[v,dK,x,B.jmp.fin];rfl
  have j:cA z.has=false:=qD b.hl fun k A=>by rw[b.has k A,g];rfl
  rw[if_pos ⟨u,by omega⟩,if_pos ⟨s,by omega,j⟩]
  refine⟨⟨b.at_,b.fuel,rfl,b.r0,b.r1,b.r2,b.r3,b.told,b.mate,b.hl,b.has,b.wants⟩,f,o,fun e=>absurd e (show ¬(1:Int)=0 by decide), ?_,fun e=>?_,fun e=>?_,.inr (.inl rfl),q,d⟩
  ·show y.opn=_;grind
  ·have e:y.awake≥0:=e;omega
  ·rcases e with e|e
   ·have e:y.awake≥0:=e;omega
   ·exact absurd e (show ¬(1:Int)=4 by decide)
theorem FZ{c:bg}(b:Good c p){i:Nat}(d:i<p.length)(hl:bG (at2 p i).op=true)(r:R4):
 ∃j:Nat,(bS p (bA p).1 i r).1=(j:Int)∧j≤p.length∧osF p j=osF p i:=by
 have A:=b.may i d;have h:=b.len;obtain⟨q,D,g1,u⟩:=nG b.jmp.st d;obtain⟨v,w,x⟩:=mO g1 d u;have nxt:opP p i≠13→opP p i≠14→IntKind.i64.wrap ((i:Int)+1)=((i+1:Nat):Int)∧i+1≤p.length∧osF p (i+1)=osF p i:=fun e1 e2=>⟨by rw[wrap64 (by omega) (by omega)];rfl,d,x e1 e2⟩
 have e:=hl;simp only[bG,qi,decide_eq_true_eq]at e;have B:¬((i:Int)<0∨(i:Int)≥p.length∨bX (at2 p i)=false∨bG (at2 p i).op=false):=by
  grind
 have o:=b.jmp.len;unfold bS;by_cases f:(at2 p (i:Int)).op≥18∧(at2 p (i:Int)).op≠20
 ·rw[if_pos f];have s:opP p i=(at2 p (i:Int)).op:=rfl
  by_cases g:(at2 p (i:Int)).op=22
  ·obtain⟨j,k,y,z⟩:=b.jmp.bk i d g;grind
  ·obtain⟨j,k,y,z⟩:=b.jmp.br i d (by grind)
   have C:IntKind.i64.wrap (at0 (bA p).1 (i:Int)+1)=((j+1:Nat):Int):=by rw[k,wrap64 (by omega) (by omega)];rfl
   grind
 ·have s:opP p i=(at2 p (i:Int)).op:=rfl;grind
end
theorem fZ(K:MK)(t:Nat)(S:MT):(ca K t S).th t=gR K t (S.th t)∧(∀u,u≠t→(ca K t S).th u=S.th u)∧(ca K t S).w=S.w∧(ca K t S).o=S.o∧(ca K t S).q=S.q:=by
 unfold ca gR
 by_cases h:(S.th t).status=0∧(S.th t).at_≥(at3 K.c.progs t).length
 ·rw[if_pos h,if_pos h];exact⟨bD _ _ _,fun u hu=>cF _ _ hu,rfl,rfl,rfl⟩
 grind
theorem c6(f:Nat→Man)(t:Nat)(x:Man):iW f t x t=x:=by rw[iW,Nat.beq_refl];rfl
theorem cH(f:Nat→Man){t u:Nat}(x:Man)(h:u≠t):iW f t x u=f u:=by
 have:Nat.beq u t=false:=by rw[Bool.eq_false_iff,Ne,Nat.beq_eq];exact h
 rw[iW,this];rfl
theorem uO(K:MK)(t:Nat)(S:RM):(fx K t S).th t=uH K t (S.th t)∧(∀u,u≠t→(fx K t S).th u=S.th u)∧(fx K t S).w=S.w∧(fx K t S).o=S.o∧(fx K t S).q=S.q:=by
 unfold fx uH
 by_cases h:(S.th t).status=0∧(S.th t).at_=(at3 K.c.progs t).length∧cA (S.th t).has=false
 ·rw[if_pos h,if_pos h];exact⟨c6 _ _ _,fun u hu=>cH _ _ hu,rfl,rfl,rfl⟩
 grind
section
variable {K:MK}{n:Nat}{a:Nat→Nat}{S S':MT}{T T':RM}
theorem re(f:bY K n a S)(k:Both K n S T){t:Nat}(H:t<n)(A:(S.th t).status=0){s:Nat}(h1:∀u,u≠t→S'.th u=S.th u)(B:∀u,u≠t→T'.th u=T.th u)(C:T'.w=S'.w)(D:T'.o=S'.o)
 (g:S'.q=S.q) (h:T'.q=T.q) (b:S'.o.length=S'.w.length) (j:∀v∈S'.o,-1≤v) (I:vd (at3 K.c.progs t) (at5 K.m t) (S'.th t) (T'.th t)) (E:u3 (at3 K.c.progs t) s (S'.th t)):
 bY K n (gh a t s) S'∧Both K n S' T':=by
 refine⟨⟨fun u hu=>?_,b,j,fun c hc u hu=>?_,fun c hc=>by rw[g];exact f.nod c hc⟩,C,D,fun c hc=>by rw[h,g];exact k.q c hc,fun u hu=>?_⟩
 ·by_cases e:u=t
  ·subst e;rw[gh,if_pos rfl];exact E
  ·rw[gh,if_neg e,h1 u e];exact f.th u hu
 ·rw[g]at hu;obtain⟨v,x,y,G,z⟩:=f.q c hc u hu;have d:v≠t:=fun e=>by grind
  exact⟨v,x,y,by grind,by rw[gh,if_neg d];exact z⟩
 ·by_cases e:u=t
  ·grind
  ·rw[h1 u e,B u e];exact k.th u hu
end
end Go.Proofs.Y
namespace Go.Proofs.Y
open Go.RowKit Go.Am Go.Sy
theorem uM{l:List Int}(hl:l.length=3){i:Int}(b:0≤i∧i<3)(v:Int)(k:Nat)(c:k<3):at0 (l.set i.toNat v) k=if(k:Int)=i then v else at0 l k:=by
 rw[gf k (by omega)]
 grind
theorem Dt(k:Nat)(b:k<3):at0 (List.replicate 3 (0:Int)) k=0:=by rw[gv (by grind),List.getElem_replicate]
section
variable {K:MK}{n:Nat}{a:Nat→Nat}{S:MT}{T:RM}
theorem DU(E:KOk K n)(A:bY K n a S)(B:Both K n S T){t:Nat}(s:t<n)(v:(S.th t).status=0)(j:(S.th t).awake≥0):
 bY K n (gh a t (a t)) (ca K t (goM K t S))∧Both K n (ca K t (goM K t S)) (goR K t T):=by
 have d:=B.th t s;have f:=A.th t s;obtain⟨b,p,q,g⟩:=f.wait (.inl j);have g:=g j;have J:=f.le;obtain⟨G,O⟩:=iC E s (b:=b) (by omega) q
 obtain⟨P,Y⟩:=tG E s (b:=b) (by omega) q
 have hc:=j8 E.conf G;have L:goM K t S=cD S t (awT (opT (S.th t) [⟨at0 K.c.conds (S.th t).awake,false⟩]) (-1)):=by rw[goM,if_pos j]
 have W:(T.th t).wants=true:=by rw[d.wants,decide_eq_true j]
 have X:(T.th t).at_-1=(b:Int):=by rw[d.at_,f.at_,p];omega
 have M:goR K t T=b6 T t (haR (waR (T.th t) false) ((T.th t).has.set (at0 K.c.conds (at2 (at3 K.c.progs t) b).a).toNat 1)):=by
  unfold goR;grind
 rw[L,M,g,hc];have m:(S.th t).opn=[]:=by rw[f.opn,if_neg (fun e=>by omega)]
 obtain⟨z,Q,H,D,R⟩:=fZ K t (cD S t (awT (opT (S.th t) [⟨(at2 (at3 K.c.progs t) b).a,false⟩]) (-1)));have C:(cD S t (awT (opT (S.th t) [⟨(at2 (at3 K.c.progs t) b).a,false⟩]) (-1))).th t=awT (opT (S.th t) [⟨(at2 (at3 K.c.progs t) b).a,false⟩]) (-1):=bD _ _ _;rw[C]at z;have N:gR K t (awT (opT (S.th t) [⟨(at2 (at3 K.c.progs t) b).a,false⟩]) (-1))=awT (opT (S.th t) [⟨(at2 (at3 K.c.progs t) b).a,false⟩]) (-1):=by
  unfold gR;rw[if_neg];rintro⟨_,h⟩;have h:(S.th t).at_≥_:=h;rw[f.at_]at h;omega
 rw[N]at z;refine re A B s v (fun u hu=>by rw[Q u hu];exact cF _ _ hu) (fun u hu=>cH _ _ hu) (by rw[H];exact B.w) (by rw[D];exact B.o) R rfl (by rw[H,D];exact A.own) (by rw[D];exact A.ow) ?_ ?_
 ·rw[z];rw[show(b6 T t (haR (waR (T.th t) false) ((T.th t).has.set (at2 (at3 K.c.progs t) b).a.toNat 1))).th t=_ from c6 _ _ _]
  refine⟨d.at_,d.fuel,d.status,d.r0,d.r1,d.r2,d.r3,d.told,d.mate,by show(List.set _ _ _).length=3;rw[qu];exact d.hl,fun k I=>?_,rfl⟩
  show at0 ((T.th t).has.set _ _) k=dC [⟨(at2 (at3 K.c.progs t) b).a,false⟩] k;rw[uM d.hl G 1 k I,d.has k I,m];have:=n8 (l:=[]) (x:=⟨(at2 (at3 K.c.progs t) b).a,false⟩) (fun y U=>by cases U) k
  grind
 ·rw[z];refine⟨f.at_,f.le,f.run, ?_,fun e=>?_,fun e=>?_,f.sts,f.fu,f.log⟩
  ·show [_]=_;rw[if_pos ⟨v,(show(-1:Int)<0 by decide)⟩,p,P,O,hc]
  ·have e:(-1:Int)≥0:=e;omega
  ·rcases e with e|e
   ·have e:(-1:Int)≥0:=e;omega
   ·have e:(S.th t).status=4:=e;omega
theorem It(E:KOk K n)(d:bY K n a S)(f:Both K n S T){t:Nat}(m:t<n)(p:(S.th t).status=0)(D:(S.th t).awake<0)(s:(S.th t).fuel=0):
 bY K n (gh a t (a t)) (ca K t (goM K t S))∧Both K n (ca K t (goM K t S)) (goR K t T):=by
 have b:=f.th t m;have c:=d.th t m;have v:goM K t S=dn S t 3:=by rw[goM,if_neg (by omega),if_pos s]
 have x:¬(T.th t).wants=true:=by rw[b.wants,decide_eq_false (by omega)];decide
 have y:goR K t T=lN T t 3:=by
  unfold goR;rw[if_neg x,if_pos (by rw[b.fuel];exact s)]
 rw[v,y];obtain⟨j,A,q,l,B⟩:=fZ K t (dn S t 3);have g:(dn S t 3).th t=opT (stT (S.th t) 3) []:=bD _ _ _;have z:gR K t (opT (stT (S.th t) 3) [])=opT (stT (S.th t) 3) []:=by
  unfold gR;rw[if_neg];rintro⟨h,_⟩;exact absurd h (show ¬(3:Int)=0 by decide)
 rw[g,z]at j;refine re d f m p (fun u hu=>by rw[A u hu];exact cF _ _ hu) (fun u hu=>cH _ _ hu) (by rw[q];exact f.w) (by rw[l];exact f.o) B rfl (by rw[q,l];exact d.own) (by rw[l];exact d.ow) ?_ ?_
 ·rw[j,show(lN T t 3).th t=haR (stR (T.th t) 3) (List.replicate (T.th t).has.length 0)from c6 _ _ _]
  refine⟨b.at_,b.fuel,rfl,b.r0,b.r1,b.r2,b.r3,b.told,b.mate,by show(List.replicate _ _).length=3;rw[List.length_replicate];exact b.hl,fun k C=>?_,b.wants⟩
  show at0 (List.replicate (T.th t).has.length 0) k=dC [] k;rw[b.hl,Dt k C];rfl
 ·rw[j];refine⟨c.at_,c.le,fun e=>absurd e (show ¬(3:Int)=0 by decide), ?_,fun e=>?_,fun e=>?_,.inr (.inr (.inr (.inl rfl))),c.fu,c.log⟩
  ·show([]:List Held)=_;rw[if_neg (fun e=>absurd e.1 (show ¬(3:Int)=0 by decide))]
  ·have e:(S.th t).awake≥0:=e;omega
  ·rcases e with e|e
   ·have e:(S.th t).awake≥0:=e;omega
   ·exact absurd e (show ¬(3:Int)=4 by decide)
theorem vG(d:bY K n a S)(e:Both K n S T){t:Nat}(f:t<n)(g:(S.th t).status=0)(k:(S.th t).fuel≠0):
 bY K n (gh a t (a t)) (cD S t (fuT (S.th t) ((S.th t).fuel-1)))∧Both K n (cD S t (fuT (S.th t) ((S.th t).fuel-1))) (b6 T t (fuR (T.th t) ((S.th t).fuel-1))):=by
 have b:=e.th t f;have c:=d.th t f;have h:=c.fu;have j:=c.log;refine re d e f g (fun u hu=>cF _ _ hu) (fun u hu=>cH _ _ hu) e.w e.o rfl rfl d.own d.ow ?_ ?_
 ·rw[show(cD S t (fuT (S.th t) ((S.th t).fuel-1))).th t=_ from bD _ _ _,show(b6 T t (fuR (T.th t) ((S.th t).fuel-1))).th t=_ from c6 _ _ _]
  exact⟨b.at_,rfl,b.status,b.r0,b.r1,b.r2,b.r3,b.told,b.mate,b.hl,b.has,b.wants⟩
 ·rw[show(cD S t (fuT (S.th t) ((S.th t).fuel-1))).th t=_ from bD _ _ _]
  exact⟨c.at_,c.le,c.run,c.opn,c.aw,c.wait,c.sts,⟨by show 0≤(S.th t).fuel-1;omega,by show(S.th t).fuel-1≤1000;omega⟩,by show(S.th t).log.length+((S.th t).fuel-1)≤1000;omega⟩
theorem nN(a:Nat→Nat)(t:Nat):gh a t (a t)=a:=by unfold gh;grind
theorem pN(p:KOk K n)(y:bY K n a S)(z:Both K n S T){t:Nat}(s:t<n)(f:(S.th t).status=0){b:MT}{T1:RM}{e:Nat}(h1:∀u,u≠t→b.th u=S.th u)(O:∀u,u≠t→T1.th u=T.th u)(P:T1.w=b.w)(Q:T1.o=b.o)
 (R:b.q=S.q) (A:T1.q=T.q) (x:b.o.length=b.w.length) (B:∀v∈b.o,-1≤v) (C:vd (at3 K.c.progs t) (at5 K.m t) (b.th t) (T1.th t)) (D:(b.th t).status=0) (g:(b.th t).awake<0) (h:(b.th t).at_=(e:Int))
 (j:e≤(at3 K.c.progs t).length) (k:(b.th t).opn=dK (at3 K.c.progs t) e) (l:0≤(b.th t).fuel∧(b.th t).fuel≤1000) (d:(b.th t).log.length+(b.th t).fuel≤1000):
 bY K n (gh a t e) (ca K t b)∧Both K n (ca K t b) (fx K t T1):=by
 obtain⟨E,G,H,I,J⟩:=fZ K t b;obtain⟨e1,e2,e3,e4,L⟩:=uO K t T1;obtain⟨M,N⟩:=Mf (K:=K) p.conf (p.gd t s) rfl C D g h j k l d;exact re y z s f (fun u hu=>by grind) (fun u hu=>by grind) (by grind) (by grind) (by grind) (by grind) (by grind) (by grind) (by grind) (by grind)
end
end Go.Proofs.Y
namespace Go.Proofs.Y
open Go.RowKit Go.Am Go.Sy
theorem mw(S:RM)(t:Nat)(y z:Man):b6 (b6 S t y) t z=b6 S t z:=by
 unfold b6;congr 1;unfold iW
 grind
theorem kL(S:RM)(t:Nat)(y:Man):(b6 S t y).th t=y:=c6 _ _ _
theorem y0(S:RM)(t:Nat):(lF S t).th t=atR (S.th t) (IntKind.i64.wrap ((S.th t).at_+1)):=kL _ _ _
theorem yE(K:MK)(S:RM)(t:Nat)(x:Instr):ck K (lF S t) t x=ck K S t x:=by
 unfold ck;rw[y0];rfl
theorem pg(S:RM)(c:Nat):∀k,cW S c (k+1)=cW (eH S c) c k
 |0=>rfl
 |k+1=>by
  show eH (cW S c (k+1)) c=_;rw[pg S c k];rfl
theorem KU{S:RM}{a:Nat}{u:Int}{l:List Int}(h:S.q a=u::l):wk1 a S u.toNat=eH S a∧(eH S a).q a=l:=by
 unfold wk1 eH;rw[h];constructor
 ·grind
 ·exact updQ_same' _ _ _
where updQ_same' (q:Nat→List Int) (c:Nat) (l:List Int):dL q c l c=l:=by rw[dL,Nat.beq_refl];rfl
section
variable (n t op a:Nat)(s:WdS)
theorem j6{c:bg}{S:RM}(h1:c=s.K.c)(b:S=doR s.K t s.S s.x):doL n t s c S:=DK ⟨h1,b⟩
theorem Hy(b:DoI n t op a s):IntKind.i64.wrap (IntKind.i64.wrap ((s.S.th t).at_+1)-1)=(s.S.th t).at_:=by
 have:=b.at_;rw[wrap64 (n:=(s.S.th t).at_+1) (by omega) (by omega),wrap64 (by omega) (by omega)]
 omega
theorem K6(f:DoI n t op a s)(h:op≤11):do8 n t op s:=by
 have g:=f.op_;have j:doR s.K t s.S s.x=if ck s.K s.S t s.x=true then lN s.S t 2 else hY s.K (lF s.S t) t s.x:=by
  unfold doR;rw[if_neg (by omega),if_neg (by omega),if_neg (by omega),if_neg (by omega),if_neg (by omega),if_neg (by omega)]
  rfl
 refine⟨⟨s.K,lF s.S t,s.x⟩,rfl,rfl,rfl,rfl,rfl,jD _ ⟨rfl,g.symm,rfl,rfl,rfl,rfl,jy _ (fY _ ⟨f.wd h,fun y m=>?_,trivial⟩) _⟩ _⟩
 obtain⟨c,S,b⟩:=y;obtain⟨h1,l,d⟩:=m;have d:b=!ck s.K (lF s.S t) t s.x:=d;rw[yE]at d;subst h1 l d;refine⟨fun e=>?_,fun e=>j6 n t s rfl ?_⟩
 ·have e:ck s.K s.S t s.x=true:=by grind
  have k:hY s.K (lF s.S t) t s.x=lF s.S t:=by unfold hY;grind
  rw[k,y0];have hl:(atR (s.S.th t) (IntKind.i64.wrap ((s.S.th t).at_+1))).has.length=3:=f.has;refine⟨⟨by omega,rfl,by omega,by omega⟩,j6 n t s rfl ?_⟩
  rw[j,if_pos e,lF,mw,lN,show(atR (s.S.th t) (IntKind.i64.wrap ((s.S.th t).at_+1))).at_=IntKind.i64.wrap ((s.S.th t).at_+1)from rfl,Hy n t op a s f]
  rfl
 grind
theorem HV(b:DoI n t 12 a s):N8 n t s:=by
 have c:=b.op_;have hl:=b.told;refine⟨by omega,bP (b.a4 rfl) ⟨by simp;omega,by simp,j6 n t s rfl ?_⟩⟩
 unfold doR;grind
theorem JQ(d:DoI n t 13 a s):hasB t s s.x.a (IntKind.i64.wrap (1+s.x.b)) (doL n t s s.K.c):=by
 have f:=d.op_;have e:0≤s.x.a∧s.x.a<((s.S.th t).has.length:Int):=by rw[d.has];exact d.a3 (.inl rfl)
 refine⟨e,e,j6 n t s rfl ?_⟩;unfold doR;grind
theorem JP(b:DoI n t 14 a s):LH n t s:=by
 have e:=b.op_;obtain⟨h,l2,g,l4⟩:=b.lv rfl;have f:=b.at_;have d:0≤(at2 (at3 s.K.c.progs t) (at0 (s.S.th t).mate (s.S.th t).at_)).a∧(at2 (at3 s.K.c.progs t) (at0 (s.S.th t).mate (s.S.th t).at_)).a<((s.S.th t).has.length:Int):=by rw[b.has];exact l4
 unfold LH;rw[Hy n t 14 a s b];refine⟨⟨by omega,by omega⟩,⟨f.1,l2⟩,g,d,d,j6 n t s rfl ?_⟩
 unfold doR;grind
theorem JH(b:DoI n t 15 a s):NT n t a s:=by
 have g:=b.op_;have d:=b.a_ (by decide)
 obtain⟨f,l2,h⟩:=b.wt rfl;obtain⟨q1,q2⟩:=b.a3 (.inr (by decide))
 have j:=(b.q a (by omega)).1
 rw[d]at f l2 h;have e:0≤at0 s.K.c.conds a∧at0 s.K.c.conds a<((s.S.th t).has.length:Int):=by rw[b.has];grind
 refine⟨⟨by omega,f⟩,e,e,by omega,by simp;omega,j6 n t s rfl ?_⟩
 unfold doR;rw[if_neg (by omega),if_neg (by omega),if_neg (by omega),if_pos (by omega),d,kL,mw]
 rfl
theorem H7(m:DoI n t op a s)(h:16≤op):O8 n t op a s:=by
 have B:=m.op_;have C:=m.ops.2;have z:=m.a_ (by omega)
 obtain⟨q1,q2⟩:=m.a3 (.inr (by omega))
 obtain⟨D,w⟩:=m.q a (by omega)
 have k:op=16→doR s.K t s.S s.x=cW (lF s.S t) a 1:=fun e=>by
  unfold doR;rw[if_neg (by omega),if_neg (by omega),if_neg (by omega),if_neg (by omega),if_pos (by omega),z]
  rfl
 have A:op=17→doR s.K t s.S s.x=cW (lF s.S t) a ((lF s.S t).q a).length:=fun e=>by
  unfold doR;rw[if_neg (by omega),if_neg (by omega),if_neg (by omega),if_neg (by omega),if_neg (by omega),if_pos (by omega),z]
  rfl
 have b:(op=16∧Nat.beq op 16=true)∨(op=17∧Nat.beq op 16=false):=by
  have:op=16∨op=17:=by omega
  rcases this with rfl|rfl
  ·simp_all
  ·exact .inr ⟨rfl,rfl⟩
 constructor
 ·rintro⟨S⟩ ⟨d,o⟩;have d:bif Nat.beq op 16 then S=lF s.S t else cW S a (S.q a).length=doR s.K t s.S s.x:=d
  have o:∀u∈S.q a,0≤u∧u<(n:Int):=o;refine⟨fun e=>?_,fun e=>?_⟩
  ·have e:((S.q a).length:Int)>0:=qb e;have p:(0:Int)≤0∧(0:Int)<((S.q a).length:Int):=⟨by omega,e⟩
   cases j:S.q a with
   |nil=>grind
   |cons u l=>
    have hu:0≤u∧u<(n:Int):=o u (by grind)
    obtain⟨w1,w2⟩:=KU j;have e1:at0 (u::l) 0=u:=rfl;rw[j]at p;refine⟨p,p, ?_⟩;show ixP (at0 (u::l) 0) n _;rw[e1];refine⟨hu,yJ ?_ n hu.1 hu.2⟩;refine⟨⟨by omega,by omega,Int.le_refl _⟩, ?_⟩
    show bif Nat.beq op 16 then doL n t s s.K.c (wk1 a S u.toNat)else Ai n t op a s (wk1 a S u.toNat) _
    rw[w1];rcases b with⟨g,f⟩|⟨y,f⟩
    ·rw[f]at d ⊢;refine j6 n t s rfl ?_;rw[k g,show S=_ from d]
     rfl
    ·rw[f]at d ⊢;refine xV n t op a s ⟨⟨?_,fun v E=>?_⟩, ?_,trivial⟩
     ·show bif Nat.beq op 16 then _ else cW (eH S a) a ((eH S a).q a).length=_
      rw[f,w2];show cW (eH S a) a l.length=_;rw[← pg,← show _=_ from d,j]
      rfl
     ·grind
     ·show((eH S a).q a).length<(S.q a).length;grind
  ·have e:¬((S.q a).length:Int)>0:=qc e;have j:S.q a=[]:=qp (by omega)
   refine j6 n t s rfl ?_;show S=_;rcases b with⟨g,f⟩|⟨y,f⟩
   ·rw[f]at d;rw[k g,← show S=_ from d]
    show S=eH S a;unfold eH;rw[j]
   ·rw[f,j]at d;exact d
 ·refine xV n t op a s ⟨⟨?_,w⟩,trivial⟩;grind
theorem MA(b:DoI n t op a s):drP n t op a s:=by
 unfold drP;by_cases c:op≤11
 ·rw[show Nat.ble op 11=true by simp_all]
  exact K6 n t op a s b c
 ·rw[show Nat.ble op 11=false by rw[Bool.eq_false_iff,Ne,Nat.ble_eq];exact c]
  have:op=12∨op=13∨op=14∨op=15∨16≤op:=by omega
  rcases this with rfl|rfl|rfl|rfl|h
  ·exact HV n t a s b
  ·exact JQ n t a s b
  ·exact JP n t a s b
  ·exact JH n t a s b
  ·have d:∀k,k<16→Nat.beq op k=false:=fun k f=>by
    rw[Bool.eq_false_iff];intro e;have:=Nat.eq_of_beq_eq_true e;omega
   rw[d 12 (by decide),d 13 (by decide),d 14 (by decide),d 15 (by decide)]
   exact H7 n t op a s b h
end
def DuI(n t:Nat)(s:WdS):Prop:=∃p,p∈mn∧DoI n t p.1 p.2 s
def duD(n t:Nat):FrD cod:=⟨8+n,fun _=>true,WdS,DuI n t,fun s=>[.ptr 0 0,li t,.agg (enc2 s.x)],fun s _=>qG s.K.c n s.S,
 [⟨bg×RM,fun s r=>r.1=s.K.c∧r.2=doR s.K t s.S s.x,fun r=>.any,fun r _=>vQ r.1 n (8+n) r.2⟩],fun _ _=>0⟩
def KJ(op a:Nat)(c:Ctr cod):Ctr cod:=fun e args h K=>match args with
 | [p,q,.agg [.i .i64 x,.i .i64 y,b,d,m]]=>.need (x=op∧(Nat.ble 15 op=true→y=a)) (c e [p,q,.agg [li op,bif Nat.ble 15 op then li a else .i .i64 y,b,d,m]] h K)
 |_=>.stuck "do"
theorem Ia{f:FuncId}{c:Ctr cod}(op a:Nat)(hc:bi F.S f c):bi F.S f (KJ op a c):=by
 intro E lo d args h H K av b k l;unfold KJ at b;split at b
 ·obtain⟨⟨rfl,m⟩,b⟩:=b;refine hc E lo d _ h H K av b k ?_;obtain⟨q,u,rfl,o,r0⟩:=l.inv_cons;obtain⟨v1,v,rfl,h1,r1⟩:=r0.inv_cons;obtain⟨v2,x,rfl,p,r2⟩:=r1.inv_cons;refine .cons o (.cons h1 (.cons ?_ r2));cases p with
  |agg hl j=>
   refine .agg hl fun i z w g1 g=>?_
   match i,g1 with
   |0,g1=>
    cases g1;cases j 0 _ w rfl g;exact .a _
   |1,g1=>
    cases g1;cases hb:Nat.ble 15 op with
    |true=>
     have e:=m hb;cases j 1 _ w rfl g;subst e;exact .a _
    |false=>grind
   |2,g1=>grind
   |3,g1=>grind
   |4,g1=>grind
   |i+5,g1=>cases g1
 ·exact qw b
theorem TV(n t:Nat):ou (duD n t) where
 len:=fun s h _=>ke s.K.c n s.S
 ahead:=fun s h j _ _ b=>by cases b
 behind:=fun B d s h j _ _ b=>by cases b
theorem Tp{n t:Nat}(h1:1≤n)(b:n≤3)(c:t<n):cv F.S (bf (x2 n t)):=bW fun p h=>by
 simp only[x2,qt]at h;subst h;exact Gh n t h1 b c
noncomputable def doZ(n t:Nat):Ctr cod:=dD vr (fun _ _=>none) (pb (duD n t))
theorem Ng{n t:Nat}(h1:1≤n)(b:n≤3)(c:t<n)(op a:Nat)(s:WdS):bi F.S 64 (doC n t op a s):=
 po bE _ _ (zm bE _ (dc (body:=b64) bE noExt bC (Tp h1 b c) Tryz.func64 rfl (by kernel_rfl) (by kernel_rfl) 2000 _ _ (by kernel_rfl)))
theorem ta(n t:Nat)(h1:1≤n)(f:n≤3)(g:t<n)(j:∀(s:WdS) (h:SH cod),mn.map (fun p=>Go.Sy.Tree.holds (vcC (doC n t p.1 p.2 s) (doD n t p.1 p.2) s h))=mn.map (fun p=>drP n t p.1 p.2 s)):bi F.S 64 (doZ n t):=
 cR bE _ _ (c7 bE _ _ (TV n t) fun s b h hl c=>by
  obtain⟨p,d,b⟩:=b;refine⟨KJ p.1 p.2 (doC n t p.1 p.2 s),Ia _ _ (Ng h1 f g _ _ s),⟨⟨b.op_,fun e=>b.a_ (Nat.le_of_ble_eq_true e)⟩, ?_⟩⟩
  have e:=List.map_inj_left.1 (j s h) p d;show Go.Sy.Tree.holds (vcC (doC n t p.1 p.2 s) (doD n t p.1 p.2) s h);rw[e];exact MA n t p.1 p.2 s b)
theorem KG:∀n t,1≤n→n≤3→t<n→bi F.S 64 (doZ n t)
 |1,0,a,b,c=>ta 1 0 a b c N1
 |2,0,a,b,c=>ta 2 0 a b c ND
 |2,1,a,b,c=>ta 2 1 a b c P4
 |3,0,a,b,c=>ta 3 0 a b c Oq
 |3,1,a,b,c=>ta 3 1 a b c Qb
 |3,2,a,b,c=>ta 3 2 a b c Ph
end Go.Proofs.Y
namespace Go.Proofs.Y
open Go.RowKit Go.Am Go.Sy
structure RpS where
 K:MK
 S:RM
def nV(s:RpS)(t:Nat):Instr:=at2 (at3 s.K.c.progs t) (s.S.th t).at_
def eb(s:RpS)(t:Nat):RM:=b6 s.S t (fuR (s.S.th t) (IntKind.i64.wrap ((s.S.th t).fuel-1)))
structure RpI(n t:Nat)(s:RpS):Prop where
 can:FP (de s.K.c n s.S) t
 has:(s.S.th t).has.length=3
 ds:gu s.K n s.S t=true→(s.S.th t).wants=false→(s.S.th t).fuel≠0→bG (nV s t).op=false→DuI n t ⟨s.K,eb s t,nV s t⟩
def rpD(n t:Nat):FrD cod:=⟨8+n,fun _=>true,RpS,RpI n t,fun s=>[.ptr 0 0,li t],fun s _=>qG s.K.c n s.S,
 [⟨bg×RM×Bool,fun s r=>r.1=s.K.c∧r.2.1=dh s.K n t s.S∧r.2.2=gu s.K n s.S t,fun r=>.b r.2.2,fun r _=>vQ r.1 n (8+n) r.2.1⟩],fun _ _=>0⟩
noncomputable def b26:Code:=Tryz.f26.body.getD .skip
noncomputable def x3(n t:Nat):List (FuncId×Ctr cod):=[(27,bB rcD),(64,doZ n t),(62,bB pA),(63,bB nxD),(60,bB haD)]
noncomputable def rpC(n t:Nat):Ctr cod:=dD vr M7 (goC (x3 n t) Tryz.f26 b26)
def rbL(n:Nat)(c:bg)(S:RM)(b:Bool)(Q:bg×RM×Bool→Prop):Prop:=∃r:bg×RM×Bool,S.w=r.2.1.w∧S.o=r.2.1.o∧b=r.2.2∧S.q 0=r.2.1.q 0∧S.q 1=r.2.1.q 1∧S.q 2=r.2.1.q 2∧moE S.th r.2.1.th n (cE c r.1 (Q r∧True))
theorem Mm{n:Nat}{c:bg}{S:RM}{b:Bool}{Q:bg×RM×Bool→Prop}(h:Q (c,S,b)):rbL n c S b Q:=⟨(c,S,b),rfl,rfl,rfl,rfl,rfl,rfl,j1 _ (fY c ⟨h,trivial⟩) _⟩
section
variable (n t:Nat)(s:RpS)
def rpL(c:bg)(S:RM)(b:Bool):Prop:=rbL n c S b fun r=>r.1=s.K.c∧r.2.1=dh s.K n t s.S∧r.2.2=gu s.K n s.S t
def MH(c:bg)(S:RM):Prop:=ifB (S.th t).status 0 (ifB (S.th t).at_ ((at3 s.K.c.progs t).length:Int) (haD.pre (S.th t,())∧((!cA (S.th t).has)=true→rpL n t s c (b6 S t (stR (S.th t) 1)) true)∧((!cA (S.th t).has)=false→rpL n t s c S true)) (rpL n t s c S true)) (rpL n t s c S true)
def Lh(S:RM)(x:Instr)(d:bg×RM→Prop):Prop:=∃z:WdS,S.w=z.S.w∧S.o=z.S.o∧S.q 0=z.S.q 0∧S.q 1=z.S.q 1∧S.q 2=z.S.q 2∧mlE S.th z.S.th n (ai t=ai t∧x.op=z.x.op∧x.a=z.x.a∧x.b=z.x.b∧x.c=z.x.c∧x.n=z.x.n∧
 mcE S.th z.S.th n (cE s.K.c z.K.c (DuI n t z∧(∀y:bg×RM,y.1=z.K.c∧y.2=doR z.K t z.S z.x→d y)∧True)))
def NH:RM:=b6 s.S t (rgR (atR (fuR (s.S.th t) (IntKind.i64.wrap ((s.S.th t).fuel-1))) (bS (at3 s.K.c.progs t) (s.S.th t).mate (s.S.th t).at_ (cP (s.S.th t))).1) (bS (at3 s.K.c.progs t) (s.S.th t).mate (s.S.th t).at_ (cP (s.S.th t))).2.1)
def goQ:Prop:=((0:Int)≤(s.S.th t).at_∧(s.S.th t).at_<((at3 s.K.c.progs t).length:Int))∧pA.pre ((nV s t).op,())∧
 (bG (nV s t).op=true→nxD.pre (at3 s.K.c.progs t,(s.S.th t).mate,(s.S.th t).at_,cP (s.S.th t),())∧MH n t s s.K.c (NH t s))∧
 (bG (nV s t).op=false→Lh n t s (eb s t) (nV s t) fun y=>MH n t s y.1 y.2)
def waQ:Prop:=let i:=IntKind.i64.wrap ((s.S.th t).at_-1)
 let k:=at0 s.K.c.conds (at2 (at3 s.K.c.progs t) i).a
 ((0:Int)≤i∧i<((at3 s.K.c.progs t).length:Int))∧((0:Int)≤(at2 (at3 s.K.c.progs t) i).a∧(at2 (at3 s.K.c.progs t) i).a<(s.K.c.conds.length:Int))∧bn k (s.S.th t).has (rpL n t s s.K.c (b6 s.S t (haR (waR (s.S.th t) false) ((s.S.th t).has.set k.toNat 1))) true)
def rpP:Prop:=rcD.pre (de s.K.c n s.S,(t:Int),())∧((!ik (de s.K.c n s.S) t)=true→rpL n t s s.K.c s.S false)∧((!ik (de s.K.c n s.S) t)=false→bnN t s.K.c.progs.length (((s.S.th t).wants=true→waQ n t s)∧
 ((s.S.th t).wants=false→ifB (s.S.th t).fuel 0 (N5 ((s.S.th t).has.length:Int)∧rpL n t s s.K.c (b6 s.S t (haR (stR (s.S.th t) 3) (List.replicate ((s.S.th t).has.length:Int).toNat 0))) true) (goQ n t s))))
end
end Go.Proofs.Y
namespace Go.Proofs.Y
open Go.RowKit Go.Am Go.Sy
set_option maxRecDepth 100000
theorem P8(s:RpS)(h:SH cod):Go.Sy.Tree.holds (vcC (rpC 1 0) (rpD 1 0) s h)=rpP 1 0 s:=by kernel_rfl
theorem NE(s:RpS)(h:SH cod):Go.Sy.Tree.holds (vcC (rpC 2 0) (rpD 2 0) s h)=rpP 2 0 s:=by kernel_rfl
theorem NF(s:RpS)(h:SH cod):Go.Sy.Tree.holds (vcC (rpC 2 1) (rpD 2 1) s h)=rpP 2 1 s:=by kernel_rfl
theorem NQ(s:RpS)(h:SH cod):Go.Sy.Tree.holds (vcC (rpC 3 0) (rpD 3 0) s h)=rpP 3 0 s:=by kernel_rfl
theorem NP(s:RpS)(h:SH cod):Go.Sy.Tree.holds (vcC (rpC 3 1) (rpD 3 1) s h)=rpP 3 1 s:=by kernel_rfl
theorem N9(s:RpS)(h:SH cod):Go.Sy.Tree.holds (vcC (rpC 3 2) (rpD 3 2) s h)=rpP 3 2 s:=by kernel_rfl
end Go.Proofs.Y
namespace Go.Proofs.Y
open Go.RowKit Go.Am Go.Sy
theorem eG(f:Nat→Man):∀n,(nR f n).length=n
 |0=>rfl
 |n+1=>by rw[nR,qn,eG f n];rfl
theorem q9(f:Nat→Man):∀(n k:Nat),k<n→(nR f n)[k]?=some (f k)
 |n+1,k,h=>by
  rw[nR];rcases qk k n with a|a
  ·rw[qf (by rw[eG];exact a)]
   exact q9 f n k a
  ·have:k=n:=by omega
   subst this;rw[qj (by rw[eG];grind),eG,Nat.sub_self]
   rfl
variable {f:Nat→Man}{k:Nat}
theorem pH{n:Nat}(h:k<n):dl (nR f n) (k:Int)=f k:=by
 have hl:k<(nR f n).length:=by rw[eG];exact h
 rw[vK hl];have:=q9 f n k h;grind
theorem Eg{n:Nat}(h:k<n):f k∈nR f n:=qo (q9 f n k h)
theorem yd(f:Nat→Man)(p:Man→Bool):∀n,(nR f n).all p=(List.range n).all fun u=>p (f u)
 |0=>rfl
 |n+1=>by
  rw[nR,List.all_append,yd f p n,List.range_succ,List.all_append];rfl
variable {K:MK}{S:RM}
theorem uC{n t:Nat}(d:t<n):ik (de K.c n S) t=gu K n S t:=by
 have hl:(de K.c n S).man.length=n:=eG _ _;have e:dl (de K.c n S).man (t:Int)=S.th t:=pH d;have b:∀k a,(de K.c n S).man.all (dp k a)=we n S.th k a:=fun k a=>yd _ _ _
 unfold ik gu ig;rw[e,hl,b,b]
 by_cases g:(S.th t).status=0
 ·rw[if_neg (by grind),if_pos (show t<n∧(S.th t).status=0 from⟨d,g⟩)]
  rfl
 grind
theorem vp{n t:Nat}(h:gu K n S t=true):t<n∧(S.th t).status=0:=by
 unfold gu at h
 grind
theorem eJ{t:Nat}{z:Man}(h:z.has.length=(S.th t).has.length)(u:Nat):((b6 S t z).th u).has.length=(S.th u).has.length:=by
 show((iW S.th t z) u).has.length=_;unfold iW
 by_cases e:Nat.beq u t=true
 all_goals simp_all
theorem B9(S:RM)(c u:Nat):((eH S c).th u).has.length=(S.th u).has.length:=by
 unfold eH;split
 ·rfl
 ·exact eJ (S:=S) (by rfl) u
theorem l6(S:RM)(c u:Nat):∀k,((cW S c k).th u).has.length=(S.th u).has.length
 |0=>rfl
 |k+1=>by
  show((eH (cW S c k) c).th u).has.length=_;rw[B9,l6 S c u k]
theorem CQ(K:MK)(S:RM)(t:Nat)(x:Instr)(u:Nat):((hY K S t x).th u).has.length=(S.th u).has.length:=by
 unfold hY
 by_cases a:ck K S t x=true
 ·grind
 ·simp only[a];by_cases b:x.op=8
  ·rw[if_pos b];exact eJ (S:=S) (by rfl) u
  grind
theorem Iz(K:MK)(S:RM)(t:Nat)(x:Instr)(u:Nat):((doR K t S x).th u).has.length=(S.th u).has.length:=by
 unfold doR
 by_cases h:x.op=12
 ·rw[if_pos h];exact eJ (S:=S) (by rfl) u
 rw[if_neg h]
 by_cases h:x.op=13
 ·rw[if_pos h];exact eJ (S:=S) (by exact qu ..) u
 rw[if_neg h]
 by_cases h:x.op=14
 ·rw[if_pos h];exact eJ (S:=S) (by exact qu ..) u
 rw[if_neg h]
 by_cases h:x.op=15
 ·rw[if_pos h];exact eJ (S:=S) (by exact qu ..) u
 rw[if_neg h]
 by_cases h:x.op=16
 ·rw[if_pos h,l6];exact eJ (S:=S) (by rfl) u
 rw[if_neg h]
 by_cases h:x.op=17
 ·rw[if_pos h,l6];exact eJ (S:=S) (by rfl) u
 rw[if_neg h]
 by_cases h:ck K S t x=true
 ·rw[if_pos h];exact eJ (S:=S) (by exact List.length_replicate ..) u
 ·rw[if_neg h,CQ];exact eJ (S:=S) (by rfl) u
section
variable (n t:Nat)(s:RpS)
theorem me{c:bg}{S:RM}{b:Bool}(h1:c=s.K.c)(a:S=dh s.K n t s.S)(d:b=gu s.K n s.S t):rpL n t s c S b:=Mm ⟨h1,a,d⟩
theorem Bl{c:bg}{S:RM}(h1:c=s.K.c)(a:fx s.K t S=dh s.K n t s.S)(b:true=gu s.K n s.S t)(hl:(S.th t).has.length≤1000):MH n t s c S:=by
 refine⟨fun e1=>⟨fun e2=>⟨hl,fun e3=>me n t s h1 ?_ b,fun e3=>me n t s h1 ?_ b⟩,fun e2=>me n t s h1 ?_ b⟩,fun e1=>me n t s h1 ?_ b⟩
 ·rw[← a,fx,if_pos ⟨eq_of_beq e1,eq_of_beq e2,by grind⟩]
 ·rw[← a,fx,if_neg (fun x=>by grind)]
 ·rw[← a,fx,if_neg (fun x=>ne_of_beq_false e2 x.2.1)]
 ·rw[← a,fx,if_neg (fun x=>ne_of_beq_false e1 x.1)]
theorem L4(j:t<n)(a:RpI n t s):rpP n t s:=by
 have p:=uC (K:=s.K) (S:=s.S) j;have hl:(de s.K.c n s.S).man.length=n:=eG _ _;have l:dl (de s.K.c n s.S).man (t:Int)=s.S.th t:=pH j;unfold rpP;rw[p];refine⟨a.can,fun e=>?_,fun e=>?_⟩
 ·have e:gu s.K n s.S t=false:=by simpa using e
  exact me n t s rfl (by rw[dh,if_neg (by grind)]) e.symm
 have e:gu s.K n s.S t=true:=by simpa using e
 obtain⟨_,z⟩:=vp e;have d:dh s.K n t s.S=goR s.K t s.S:=by rw[dh,if_pos e]
 have h:=a.can.pl (by omega) (by grind)
 obtain⟨g,o⟩:=a.can.at_ (by omega) (by grind) (by grind)
 rw[l]at g;have g:0≤(s.S.th t).at_∧(s.S.th t).at_<((at3 s.K.c.progs t).length:Int):=g;refine⟨⟨by omega,h⟩,fun w=>?_,fun w=>⟨fun b=>?_,fun b=>?_⟩⟩
 ·obtain⟨w1,w2,w3⟩:=a.can.wait (by omega) (by grind) (by grind) (by grind)
  rw[l]at w1 w2 w3;have q:IntKind.i64.wrap ((s.S.th t).at_-1)=(s.S.th t).at_-1:=wrap64 (by omega) (by omega)
  have m:=w3 (s.S.th t) (Eg j);unfold waQ;rw[q];refine⟨⟨by omega,by omega⟩,w2,m,m,me n t s rfl ?_ e.symm⟩
  rw[d];unfold goR;rw[if_pos w]
 all_goals have w':¬(s.S.th t).wants=true:=by grind
 ·have u:=a.has;refine⟨⟨by omega,rfl,by omega,by omega⟩,me n t s rfl ?_ e.symm⟩
  rw[d];unfold goR;rw[if_neg w',if_pos (eq_of_beq b)];rfl
 ·have b:=ne_of_beq_false b;refine⟨g,trivial,fun lo=>⟨trivial,Bl n t s rfl ?_ e.symm ?_⟩,fun lo=>?_⟩
  ·rw[d];unfold goR;rw[if_neg w',if_neg b];show _=fx s.K t (if bG (nV s t).op=true then b6 (eb s t) t (rgR (atR ((eb s t).th t) _) _)else _)
   rw[if_pos lo,eb,kL,mw];rfl
  ·rw[NH,kL];show(s.S.th t).has.length≤1000;rw[a.has];decide
  ·refine⟨⟨s.K,eb s t,nV s t⟩,rfl,rfl,rfl,rfl,rfl,jD _ ⟨rfl,rfl,rfl,rfl,rfl,rfl,jy _ (fY _ ⟨a.ds e w b lo,fun y x=>?_,trivial⟩) _⟩ _⟩
   obtain⟨c,S⟩:=y;obtain⟨h1,v⟩:=x;subst h1 v;refine Bl n t s rfl ?_ e.symm ?_
   ·rw[d];unfold goR;rw[if_neg w',if_neg b];show _=fx s.K t (if bG (nV s t).op=true then _ else doR s.K t (eb s t) (nV s t))
    grind
   ·rw[Iz,eb,kL];show(s.S.th t).has.length≤1000;rw[a.has];decide
end
theorem Q4(n t:Nat):ou (rpD n t) where
 len:=fun s h _=>ke s.K.c n s.S
 ahead:=fun s h j _ _ a=>by cases a
 behind:=fun B b s h j _ _ a=>by cases a
theorem Sc{n t:Nat}(h1:1≤n)(a:n≤3)(b:t<n):cv F.S (bf (x3 n t)):=bW fun p h=>by
 simp only[x3,List.mem_cons,List.not_mem_nil,or_false]at h;rcases h with rfl|rfl|rfl|rfl|rfl
 ·exact Js
 ·exact KG n t h1 a b
 ·exact Gv
 ·exact NU
 ·exact LR
noncomputable def rpZ(n t:Nat):Ctr cod:=dD vr (fun _ _=>none) (pb (rpD n t))
theorem tw(n t:Nat)(h1:1≤n)(d:n≤3)(b:t<n)(e:∀s h,Go.Sy.Tree.holds (vcC (rpC n t) (rpD n t) s h)=rpP n t s):bi F.S 26 (rpZ n t):=
 cR bE _ _ (c7 bE _ _ (Q4 n t) fun s c h hl a=>⟨rpC n t,cR bE _ _ (dc (body:=b26) bE noExt bC (Sc h1 d b) Tryz.func26 rfl (by kernel_rfl) (by kernel_rfl) 2000 _ _ (by kernel_rfl)),⟨by
  show Go.Sy.Tree.holds (vcC (rpC n t) (rpD n t) s h);rw[e];exact L4 n t s b c⟩⟩)
theorem GE:∀n t,1≤n→n≤3→t<n→bi F.S 26 (rpZ n t)
 |1,0,a,b,c=>tw 1 0 a b c P8
 |2,0,a,b,c=>tw 2 0 a b c NE
 |2,1,a,b,c=>tw 2 1 a b c NF
 |3,0,a,b,c=>tw 3 0 a b c NQ
 |3,1,a,b,c=>tw 3 1 a b c NP
 |3,2,a,b,c=>tw 3 2 a b c N9
end Go.Proofs.Y
namespace Go.Proofs.Y
open Go.RowKit Go.Am Go.Sy
theorem jn{p:List Instr}{m:List Int}{x:One}{y:Man}(h:vd p m x y):cP y=regs x:=by rw[cP,regs,h.r0,h.r1,h.r2,h.r3]
theorem I0{S:MT}{t:Nat}{y:One}:(cD S t y).th t=y:=bD _ _ _
theorem kd(S:MT)(t:Nat)(y:One):(bO (cD S t y) t).th t=goT y (IntKind.i64.wrap (y.at_+1)) (regs y)∧(∀u,u≠t→(bO (cD S t y) t).th u=S.th u)∧(bO (cD S t y) t).w=S.w∧(bO (cD S t y) t).o=S.o∧(bO (cD S t y) t).q=S.q:=by
 refine⟨?_,fun u hu=>?_,rfl,rfl,rfl⟩
 ·show fF _ t (goT ((cD S t y).th t) _ (regs ((cD S t y).th t))) t=_;rw[bD,I0]
 ·show fF _ t _ u=_;rw[cF _ _ hu];exact cF _ _ hu
theorem ip(T:RM)(t:Nat)(z:Man):(b6 T t z).th t=z:=c6 _ _ _
theorem db(T:RM){t u:Nat}(z:Man)(h:u≠t):(b6 T t z).th u=T.th u:=cH _ _ h
section
variable {K:MK}{n:Nat}{a:Nat→Nat}{S:MT}{T:RM}
structure Goes(K:MK)(n:Nat)(a:Nat→Nat)(S:MT)(T:RM)(t:Nat):Prop where
 ok:KOk K n
 hold:bY K n a S
 both:Both K n S T
 lt:t<n
 st:(S.th t).status=0
 aw:(S.th t).awake<0
 lg:(S.th t).log.length+(S.th t).fuel≤999
theorem Goes.at_{t:Nat}(h:Goes K n a S T t):a t<(at3 K.c.progs t).length:=(h.hold.th t h.lt).run h.st
theorem Goes.opn{t:Nat}(h:Goes K n a S T t):(S.th t).opn=dK (at3 K.c.progs t) (a t):=by rw[(h.hold.th t h.lt).opn,if_pos ⟨h.st,h.aw⟩]
theorem Goes.wr{t:Nat}(h:Goes K n a S T t):IntKind.i64.wrap ((S.th t).at_+1)=((a t+1:Nat):Int):=by
 have:=h.at_;have:=(h.ok.gd t h.lt).len;rw[(h.hold.th t h.lt).at_,wrap64 (by omega) (by omega)]
 rfl
theorem Goes.os{t:Nat}(h:Goes K n a S T t):(opP (at3 K.c.progs t) (a t)=13→osF (at3 K.c.progs t) (a t+1)=osF (at3 K.c.progs t) (a t)++[((a t:Nat):Int)])∧
 (opP (at3 K.c.progs t) (a t)≠13→opP (at3 K.c.progs t) (a t)≠14→dK (at3 K.c.progs t) (a t+1)=dK (at3 K.c.progs t) (a t)):=by
 obtain⟨q,g,g1,d⟩:=nG (h.ok.gd t h.lt).jmp.st h.at_;obtain⟨b,e,f⟩:=mO g1 h.at_ d;exact⟨b,fun e1 e2=>by rw[dK,dK,f e1 e2]⟩
theorem Goes.turn{t:Nat}(h:Goes K n a S T t){b:MT}{T1:RM}{y:One}{z:Man}{d:Nat}(H:b.th t=y)(I:T1.th t=z)(h1:∀u,u≠t→b.th u=S.th u)(A:∀u,u≠t→T1.th u=T.th u)
 (s:b.w=S.w) (f:b.o=S.o) (B:b.q=S.q) (g:T1.w=T.w) (j:T1.o=T.o) (k:T1.q=T.q) (J:vd (at3 K.c.progs t) (at5 K.m t) y z) (L:y.status=0) (C:y.awake<0) (D:y.at_=(d:Int))
 (l:d≤(at3 K.c.progs t).length) (E:y.opn=dK (at3 K.c.progs t) d) (G:y.fuel=(S.th t).fuel) (v:y.log.length≤(S.th t).log.length+1):
 bY K n (gh a t d) (ca K t b)∧Both K n (ca K t b) (fx K t T1):=by
 have e:=h.hold.th t h.lt;have x:=h.lg;have p:=e.fu;exact pN h.ok h.hold h.both h.lt h.st h1 A (by rw[s,g];exact h.both.w) (by rw[f,j];exact h.both.o) B k (by rw[s,f];exact h.hold.own) (by rw[f];exact h.hold.ow) (by grind) (by grind) (by grind) (by grind) l (by grind)
  (by grind) (by grind)
theorem zN{t:Nat}(h:Goes K n a S T t)(hl:bG (at2 (at3 K.c.progs t) (a t)).op=true):
 ∃o,bY K n (gh a t o) (ca K t (bQ K t S (at2 (at3 K.c.progs t) (a t))))∧
  Both K n (ca K t (bQ K t S (at2 (at3 K.c.progs t) (a t)))) (fx K t (b6 T t (rgR (atR (T.th t) (bS (at3 K.c.progs t) (T.th t).mate (T.th t).at_ (cP (T.th t))).1) (bS (at3 K.c.progs t) (T.th t).mate (T.th t).at_ (cP (T.th t))).2.1))):=by
 have b:=h.both.th t h.lt;have d:=h.hold.th t h.lt;have e:=h.ok.mt t h.lt;have f:bQ K t S (at2 (at3 K.c.progs t) (a t))=cD S t (goT (S.th t) (bS (at3 K.c.progs t) (at5 K.m t) (S.th t).at_ (regs (S.th t))).1 (bS (at3 K.c.progs t) (at5 K.m t) (S.th t).at_ (regs (S.th t))).2.1):=by
  unfold bQ;grind
 rw[f,b.mate,b.at_,jn b];obtain⟨j,g,k,l⟩:=FZ (h.ok.gd t h.lt) h.at_ hl (regs (S.th t));rw[e,d.at_];refine⟨j,h.turn (bD _ _ _) (ip _ _ _) (fun u hu=>cF _ _ hu) (fun u hu=>db _ _ hu) rfl rfl rfl rfl rfl rfl ?_ h.st h.aw g k ?_ rfl (Nat.le_succ _)⟩
 ·exact⟨rfl,b.fuel,b.status,rfl,rfl,rfl,rfl,b.told,by exact b.mate,b.hl,b.has,b.wants⟩
 ·show(S.th t).opn=_;rw[h.opn,dK,dK,l]
theorem GD{t:Nat}(h:Goes K n a S T t)(m:opP (at3 K.c.progs t) (a t)=12):
 bY K n (gh a t (a t+1)) (ca K t (bQ K t S (at2 (at3 K.c.progs t) (a t))))∧Both K n (ca K t (bQ K t S (at2 (at3 K.c.progs t) (a t)))) (fx K t (doR K t T (at2 (at3 K.c.progs t) (a t)))):=by
 have b:=h.both.th t h.lt;have d:(at2 (at3 K.c.progs t) (a t)).op=12:=m;have e:bQ K t S (at2 (at3 K.c.progs t) (a t))=bO (cD S t (lgT (S.th t) ((S.th t).log++[dt (regs (S.th t)) (at2 (at3 K.c.progs t) (a t)).a]))) t:=by
  unfold bQ;rw[if_neg (by rw[d];decide),if_neg (by omega),if_pos d]
 have f:doR K t T (at2 (at3 K.c.progs t) (a t))=b6 T t (toR (atR (T.th t) (IntKind.i64.wrap ((T.th t).at_+1))) ((T.th t).told++[dt (cP (T.th t)) (at2 (at3 K.c.progs t) (a t)).a])):=by
  unfold doR;grind
 rw[e,f];obtain⟨g,j,n3,k,l⟩:=kd S t (lgT (S.th t) ((S.th t).log++[dt (regs (S.th t)) (at2 (at3 K.c.progs t) (a t)).a]));refine h.turn g (ip _ _ _) j (fun u hu=>db _ _ hu) n3 k l rfl rfl rfl ?_ h.st h.aw h.wr h.at_ ?_ rfl ?_
 ·exact⟨by show IntKind.i64.wrap ((T.th t).at_+1)=IntKind.i64.wrap ((S.th t).at_+1);rw[b.at_],b.fuel,b.status,b.r0,b.r1,b.r2,b.r3,by show(T.th t).told++_=(S.th t).log++_;rw[b.told,jn b],b.mate,b.hl,b.has,b.wants⟩
 ·show(S.th t).opn=_;rw[h.opn,h.os.2 (by omega) (by omega)]
 ·show((S.th t).log++[_]).length≤_;grind
theorem y7{t:Nat}(h:Goes K n a S T t)(j:opP (at3 K.c.progs t) (a t)=13):
 bY K n (gh a t (a t+1)) (ca K t (bQ K t S (at2 (at3 K.c.progs t) (a t))))∧Both K n (ca K t (bQ K t S (at2 (at3 K.c.progs t) (a t)))) (fx K t (doR K t T (at2 (at3 K.c.progs t) (a t)))):=by
 have d:=h.both.th t h.lt;have f:(at2 (at3 K.c.progs t) (a t)).op=13:=j;obtain⟨s,A⟩:=kf h.ok.conf (h.ok.gd t h.lt) h.at_ j;have m:=K1 ((h.ok.gd t h.lt).may _ h.at_) f;have g:dK (at3 K.c.progs t) (a t+1)=dK (at3 K.c.progs t) (a t)++[⟨(at2 (at3 K.c.progs t) (a t)).a,(at2 (at3 K.c.progs t) (a t)).b==1⟩]:=by
  rw[dK,h.os.1 j,List.map_append];rfl
 have o:bQ K t S (at2 (at3 K.c.progs t) (a t))=bO (cD S t (opT (S.th t) ((S.th t).opn++[⟨(at2 (at3 K.c.progs t) (a t)).a,(at2 (at3 K.c.progs t) (a t)).b==1⟩]))) t:=by
  unfold bQ;rw[if_neg (by rw[f];decide),if_neg (by omega),if_neg (by omega),if_pos f]
 have p:doR K t T (at2 (at3 K.c.progs t) (a t))=b6 T t (haR (atR (T.th t) (IntKind.i64.wrap ((T.th t).at_+1))) ((T.th t).has.set (at2 (at3 K.c.progs t) (a t)).a.toNat (IntKind.i64.wrap (1+(at2 (at3 K.c.progs t) (a t)).b)))):=by
  unfold doR;grind
 rw[o,p];obtain⟨v,w,n3,x,z⟩:=kd S t (opT (S.th t) ((S.th t).opn++[⟨(at2 (at3 K.c.progs t) (a t)).a,(at2 (at3 K.c.progs t) (a t)).b==1⟩]));refine h.turn v (ip _ _ _) w (fun u hu=>db _ _ hu) n3 x z rfl rfl rfl ?_ h.st h.aw h.wr h.at_ ?_ rfl (Nat.le_succ _)
 ·refine⟨by show IntKind.i64.wrap ((T.th t).at_+1)=IntKind.i64.wrap ((S.th t).at_+1);rw[d.at_],d.fuel,d.status,d.r0,d.r1,d.r2,d.r3,d.told,d.mate,by show(List.set _ _ _).length=3;rw[qu];exact d.hl,fun k l=>?_,d.wants⟩
  show at0 ((T.th t).has.set _ _) k=dC ((S.th t).opn++[_]) k;rw[uM d.hl s _ k l,n8,d.has k l]
  ·rcases m with e|e<;>rw[e]<;>rfl
  ·intro y q;rw[h.opn,pO]at q;grind
 ·show(S.th t).opn++[_]=_;rw[g,h.opn]
theorem zq{t:Nat}(h:Goes K n a S T t)(z:opP (at3 K.c.progs t) (a t)=14):
 bY K n (gh a t (a t+1)) (ca K t (bQ K t S (at2 (at3 K.c.progs t) (a t))))∧Both K n (ca K t (bQ K t S (at2 (at3 K.c.progs t) (a t)))) (fx K t (doR K t T (at2 (at3 K.c.progs t) (a t)))):=by
 have d:=h.both.th t h.lt;have A:=h.hold.th t h.lt;have o:(at2 (at3 K.c.progs t) (a t)).op=14:=z;obtain⟨j,D,M,E⟩:=(h.ok.gd t h.lt).jmp.lv _ h.at_ z;have f:dK (at3 K.c.progs t) (a t)=dK (at3 K.c.progs t) (a t+1)++[⟨(at2 (at3 K.c.progs t) j).a,(at2 (at3 K.c.progs t) j).b==1⟩]:=by
  rw[dK,E,List.map_append];rfl
 have m:=oc h.ok.conf (h.ok.gd t h.lt) (show a t≤(at3 K.c.progs t).length from by have:=h.at_;omega)
 rw[f]at m;have q:=m.in3 _ (List.mem_append_right _ (List.mem_singleton.2 rfl));have B:bQ K t S (at2 (at3 K.c.progs t) (a t))=bO (cD S t (opT (S.th t) ((S.th t).opn.take ((S.th t).opn.length-1)))) t:=by
  unfold bQ;rw[if_neg (by rw[o];decide),if_neg (by omega),if_neg (by omega),if_neg (by omega),if_pos o]
 have v:at0 (T.th t).mate (T.th t).at_=(j:Int):=by rw[d.mate,d.at_,A.at_,h.ok.mt t h.lt];exact D
 have C:doR K t T (at2 (at3 K.c.progs t) (a t))=b6 T t (haR (atR (T.th t) (IntKind.i64.wrap ((T.th t).at_+1))) ((T.th t).has.set (at2 (at3 K.c.progs t) j).a.toNat 0)):=by
  unfold doR;grind
 rw[B,C];have s:(S.th t).opn.take ((S.th t).opn.length-1)=dK (at3 K.c.progs t) (a t+1):=by
  rw[h.opn,f];simp
 rw[s];obtain⟨G,H,n3,I,J⟩:=kd S t (opT (S.th t) (dK (at3 K.c.progs t) (a t+1)));refine h.turn G (ip _ _ _) H (fun u hu=>db _ _ hu) n3 I J rfl rfl rfl ?_ h.st h.aw h.wr h.at_ rfl rfl (Nat.le_succ _)
 refine⟨by show IntKind.i64.wrap ((T.th t).at_+1)=IntKind.i64.wrap ((S.th t).at_+1);rw[d.at_],d.fuel,d.status,d.r0,d.r1,d.r2,d.r3,d.told,d.mate,by show(List.set _ _ _).length=3;rw[qu];exact d.hl,fun k w=>?_,d.wants⟩
 show at0 ((T.th t).has.set _ _) k=dC (dK (at3 K.c.progs t) (a t+1)) k;have g:∀y∈dK (at3 K.c.progs t) (a t+1),y.lock≠(at2 (at3 K.c.progs t) j).a:=fun y L=>by
  have:=(List.pairwise_append.1 m.lt).2.2 y L _ (List.mem_singleton.2 rfl);grind
 rw[uM d.hl q 0 k w,d.has k w,h.opn,f];have p:=n8 (l:=dK (at3 K.c.progs t) (a t+1)) (x:=⟨(at2 (at3 K.c.progs t) j).a,(at2 (at3 K.c.progs t) j).b==1⟩) g (k:Int);rw[p];by_cases e:(k:Int)=(at2 (at3 K.c.progs t) j).a
 ·rw[if_pos e,e,hF g]
 grind
end
end Go.Proofs.Y
namespace Go.Proofs.Y
open Go.RowKit Go.Am Go.Sy
theorem jr(q:Nat→List Int)(c:Nat)(l:List Int):dL q c l c=l:=by rw[dL,Nat.beq_refl];rfl
theorem jC(q:Nat→List Int){c d:Nat}(l:List Int)(h:d≠c):dL q c l d=q d:=by
 have:Nat.beq d c=false:=by rw[Bool.eq_false_iff,Ne,Nat.beq_eq];exact h
 rw[dL,this];rfl
section
variable {K:MK}{n:Nat}{a:Nat→Nat}{S:MT}{T:RM}
theorem C1{t:Nat}(h:Goes K n a S T t)(G:opP (at3 K.c.progs t) (a t)=15):
 bY K n (gh a t (a t+1)) (ca K t (bQ K t S (at2 (at3 K.c.progs t) (a t))))∧Both K n (ca K t (bQ K t S (at2 (at3 K.c.progs t) (a t)))) (fx K t (doR K t T (at2 (at3 K.c.progs t) (a t)))):=by
 have f:=h.both.th t h.lt;have H:=h.hold.th t h.lt;have j:(at2 (at3 K.c.progs t) (a t)).op=15:=G;obtain⟨I,R⟩:=iC h.ok h.lt h.at_ G;have hc:=j8 h.ok.conf I;generalize hcc:(at2 (at3 K.c.progs t) (a t)).a=c at*;have g:bQ K t S (at2 (at3 K.c.progs t) (a t))=bO (dn { S with q:=dL S.q c.toNat (S.q c.toNat++[(t:Int)]) } t 4) t:=by
  unfold bQ;rw[if_neg (by rw[j];decide),if_neg (by omega),if_neg (by omega),if_neg (by omega),if_neg (by omega),if_pos j,hcc]
 have P:doR K t T (at2 (at3 K.c.progs t) (a t))={ b6 T t (stR (haR (atR (T.th t) (IntKind.i64.wrap ((T.th t).at_+1))) ((T.th t).has.set c.toNat 0)) 4)with q:=dL T.q c.toNat (T.q c.toNat++[(t:Int)]) }:=by
  unfold doR;grind
 obtain⟨z,U,J,E,W⟩:=fZ K t (bO (dn { S with q:=dL S.q c.toNat (S.q c.toNat++[(t:Int)]) } t 4) t);obtain⟨e1,e2,e3,e4,X⟩:=uO K t { b6 T t (stR (haR (atR (T.th t) (IntKind.i64.wrap ((T.th t).at_+1))) ((T.th t).has.set c.toNat 0)) 4)with q:=dL T.q c.toNat (T.q c.toNat++[(t:Int)]) };obtain⟨L,Y,n3,n4,n5⟩:=kd { S with q:=dL S.q c.toNat (S.q c.toNat++[(t:Int)]) } t (opT (stT (S.th t) 4) []);rw[g,P];change (bO (dn { S with q:=dL S.q c.toNat (S.q c.toNat++[(t:Int)]) } t 4) t).th t=_ at L
 have Q:∀y:One,y.status=4→gR K t y=y:=fun y N=>by unfold gR;grind
 have z2:∀y:Man,y.status=4→uH K t y=y:=fun y N=>by unfold uH;grind
 rw[L,Q _ rfl]at z;have A:=e1.trans (congrArg (uH K t) (ip T t (stR (haR (atR (T.th t) (IntKind.i64.wrap ((T.th t).at_+1))) ((T.th t).has.set c.toNat 0)) 4)));have m:(S.th t).opn=[⟨c,false⟩]:=by rw[h.opn,R,hc]
 have B:∀d,d<3→∀u∈S.q d,u≠(t:Int):=fun d g u hu e=>by
  obtain⟨v,q1,q2,M,_⟩:=h.hold.q d g u hu;have:v=t:=by omega
  rw[this,h.st]at M;grind
 have C:∀d:Nat,(ca K t (bO (dn { S with q:=dL S.q c.toNat (S.q c.toNat++[(t:Int)]) } t 4) t)).q d=if d=c.toNat then S.q c.toNat++[(t:Int)]else S.q d:=fun d=>by
  rw[W];show dL S.q c.toNat _ d=_
  by_cases e:d=c.toNat
  ·rw[if_pos e,e,jr]
  ·rw[if_neg e,jC _ _ e]
 have p:∀u,u≠t→(ca K t (bO (dn { S with q:=dL S.q c.toNat (S.q c.toNat++[(t:Int)]) } t 4) t)).th u=S.th u:=fun u hu=>by
  rw[U u hu];exact Y u hu
 refine⟨⟨fun u hu=>?_, ?_, ?_,fun d g u hu=>?_,fun d g=>?_⟩, ?_, ?_,fun d g=>?_,fun u hu=>?_⟩
 ·by_cases e:u=t
  ·subst e;rw[gh,if_pos rfl,z];exact⟨h.wr,h.at_,fun e=>absurd e (show ¬(4:Int)=0 by decide),by show([]:List Held)=_;rw[if_neg (fun e=>absurd e.1 (show ¬(4:Int)=0 by decide))],fun e=>by have:=h.aw;have e:(S.th u).awake≥0:=e;omega,
    fun _=>⟨a u,rfl,G,fun e=>by have:=h.aw;have e:(S.th u).awake≥0:=e;omega⟩,.inr (.inr (.inr (.inr rfl))),H.fu,H.log⟩
  ·rw[gh,if_neg e,p u e];exact h.hold.th u hu
 ·rw[J,E];exact h.hold.own
 ·rw[E];exact h.hold.ow
 ·rw[C d]at hu;have old:u∈S.q d→∃v:Nat,u=(v:Int)∧v<n∧((ca K t (bO (dn { S with q:=dL S.q c.toNat (S.q c.toNat++[(t:Int)]) } t 4) t)).th v).status=4∧∀b:Nat,gh a t (a t+1) v=b+1→(at2 (at3 K.c.progs v) b).a=d:=fun s=>by
   obtain⟨v,q1,q2,M,Z⟩:=h.hold.q d g u s;have D:v≠t:=fun e=>B d g u s (by rw[q1,e])
   exact⟨v,q1,q2,by grind,by rw[gh,if_neg D];exact Z⟩
  by_cases e:d=c.toNat
  ·rw[if_pos e]at hu;rcases List.mem_append.1 hu with s|s
   ·grind
   ·rw[List.mem_singleton.1 s];refine⟨t,rfl,h.lt,by rw[z];rfl,fun b hb=>?_⟩
    rw[gh,if_pos rfl]at hb;grind
  grind
 ·rw[C d]
  by_cases e:d=c.toNat
  ·rw[if_pos e];refine List.nodup_append.2 ⟨by rw[← e];exact h.hold.nod d g,by simp,fun x hx y N=>?_⟩
   grind
  ·rw[if_neg e];exact h.hold.nod d g
 ·rw[J,e3];exact h.both.w
 ·rw[E,e4];exact h.both.o
 ·rw[C d,X];show dL T.q c.toNat _ d=_
  by_cases e:d=c.toNat
  ·rw[if_pos e,e,jr,h.both.q _ (by omega)]
  ·rw[if_neg e,jC _ _ e,h.both.q d g]
 ·by_cases e:u=t
  ·subst e;rw[z,A];refine⟨by show IntKind.i64.wrap ((T.th u).at_+1)=IntKind.i64.wrap ((S.th u).at_+1);rw[f.at_],f.fuel,rfl,f.r0,f.r1,f.r2,f.r3,f.told,f.mate,by show(List.set _ _ _).length=3;rw[qu];exact f.hl,fun k O=>?_,f.wants⟩
   show at0 ((T.th u).has.set _ _) k=dC [] k;rw[uM f.hl I 0 k O,f.has k O,m]
   by_cases e:(k:Int)=c
   ·rw[if_pos e];rfl
   ·rw[if_neg e];exact hF (l:=[⟨c,false⟩]) fun x hx=>by grind
  ·rw[p u e,e2 u e];rw[db _ _ e];exact h.both.th u hu
theorem HE(H:KOk K n)(g:bY K n a S)(m:Both K n S T){c:Nat}(hc:c<3):bY K n a (go S c)∧Both K n (go S c) (eH T c)∧∀t,(S.th t).status=0→(go S c).th t=S.th t:=by
 unfold go eH;rw[m.q c hc];cases hq:S.q c with
 |nil=>grind
 |cons u l=>
  obtain⟨v,rfl,A,E,G⟩:=g.q c hc u (by grind)
  have h:=g.th v A;have f:=m.th v A;have hnd:=g.nod c hc;simp;have j:∀t,t≠v→fF S.th v (awT (stT (S.th v) 0) c) t=S.th t:=fun t k=>cF _ _ k
  have p:∀d,dL S.q c l d=if d=c then l else S.q d:=fun d=>by
   by_cases e:d=c
   ·rw[if_pos e,e,jr]
   ·rw[if_neg e,jC _ _ e]
  obtain⟨b,w1,w2,w3⟩:=h.wait (.inr E);have C:=h.le;refine⟨⟨fun t k=>?_,g.own,g.ow,fun d s x B=>?_,fun d s=>?_⟩,⟨m.w,m.o,fun d s=>?_,fun t k=>?_⟩,fun t k=>j t (fun e=>by grind)⟩
  ·by_cases e:t=v
   ·subst e;rw[show({ S with th:=fF S.th t (awT (stT (S.th t) 0) c),q:=dL S.q c l }:MT).th t=_ from bD _ _ _]
    have I:=(tG H A (b:=b) (by omega) w2).2
    refine⟨h.at_,h.le,fun _=>by omega, ?_,fun _=>rfl,fun _=>⟨b,w1,w2,fun _=>?_⟩,.inl rfl,h.fu,h.log⟩
    ·show(S.th t).opn=_;rw[h.opn,if_neg (fun e=>by grind),if_neg (fun e=>by have e:(c:Int)<0:=e.2;omega)]
    ·exact(G b w1).symm
   ·rw[show({ S with th:=fF S.th v (awT (stT (S.th v) 0) c),q:=dL S.q c l }:MT).th t=_ from j t e]
    exact g.th t k
  ·have B:x∈dL S.q c l d:=B;have z:x∈S.q d:=by
    grind
   obtain⟨y,q1,q2,J,L⟩:=g.q d s x z;have D:y≠v:=fun e=>by
    grind
   grind
  ·show(dL S.q c l d).Nodup;rw[p d]
   by_cases e:d=c
   ·grind
   ·rw[if_neg e];exact g.nod d s
  ·show dL T.q c l d=dL S.q c l d;rw[p d]
   by_cases e:d=c
   ·rw[if_pos e,e,jr]
   ·rw[if_neg e,jC _ _ e];exact m.q d s
  ·by_cases e:t=v
   ·subst e;rw[show({ S with th:=fF S.th t (awT (stT (S.th t) 0) c),q:=dL S.q c l }:MT).th t=_ from bD _ _ _,show({ T with th:=iW T.th t (waR (stR (T.th t) 0) true),q:=dL T.q c l }:RM).th t=_ from c6 _ _ _]
    exact⟨f.at_,f.fuel,rfl,f.r0,f.r1,f.r2,f.r3,f.told,f.mate,f.hl,f.has,(decide_eq_true (show(c:Int)≥0 by omega)).symm⟩
   ·rw[show({ S with th:=fF S.th v (awT (stT (S.th v) 0) c),q:=dL S.q c l }:MT).th t=_ from j t e,show({ T with th:=iW T.th v (waR (stR (T.th v) 0) true),q:=dL T.q c l }:RM).th t=_ from cH _ _ e]
    exact m.th t k
theorem jz{t:Nat}(h:Goes K n a S T t){c:Nat}(hc:c<3):∀k,Goes K n a (d4 S c k) (cW T c k) t∧(d4 S c k).th t=S.th t
 |0=>⟨h,rfl⟩
 |k+1=>by
  obtain⟨g,e⟩:=jz h hc k;obtain⟨g1,d,f⟩:=HE g.ok g.hold g.both hc;have b:(d4 S c (k+1)).th t=(d4 S c k).th t:=f t g.st;exact⟨⟨g.ok,g1,d,g.lt,by rw[b];exact g.st,by rw[b];exact g.aw,by rw[b];exact g.lg⟩,by rw[b,e]⟩
theorem CN{t:Nat}(z:Man){c:Nat}(h:∀u∈T.q c,u.toNat≠t):eH (b6 T t z) c=b6 (eH T c) t z∧∀u∈(eH T c).q c,u.toNat≠t:=by
 unfold eH;show(match T.q c with| []=>_|u::l=>_)=_∧_
 cases hq:T.q c with
 |nil=>grind
 |cons u l=>
  rw[hq]at h;have hu:=h u List.mem_cons_self;refine⟨?_,fun x b=>h x (List.mem_cons_of_mem _ (by rw[← jr T.q c l];exact b))⟩
  show({ b6 T t z with th:=iW (iW T.th t z) u.toNat (waR (stR (iW T.th t z u.toNat) 0) true),q:=dL T.q c l }:RM)={ T with th:=iW (iW T.th u.toNat (waR (stR (T.th u.toNat) 0) true)) t z,q:=dL T.q c l }
  rw[cH _ _ hu];have:iW (iW T.th t z) u.toNat (waR (stR (T.th u.toNat) 0) true)=iW (iW T.th u.toNat (waR (stR (T.th u.toNat) 0) true)) t z:=by
   funext i
   by_cases e1:i=t
   ·subst e1;rw[cH _ _ (fun e=>hu e.symm),c6,c6]
   ·rw[cH _ _ e1]
    by_cases e2:i=u.toNat
    ·rw[e2,c6,c6]
    ·rw[cH _ _ e2,cH _ _ e2,cH _ _ e1]
  rw[this];rfl
theorem sw{t:Nat}(z:Man){c:Nat}(h:∀u∈T.q c,u.toNat≠t):∀k,cW (b6 T t z) c k=b6 (cW T c k) t z∧∀u∈(cW T c k).q c,u.toNat≠t
 |0=>⟨rfl,h⟩
 |k+1=>by
  obtain⟨e1,e2⟩:=sw z h k;obtain⟨e3,e4⟩:=CN (T:=cW T c k) z e2;exact⟨by rw[cW,e1,e3,cW],e4⟩
theorem sy{t:Nat}(h:Goes K n a S T t){c:Nat}(hc:c<3)(m:opP (at3 K.c.progs t) (a t)=16∨opP (at3 K.c.progs t) (a t)=17)(k:Nat):
 bY K n (gh a t (a t+1)) (ca K t (bO (d4 S c k) t))∧Both K n (ca K t (bO (d4 S c k) t)) (fx K t (cW (b6 T t (atR (T.th t) (IntKind.i64.wrap ((T.th t).at_+1)))) c k)):=by
 obtain⟨g,e⟩:=jz h hc k;have d:∀u∈T.q c,u.toNat≠t:=fun u hu e=>by
  rw[h.both.q c hc]at hu;obtain⟨v,rfl,q2,l,_⟩:=h.hold.q c hc u hu;have:v=t:=by omega
  rw[this,h.st]at l;grind
 rw[(sw (T:=T) _ d k).1];have b:=h.both.th t h.lt;have f:=g.both.th t g.lt;have j:=g.os.2 (by omega) (by omega)
 refine g.turn (y:=goT (S.th t) (IntKind.i64.wrap ((S.th t).at_+1)) (regs (S.th t))) (by show fF _ t _ t=_;rw[bD,e]) (ip _ _ _) (fun u hu=>cF _ _ hu) (fun u hu=>db _ _ hu) rfl rfl rfl rfl rfl rfl ?_ h.st h.aw h.wr h.at_ ?_ ?_ ?_
 ·exact⟨by show IntKind.i64.wrap ((T.th t).at_+1)=IntKind.i64.wrap ((S.th t).at_+1);rw[b.at_],b.fuel,b.status,b.r0,b.r1,b.r2,b.r3,b.told,b.mate,b.hl,b.has,b.wants⟩
 ·show(S.th t).opn=_;rw[h.opn,j]
 ·show(S.th t).fuel=_;rw[e]
 ·show(S.th t).log.length≤_;grind
end
end Go.Proofs.Y

import Derived.Test.YtcholkmididfmaaGreatDoorCp
import Derived.Test.YtcholkmididfmaaGreatDoorLib6
set_option linter.unusedVariables false
set_option linter.unusedSimpArgs false
namespace Go.Proofs.Y
open Go.RowKit Go.Am Go.Sy
def wY(r:R4)(n v:Int)(K:R4→Prop):Prop:=((0:Int)≤n∧n<4)∧((n==3)=true→K ⟨r.a,r.b,r.c,v⟩)∧((n==3)=false→((n==2)=true→K ⟨r.a,r.b,v,r.d⟩)∧((n==2)=false→((n==1)=true→K ⟨r.a,v,r.c,r.d⟩)∧((n==1)=false→K ⟨v,r.b,r.c,r.d⟩)))
theorem pU{r:R4}{n v:Int}{K:R4→Prop}(h:0≤n∧n<4)(k:K (xM r n v)):wY r n v K:=by
 refine⟨h,fun e=>?_,fun e3=>⟨fun e=>?_,fun e2=>⟨fun e=>?_,fun e1=>?_⟩⟩⟩
 ·have e:n=3:=eq_of_beq e;subst e;exact k
 ·have e:n=2:=eq_of_beq e;subst e;exact k
 ·have e:n=1:=eq_of_beq e;subst e;exact k
 ·have h1:=ne_of_beq_false e1;have b:=ne_of_beq_false e2;have c:=ne_of_beq_false e3;obtain rfl:n=0:=by omega
  exact k
section
variable (p:List Instr)(ms:List Int)(a:Int)(r:R4)
def nxL(f:Int)(e:R4)(b:Bool):Prop:=f=(bS p ms a r).1∧e.a=(bS p ms a r).2.1.a∧e.b=(bS p ms a r).2.1.b∧e.c=(bS p ms a r).2.1.c∧e.d=(bS p ms a r).2.1.d∧b=(bS p ms a r).2.2∧True
theorem eR{c:Int}{d:R4}{b:Bool}(h:bS p ms a r=(c,d,b)):nxL p ms a r c d b:=by
 unfold nxL;grind
def swP(m:Int):Prop:=
 (((at2 p a).op==18)=true→fE r (at2 p a).a fun u=>((u !=0)=true→nxL p ms a r (IntKind.i64.wrap (a+1)) r true)∧((u !=0)=false→nxL p ms a r (IntKind.i64.wrap (m+1)) r true))∧(((at2 p a).op==18)=false→
 (((at2 p a).op==21)=true→fE r (at2 p a).a fun u=>((u !=0)=true→nxL p ms a r (IntKind.i64.wrap (a+1)) r true)∧((u !=0)=false→nxL p ms a r (IntKind.i64.wrap (m+1)) r true))∧(((at2 p a).op==21)=false→
 (((at2 p a).op==19)=true→nxL p ms a r (IntKind.i64.wrap (m+1)) r true)∧(((at2 p a).op==19)=false→
 (((at2 p a).op==22)=true→nxL p ms a r m r true)∧(((at2 p a).op==22)=false→
 (((at2 p a).op==20)=true→nxL p ms a r (IntKind.i64.wrap (a+1)) r true)∧(((at2 p a).op==20)=false→
 Jm.pre (at2 p a,r,())∧wY r (at2 p a).a (il (at2 p a) r) fun b=>nxL p ms a r (IntKind.i64.wrap (a+1)) b true)))))
theorem Q6:Go.Sy.Tree.holds (bt F (bf v1) 400 Tryz.f89 b89 ⟨[],nxR (bS p ms a r),[]⟩ [.tl (T:=T) 2 p,.tl (T:=T) 0 ms,.i .i64 a,.agg (gL r)])=(
 (decide (a<0)=true→nxL p ms a r a r false)∧(decide (a<0)=false→
 (decide (a≥(p.length:Int))=true→nxL p ms a r a r false)∧(decide (a≥(p.length:Int))=false→
 ((0:Int)≤a∧a<(p.length:Int))∧sR.pre (at2 p a,())∧((!bX (at2 p a))=true→nxL p ms a r a r false)∧((!bX (at2 p a))=false→
 ((0:Int)≤a∧a<(p.length:Int))∧pA.pre ((at2 p a).op,())∧((!bG (at2 p a).op)=true→nxL p ms a r a r false)∧((!bG (at2 p a).op)=false→
 ((0:Int)≤a∧a<(p.length:Int))∧(decide ((at2 p a).op≥18)=true→
   (((at2 p a).op !=20)=true→(decide (a≥(ms.length:Int))=true→nxL p ms a r a r false)∧(decide (a≥(ms.length:Int))=false→((0:Int)≤a∧a<(ms.length:Int))∧
     (decide (at0 ms a<0)=true→nxL p ms a r a r false)∧(decide (at0 ms a<0)=false→((0:Int)≤a∧a<(ms.length:Int))∧
     (decide (at0 ms a≥(p.length:Int))=true→nxL p ms a r a r false)∧(decide (at0 ms a≥(p.length:Int))=false→((0:Int)≤a∧a<(ms.length:Int))∧swP p ms a r (at0 ms a)))))∧
   (((at2 p a).op !=20)=false→swP p ms a r 0))∧(decide ((at2 p a).op≥18)=false→swP p ms a r 0)))))):=by kernel_rfl
theorem sV{x:Instr}(h:bX x=true)(b:shA x.op=1):0≤x.a∧x.a<4:=by
 simp only[bX]at h;simp only[cU,ko,decide_eq_true_eq]at h;grind
theorem J1{x:Instr}(h:bX x=true)(c:shB x.op=1):0≤x.b∧x.b<4:=by
 simp only[bX]at h;simp only[cU,ko,decide_eq_true_eq]at h;grind
theorem Kv{x:Instr}(h:bX x=true)(b:shC x.op=1):0≤x.c∧x.c<4:=by
 simp only[bX]at h;simp only[cU,ko,decide_eq_true_eq]at h;grind
theorem EZ{m:Int}(d:bX (at2 p a)=true)(hl:bG (at2 p a).op=true)(b:¬(a<0∨a≥p.length∨bX (at2 p a)=false∨bG (at2 p a).op=false))
 (f:(at2 p a).op≥18∧(at2 p a).op≠20→m=at0 ms a∧¬(a≥ms.length∨at0 ms a<0∨at0 ms a≥p.length)):swP p ms a r m:=by
 generalize hx:at2 p a=x at*;have c:∀(q:18≤x.op∧x.op≠20) (o:x.op=18∨x.op=21) (u:Int),u=dt r x.a→((u !=0)=true→nxL p ms a r (IntKind.i64.wrap (a+1)) r true)∧((u !=0)=false→nxL p ms a r (IntKind.i64.wrap (m+1)) r true):=by
  intro q o u hu;obtain⟨rfl,c3⟩:=f q;refine⟨fun e=>eR _ _ _ _ ?_,fun e=>eR _ _ _ _ ?_⟩
  ·have e:u≠0:=by simpa using e
   rw[bS,hx,if_neg b,if_pos q,if_neg c3,if_pos o,← hu,if_pos e]
  ·have e:u=0:=by simpa using e
   rw[bS,hx,if_neg b,if_pos q,if_neg c3,if_pos o,← hu,if_neg (by omega)]
 unfold swP;rw[hx];refine⟨fun e=>?_,fun e1=>⟨fun e=>?_,fun e2=>⟨fun e=>?_,fun e3=>⟨fun e=>?_,fun e4=>⟨fun e=>?_,fun g=>?_⟩⟩⟩⟩⟩
 ·have e:=eq_of_beq e;exact bP (sV d (by rw[e];rfl)) (c ⟨by omega,by omega⟩ (.inl e) _ rfl)
 ·have e:=eq_of_beq e;exact bP (sV d (by rw[e];rfl)) (c ⟨by omega,by omega⟩ (.inr e) _ rfl)
 ·have e:=eq_of_beq e;obtain⟨rfl,c3⟩:=f ⟨by omega,by omega⟩
  exact eR _ _ _ _ (by rw[bS,hx,if_neg b,if_pos ⟨by omega,by omega⟩,if_neg c3,if_neg (by omega),if_pos e])
 ·have e:=eq_of_beq e;obtain⟨rfl,c3⟩:=f ⟨by omega,by omega⟩
  exact eR _ _ _ _ (by rw[bS,hx,if_neg b,if_pos ⟨by omega,by omega⟩,if_neg c3,if_neg (by omega),if_neg (by omega)])
 ·have e:=eq_of_beq e;exact eR _ _ _ _ (by rw[bS,hx,if_neg b,if_neg (by omega),if_pos e])
 ·have e1:=ne_of_beq_false e1;have e2:=ne_of_beq_false e2;have e3:=ne_of_beq_false e3;have e4:=ne_of_beq_false e4;have g:=ne_of_beq_false g;simp only[bG,Bool.or_eq_true,qi,decide_eq_true_eq]at hl;have h:shA x.op=1:=by unfold shA;grind
  refine⟨fun h1=>⟨J1 d ?_,Kv d ?_⟩,pU (sV d h) (eR _ _ _ _ ?_)⟩
  ·unfold shB;grind
  ·unfold shC;grind
  ·rw[bS,hx,if_neg b,if_neg (by omega),if_neg (by omega)]
theorem OE:b7 (bt F (bf v1) 400 Tryz.f89 b89 ⟨[],nxR (bS p ms a r),[]⟩ [.tl (T:=T) 2 p,.tl (T:=T) 0 ms,.i .i64 a,.agg (gL r)]):=by
 refine⟨?_⟩;rw[Q6];have c:(a<0∨a≥p.length∨bX (at2 p a)=false∨bG (at2 p a).op=false)→nxL p ms a r a r false:=fun h=>eR _ _ _ _ (by rw[bS,if_pos h])
 refine⟨fun e=>c (.inl (qb e)),fun e1=>⟨fun e=>c (.inr (.inl (qb e))),fun e2=>?_⟩⟩
 have e1:=qc e1;have e2:=qc e2;have g:0≤a∧a<(p.length:Int):=⟨by omega,by omega⟩
 refine⟨g,trivial,fun e=>c (.inr (.inr (.inl (by simpa using e)))),fun e3=>⟨g,trivial,fun e=>c (.inr (.inr (.inr (by simpa using e)))),fun e4=>?_⟩⟩
 have e3:bX (at2 p a)=true:=by grind
 have e4:bG (at2 p a).op=true:=by grind
 have f:¬(a<0∨a≥p.length∨bX (at2 p a)=false∨bG (at2 p a).op=false):=by grind
 refine⟨g,fun d=>⟨fun j=>?_,fun j=>EZ p ms a r e3 e4 f fun h=>absurd (by grind) h.2⟩,fun d=>EZ p ms a r e3 e4 f fun h=>absurd h.1 (qc d)⟩
 have d:(at2 p a).op≥18:=qb d;have j:(at2 p a).op≠20:=by grind
 have b:(a≥ms.length∨at0 ms a<0∨at0 ms a≥p.length)→nxL p ms a r a r false:=fun h=>eR _ _ _ _ (by rw[bS,if_neg f,if_pos ⟨d,j⟩,if_pos h])
 refine⟨fun e=>b (.inl (qb e)),fun l=>?_⟩
 have l:=qc l;have k:0≤a∧a<(ms.length:Int):=⟨by omega,by omega⟩
 refine⟨k,fun e=>b (.inr (.inl (qb e))),fun m=>⟨k,fun e=>b (.inr (.inr (qb e))),fun n=>⟨k,EZ p ms a r e3 e4 f fun h=>⟨rfl, ?_⟩⟩⟩⟩
 grind
end
theorem NR:cv F.S (bf v1):=bW fun p h=>by
 have h:p∈[_,_,_,_]:=h;simp at h;rcases h with rfl|rfl|rfl|rfl
 ·exact J9
 ·exact Kx
 ·exact P6
 ·exact KB
theorem QT:bi F.S 89 (bB nxD):=
 bv (fn:=Tryz.f89) (body:=b89) (ctr:=bf v1) bE noExt bC NR Tryz.func89 rfl rfl rfl nxD 400 (fun _=>[]) (show 4≤Tryz.f89.ntmps by decide) (show Tryz.f89.ntmps≤512 by decide) (by kernel_rfl) (fun _ _=>⟨rfl,rfl⟩)
  (fun(x:List Instr×List Int×Int×R4×Unit) b=>OE x.1 x.2.1 x.2.2.1 x.2.2.2.1) (fun x b p c=>by cases c)
theorem QN(x:Instr)(r:R4):Go.Sy.Tree.holds (bt F (bf v1) 400 Tryz.f126 MF ⟨[],.i .i64 (IntKind.i64.wrap (dt r x.b+x.n)),[]⟩ [.agg (enc2 x),.agg (gL r)])=(
 xC.pre ((1:Int),x.b,())∧((!cU 1 x.b)=true→ -1=IntKind.i64.wrap (dt r x.b+x.n)∧True)∧((!cU 1 x.b)=false→fE r x.b fun u=>IntKind.i64.wrap (u+x.n)=IntKind.i64.wrap (dt r x.b+x.n)∧True)):=by kernel_rfl
theorem Qp(x:Instr)(r:R4)(h:0≤x.b∧x.b<4):b7 (bt F (bf v1) 400 Tryz.f126 MF ⟨[],.i .i64 (IntKind.i64.wrap (dt r x.b+x.n)),[]⟩ [.agg (enc2 x),.agg (gL r)]):=by
 refine⟨?_⟩;rw[QN];have c:cU 1 x.b=true:=by
  simp only[cU,ko,decide_eq_true_eq];grind
 rw[c];exact⟨trivial,nofun,fun _=>bP h ⟨rfl,trivial⟩⟩
theorem RY:bi F.S 126 (bB adD):=
 bv (fn:=Tryz.f126) (body:=MF) (ctr:=bf v1) bE noExt bC NR Tryz.func126 rfl rfl rfl adD 400 (fun _=>[]) (show 2≤Tryz.f126.ntmps by decide) (show Tryz.f126.ntmps≤512 by decide) (by kernel_rfl) (fun _ _=>⟨rfl,rfl⟩)
  (fun(x:Instr×R4×Unit) b=>Qp x.1 x.2.1 b) (fun x b p c=>by cases c)
end Go.Proofs.Y
namespace Go.Proofs.Y
open Go.RowKit Go.Am Go.Sy
def dP(x:eT)(d:Int):Bool:=decide (x.len>0) && (decide (d≥x.fr) && decide (IntKind.u64.wrap (IntKind.u64.wrap d-IntKind.u64.wrap x.fr)<IntKind.u64.wrap x.len))
def dm(ls:List eT)(d:Int):Int:=match ls.findIdx? fun x=>dP x d with
 |some i=>(i:Int)
 |none=> -1
def rgD:eC cod where
 pats:=[.row 4,.int .i64]
 pre:=fun(x:bg×Int×Unit)=>x.1.locks.length≤1000
 res:=fun(x:bg×Int×Unit)=>.i .i64 (dm x.1.locks x.2.1)
 objs:=fun x=>[]
def rgC(ls:List eT)(d:Int):dN cod:=⟨Nat,fun k=>k≤ls.length∧∀y∈ls.take k,dP y d=false,fun k=>ls.length-k,
 fun k=>[(1,.i .i64 d),(8,.tl (T:=T) 1 ls),(9,.i .i64 ls.length),(10,.i .i64 (k:Int))],fun _=>[]⟩
def holdsB(l:List Held)(op lock:Int):Bool:=l.any fun h=>h.lock==lock && (op==8||!h.read)
def hoD:eC cod where
 pats:=[.frow 12,.int .i64,.int .i64]
 pre:=fun(x:One×Int×Int×Unit)=>x.1.opn.length≤1000
 res:=fun(x:One×Int×Int×Unit)=>.b (holdsB x.1.opn x.2.1 x.2.2.1)
 objs:=fun x=>[]
def hoC(l:List Held)(op lock:Int):dN cod:=⟨Nat,fun k=>k≤l.length∧∀h∈l.take k,(h.lock==lock && (op==8||!h.read))=false,fun k=>l.length-k,
 fun k=>[(1,.i .i64 op),(2,.i .i64 lock),(12,.tl (T:=T) 6 l),(13,.i .i64 l.length),(14,.i .i64 (k:Int))],fun _=>[]⟩
def bJ(lock:Int)(a:Bool)(h:Held):Bool:=!(h.lock==lock && !(a && h.read))
def eU(all:List One)(lock:Int)(a:Bool):Bool:=all.all fun x=>x.opn.all (bJ lock a)
def frD:eC cod where
 pats:=[.frow 13,.int .i64,.bool]
 pre:=fun(x:Mdl×Int×Bool×Unit)=>x.1.all.length≤1000∧∀y∈x.1.all,y.opn.length≤1000
 res:=fun(x:Mdl×Int×Bool×Unit)=>.b (eU x.1.all x.2.1 x.2.2.1)
 objs:=fun x=>[]
def vy(all:List One)(lock:Int)(a:Bool):dN cod:=⟨Nat,fun k=>k≤all.length∧∀y∈all.take k,y.opn.all (bJ lock a)=true,fun k=>2000*(all.length-k),
 fun k=>[(1,.i .i64 lock),(2,.b a),(14,.tl (T:=T) 12 all),(15,.i .i64 all.length),(16,.i .i64 (k:Int))],fun _=>[]⟩
def uZ(all:List One)(lock:Int)(a:Bool):dN cod:=⟨Nat×Nat,fun s=>s.1<all.length∧(∀y∈all.take s.1,y.opn.all (bJ lock a)=true)∧s.2≤(bN all s.1).opn.length∧∀h∈(bN all s.1).opn.take s.2,bJ lock a h=true,fun s=>2000*(all.length-s.1)-1-s.2,
 fun s=>[(1,.i .i64 lock),(2,.b a),(14,.tl (T:=T) 12 all),(15,.i .i64 all.length),(16,.i .i64 (s.1:Int)),(21,.tl (T:=T) 6 (bN all s.1).opn),(22,.i .i64 (bN all s.1).opn.length),(23,.i .i64 (s.2:Int))],fun _=>[]⟩
structure ua(M:Mdl):Prop where
 len:M.all.length=M.progs.length
 small:M.all.length≤1000
 opn:∀y∈M.all,y.opn.length≤1000
 run:∀t:Nat,t<M.all.length→(bN M.all t).status=0→(bN M.all t).awake<M.conds.length∧0≤(bN M.all t).at_∧(bN M.all t).at_<(at3 M.progs t).length
def ins(M:Mdl)(t:Int):Instr:=at2 (at3 M.progs t) (bN M.all t).at_
def fi(M:Mdl)(t:Int):Bool:=decide ((bN M.all t).awake<0) && (decide ((bN M.all t).fuel>0) && ((ins M t).op==13))
def enD:eC cod where
 pats:=[.frow 13,.int .i64]
 pre:=fun(x:Mdl×Int×Unit)=>(0≤x.2.1∧x.2.1<x.1.all.length)∧x.2.1<x.1.progs.length∧0≤(bN x.1.all x.2.1).at_∧(bN x.1.all x.2.1).at_<(at3 x.1.progs x.2.1).length
 res:=fun(x:Mdl×Int×Unit)=>.b (fi x.1 x.2.1)
 objs:=fun x=>[]
def cj(M:Mdl)(t:Int):Bool:=
 if t<0∨t≥M.all.length∨(bN M.all t).status≠0 then false
 else if(bN M.all t).awake≥0 then eU M.all (at0 M.conds (bN M.all t).awake) false
 else if fi M t=true then eU M.all (ins M t).a ((ins M t).b==1)
 else true
def caD:eC cod where
 pats:=[.frow 13,.int .i64]
 pre:=fun(x:Mdl×Int×Unit)=>ua x.1
 res:=fun(x:Mdl×Int×Unit)=>.b (cj x.1 x.2.1)
 objs:=fun x=>[]
noncomputable def GM:Code:=Tryz.f128.body.getD .skip
noncomputable def ER:Code:=Tryz.f127.body.getD .skip
noncomputable def b57:Code:=Tryz.f57.body.getD .skip
noncomputable def b58:Code:=Tryz.f58.body.getD .skip
noncomputable def b18:Code:=Tryz.f18.body.getD .skip
noncomputable def v2:List (FuncId×Ctr cod):=[(57,bB frD),(58,bB enD)]
end Go.Proofs.Y
namespace Go.Proofs.Y
open Go.RowKit Go.Am Go.Sy
theorem Ru(c:bg)(d:Int):Go.Sy.Tree.holds (bt F (bf []) 300 Tryz.f128 GM ⟨[(2,rgC c.locks d)],.i .i64 (dm c.locks d),[]⟩ [.agg (enc4 c),.i .i64 d])=( ∃(s:Nat),d=d∧c.locks=c.locks∧
 (↑c.locks.length:Int)=(↑c.locks.length:Int)∧(0:Int)=(↑s:Int)∧(s≤c.locks.length∧∀(y:eT),y∈List.take s c.locks→dP y d=false)∧True):=by kernel_rfl
theorem Tm(ls:List eT)(d:Int)(k:Nat):Go.Sy.Tree.holds (bV F (bf []) 300 Tryz.f128 GM ⟨[(2,rgC ls d)],.i .i64 (dm ls d),[]⟩ 2 (rgC ls d) k)=( (decide ((↑k:Int)<(↑ls.length:Int))=true→
 ((0:Int)≤(↑k:Int)∧(↑k:Int)<(↑ls.length:Int))∧(decide ((at1 ls (↑k:Int)).len>0)=true→(decide (d≥(at1 ls (↑k:Int)).fr)=true→(decide (IntKind.u64.wrap (IntKind.u64.wrap d-IntKind.u64.wrap
 (at1 ls (↑k:Int)).fr)<IntKind.u64.wrap (at1 ls (↑k:Int)).len)=true→(↑k:Int)=dm ls d∧True)∧(decide (IntKind.u64.wrap (IntKind.u64.wrap d-IntKind.u64.wrap (at1 ls (↑k:Int)).fr)<IntKind.u64.wrap
 (at1 ls (↑k:Int)).len)=false→∃(s:Nat),d=d∧ls=ls∧(↑ls.length:Int)=(↑ls.length:Int)∧IntKind.i64.wrap ((↑k:Int)+1)=(↑s:Int)∧(s≤ls.length∧∀(y:eT),y∈List.take s ls→dP y d=
 false)∧ls.length-s<ls.length-k∧True))∧(decide (d≥(at1 ls (↑k:Int)).fr)=false→∃(s:Nat),d=d∧ls=ls∧(↑ls.length:Int)=(↑ls.length:Int)∧IntKind.i64.wrap ((↑k:Int)+1)=(↑s:Int)∧
 (s≤ls.length∧∀(y:eT),y∈List.take s ls→dP y d=false)∧ls.length-s<ls.length-k∧True))∧(decide ((at1 ls (↑k:Int)).len>0)=false→∃(s:Nat),d=d∧ls=ls∧(↑ls.length:Int)=
 (↑ls.length:Int)∧IntKind.i64.wrap ((↑k:Int)+1)=(↑s:Int)∧(s≤ls.length∧∀(y:eT),y∈List.take s ls→dP y d=false)∧ls.length-s<ls.length-k∧True))∧(decide ((↑k:Int)<(↑ls.length:
 Int))=false→(-1:Int)=dm ls d∧True)):=by kernel_rfl
theorem SE(x:One)(op lock:Int):Go.Sy.Tree.holds (bt F (bf []) 300 Tryz.f127 ER ⟨[(2,hoC x.opn op lock)],.b (holdsB x.opn op lock),[]⟩ [.fp (Ah x),.i .i64 op,.i .i64 lock])=( ∃(s:Nat),op=
 op∧lock=lock∧x.opn=x.opn∧(↑x.opn.length:Int)=(↑x.opn.length:Int)∧(0:Int)=(↑s:Int)∧(s≤x.opn.length∧∀(h:Held),h∈List.take s x.opn→(h.lock==lock && (op==8||!h.read))=false)∧
 True):=by kernel_rfl
theorem TW(l:List Held)(op lock:Int)(k:Nat):Go.Sy.Tree.holds (bV F (bf []) 300 Tryz.f127 ER ⟨[(2,hoC l op lock)],.b (holdsB l op lock),[]⟩ 2 (hoC l op lock) k)=( (decide ((↑k:Int)<(↑l.length
 :Int))=true→((0:Int)≤(↑k:Int)∧(↑k:Int)<(↑l.length:Int))∧(((at6 l (↑k:Int)).lock==lock)=true→((op==8)=true→true=holdsB l op lock∧True)∧((op==8)=false→((!(at6 l (↑k:
 Int)).read)=true→true=holdsB l op lock∧True)∧((!(at6 l (↑k:Int)).read)=false→∃(s:Nat),op=op∧lock=lock∧l=l∧(↑l.length:Int)=(↑l.length:Int)∧IntKind.i64.wrap ((↑k:Int)+1)=(↑s:
 Int)∧(s≤l.length∧∀(h:Held),h∈List.take s l→(h.lock==lock && (op==8||!h.read))=false)∧l.length-s<l.length-k∧True)))∧(((at6 l (↑k:Int)).lock==lock)=false→∃(s:Nat),op=op∧
 lock=lock∧l=l∧(↑l.length:Int)=(↑l.length:Int)∧IntKind.i64.wrap ((↑k:Int)+1)=(↑s:Int)∧(s≤l.length∧∀(h:Held),h∈List.take s l→(h.lock==lock && (op==8||!h.read))=false)∧
 l.length-s<l.length-k∧True))∧(decide ((↑k:Int)<(↑l.length:Int))=false→false=holdsB l op lock∧True)):=by kernel_rfl
theorem Sw(M:Mdl)(lock:Int)(rd:Bool):Go.Sy.Tree.holds (bt F (bf []) 300 Tryz.f57 b57 ⟨[(2,vy M.all lock rd),(5,uZ M.all lock rd)],.b (eU M.all lock rd),[]⟩ [.fp (pv M),.i .i64 lock,.b
 rd])=( ∃(s:Nat),lock=lock∧rd=rd∧M.all=M.all∧(↑M.all.length:Int)=(↑M.all.length:Int)∧(0:Int)=(↑s:Int)∧(s≤M.all.length∧∀(y:One),y∈List.take s M.all→y.opn.all (bJ lock rd)
 =true)∧True):=by kernel_rfl
theorem RD(all:List One)(lock:Int)(rd:Bool)(k:Nat):Go.Sy.Tree.holds (bV F (bf []) 300 Tryz.f57 b57 ⟨[(2,vy all lock rd),(5,uZ all lock rd)],.b (eU all lock rd),[]⟩ 2 (vy all lock rd) k)
 =( (decide ((↑k:Int)<(↑all.length:Int))=true→((0:Int)≤(↑k:Int)∧(↑k:Int)<(↑all.length:Int))∧∃(s:Nat×Nat),lock=lock∧rd=rd∧all=all∧(↑all.length:Int)=(↑all.length:Int)∧(↑k
 :Int)=(↑s.fst:Int)∧(bN all (↑k:Int)).opn=(bN all (↑s.fst:Int)).opn∧(↑(bN all (↑k:Int)).opn.length:Int)=(↑(bN all (↑s.fst:Int)).opn.length:Int)∧(0:Int)=(↑s.snd:Int)∧(s.fst<
 all.length∧(∀(y:One),y∈List.take s.fst all→y.opn.all (bJ lock rd)=true)∧s.snd≤(bN all (↑s.fst:Int)).opn.length∧∀(h:Held),h∈List.take s.snd (bN all (↑s.fst:Int)).opn→bJ lock
 rd h=true)∧(2000:Nat)*(all.length-s.fst)-1-s.snd<2000*(all.length-k)∧True)∧(decide ((↑k:Int)<(↑all.length:Int))=false→true=eU all lock rd∧True)):=by kernel_rfl
theorem TS(all:List One)(lock:Int)(rd:Bool)(k j:Nat):Go.Sy.Tree.holds (bV F (bf []) 300 Tryz.f57 b57 ⟨[(2,vy all lock rd),(5,uZ all lock rd)],.b (eU all lock rd),[]⟩ 5 (uZ all lock rd)
 (k,j))=( (decide ((↑j:Int)<(↑(bN all (↑k:Int)).opn.length:Int))=true→((0:Int)≤(↑j:Int)∧(↑j:Int)<(↑(bN all (↑k:Int)).opn.length:Int))∧(((at6 (bN all (↑k:Int)).opn (↑j:Int)).lock
 ==lock)=true→(rd=true→((!(at6 (bN all (↑k:Int)).opn (↑j:Int)).read)=true→false=eU all lock rd∧True)∧((!(at6 (bN all (↑k:Int)).opn (↑j:Int)).read)=false→∃(s:Nat×Nat),lock=lock
 ∧rd=rd∧all=all∧(↑all.length:Int)=(↑all.length:Int)∧(↑k:Int)=(↑s.fst:Int)∧(bN all (↑k:Int)).opn=(bN all (↑s.fst:Int)).opn∧(↑(bN all (↑k:Int)).opn.length:Int)=(↑(bN all
 (↑s.fst:Int)).opn.length:Int)∧IntKind.i64.wrap ((↑j:Int)+1)=(↑s.snd:Int)∧(s.fst<all.length∧(∀(y:One),y∈List.take s.fst all→y.opn.all (bJ lock rd)=true)∧s.snd≤(bN all (↑s.fst:
 Int)).opn.length∧∀(h:Held),h∈List.take s.snd (bN all (↑s.fst:Int)).opn→bJ lock rd h=true)∧(2000:Nat)*(all.length-s.fst)-1-s.snd<2000*(all.length-k)-1-j∧True))∧(rd=false→
 false=eU all lock rd∧True))∧(((at6 (bN all (↑k:Int)).opn (↑j:Int)).lock==lock)=false→∃(s:Nat×Nat),lock=lock∧rd=rd∧all=all∧(↑all.length:Int)=(↑all.length:Int)∧(↑k:Int)=
 (↑s.fst:Int)∧(bN all (↑k:Int)).opn=(bN all (↑s.fst:Int)).opn∧(↑(bN all (↑k:Int)).opn.length:Int)=(↑(bN all (↑s.fst:Int)).opn.length:Int)∧IntKind.i64.wrap ((↑j:Int)+1)=(↑s.snd:Int)
 ∧(s.fst<all.length∧(∀(y:One),y∈List.take s.fst all→y.opn.all (bJ lock rd)=true)∧s.snd≤(bN all (↑s.fst:Int)).opn.length∧∀(h:Held),h∈List.take s.snd (bN all (↑s.fst:Int)).opn→
 bJ lock rd h=true)∧(2000:Nat)*(all.length-s.fst)-1-s.snd<2000*(all.length-k)-1-j∧True))∧(decide ((↑j:Int)<(↑(bN all (↑k:Int)).opn.length:Int))=false→∃(s:Nat),lock=
 lock∧rd=rd∧all=all∧(↑all.length:Int)=(↑all.length:Int)∧IntKind.i64.wrap ((↑k:Int)+1)=(↑s:Int)∧(s≤all.length∧∀(y:One),y∈List.take s all→y.opn.all (bJ lock rd)=true)∧(2000
 :Nat)*(all.length-s)<2000*(all.length-k)-1-j∧True)):=by kernel_rfl
theorem TR(M:Mdl)(t:Int):Go.Sy.Tree.holds (bt F (bf []) 300 Tryz.f58 b58 ⟨[],.b (fi M t),[]⟩ [.fp (pv M),.i .i64 t])=( ((0:Int)≤t∧t<(↑M.all.length:Int))∧(decide ((bN M.all t).awake
 <0)=true→(decide ((bN M.all t).fuel>0)=true→((0:Int)≤t∧t<(↑M.progs.length:Int))∧((0:Int)≤(bN M.all t).at_∧(bN M.all t).at_<(↑(at3 M.progs t).length:Int))∧((at2 (at3 M.progs t)
 (bN M.all t).at_).op==13)=fi M t∧True)∧(decide ((bN M.all t).fuel>0)=false→false=fi M t∧True))∧(decide ((bN M.all t).awake<0)=false→false=fi M t∧True)):=by kernel_rfl
theorem S9(M:Mdl)(t:Int):Go.Sy.Tree.holds (bt F (bf v2) 400 Tryz.f18 b18 ⟨[],.b (cj M t),[]⟩ [.fp (pv M),.i .i64 t])=( (decide (t<0)=true→false=cj M t∧True)∧(decide (t<0)=false
 →(decide (t≥(↑M.all.length:Int))=true→false=cj M t∧True)∧(decide (t≥(↑M.all.length:Int))=false→((0:Int)≤t∧t<(↑M.all.length:Int))∧(((bN M.all t).status !=0)=true→false=cj M
 t∧True)∧(((bN M.all t).status !=0)=false→((0:Int)≤t∧t<(↑M.all.length:Int))∧(decide ((bN M.all t).awake≥(0:Int))=true→((0:Int)≤(bN M.all t).awake∧(bN M.all t).awake<
 (↑M.conds.length:Int))∧frD.pre (Mdl.mk M.engine M.clock M.stripes M.reads M.writes M.retry M.fuel M.most M.init M.locks M.conds M.progs M.mates M.words M.owners M.all M.queues,at0 M.conds (bN M.all t).awake,
 false,())∧eU M.all (at0 M.conds (bN M.all t).awake) false=cj M t∧True)∧(decide ((bN M.all t).awake≥(0:Int))=false→enD.pre (Mdl.mk M.engine M.clock M.stripes M.reads M.writes M.retry M.fuel
 M.most M.init M.locks M.conds M.progs M.mates M.words M.owners M.all M.queues,t,())∧(fi (Mdl.mk M.engine M.clock M.stripes M.reads M.writes M.retry M.fuel M.most M.init M.locks M.conds M.progs M.mates M.words
 M.owners M.all M.queues) t=true→((0:Int)≤t∧t<(↑M.progs.length:Int))∧((0:Int)≤(bN M.all t).at_∧(bN M.all t).at_<(↑(at3 M.progs t).length:Int))∧frD.pre (Mdl.mk M.engine M.clock M.stripes
 M.reads M.writes M.retry M.fuel M.most M.init M.locks M.conds M.progs M.mates M.words M.owners M.all M.queues,(at2 (at3 M.progs t) (bN M.all t).at_).a,(at2 (at3 M.progs t) (bN M.all t).at_).b==1,())∧eU
 M.all (at2 (at3 M.progs t) (bN M.all t).at_).a ((at2 (at3 M.progs t) (bN M.all t).at_).b==1)=cj M t∧True)∧(fi (Mdl.mk M.engine M.clock M.stripes M.reads M.writes M.retry M.fuel M.most M.init M.locks
 M.conds M.progs M.mates M.words M.owners M.all M.queues) t=false→true=cj M t∧True)))))):=by kernel_rfl
theorem IJ(c:bg)(d:Int):b7 (bt F (bf []) 300 Tryz.f128 GM ⟨[(2,rgC c.locks d)],.i .i64 (dm c.locks d),[]⟩ [.agg (enc4 c),.i .i64 d]):=by
 refine⟨?_⟩;rw[Ru];exact⟨0,rfl,rfl,rfl,rfl,⟨Nat.zero_le _,fun y a=>by simp at a⟩,trivial⟩
theorem HR(ls:List eT)(d:Int)(k:Nat)(n:ls.length≤1000)(l:k≤ls.length)(g:∀y∈ls.take k,dP y d=false):b7 (bV F (bf []) 300 Tryz.f128 GM ⟨[(2,rgC ls d)],.i .i64 (dm ls d),[]⟩ 2 (rgC ls d) k):=by
 refine⟨?_⟩;rw[Tm];refine⟨fun h=>?_,fun h=>?_⟩
 ·have h:=qb h;have a:k<ls.length:=by omega
  rw[A9 a];have b:dP ls[k] d=false→∃(s:Nat),d=d∧ls=ls∧(ls.length:Int)=(ls.length:Int)∧IntKind.i64.wrap ((k:Int)+1)=(s:Int)∧(s≤ls.length∧∀(y:eT),y∈List.take s ls→dP y d=false)∧ls.length-s<ls.length-k∧True:=fun e=>
   ⟨k+1,rfl,rfl,rfl,d6 (by omega),⟨a,ft g a e⟩,by omega,trivial⟩
  refine⟨⟨by omega,h⟩,fun e1=>⟨fun e2=>⟨fun e3=>⟨?_,trivial⟩,fun e3=>b (by rw[dP,e1,e2,e3];rfl)⟩,fun e2=>b (by rw[dP,e1,e2];rfl)⟩,fun e1=>b (by rw[dP,e1];rfl)⟩
  have c:dP ls[k] d=true:=by rw[dP,e1,e2,e3];rfl
  have f:ls.findIdx? (fun x=>dP x d)=some k:=by
   rw[List.findIdx?_eq_some_iff_getElem];refine⟨a,c,fun j m=>?_⟩
   have:=g ls[j] (by rw[List.mem_take_iff_getElem];grind)
   grind
  rw[dm,f]
 ·have h:=qc h;have l:k=ls.length:=by omega
  have f:ls.findIdx? (fun x=>dP x d)=none:=by
   grind
  rw[dm,f];grind
theorem Rn:bi F.S 128 (bB rgD):=
 bv (fn:=Tryz.f128) (body:=GM) (ctr:=bf []) bE noExt bC cd Tryz.func128 rfl rfl rfl rgD 300 (fun(x:bg×Int×Unit)=>[(2,rgC x.1.locks x.2.1)]) (show 2≤Tryz.f128.ntmps by decide) (show Tryz.f128.ntmps≤512 by decide) (by kernel_rfl) (fun _ _=>⟨rfl,rfl⟩)
  (fun(x:bg×Int×Unit) a=>IJ x.1 x.2.1) (fun(x:bg×Int×Unit) a p b s c=>by
   rw[qt]at b;subst b;exact HR x.1.locks x.2.1 s a c.1 c.2)
theorem JL(x:One)(op lock:Int):b7 (bt F (bf []) 300 Tryz.f127 ER ⟨[(2,hoC x.opn op lock)],.b (holdsB x.opn op lock),[]⟩ [.fp (Ah x),.i .i64 op,.i .i64 lock]):=by
 refine⟨?_⟩;rw[SE];exact⟨0,rfl,rfl,rfl,rfl,rfl,⟨Nat.zero_le _,fun y a=>by simp at a⟩,trivial⟩
theorem Jo(l:List Held)(op lock:Int)(k:Nat)(j:l.length≤1000)(d:k≤l.length)(f:∀h∈l.take k,(h.lock==lock && (op==8||!h.read))=false):b7 (bV F (bf []) 300 Tryz.f127 ER ⟨[(2,hoC l op lock)],.b (holdsB l op lock),[]⟩ 2 (hoC l op lock) k):=by
 refine⟨?_⟩;rw[TW];refine⟨fun h=>?_,fun h=>?_⟩
 ·have h:=qb h;have a:k<l.length:=by omega
  rw[Bc a];have c:(l[k].lock==lock && (op==8||!l[k].read))=true→true=holdsB l op lock:=fun e=>by
   rw[holdsB,eq_comm,List.any_eq_true];grind
  have g:(l[k].lock==lock && (op==8||!l[k].read))=false→∃(s:Nat),op=op∧lock=lock∧l=l∧(l.length:Int)=(l.length:Int)∧IntKind.i64.wrap ((k:Int)+1)=(s:Int)∧(s≤l.length∧∀(h:Held),h∈List.take s l→(h.lock==lock && (op==8||!h.read))=false)∧l.length-s<l.length-k∧True:=fun e=>
   ⟨k+1,rfl,rfl,rfl,rfl,d6 (by omega),⟨a,ft f a e⟩,by omega,trivial⟩
  grind
 ·have h:=qc h;have d:k=l.length:=by omega
  rw[holdsB,eq_comm,List.any_eq_false];grind
theorem Td:bi F.S 127 (bB hoD):=
 bv (fn:=Tryz.f127) (body:=ER) (ctr:=bf []) bE noExt bC cd Tryz.func127 rfl rfl rfl hoD 300 (fun(x:One×Int×Int×Unit)=>[(2,hoC x.1.opn x.2.1 x.2.2.1)]) (show 3≤Tryz.f127.ntmps by decide) (show Tryz.f127.ntmps≤512 by decide) (by kernel_rfl) (fun _ _=>⟨rfl,rfl⟩)
  (fun(x:One×Int×Int×Unit) a=>JL x.1 x.2.1 x.2.2.1) (fun(x:One×Int×Int×Unit) a p b s c=>by
   rw[qt]at b;subst b;exact Jo x.1.opn x.2.1 x.2.2.1 s a c.1 c.2)
section
variable (all:List One)(lock:Int)(rd:Bool)
theorem Iq(M:Mdl):b7 (bt F (bf []) 300 Tryz.f57 b57 ⟨[(2,vy M.all lock rd),(5,uZ M.all lock rd)],.b (eU M.all lock rd),[]⟩ [.fp (pv M),.i .i64 lock,.b rd]):=by
 refine⟨?_⟩;rw[Sw];exact⟨0,rfl,rfl,rfl,rfl,rfl,⟨Nat.zero_le _,fun y a=>by simp at a⟩,trivial⟩
theorem Jy(k:Nat)(c:k≤all.length)(a:∀y∈all.take k,y.opn.all (bJ lock rd)=true):b7 (bV F (bf []) 300 Tryz.f57 b57 ⟨[(2,vy all lock rd),(5,uZ all lock rd)],.b (eU all lock rd),[]⟩ 2 (vy all lock rd) k):=by
 refine⟨?_⟩;rw[RD];refine⟨fun h=>?_,fun h=>?_⟩
 ·have h:=qb h;exact⟨⟨by omega,h⟩,(k,0),rfl,rfl,rfl,rfl,rfl,rfl,rfl,rfl,⟨by grind,a,Nat.zero_le _,fun y d=>by simp at d⟩,by grind,trivial⟩
 ·have h:=qc h;have c:k=all.length:=by omega
  rw[c,List.take_length]at a;refine⟨?_,trivial⟩;rw[eU,eq_comm,List.all_eq_true];exact a
theorem IF(p:all.length≤1000)(n:∀y∈all,y.opn.length≤1000)(k j:Nat)(d:k<all.length)(g:∀y∈all.take k,y.opn.all (bJ lock rd)=true)(m:j≤(bN all k).opn.length)(o:∀h∈(bN all k).opn.take j,bJ lock rd h=true):
 b7 (bV F (bf []) 300 Tryz.f57 b57 ⟨[(2,vy all lock rd),(5,uZ all lock rd)],.b (eU all lock rd),[]⟩ 5 (uZ all lock rd) (k,j)):=by
 refine⟨?_⟩;rw[TS];have a:bN all k∈all:=by rw[sq d];grind
 have l:=n _ a;generalize hx:bN all (k:Int)=x at*;refine⟨fun h=>?_,fun h=>?_⟩
 ·have h:=qb h;have c:j<x.opn.length:=by omega
  rw[Bc c];have no:bJ lock rd x.opn[j]=false→false=eU all lock rd:=fun e=>by
   rw[eU,eq_comm,List.all_eq_false];grind
  have f:bJ lock rd x.opn[j]=true→∃(s:Nat×Nat),lock=lock∧rd=rd∧all=all∧(all.length:Int)=(all.length:Int)∧(k:Int)=(s.fst:Int)∧x.opn=(bN all (s.fst:Int)).opn∧(x.opn.length:Int)=((bN all (s.fst:Int)).opn.length:Int)∧IntKind.i64.wrap ((j:Int)+1)=(s.snd:Int)∧
   (s.fst<all.length∧(∀(y:One),y∈List.take s.fst all→y.opn.all (bJ lock rd)=true)∧s.snd≤(bN all (s.fst:Int)).opn.length∧∀(h:Held),h∈List.take s.snd (bN all (s.fst:Int)).opn→bJ lock rd h=true)∧2000*(all.length-s.fst)-1-s.snd<2000*(all.length-k)-1-j∧True:=fun e=>
   ⟨(k,j+1),rfl,rfl,rfl,rfl,rfl,by rw[hx],by rw[hx],d6 (by omega),⟨d,g,by grind,by rw[hx];exact ft o c e⟩,by grind,trivial⟩
  refine⟨⟨by omega,h⟩,fun e1=>⟨fun e2=>⟨fun e3=>⟨no ?_,trivial⟩,fun e3=>f ?_⟩,fun e2=>⟨no ?_,trivial⟩⟩,fun e1=>f ?_⟩
  ·rw[bJ,e1,e2];grind
  ·rw[bJ,e1,e2];grind
  ·rw[bJ,e1,e2];rfl
  ·rw[bJ,e1];rfl
 ·have h:=qc h;have m:j=x.opn.length:=by omega
  refine⟨k+1,rfl,rfl,rfl,rfl,d6 (by omega),⟨d,ft g d ?_⟩,by omega,trivial⟩
  have e:all[k]=x:=by rw[← hx,sq d]
  grind
end
theorem TH:bi F.S 57 (bB frD):=
 bv (fn:=Tryz.f57) (body:=b57) (ctr:=bf []) bE noExt bC cd Tryz.func57 rfl rfl rfl frD 300 (fun(x:Mdl×Int×Bool×Unit)=>[(2,vy x.1.all x.2.1 x.2.2.1),(5,uZ x.1.all x.2.1 x.2.2.1)]) (show 3≤Tryz.f57.ntmps by decide) (show Tryz.f57.ntmps≤512 by decide) (by kernel_rfl) (fun _ _=>⟨rfl,rfl⟩)
  (fun(x:Mdl×Int×Bool×Unit) b=>Iq x.2.1 x.2.2.1 x.1) (fun(x:Mdl×Int×Bool×Unit) b p c s a=>by
   simp at c;rcases c with rfl|rfl
   ·exact Jy x.1.all x.2.1 x.2.2.1 s a.1 a.2
   ·exact IF x.1.all x.2.1 x.2.2.1 b.1 b.2 s.1 s.2 a.1 a.2.1 a.2.2.1 a.2.2.2)
theorem NM(M:Mdl)(t:Int)(h1:0≤t∧t<M.all.length)(a:t<M.progs.length)(c:0≤(bN M.all t).at_∧(bN M.all t).at_<(at3 M.progs t).length):b7 (bt F (bf []) 300 Tryz.f58 b58 ⟨[],.b (fi M t),[]⟩ [.fp (pv M),.i .i64 t]):=by
 refine⟨?_⟩;rw[TR];exact⟨h1,fun e1=>⟨fun e2=>⟨⟨h1.1,a⟩,c,by rw[fi,e1,e2];rfl,trivial⟩,fun e2=>⟨by rw[fi,e1,e2];rfl,trivial⟩⟩,fun e1=>⟨by rw[fi,e1];rfl,trivial⟩⟩
theorem MC:bi F.S 58 (bB enD):=
 bv (fn:=Tryz.f58) (body:=b58) (ctr:=bf []) bE noExt bC cd Tryz.func58 rfl rfl rfl enD 300 (fun _=>[]) (show 2≤Tryz.f58.ntmps by decide) (show Tryz.f58.ntmps≤512 by decide) (by kernel_rfl) (fun _ _=>⟨rfl,rfl⟩)
  (fun(x:Mdl×Int×Unit) a=>NM x.1 x.2.1 a.1 a.2.1 a.2.2) (fun x a p b=>by cases b)
theorem PJ(M:Mdl)(t:Int)(c:ua M):b7 (bt F (bf v2) 400 Tryz.f18 b18 ⟨[],.b (cj M t),[]⟩ [.fp (pv M),.i .i64 t]):=by
 refine⟨?_⟩;rw[S9];have no:(t<0∨t≥M.all.length∨(bN M.all t).status≠0)→false=cj M t∧True:=fun h=>⟨by rw[cj,if_pos h],trivial⟩
 refine⟨fun e=>no (.inl (qb e)),fun e1=>⟨fun e=>no (.inr (.inl (qb e))),fun e2=>?_⟩⟩
 have e1:=qc e1;have e2:=qc e2;have a:0≤t∧t<(M.all.length:Int):=⟨by omega,by omega⟩
 refine⟨a,fun e=>no (.inr (.inr (by simpa using e))),fun e3=>?_⟩
 have e3:(bN M.all t).status=0:=by grind
 have d:¬(t<0∨t≥M.all.length∨(bN M.all t).status≠0):=by grind
 obtain⟨n,rfl⟩:=Int.eq_ofNat_of_zero_le a.1;have j:n<M.all.length:=by grind
 obtain⟨r1,r2,r3⟩:=c.run n j e3;have g:((n:Nat):Int)<(M.progs.length:Int):=by rw[← c.len];exact a.2
 refine⟨a,fun e4=>?_,fun e4=>?_⟩
 ·have e4:=qb e4;exact⟨⟨e4,r1⟩,⟨c.small,c.opn⟩,by rw[cj,if_neg d,if_pos e4],trivial⟩
 ·have e4:=qc e4;refine⟨⟨a,g,r2,r3⟩,fun f=>⟨⟨a.1,g⟩,⟨r2,r3⟩,⟨c.small,c.opn⟩, ?_,trivial⟩,fun f=>⟨?_,trivial⟩⟩
  ·rw[cj,if_neg d,if_neg e4,if_pos f];rfl
  ·rw[cj,if_neg d,if_neg e4,if_neg (by rw[f];simp)]
theorem TT:cv F.S (bf v2):=bW fun p h=>by
 have h:p∈[_,_]:=h;simp at h;rcases h with rfl|rfl
 ·exact TH
 ·exact MC
theorem Dj:bi F.S 18 (bB caD):=
 bv (fn:=Tryz.f18) (body:=b18) (ctr:=bf v2) bE noExt bC TT Tryz.func18 rfl rfl rfl caD 400 (fun _=>[]) (show 2≤Tryz.f18.ntmps by decide) (show Tryz.f18.ntmps≤512 by decide) (by kernel_rfl) (fun _ _=>⟨rfl,rfl⟩)
  (fun(x:Mdl×Int×Unit) a=>PJ x.1 x.2.1 a) (fun x a p b=>by cases b)
end Go.Proofs.Y
namespace Go.Proofs.Y
open Go.RowKit Go.Am Go.Sy
abbrev V:=SV cod.T
abbrev Ob:=Go.Sy.Obj cod.T
def iv(n:Int):V:=.i .i64 n
def li(n:Int):V:=.a (.int .i64 n)
structure MT where
 w:List Int
 o:List Int
 th:Nat→One
 q:Nat→List Int
structure MK where
 c:bg
 m:List (List Int)
def thC(x:One)(k:Nat):List V:=[iv x.at_,iv x.fuel,iv x.status,iv x.r0,iv x.r1,iv x.r2,iv x.r3,iv x.awake,.R k,.R (k+1)]
def M6(f:Nat→One)(b:Nat):Nat→List V
 |0=>[]
 |k+1=>M6 f b k++thC (f k) (b+2*k)
def GV(f:Nat→One)(r:Nat):Nat→List Ob
 |0=>[]
 |k+1=>GV f r k++[.rows 6 (f k).opn false (r+2*k),.rows 0 (f k).log false (r+2*k+1)]
def jR(K:MK)(n b:Nat)(S:MT):List Ob:=
 [.cells (enc4 K.c++[.tl (T:=T) 5 K.m,.R 1,.R 2,.sl 10 3 0 n n false,.sl 1 4 0 3 3 false]),.rows 0 S.w false 1,.rows 0 S.o false 2,.cells (M6 S.th (b+3) n),.cells [.R b,.R (b+1),.R (b+2)]]
def iR(n:Nat)(S:MT):List Ob:=[.rows 0 (S.q 0) false 5,.rows 0 (S.q 1) false 6,.rows 0 (S.q 2) false 7]++GV S.th 8 n
def mIn(K:MK)(n:Nat)(S:MT)(h:SH cod):SH cod:=(jR K n 5 S++iR n S).map some++h.drop (8+2*n)
def Jk(K:MK)(n N:Nat)(S:MT)(h:SH cod):SH cod:=(jR K n N S).map some++List.replicate (3+2*n) none++h.drop (8+2*n)++(iR n S).map some
def lQ(n j:Nat):Bool:=Nat.blt j (8+2*n)
def fF(f:Nat→One)(t:Nat)(x:One):Nat→One:=fun i=>if Nat.beq i t then x else f i
def regs(x:One):R4:=⟨x.r0,x.r1,x.r2,x.r3⟩
def Ib(x:One)(r:R4):One:=⟨x.at_,x.fuel,x.status,r.a,r.b,r.c,r.d,x.awake,x.opn,x.log⟩
def io(K:MK)(S:MT)(t:Nat)(x:Instr):Int:=IntKind.i64.wrap (dt (regs (S.th t)) x.b+x.n)
def ea(K:MK)(S:MT)(t:Nat)(x:Instr):Bool:=
 let d:=io K S t x
 let o:=at0 S.o d
 decide (d<0)||(decide (d≥S.w.length)||((decide ((S.th t).opn.length>0) && !holdsB (S.th t).opn x.op (dm K.c.locks d))||
  (if x.op=10 then o != -1 && o !=t else if x.op=11 then o !=t else o !=t && (o != -1||((S.th t).opn.length:Int)==0))))
def im(K:MK)(S:MT)(t:Nat)(x:Instr):MT:=
 let d:=io K S t x
 if ea K S t x=true then S
 else if x.op=10 then { S with o:=S.o.set d.toNat t }
 else if x.op=11 then { S with o:=S.o.set d.toNat (-1) }
 else if x.op=8 then { S with th:=fF S.th t (Ib (S.th t) (xM (regs (S.th t)) x.a (at0 S.w d))) }
 else { S with w:=S.w.set d.toNat (dt (regs (S.th t)) x.a) }
structure AcS where
 K:MK
 S:MT
 x:Instr
structure AcI(n:Nat)(t:Nat)(s:AcS):Prop where
 b:0≤s.x.b∧s.x.b<4
 a:s.x.op=8∨s.x.op=9→0≤s.x.a∧s.x.a<4
 ops:s.x.op=8∨s.x.op=9∨s.x.op=10∨s.x.op=11
 own:s.S.o.length=s.S.w.length
 lk:s.K.c.locks.length≤1000
 op:((s.S.th t).opn.length≤1000)
theorem AcI.a9{n t:Nat}{s:AcS}(h:AcI n t s)(d:s.x.op≠8)(b:s.x.op≠10)(c:s.x.op≠11):0≤s.x.a∧s.x.a<4:=h.a (by have:=h.ops;omega)
def nI(n t N:Nat):FrD cod:=⟨N,lQ n,AcS,AcI n t,fun s=>[.ptr 0 0,li t,.agg (enc2 s.x)],fun s=>mIn s.K n s.S,[⟨MK×MT×Bool,fun s r=>r.1=s.K∧r.2.1=im s.K s.S t s.x∧r.2.2=!ea s.K s.S t s.x,fun r=>.b r.2.2,fun r h=>mIn r.1 n r.2.1 h⟩],fun _ _=>0⟩
noncomputable def b90:Code:=Tryz.f90.body.getD .skip
noncomputable def w1:List (FuncId×Ctr cod):=[(126,bB adD),(128,bB rgD),(127,bB hoD)]
noncomputable def goC(l:List (FuncId×Ctr cod))(fn:Func)(b:Code):Ctr cod:=iy F (bf l) 2000 fn b (fun _ _=>[]) (fun _ _=>0)
noncomputable def vcC(c:Ctr cod)(D:FrD cod)(s:D.St)(h:SH cod):Go.Sy.Tree:=c 0 (D.args s) (D.heap s h) (Br D s h)
def thE(x y:One)(P:Prop):Prop:=x.at_=y.at_∧x.fuel=y.fuel∧x.status=y.status∧x.r0=y.r0∧x.r1=y.r1∧x.r2=y.r2∧x.r3=y.r3∧x.awake=y.awake∧P
def sP(f g:Nat→One):Nat→Prop→Prop
 |0,P=>P
 |k+1,P=>sP f g k (thE (f k) (g k) P)
def lsE(f g:Nat→One):Nat→Prop→Prop
 |0,P=>P
 |k+1,P=>lsE f g k ((f k).opn=(g k).opn∧(f k).log=(g k).log∧P)
def kE(K a:MK)(P:Prop):Prop:=K.c.engine=a.c.engine∧K.c.clock=a.c.clock∧K.c.stripes=a.c.stripes∧K.c.reads=a.c.reads∧K.c.writes=a.c.writes∧K.c.retry=a.c.retry∧K.c.fuel=a.c.fuel∧K.c.most=a.c.most∧
 K.c.init=a.c.init∧K.c.locks=a.c.locks∧K.c.conds=a.c.conds∧K.c.progs=a.c.progs∧K.m=a.m∧P
def oE(f:Nat→Option Ob)(lo:Nat):Nat→Prop→Prop
 |0,P=>P
 |k+1,P=>bif Nat.blt k lo then oE f lo k P else(f k=f k∧oE f lo k P)
def hOf(f:Nat→Option Ob)(N:Nat):SH cod:=(List.range N).map f
def mL(n N:Nat)(f:Nat→Option Ob)(K:MK)(S:MT)(b:Bool)(Q:MK×MT×Bool→Prop):Prop:=
 ∃r:MK×MT×Bool,S.w=r.2.1.w∧S.o=r.2.1.o∧S.q 0=r.2.1.q 0∧S.q 1=r.2.1.q 1∧S.q 2=r.2.1.q 2∧lsE S.th r.2.1.th n (b=r.2.2∧sP S.th r.2.1.th n (kE K r.1 (oE f (8+2*n) N (Q r∧True))))
theorem iw(f:Nat→One){P:Prop}(h:P):∀n,sP f f n P
 |0=>h
 |n+1=>by
  have a:thE (f n) (f n) P:=⟨rfl,rfl,rfl,rfl,rfl,rfl,rfl,rfl,h⟩;exact iw f a n
theorem j9(f:Nat→One){P:Prop}(h:P):∀n,lsE f f n P
 |0=>h
 |n+1=>by
  exact j9 f ⟨rfl,rfl,h⟩ n
theorem Fj(f:Nat→Option Ob)(lo:Nat){P:Prop}(h:P):∀n,oE f lo n P
 |0=>h
 |n+1=>by
  unfold oE;cases Nat.blt n lo with
  |true=>exact Fj f lo h n
  |false=>exact⟨rfl,Fj f lo h n⟩
theorem Kd{n N:Nat}{f:Nat→Option Ob}{K:MK}{S:MT}{b:Bool}{Q:MK×MT×Bool→Prop}(h:Q (K,S,b)):mL n N f K S b Q:=
 ⟨(K,S,b),rfl,rfl,rfl,rfl,rfl,j9 _ ⟨rfl,iw _ ⟨rfl,rfl,rfl,rfl,rfl,rfl,rfl,rfl,rfl,rfl,rfl,rfl,rfl,Fj _ _ ⟨h,trivial⟩ _⟩ _⟩ _⟩
def bn(d:Int)(l:List Int)(P:Prop):Prop:=((0:Int)≤d∧d<(l.length:Int))∧((0:Int)≤d∧d<(l.length:Int))∧P
section
variable (n t N:Nat)(s:AcS)(f:Nat→Option Ob)
def acL(S:MT)(b:Bool):Prop:=mL n N f s.K S b fun r=>r.1=s.K∧r.2.1=im s.K s.S t s.x∧r.2.2=!ea s.K s.S t s.x
def acT(d:Int):Prop:=
 ((s.x.op==8)=true→bn d s.S.w (wY (regs (s.S.th t)) s.x.a (at0 s.S.w d) fun r=>acL n t N s f { s.S with th:=fF s.S.th t (Ib (s.S.th t) r) } true))∧
 ((s.x.op==8)=false→fE (regs (s.S.th t)) s.x.a fun v=>bn d s.S.w (acL n t N s f { s.S with w:=s.S.w.set d.toNat v } true))
def acR(d o:Int):Prop:=bn d s.S.o (
 ((s.x.op==10)=true→((o != -1)=true→((o !=t)=true→acL n t N s f s.S false)∧((o !=t)=false→bn d s.S.o (acL n t N s f { s.S with o:=s.S.o.set d.toNat t } true)))∧((o != -1)=false→bn d s.S.o (acL n t N s f { s.S with o:=s.S.o.set d.toNat t } true)))∧
 ((s.x.op==10)=false→((s.x.op==11)=true→((o !=t)=true→acL n t N s f s.S false)∧((o !=t)=false→bn d s.S.o (acL n t N s f { s.S with o:=s.S.o.set d.toNat (-1) } true)))∧
   ((s.x.op==11)=false→((o !=t)=true→((o != -1)=true→acL n t N s f s.S false)∧((o != -1)=false→((((s.S.th t).opn.length:Int)==0)=true→acL n t N s f s.S false)∧((((s.S.th t).opn.length:Int)==0)=false→acT n t N s f d)))∧((o !=t)=false→acT n t N s f d))))
def acP(d:Int):Prop:=adD.pre (s.x,regs (s.S.th t),())∧(decide (d<0)=true→acL n t N s f s.S false)∧(decide (d<0)=false→(decide (d≥(s.S.w.length:Int))=true→acL n t N s f s.S false)∧(decide (d≥(s.S.w.length:Int))=false→
 (decide (((s.S.th t).opn.length:Int)>0)=true→rgD.pre (s.K.c,d,())∧hoD.pre (s.S.th t,s.x.op,dm s.K.c.locks d,())∧((!holdsB (s.S.th t).opn s.x.op (dm s.K.c.locks d))=true→acL n t N s f s.S false)∧((!holdsB (s.S.th t).opn s.x.op (dm s.K.c.locks d))=false→acR n t N s f d (at0 s.S.o d)))∧
 (decide (((s.S.th t).opn.length:Int)>0)=false→acR n t N s f d (at0 s.S.o d))))
end
end Go.Proofs.Y
namespace Go.Proofs.Y
open Go.RowKit Go.Am Go.Sy
set_option maxRecDepth 100000
theorem Qm(s:AcS)(f:Nat→Option Ob):Go.Sy.Tree.holds (vcC (goC w1 Tryz.f90 b90) (nI 1 0 48) s (hOf f 48))=acP 1 0 48 s f (io s.K s.S 0 s.x):=by kernel_rfl
theorem OI(s:AcS)(f:Nat→Option Ob):Go.Sy.Tree.holds (vcC (goC w1 Tryz.f90 b90) (nI 2 0 48) s (hOf f 48))=acP 2 0 48 s f (io s.K s.S 0 s.x):=by kernel_rfl
theorem OA(s:AcS)(f:Nat→Option Ob):Go.Sy.Tree.holds (vcC (goC w1 Tryz.f90 b90) (nI 2 1 48) s (hOf f 48))=acP 2 1 48 s f (io s.K s.S 1 s.x):=by kernel_rfl
theorem Nu(s:AcS)(f:Nat→Option Ob):Go.Sy.Tree.holds (vcC (goC w1 Tryz.f90 b90) (nI 3 0 48) s (hOf f 48))=acP 3 0 48 s f (io s.K s.S 0 s.x):=by kernel_rfl
theorem N2(s:AcS)(f:Nat→Option Ob):Go.Sy.Tree.holds (vcC (goC w1 Tryz.f90 b90) (nI 3 1 48) s (hOf f 48))=acP 3 1 48 s f (io s.K s.S 1 s.x):=by kernel_rfl
theorem PW(s:AcS)(f:Nat→Option Ob):Go.Sy.Tree.holds (vcC (goC w1 Tryz.f90 b90) (nI 3 2 48) s (hOf f 48))=acP 3 2 48 s f (io s.K s.S 2 s.x):=by kernel_rfl
end Go.Proofs.Y
namespace Go.Proofs.Y
open Go.RowKit Go.Am Go.Sy
theorem wv(f:Nat→One)(r:Nat):∀n,(GV f r n).length=2*n
 |0=>rfl
 |n+1=>by simp only[GV,qn,wv f r n,qm,List.length_nil];omega
theorem lZ(n:Nat)(S:MT):(iR n S).length=3+2*n:=by simp only[iR,qn,wv,qm,List.length_nil]
theorem oS(K:MK)(n b:Nat)(S:MT):((jR K n b S++iR n S).map some).length=8+2*n:=by
 simp only[List.length_map,qn,lZ];show 5+(3+2*n)=8+2*n;omega
theorem pI(K:MK)(n:Nat)(S:MT)(h:SH cod)(hl:8+2*n≤h.length):(mIn K n S h).length=h.length:=by
 rw[mIn,qn,oS,List.length_drop];omega
theorem pG(K:MK)(n:Nat)(S:MT)(h:SH cod)(j:Nat)(a:lQ n j=false):(mIn K n S h)[j]?=h[j]?:=by
 have a:¬j<8+2*n:=fun x=>by rw[lQ,← Nat.blt_eq]at*;grind
 rw[mIn,qj (by rw[oS];omega),oS,List.getElem?_drop]
 congr 1;omega
theorem rC{N:Nat}{h:SH cod}(hl:h.length=N):h=hOf (fun i=>h.getD i none) N:=by
 refine List.ext_getElem? fun j=>?_
 rw[hOf,List.getElem?_map];grind
section
variable (n t N:Nat)(s:AcS)(f:Nat→Option Ob)
theorem Nq(j:AcI n t s):acP n t N s f (io s.K s.S t s.x):=by
 generalize hd:io s.K s.S t s.x=d;have no:ea s.K s.S t s.x=true→acL n t N s f s.S false:=fun h=>Kd ⟨rfl,by rw[im,if_pos h],by rw[h];rfl⟩
 have k:∀p,ea s.K s.S t s.x=false→im s.K s.S t s.x=p→acL n t N s f p true:=fun p h e=>Kd ⟨rfl,e.symm,by rw[h];rfl⟩
 have rest:¬d<0→¬d≥(s.S.w.length:Int)→(decide (((s.S.th t).opn.length:Int)>0) && !holdsB (s.S.th t).opn s.x.op (dm s.K.c.locks d))=false→acR n t N s f d (at0 s.S.o d):=by
  intro h1 G H;have l:0≤d∧d<(s.S.w.length:Int):=⟨by omega,by omega⟩
  have g:0≤d∧d<(s.S.o.length:Int):=by rw[j.own];exact l
  have m:decide ((s.S.th t).opn.length>0)=decide (((s.S.th t).opn.length:Int)>0):=by
   grind
  have C:ea s.K s.S t s.x=(if s.x.op=10 then at0 s.S.o d != -1 && at0 s.S.o d !=t else if s.x.op=11 then at0 s.S.o d !=t else at0 s.S.o d !=t && (at0 s.S.o d != -1||((s.S.th t).opn.length:Int)==0)):=by
   simp only[ea,m];grind
  generalize ho':at0 s.S.o d=o at*;have D:∀{b:Bool},(!b)=true→b=false:=fun {b} h=>by grind
  have E:ea s.K s.S t s.x=false→im s.K s.S t s.x=(if s.x.op=10 then { s.S with o:=s.S.o.set d.toNat t }else if s.x.op=11 then { s.S with o:=s.S.o.set d.toNat (-1) }else if s.x.op=8 then { s.S with th:=fF s.S.th t (Ib (s.S.th t) (xM (regs (s.S.th t)) s.x.a (at0 s.S.w d))) }else { s.S with w:=s.S.w.set d.toNat (dt (regs (s.S.th t)) s.x.a) }):=by
   intro h;simp only[im,hd,h,Bool.false_eq_true,if_false]
  refine⟨g,g,fun v=>⟨fun e1=>⟨fun e2=>?_,fun e2=>⟨g,g, ?_⟩⟩,fun e1=>⟨g,g, ?_⟩⟩,fun q=>⟨fun y=>⟨fun e2=>?_,fun e2=>⟨g,g, ?_⟩⟩,fun u=>⟨fun e2=>⟨fun e1=>?_,fun e1=>⟨fun z=>?_,fun z=>?_⟩⟩,fun e2=>?_⟩⟩⟩
  ·grind
  ·grind
  ·grind
  ·grind
  ·grind
  ·grind
  ·grind
  all_goals
   have h:ea s.K s.S t s.x=false:=by
    grind
   refine⟨fun A=>⟨l,l,pU (j.a (.inl (eq_of_beq A))) (k _ h ?_)⟩,fun B=>bP (j.a9 (ne_of_beq_false B) (ne_of_beq_false q) (ne_of_beq_false u)) ⟨l,l,k _ h ?_⟩⟩
   all_goals grind
 refine⟨j.b,fun e=>no ?_,fun e1=>⟨fun e=>no ?_,fun e2=>⟨fun e3=>⟨j.lk,j.op,fun e=>no ?_,fun e4=>rest (qc e1) (qc e2) ?_⟩,fun e3=>rest (qc e1) (qc e2) (by rw[e3];rfl)⟩⟩⟩
 ·simp only[ea,hd,e,Bool.true_or]
 ·simp only[ea,hd,e,Bool.true_or,Bool.or_true]
 ·have e3:(s.S.th t).opn.length>0:=by grind
  simp only[ea,hd,e,decide_eq_true e3,Bool.true_or,Bool.or_true,Bool.and_true]
 grind
end
theorem NN(n t:Nat)(d:n≤3):ou (nI n t 48) where
 len:=fun s h hl=>by
  have hl:h.length=48:=hl;show(mIn s.K n s.S h).length=48;rw[pI _ _ _ _ (by omega),hl]
 ahead:=fun s h j hl b a=>pG s.K n s.S h j a
 behind:=fun B c r h j hl b a=>by
  cases c with
  |head=>exact pG r.1 n r.2.1 h j a
  |tail _ h=>cases h
theorem RS:cv F.S (bf w1):=bW fun p h=>by
 have h:p∈[_,_,_]:=h;simp at h;rcases h with rfl|rfl|rfl
 ·exact RY
 ·exact Rn
 ·exact Td
theorem Pf:bi F.S 90 (goC w1 Tryz.f90 b90):=dc (body:=b90) bE noExt bC RS Tryz.func90 rfl (by kernel_rfl) (by kernel_rfl) 2000 (fun _ _=>[]) (fun _ _=>0) (by kernel_rfl)
theorem DG(n t:Nat)(a:∀s f,Go.Sy.Tree.holds (vcC (goC w1 Tryz.f90 b90) (nI n t 48) s (hOf f 48))=acP n t 48 s f (io s.K s.S t s.x))(s:(nI n t 48).St)(b:(nI n t 48).I s)(h:SH cod)(hl:h.length=48):b7 (vcC (goC w1 Tryz.f90 b90) (nI n t 48) s h):=by
 rw[rC hl];refine⟨?_⟩;rw[a];exact Nq n t 48 s _ b
theorem nZ(n t:Nat)(b:n≤3)(c:∀s f,Go.Sy.Tree.holds (vcC (goC w1 Tryz.f90 b90) (nI n t 48) s (hOf f 48))=acP n t 48 s f (io s.K s.S t s.x)):bi F.S 90 (fq (fun _=>true) (nI n t 48)):=
 c7 bE _ _ (NN n t b) fun s a h hl _=>⟨_,Pf,DG n t c s a h hl⟩
noncomputable def Fg(n t:Nat):Ctr cod:=gU 48 (fq (fun _=>true) (nI n t 48))
theorem O7:∀n t,1≤n→n≤3→t<n→bi F.S 90 (Fg n t)
 |1,0,_,_,_=>d1 48 (nZ 1 0 (by decide) Qm)
 |2,0,_,_,_=>d1 48 (nZ 2 0 (by decide) OI)
 |2,1,_,_,_=>d1 48 (nZ 2 1 (by decide) OA)
 |3,0,_,_,_=>d1 48 (nZ 3 0 (by decide) Nu)
 |3,1,_,_,_=>d1 48 (nZ 3 1 (by decide) N2)
 |3,2,_,_,_=>d1 48 (nZ 3 2 (by decide) PW)
end Go.Proofs.Y
namespace Go.Proofs.Y
open Go.RowKit Go.Am Go.Sy
def dL(q:Nat→List Int)(c:Nat)(l:List Int):Nat→List Int:=fun i=>if Nat.beq i c then l else q i
def stT(x:One)(st:Int):One:=⟨x.at_,x.fuel,st,x.r0,x.r1,x.r2,x.r3,x.awake,x.opn,x.log⟩
def awT(x:One)(a:Int):One:=⟨x.at_,x.fuel,x.status,x.r0,x.r1,x.r2,x.r3,a,x.opn,x.log⟩
def go(S:MT)(c:Nat):MT:=match S.q c with
 | []=>S
 |u::l=>{ S with th:=fF S.th u.toNat (awT (stT (S.th u.toNat) 0) c),q:=dL S.q c l }
structure WkS where
 K:MK
 S:MT
 c:Nat
structure WkI(n:Nat)(s:WkS):Prop where
 c:s.c<3
 q:∀u∈s.S.q s.c,0≤u∧u<(n:Int)
def BG(n b:Nat)(h:SH cod):SH cod:=bif Nat.beq b 5 then []else List.replicate (3+2*n) none++(h.drop (8+2*n)).take (b-(8+2*n))
def Nn(K:MK)(n b:Nat)(S:MT)(h:SH cod):SH cod:=(jR K n b S).map some++BG n b h++(iR n S).map some++h.drop (b+(3+2*n))
def dy(n b j:Nat):Bool:=Nat.blt j (8+2*n)||(Nat.ble b j && Nat.blt j (b+(3+2*n)))
def ES(K:MK)(n b N:Nat)(S:MT)(h:SH cod):SH cod:=(jR K n N S).map some++BG n b h++List.replicate (3+2*n) none++h.drop (b+(3+2*n))++(iR n S).map some
def eA(n N b:Nat):FrD cod:=⟨N,dy n b,WkS,WkI n,fun s=>[.ptr 0 0,li (s.c:Int)],fun s=>Nn s.K n b s.S,[⟨MK×MT,fun s r=>r.1=s.K∧r.2=go s.S s.c,fun r=>.any,fun r h=>ES r.1 n b N r.2 h⟩],fun _ _=>0⟩
noncomputable def b91:Code:=Tryz.f91.body.getD .skip
def sL(f g:Nat→One):Nat→Prop→Prop
 |0,P=>P
 |k+1,P=>sL f g k (thE (f k) (g k) ((f k).opn=(g k).opn∧(f k).log=(g k).log∧P))
def oB(f:Nat→Option Ob)(n b:Nat):Nat→Prop→Prop
 |0,P=>P
 |k+1,P=>bif dy n b k then oB f n b k P else(f k=f k∧oB f n b k P)
theorem AV(f:Nat→Option Ob)(n b:Nat){P:Prop}(h:P):∀k,oB f n b k P
 |0=>h
 |k+1=>by
  unfold oB;cases dy n b k with
  |true=>exact AV f n b h k
  |false=>exact⟨rfl,AV f n b h k⟩
def mLo(n N b:Nat)(f:Nat→Option Ob)(K:MK)(S:MT)(Q:MK×MT→Prop):Prop:=
 ∃r:MK×MT,S.w=r.2.w∧S.o=r.2.o∧S.q 0=r.2.q 0∧S.q 1=r.2.q 1∧S.q 2=r.2.q 2∧sL S.th r.2.th n (kE K r.1 (oB f n b N (Q r∧True)))
theorem gA(f:Nat→One){P:Prop}(h:P):∀n,sL f f n P
 |0=>h
 |n+1=>by
  have a:thE (f n) (f n) ((f n).opn=(f n).opn∧(f n).log=(f n).log∧P):=⟨rfl,rfl,rfl,rfl,rfl,rfl,rfl,rfl,rfl,rfl,h⟩;exact gA f a n
theorem zf{n N b:Nat}{f:Nat→Option Ob}{K:MK}{S:MT}{Q:MK×MT→Prop}(h:Q (K,S)):mLo n N b f K S Q:=
 ⟨(K,S),rfl,rfl,rfl,rfl,rfl,gA _ ⟨rfl,rfl,rfl,rfl,rfl,rfl,rfl,rfl,rfl,rfl,rfl,rfl,rfl,AV _ _ _ ⟨h,trivial⟩ _⟩ _⟩
def chP(x:Int):Nat→(Nat→Prop)→Prop
 |0,_=>True
 |n+1,K=>bif Nat.beq n 0 then K 0 else((x==Int.ofNat n)=true→K n)∧((x==Int.ofNat n)=false→chP x n K)
def ixP(x:Int)(n:Nat)(K:Nat→Prop):Prop:=((0:Int)≤x∧x<(n:Int))∧chP x n K
theorem yJ{x:Int}{K:Nat→Prop}(h:K x.toNat):∀n:Nat,0≤x→x<(n:Int)→chP x n K
 |0,_,_=>trivial
 |n+1,c,h1=>by
  unfold chP;cases a:Nat.beq n 0 with
  |true=>
   have a:=Nat.eq_of_beq_eq_true a;grind
  |false=>
   refine⟨fun e=>?_,fun e=>?_⟩
   ·grind
   ·have e:x≠(n:Int):=ne_of_beq_false e;exact yJ h n c (by omega)
theorem rV{x:Int}{n:Nat}{K:Nat→Prop}(h:0≤x∧x<(n:Int))(a:K x.toNat):ixP x n K:=⟨h,yJ a n h.1 h.2⟩
section
variable (n N b:Nat)(s:WkS)(f:Nat→Option Ob)
def wkL(S:MT):Prop:=mLo n N b f s.K S fun r=>r.1=s.K∧r.2=go s.S s.c
def wkB(l:List Int)(P:Prop):Prop:=((0:Int)≤0∧(0:Int)<(l.length:Int))∧P
def wkT(j k:Nat):MT:=
 let g:=fF s.S.th j (stT (s.S.th j) 0)
 { s.S with th:=fF g k (awT (g k) s.c),q:=dL s.S.q s.c (List.take ((s.S.q s.c).length-1) (List.drop 1 (s.S.q s.c))) }
def wkP(l:List Int):Prop:=
 (decide ((l.length:Int)>0)=true→wkB l (wkB l (wkB l (wkB l (ixP (at0 l 0) n fun j=>ixP (at0 l 0) n fun k=>
  ((0:Int)≤1∧(1:Int)≤(l.length:Int)∧(l.length:Int)≤(l.length:Int))∧wkL n N b s f (wkT s j k))))))∧
 (decide ((l.length:Int)>0)=false→wkL n N b s f s.S)
theorem My{u:Int}{l:List Int}(h:s.S.q s.c=u::l):wkT s u.toNat u.toNat=go s.S s.c:=by
 have hl:List.take ((s.S.q s.c).length-1) (List.drop 1 (s.S.q s.c))=l:=by rw[h];simp
 have d:∀i:Nat,Nat.beq i i=true:=fun i=>Nat.beq_refl i
 have a:fF (fF s.S.th u.toNat (stT (s.S.th u.toNat) 0)) u.toNat (awT (fF s.S.th u.toNat (stT (s.S.th u.toNat) 0) u.toNat) s.c)=fF s.S.th u.toNat (awT (stT (s.S.th u.toNat) 0) s.c):=by
  funext i;simp only[fF];grind
 simp only[wkT,hl,a];simp only[go,h]
theorem Mu(d:WkI n s):wkP n N b s f (s.S.q s.c):=by
 cases h:s.S.q s.c with
 |nil=>
  refine⟨fun e=>?_,fun _=>zf ⟨rfl, ?_⟩⟩
  ·grind
  ·rw[go,h]
 |cons u l=>
  have hu:=d.q u (by grind)
  have a:(0:Int)≤0∧(0:Int)<((u::l).length:Int):=⟨by omega,by grind⟩
  have g:at0 (u::l) 0=u:=rfl;refine⟨fun _=>⟨a,a,a,a, ?_⟩,fun e=>?_⟩
  ·exact rV hu (rV hu ⟨⟨by omega,by omega,by omega⟩,zf ⟨rfl,My s h⟩⟩)
  grind
end
end Go.Proofs.Y
namespace Go.Proofs.Y
open Go.RowKit Go.Am Go.Sy
set_option maxRecDepth 100000
theorem Gy(K:MK)(S:MT)(f:Nat→Option Ob):Go.Sy.Tree.holds (vcC (goC [] Tryz.f91 b91) (eA 1 48 5) ⟨K,S,0⟩ (hOf f 48))=wkP 1 48 5 ⟨K,S,0⟩ f (S.q 0):=by kernel_rfl
theorem EY(K:MK)(S:MT)(f:Nat→Option Ob):Go.Sy.Tree.holds (vcC (goC [] Tryz.f91 b91) (eA 1 48 5) ⟨K,S,1⟩ (hOf f 48))=wkP 1 48 5 ⟨K,S,1⟩ f (S.q 1):=by kernel_rfl
theorem HB(K:MK)(S:MT)(f:Nat→Option Ob):Go.Sy.Tree.holds (vcC (goC [] Tryz.f91 b91) (eA 1 48 5) ⟨K,S,2⟩ (hOf f 48))=wkP 1 48 5 ⟨K,S,2⟩ f (S.q 2):=by kernel_rfl
theorem HA(K:MK)(S:MT)(f:Nat→Option Ob):Go.Sy.Tree.holds (vcC (goC [] Tryz.f91 b91) (eA 2 48 5) ⟨K,S,0⟩ (hOf f 48))=wkP 2 48 5 ⟨K,S,0⟩ f (S.q 0):=by kernel_rfl
theorem FG(K:MK)(S:MT)(f:Nat→Option Ob):Go.Sy.Tree.holds (vcC (goC [] Tryz.f91 b91) (eA 2 48 5) ⟨K,S,1⟩ (hOf f 48))=wkP 2 48 5 ⟨K,S,1⟩ f (S.q 1):=by kernel_rfl
theorem EC(K:MK)(S:MT)(f:Nat→Option Ob):Go.Sy.Tree.holds (vcC (goC [] Tryz.f91 b91) (eA 2 48 5) ⟨K,S,2⟩ (hOf f 48))=wkP 2 48 5 ⟨K,S,2⟩ f (S.q 2):=by kernel_rfl
theorem Fd(K:MK)(S:MT)(f:Nat→Option Ob):Go.Sy.Tree.holds (vcC (goC [] Tryz.f91 b91) (eA 3 48 5) ⟨K,S,0⟩ (hOf f 48))=wkP 3 48 5 ⟨K,S,0⟩ f (S.q 0):=by kernel_rfl
theorem GW(K:MK)(S:MT)(f:Nat→Option Ob):Go.Sy.Tree.holds (vcC (goC [] Tryz.f91 b91) (eA 3 48 5) ⟨K,S,1⟩ (hOf f 48))=wkP 3 48 5 ⟨K,S,1⟩ f (S.q 1):=by kernel_rfl
theorem FR(K:MK)(S:MT)(f:Nat→Option Ob):Go.Sy.Tree.holds (vcC (goC [] Tryz.f91 b91) (eA 3 48 5) ⟨K,S,2⟩ (hOf f 48))=wkP 3 48 5 ⟨K,S,2⟩ f (S.q 2):=by kernel_rfl
theorem GC(K:MK)(S:MT)(f:Nat→Option Ob):Go.Sy.Tree.holds (vcC (goC [] Tryz.f91 b91) (eA 1 64 48) ⟨K,S,0⟩ (hOf f 64))=wkP 1 64 48 ⟨K,S,0⟩ f (S.q 0):=by kernel_rfl
theorem EJ(K:MK)(S:MT)(f:Nat→Option Ob):Go.Sy.Tree.holds (vcC (goC [] Tryz.f91 b91) (eA 1 64 48) ⟨K,S,1⟩ (hOf f 64))=wkP 1 64 48 ⟨K,S,1⟩ f (S.q 1):=by kernel_rfl
theorem Gf(K:MK)(S:MT)(f:Nat→Option Ob):Go.Sy.Tree.holds (vcC (goC [] Tryz.f91 b91) (eA 1 64 48) ⟨K,S,2⟩ (hOf f 64))=wkP 1 64 48 ⟨K,S,2⟩ f (S.q 2):=by kernel_rfl
theorem FT(K:MK)(S:MT)(f:Nat→Option Ob):Go.Sy.Tree.holds (vcC (goC [] Tryz.f91 b91) (eA 2 64 48) ⟨K,S,0⟩ (hOf f 64))=wkP 2 64 48 ⟨K,S,0⟩ f (S.q 0):=by kernel_rfl
theorem G7(K:MK)(S:MT)(f:Nat→Option Ob):Go.Sy.Tree.holds (vcC (goC [] Tryz.f91 b91) (eA 2 64 48) ⟨K,S,1⟩ (hOf f 64))=wkP 2 64 48 ⟨K,S,1⟩ f (S.q 1):=by kernel_rfl
theorem Gq(K:MK)(S:MT)(f:Nat→Option Ob):Go.Sy.Tree.holds (vcC (goC [] Tryz.f91 b91) (eA 2 64 48) ⟨K,S,2⟩ (hOf f 64))=wkP 2 64 48 ⟨K,S,2⟩ f (S.q 2):=by kernel_rfl
theorem F3(K:MK)(S:MT)(f:Nat→Option Ob):Go.Sy.Tree.holds (vcC (goC [] Tryz.f91 b91) (eA 3 64 48) ⟨K,S,0⟩ (hOf f 64))=wkP 3 64 48 ⟨K,S,0⟩ f (S.q 0):=by kernel_rfl
theorem DS(K:MK)(S:MT)(f:Nat→Option Ob):Go.Sy.Tree.holds (vcC (goC [] Tryz.f91 b91) (eA 3 64 48) ⟨K,S,1⟩ (hOf f 64))=wkP 3 64 48 ⟨K,S,1⟩ f (S.q 1):=by kernel_rfl
theorem Hb(K:MK)(S:MT)(f:Nat→Option Ob):Go.Sy.Tree.holds (vcC (goC [] Tryz.f91 b91) (eA 3 64 48) ⟨K,S,2⟩ (hOf f 64))=wkP 3 64 48 ⟨K,S,2⟩ f (S.q 2):=by kernel_rfl
theorem GY(K:MK)(S:MT)(f:Nat→Option Ob):Go.Sy.Tree.holds (vcC (goC [] Tryz.f91 b91) (eA 1 80 64) ⟨K,S,0⟩ (hOf f 80))=wkP 1 80 64 ⟨K,S,0⟩ f (S.q 0):=by kernel_rfl
theorem Hr(K:MK)(S:MT)(f:Nat→Option Ob):Go.Sy.Tree.holds (vcC (goC [] Tryz.f91 b91) (eA 1 80 64) ⟨K,S,1⟩ (hOf f 80))=wkP 1 80 64 ⟨K,S,1⟩ f (S.q 1):=by kernel_rfl
theorem D8(K:MK)(S:MT)(f:Nat→Option Ob):Go.Sy.Tree.holds (vcC (goC [] Tryz.f91 b91) (eA 1 80 64) ⟨K,S,2⟩ (hOf f 80))=wkP 1 80 64 ⟨K,S,2⟩ f (S.q 2):=by kernel_rfl
theorem GO(K:MK)(S:MT)(f:Nat→Option Ob):Go.Sy.Tree.holds (vcC (goC [] Tryz.f91 b91) (eA 2 80 64) ⟨K,S,0⟩ (hOf f 80))=wkP 2 80 64 ⟨K,S,0⟩ f (S.q 0):=by kernel_rfl
theorem Ec(K:MK)(S:MT)(f:Nat→Option Ob):Go.Sy.Tree.holds (vcC (goC [] Tryz.f91 b91) (eA 2 80 64) ⟨K,S,1⟩ (hOf f 80))=wkP 2 80 64 ⟨K,S,1⟩ f (S.q 1):=by kernel_rfl
theorem Gc(K:MK)(S:MT)(f:Nat→Option Ob):Go.Sy.Tree.holds (vcC (goC [] Tryz.f91 b91) (eA 2 80 64) ⟨K,S,2⟩ (hOf f 80))=wkP 2 80 64 ⟨K,S,2⟩ f (S.q 2):=by kernel_rfl
theorem DD(K:MK)(S:MT)(f:Nat→Option Ob):Go.Sy.Tree.holds (vcC (goC [] Tryz.f91 b91) (eA 3 80 64) ⟨K,S,0⟩ (hOf f 80))=wkP 3 80 64 ⟨K,S,0⟩ f (S.q 0):=by kernel_rfl
theorem Gb(K:MK)(S:MT)(f:Nat→Option Ob):Go.Sy.Tree.holds (vcC (goC [] Tryz.f91 b91) (eA 3 80 64) ⟨K,S,1⟩ (hOf f 80))=wkP 3 80 64 ⟨K,S,1⟩ f (S.q 1):=by kernel_rfl
theorem EI(K:MK)(S:MT)(f:Nat→Option Ob):Go.Sy.Tree.holds (vcC (goC [] Tryz.f91 b91) (eA 3 80 64) ⟨K,S,2⟩ (hOf f 80))=wkP 3 80 64 ⟨K,S,2⟩ f (S.q 2):=by kernel_rfl
end Go.Proofs.Y
namespace Go.Proofs.Y
open Go.RowKit Go.Am Go.Sy
theorem gI(K:MK)(n b:Nat)(S:MT):(jR K n b S).length=5:=rfl
theorem qS(n b:Nat)(h:SH cod)(a:b=5∨8+2*n≤b)(hl:b≤h.length∨b=5):(BG n b h).length=b-5:=by
 unfold BG;rcases a with rfl|a
 ·rfl
 ·have:Nat.beq b 5=false:=by rw[Bool.eq_false_iff,Ne,Nat.beq_eq];omega
  grind
theorem A0(n b:Nat)(h A B:SH cod)(j:Nat)(d:b=5∨8+2*n≤b)(hl:b+(3+2*n)≤h.length)(e:A.length=5)(l:B.length=3+2*n)(a:dy n b j=false):(A++BG n b h++B++h.drop (b+(3+2*n)))[j]?=h[j]?:=by
 have f:=qS n b h d (.inl (by omega))
 have g:¬j<8+2*n:=fun x=>by rw[← Nat.blt_eq]at x;rw[dy,x]at a;cases a
 have k:¬(b≤j∧j<b+(3+2*n)):=fun x=>by
  have e1:Nat.ble b j=true:=by simp_all
  have e2:Nat.blt j (b+(3+2*n))=true:=by simp_all
  rw[dy,Bool.or_eq_false_iff,e1,e2]at a;cases a.2
 rcases qk j b with c|c
 ·rw[List.append_assoc,qf (by grind),qj (by grind),e]
  have:Nat.beq b 5=false:=by rw[Bool.eq_false_iff,Ne,Nat.beq_eq];omega
  rw[BG,this];grind
 grind
theorem Sh(n N b:Nat)(a:b=5∨8+2*n≤b)(f:b+(3+2*n)≤N):ou (eA n N b) where
 len:=fun s h hl=>by
  have hl:h.length=N:=hl;show(Nn s.K n b s.S h).length=N;rw[Nn,qn,qn,qn,qS n b h a (.inl (by omega)),List.length_map,List.length_map,lZ,gI,List.length_drop]
  omega
 ahead:=fun s h j hl d c=>by
  have hl:h.length=N:=hl;exact A0 n b h _ _ j a (by omega) (by rw[List.length_map,gI]) (by rw[List.length_map,lZ]) c
 behind:=fun B e r h j hl d c=>by
  have hl:h.length=N:=hl;cases e with
  |head=>
   show(ES r.1 n b N r.2 h)[j]?=h[j]?;rw[ES,qf (by rw[qn,qn,qn,qS n b h a (.inl (by omega)),List.length_map,List.length_replicate,gI,List.length_drop];omega)]
   exact A0 n b h _ _ j a (by omega) (by rw[List.length_map,gI]) (by grind) c
  |tail _ h=>cases h
theorem Ua:bi F.S 91 (goC [] Tryz.f91 b91):=dc (body:=b91) bE noExt bC (bW fun p h=>by cases h) Tryz.func91 rfl (by kernel_rfl) (by kernel_rfl) 2000 (fun _ _=>[]) (fun _ _=>0) (by kernel_rfl)
def WkE(n N b:Nat):Prop:=∀(K:MK) (S:MT) (f:Nat→Option Ob) (c:Nat),c<3→Go.Sy.Tree.holds (vcC (goC [] Tryz.f91 b91) (eA n N b) ⟨K,S,c⟩ (hOf f N))=wkP n N b ⟨K,S,c⟩ f (S.q c)
theorem IG(n N b:Nat)(d:WkE n N b)(s:WkS)(a:WkI n s)(h:SH cod)(hl:h.length=N):b7 (vcC (goC [] Tryz.f91 b91) (eA n N b) s h):=by
 rw[rC hl];refine⟨?_⟩;obtain⟨K,S,c⟩:=s;rw[d K S _ c a.c];exact Mu n N b ⟨K,S,c⟩ _ a
theorem E6(n N b:Nat)(c:b=5∨8+2*n≤b)(d:b+(3+2*n)≤N)(e:WkE n N b):bi F.S 91 (gU N (fq (fun _=>true) (eA n N b))):=
 d1 N (c7 bE _ _ (Sh n N b c d) fun s a h hl _=>⟨_,Ua,IG n N b e s a h hl⟩)
def Bk:List (Nat×Ctr cod)→Ctr cod
 | [],_,_,_,_=>.stuck "so many names"
 |(N,c)::l,a,args,h,K=>bif Nat.ble h.length N then c a args h K else Bk l a args h K
theorem xJ{S:bh}{f:FuncId}:∀{l:List (Nat×Ctr cod)},(∀p∈l,bi S f p.2)→bi S f (Bk l)
 | [],_=>fun E lo a args h H K av b d e=>(cf b).elim
 |(N,c)::l,hc=>fun E lo a args h H K av b d e=>by
  unfold Bk at b;cases hb:Nat.ble h.length N with
  |true=>rw[hb]at b;exact hc (N,c) List.mem_cons_self E lo a args h H K av b d e
  |false=>rw[hb]at b;exact xJ (fun p g=>hc p (List.mem_cons_of_mem _ g)) E lo a args h H K av b d e
noncomputable def vE(n:Nat):Ctr cod:=Bk [(48,gU 48 (fq (fun _=>true) (eA n 48 5))),(64,gU 64 (fq (fun _=>true) (eA n 64 48))),(80,gU 80 (fq (fun _=>true) (eA n 80 64)))]
theorem uX(n:Nat)(d:n≤3)(h1:WkE n 48 5)(b:WkE n 64 48)(c:WkE n 80 64):bi F.S 91 (vE n):=xJ fun p a=>by
 simp at a;rcases a with rfl|rfl|rfl
 ·exact E6 n 48 5 (by omega) (by omega) h1
 ·exact E6 n 64 48 (by omega) (by omega) b
 ·exact E6 n 80 64 (by omega) (by omega) c
theorem Mb:∀n,1≤n→n≤3→bi F.S 91 (vE n)
 |1,_,_=>uX 1 (by decide) (fun K S f c h=>match c,h with|0,_=>Gy K S f|1,_=>EY K S f|2,_=>HB K S f) (fun K S f c h=>match c,h with|0,_=>GC K S f|1,_=>EJ K S f|2,_=>Gf K S f) (fun K S f c h=>match c,h with|0,_=>GY K S f|1,_=>Hr K S f|2,_=>D8 K S f)
 |2,_,_=>uX 2 (by decide) (fun K S f c h=>match c,h with|0,_=>HA K S f|1,_=>FG K S f|2,_=>EC K S f) (fun K S f c h=>match c,h with|0,_=>FT K S f|1,_=>G7 K S f|2,_=>Gq K S f) (fun K S f c h=>match c,h with|0,_=>GO K S f|1,_=>Ec K S f|2,_=>Gc K S f)
 |3,_,_=>uX 3 (by decide) (fun K S f c h=>match c,h with|0,_=>Fd K S f|1,_=>GW K S f|2,_=>FR K S f) (fun K S f c h=>match c,h with|0,_=>F3 K S f|1,_=>DS K S f|2,_=>Hb K S f) (fun K S f c h=>match c,h with|0,_=>DD K S f|1,_=>Gb K S f|2,_=>EI K S f)
end Go.Proofs.Y
namespace Go.Proofs.Y
open Go.RowKit Go.Am Go.Sy
def goT(x:One)(a:Int)(r:R4):One:=⟨a,x.fuel,x.status,r.a,r.b,r.c,r.d,x.awake,x.opn,x.log⟩
def opT(x:One)(l:List Held):One:=⟨x.at_,x.fuel,x.status,x.r0,x.r1,x.r2,x.r3,x.awake,l,x.log⟩
def lgT(x:One)(l:List Int):One:=⟨x.at_,x.fuel,x.status,x.r0,x.r1,x.r2,x.r3,x.awake,x.opn,l⟩
def cD(S:MT)(t:Nat)(x:One):MT:={ S with th:=fF S.th t x }
def dn(S:MT)(t:Nat)(st:Int):MT:=cD S t (opT (stT (S.th t) st) [])
def bO(S:MT)(t:Nat):MT:=cD S t (goT (S.th t) (IntKind.i64.wrap ((S.th t).at_+1)) (regs (S.th t)))
def d4(S:MT)(c:Nat):Nat→MT
 |0=>S
 |k+1=>go (d4 S c k) c
def bQ(K:MK)(t:Nat)(S:MT)(x:Instr):MT:=
 let y:=S.th t
 if bG x.op=true then
  let r:=bS (at3 K.c.progs t) (at5 K.m t) y.at_ (regs y)
  cD S t (goT y r.1 r.2.1)
 else if x.op=8∨x.op=9∨x.op=10∨x.op=11 then bif ea K S t x then dn S t 2 else bO (im K S t x) t
 else if x.op=12 then bO (cD S t (lgT y (y.log++[dt (regs y) x.a]))) t
 else if x.op=13 then bO (cD S t (opT y (y.opn++[⟨x.a,x.b==1⟩]))) t
 else if x.op=14 then bO (cD S t (opT y (y.opn.take (y.opn.length-1)))) t
 else if x.op=15 then bO (dn { S with q:=dL S.q x.a.toNat (S.q x.a.toNat++[(t:Int)]) } t 4) t
 else if x.op=16 then bO (d4 S x.a.toNat 1) t
 else if x.op=17 then bO (d4 S x.a.toNat (S.q x.a.toNat).length) t
 else bO S t
structure DsI(n t:Nat)(s:AcS):Prop where
 pl:t<s.K.c.progs.length
 ml:t<s.K.m.length
 a4:s.x.op=8∨s.x.op=9∨s.x.op=12→0≤s.x.a∧s.x.a<4
 b4:s.x.op=8∨s.x.op=9∨s.x.op=10∨s.x.op=11→0≤s.x.b∧s.x.b<4
 c3:s.x.op=15∨s.x.op=16∨s.x.op=17→0≤s.x.a∧s.x.a<3
 lv:s.x.op=14→1≤(s.S.th t).opn.length
 own:s.S.o.length=s.S.w.length
 lk:s.K.c.locks.length≤1000
 opn:(s.S.th t).opn.length≤1000
 log:(s.S.th t).log.length≤1000
 q:∀c,c<3→∀u∈s.S.q c,0≤u∧u<(n:Int)
 ql:∀c,c<3→(s.S.q c).length≤3
def dsD(n t N:Nat):FrD cod:=⟨N,lQ n,AcS,DsI n t,fun s=>[.ptr 0 0,li t,.agg (enc2 s.x)],fun s=>mIn s.K n s.S,[⟨MK×MT,fun s r=>r.1=s.K∧r.2=bQ s.K t s.S s.x,fun r=>.any,fun r h=>Jk r.1 n N r.2 h⟩],fun _ _=>0⟩
noncomputable def b56:Code:=Tryz.f56.body.getD .skip
noncomputable def w2(n t:Nat):List (FuncId×Ctr cod):=[(88,bB pA),(89,bB nxD),(90,Fg n t),(91,vE n)]
end Go.Proofs.Y
namespace Go.Proofs.Y
open Go.RowKit Go.Am Go.Sy
def uR(M n b:Nat)(g:Nat→Option Ob):Nat→Prop→Prop
 |0,P=>P
 |k+1,P=>bif dy n b k then uR M n b g k P else(jF M (g k)=true∧uR M n b g k P)
def gOf(f:Nat→Option Ob)(N:Nat)(x:Instr)(k:Nat):Option Ob:=bif Nat.blt k N then f k else bif Nat.beq k N then some (.cells (enc2 x))else none
theorem wW{n m:Nat}(h:n≤m){x:V}(a:ltV n x=true):ltV m x=true:=by
 have lt:∀{id:Nat},Nat.blt id n=true→Nat.blt id m=true:=fun b=>by rw[Nat.blt_eq]at*;omega
 cases x<;>simp only[ltV]at* <;>first|exact lt a|rfl|cases a
theorem Cn{n m:Nat}(h:n≤m){o:Option Ob}(b:jF n o=true):jF m o=true:=by
 cases o with
 |none=>rfl
 |some o=>
  cases o with
  |cells cs=>exact List.all_eq_true.2 fun x a=>wW h (List.all_eq_true.1 b x a)
  |mp es=>exact List.all_eq_true.2 fun x a=>wW h (List.all_eq_true.1 b x a)
  |rows _ _ _ _=>rfl
  |it _ _=>rfl
theorem pC{M n b:Nat}{g:Nat→Option Ob}{P:Prop}(a:P)(h:∀k,dy n b k=false→jF M (g k)=true):∀k,uR M n b g k P
 |0=>a
 |k+1=>by
  unfold uR;cases hf:dy n b k with
  |true=>exact pC a h k
  |false=>exact⟨h k hf,pC a h k⟩
section
variable (n t N:Nat)(s:AcS)(f:Nat→Option Ob)
def dsL(K:MK)(S:MT):Prop:=mLo n N 5 f K S fun r=>r.1=s.K∧r.2=bQ s.K t s.S s.x
def toE(K b:MK)(S a:MT)(A P:Prop):Prop:=S.w=a.w∧S.o=a.o∧S.q 0=a.q 0∧S.q 1=a.q 1∧S.q 2=a.q 2∧lsE S.th a.th n (A∧sP S.th a.th n (kE K b P))
theorem oA(K:MK)(S:MT){A P:Prop}(a:A)(h:P):toE n K K S S A P:=⟨rfl,rfl,rfl,rfl,rfl,j9 _ ⟨a,iw _ ⟨rfl,rfl,rfl,rfl,rfl,rfl,rfl,rfl,rfl,rfl,rfl,rfl,rfl,h⟩ _⟩ _⟩
def Dm(d:MK×MT×Bool→Prop):Prop:=uR 48 n 5 (gOf f N s.x) 48 (∃z:AcS,s.S.w=z.S.w∧s.S.o=z.S.o∧s.S.q 0=z.S.q 0∧s.S.q 1=z.S.q 1∧s.S.q 2=z.S.q 2∧lsE s.S.th z.S.th n
 (bc.int .i64 t=bc.int .i64 t∧s.x.op=z.x.op∧s.x.a=z.x.a∧s.x.b=z.x.b∧s.x.c=z.x.c∧s.x.n=z.x.n∧sP s.S.th z.S.th n (kE s.K z.K (AcI n t z∧(∀y:MK×MT×Bool,y.1=z.K∧y.2.1=im z.K z.S t z.x∧y.2.2=!ea z.K z.S t z.x→d y)∧True))))
def sk(M b:Nat)(K:MK)(S:MT)(d:MK×MT→Prop):Prop:=uR M n b (gOf f N s.x) M (∃z:WkS,toE n K z.K S z.S (bc.int .i64 s.x.a=bc.int .i64 z.c) (WkI n z∧(∀y:MK×MT,y.1=z.K∧y.2=go z.S z.c→d y)∧True))
def crP(j k:Nat):Prop:=∃r:MK×MT,s.S.w=r.2.w∧s.S.o=r.2.o∧(bif Nat.beq j 0||Nat.beq k 0 then False else(s.S.q 0=r.2.q 0∧False))
def nx:MK×MT→Prop:=fun y=>dsL n t N s f y.1 (bO y.2 t)
def acB:Prop:=Dm n t N s f fun y=>((!y.2.2)=true→dsL n t N s f y.1 (dn y.2.1 t 2))∧((!y.2.2)=false→dsL n t N s f y.1 (bO y.2.1 t))
def SM:Prop:=fE (regs (s.S.th t)) s.x.a fun v=>((s.S.th t).log.length+[v].length)*8≤140737488355328∧dsL n t N s f s.K (bO (cD s.S t (lgT (s.S.th t) ((s.S.th t).log++[v]))) t)
def O0:Prop:=((s.S.th t).opn.length+[Held.mk s.x.a (s.x.b==1)].length)*16≤140737488355328∧dsL n t N s f s.K (bO (cD s.S t (opT (s.S.th t) ((s.S.th t).opn++[⟨s.x.a,s.x.b==1⟩]))) t)
def lvB:Prop:=((0:Int)≤0∧(0:Int)≤IntKind.i64.wrap (((s.S.th t).opn.length:Int)-1)∧IntKind.i64.wrap (((s.S.th t).opn.length:Int)-1)≤((s.S.th t).opn.length:Int))∧
 dsL n t N s f s.K (bO (cD s.S t (opT (s.S.th t) (List.take ((IntKind.i64.wrap (((s.S.th t).opn.length:Int)-1)).toNat-0) (List.drop 0 (s.S.th t).opn)))) t)
def waB:Prop:=ixP s.x.a 3 fun j=>((s.S.q j).length+[(t:Int)].length)*8≤140737488355328∧ixP s.x.a 3 fun k=>bif Nat.beq j k then dsL n t N s f s.K (bO (dn { s.S with q:=dL s.S.q j (s.S.q j++[(t:Int)]) } t 4) t)else crP s j k
def siB:Prop:=sk n N s f 48 5 s.K s.S (nx n t N s f)
def toB(i:Int)(L:Nat)(A B:Prop):Prop:=(decide (i≤IntKind.i64.wrap ((L:Int)-1))=true→A)∧(decide (i≤IntKind.i64.wrap ((L:Int)-1))=false→B)
def caB:Prop:=ixP s.x.a 3 fun j=>toB 0 (s.S.q j).length
 (sk n N s f 48 5 s.K s.S fun y=>toB 1 (s.S.q j).length
  (sk n N s f 64 48 y.1 y.2 fun y=>toB 2 (s.S.q j).length
   (sk n N s f 80 64 y.1 y.2 fun y=>toB 3 (s.S.q j).length False (nx n t N s f y)) (nx n t N s f y)) (nx n t N s f y)) (nx n t N s f (s.K,s.S))
def ifB(op k:Int)(A B:Prop):Prop:=((op==k)=true→A)∧((op==k)=false→B)
def bnN(l:Nat)(P:Prop):Prop:=((0:Int)≤(t:Int)∧(t:Int)<(l:Int))∧P
def doP:Prop:=pA.pre (s.x.op,())∧
 (bG s.x.op=true→bnN t s.K.c.progs.length (bnN t s.K.m.length (nxD.pre (at3 s.K.c.progs t,at5 s.K.m t,(s.S.th t).at_,regs (s.S.th t),())∧
  dsL n t N s f s.K (cD s.S t (goT (s.S.th t) (bS (at3 s.K.c.progs t) (at5 s.K.m t) (s.S.th t).at_ (regs (s.S.th t))).1 (bS (at3 s.K.c.progs t) (at5 s.K.m t) (s.S.th t).at_ (regs (s.S.th t))).2.1)))))∧
 (bG s.x.op=false→ifB s.x.op 8 (acB n t N s f) (ifB s.x.op 9 (acB n t N s f) (ifB s.x.op 10 (acB n t N s f) (ifB s.x.op 11 (acB n t N s f)
  (ifB s.x.op 12 (SM n t N s f) (ifB s.x.op 13 (O0 n t N s f) (ifB s.x.op 14 (lvB n t N s f) (ifB s.x.op 15 (waB n t N s f) (ifB s.x.op 17 (caB n t N s f) (ifB s.x.op 16 (siB n t N s f) (nx n t N s f (s.K,s.S))))))))))))
end
end Go.Proofs.Y
namespace Go.Proofs.Y
open Go.RowKit Go.Am Go.Sy
set_option maxRecDepth 100000
theorem N3(s:AcS)(f:Nat→Option Ob):Go.Sy.Tree.holds (vcC (goC (w2 1 0) Tryz.f56 b56) (dsD 1 0 40) s (hOf f 40))=doP 1 0 40 s f:=by kernel_rfl
theorem Qo(s:AcS)(f:Nat→Option Ob):Go.Sy.Tree.holds (vcC (goC (w2 2 0) Tryz.f56 b56) (dsD 2 0 40) s (hOf f 40))=doP 2 0 40 s f:=by kernel_rfl
theorem PU(s:AcS)(f:Nat→Option Ob):Go.Sy.Tree.holds (vcC (goC (w2 2 1) Tryz.f56 b56) (dsD 2 1 40) s (hOf f 40))=doP 2 1 40 s f:=by kernel_rfl
end Go.Proofs.Y

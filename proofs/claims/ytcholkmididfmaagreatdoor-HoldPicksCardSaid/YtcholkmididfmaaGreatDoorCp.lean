import Derived.Test.YtcholkmididfmaaGreatDoorCod
set_option linter.unusedVariables false
set_option linter.unusedSimpArgs false
namespace Go.Proofs.Y
open Go.RowKit Go.Am Go.Sy
theorem Tb(n lo a:Int):Go.Sy.Tree.holds (bt F (bf []) 200 Tryz.f85 b85 ⟨[],.b (wi n lo a),[]⟩ [.i .i64 n,.i .i64 lo,.i .i64 a])=( (decide (n≥lo)=true→decide (n≤a)=wi n lo a∧True)∧
 (decide (n≥lo)=false→false=wi n lo a∧True)):=by kernel_rfl
theorem Rk(w:Wk):Go.Sy.Tree.holds (bt F (bf []) 200 Tryz.f150 b48 ⟨[(2,wrC w)],.b (dR w.o),[]⟩ [.fp (vh w)])=( ∃(s:Nat),w.o=w.o∧(↑w.o.length:Int)=(↑w.o.length:Int)∧(0:Int)=(↑s
 :Int)∧(s≤w.o.length∧∀(y:Instr),y∈List.take s w.o→(y.b==0)=false)∧True):=by kernel_rfl
theorem Rf(w:Wk)(k:Nat):Go.Sy.Tree.holds (bV F (bf []) 200 Tryz.f150 b48 ⟨[(2,wrC w)],.b (dR w.o),[]⟩ 2 (wrC w) k)=( (decide ((↑k:Int)<(↑w.o.length:Int))=true→((0:Int)≤(↑k:Int)∧
 (↑k:Int)<(↑w.o.length:Int))∧(((at2 w.o (↑k:Int)).b==0)=true→true=dR w.o∧True)∧(((at2 w.o (↑k:Int)).b==0)=false→∃(s:Nat),w.o=w.o∧(↑w.o.length:Int)=(↑w.o.length:Int)∧
 IntKind.i64.wrap ((↑k:Int)+1)=(↑s:Int)∧(s≤w.o.length∧∀(y:Instr),y∈List.take s w.o→(y.b==0)=false)∧w.o.length-s<w.o.length-k∧True))∧(decide ((↑k:Int)<(↑w.o.length:Int))=false
 →false=dR w.o∧True)):=by kernel_rfl
theorem Ta(w:Wk)(x:Instr):Go.Sy.Tree.holds (bt F (bf []) 200 Tryz.f151 b49 ⟨[],.i .i64 (fU w.conds w.o x),[]⟩ [.fp (vh w),.agg (enc2 x)])=( (decide (x.a≥(↑w.conds.length:Int))=true→(9:
 Int)=fU w.conds w.o x∧True)∧(decide (x.a≥(↑w.conds.length:Int))=false→(((↑w.o.length:Int) !=1)=true→(6:Int)=fU w.conds w.o x∧True)∧(((↑w.o.length:Int) !=1)=false→((0:Int)≤0∧
 (0:Int)<(↑w.o.length:Int))∧((0:Int)≤x.a∧x.a<(↑w.conds.length:Int))∧(((at2 w.o (0:Int)).a !=at0 w.conds x.a)=true→(6:Int)=fU w.conds w.o x∧True)∧(((at2 w.o (0:Int)).a !=at0 w.conds
 x.a)=false→((0:Int)≤0∧(0:Int)<(↑w.o.length:Int))∧(((at2 w.o (0:Int)).b==1)=true→(7:Int)=fU w.conds w.o x∧True)∧(((at2 w.o (0:Int)).b==1)=false→(0:Int)=fU w.conds w.o x
 ∧True))))):=by kernel_rfl
theorem SX(w:Wk)(x:Instr):Go.Sy.Tree.holds (bt F (bf []) 200 Tryz.f152 b50 ⟨[(4,wkC w x)],.i .i64 (fa w.conds w.o x),[]⟩ [.fp (vh w),.agg (enc2 x)])=( (decide (x.a≥(↑w.conds.length:Int))=
 true→(9:Int)=fa w.conds w.o x∧True)∧(decide (x.a≥(↑w.conds.length:Int))=false→∃(s:Nat),w.engine=w.engine∧w.clock=w.clock∧w.stripes=w.stripes∧w.reads=w.reads∧w.writes=w.writes∧
 w.retry=w.retry∧w.fuel=w.fuel∧w.most=w.most∧w.init=w.init∧w.locks=w.locks∧w.conds=w.conds∧w.progs=w.progs∧w.o=w.o∧w.top=w.top∧w.loops=w.loops∧x.op=x.op∧x.a=x.a∧x.b=x.b∧
 x.c=x.c∧x.n=x.n∧w.o=w.o∧(↑w.o.length:Int)=(↑w.o.length:Int)∧(0:Int)=(↑s:Int)∧(s≤w.o.length∧x.a<(↑w.conds.length:Int)∧∀(y:Instr),y∈List.take s w.o→(y.a==at0 w.conds x.a)=
 false)∧True)):=by kernel_rfl
theorem Tl(w:Wk)(x:Instr)(k:Nat):Go.Sy.Tree.holds (bV F (bf []) 200 Tryz.f152 b50 ⟨[(4,wkC w x)],.i .i64 (fa w.conds w.o x),[]⟩ 4 (wkC w x) k)=( (decide ((↑k:Int)<(↑w.o.length:Int))=true
 →((0:Int)≤(↑k:Int)∧(↑k:Int)<(↑w.o.length:Int))∧((0:Int)≤x.a∧x.a<(↑w.conds.length:Int))∧(((at2 w.o (↑k:Int)).a !=at0 w.conds x.a)=true→∃(s:Nat),w.engine=w.engine∧w.clock=
 w.clock∧w.stripes=w.stripes∧w.reads=w.reads∧w.writes=w.writes∧w.retry=w.retry∧w.fuel=w.fuel∧w.most=w.most∧w.init=w.init∧w.locks=w.locks∧w.conds=w.conds∧w.progs=w.progs∧w.o=w.o
 ∧w.top=w.top∧w.loops=w.loops∧x.op=x.op∧x.a=x.a∧x.b=x.b∧x.c=x.c∧x.n=x.n∧w.o=w.o∧(↑w.o.length:Int)=(↑w.o.length:Int)∧IntKind.i64.wrap ((↑k:Int)+1)=(↑s:Int)∧(s≤w.o.length
 ∧x.a<(↑w.conds.length:Int)∧∀(y:Instr),y∈List.take s w.o→(y.a==at0 w.conds x.a)=false)∧w.o.length-s<w.o.length-k∧True)∧(((at2 w.o (↑k:Int)).a !=at0 w.conds x.a)=false→(((at2 w.o (↑k:
 Int)).b==1)=true→(7:Int)=fa w.conds w.o x∧True)∧(((at2 w.o (↑k:Int)).b==1)=false→(0:Int)=fa w.conds w.o x∧True)))∧(decide ((↑k:Int)<(↑w.o.length:Int))=false→(6:Int)=fa
 w.conds w.o x∧True)):=by kernel_rfl
theorem Rt(c:bg)(t:Nat):Go.Sy.Tree.holds (bt F (bf g1) 300 Tryz.f87 b16 (pgF c t) [.agg (enc4 c),.i .i64 t])=( wiD.pre ((↑t:Int),(0:Int),IntKind.i64.wrap ((↑c.progs.length:Int)-1),())∧
 ((!wi (↑t:Int) (0:Int) (IntKind.i64.wrap ((↑c.progs.length:Int)-1)))=true→oY "no")∧((!wi (↑t:Int) (0:Int) (IntKind.i64.wrap ((↑c.progs.length:Int)-1)))=false→((0:Int)≤(↑t:Int)∧(↑t:
 Int)<(↑c.progs.length:Int))∧(decide ((↑(at3 c.progs (↑t:Int)).length:Int)>48)=true→oY "no")∧(decide ((↑(at3 c.progs (↑t:Int)).length:Int)>48)=false→∃(s:Nat),(↑t:Int)=(↑t:Int)∧
 c.engine=c.engine∧c.clock=c.clock∧c.stripes=c.stripes∧c.reads=c.reads∧c.writes=c.writes∧c.retry=c.retry∧c.fuel=c.fuel∧c.most=c.most∧c.init=c.init∧c.locks=c.locks∧c.conds=c.conds
 ∧c.progs=c.progs∧at3 c.progs (↑t:Int)=at3 c.progs (↑t:Int)∧at3 c.progs (↑t:Int)=at3 c.progs (↑t:Int)∧(↑(at3 c.progs (↑t:Int)).length:Int)=(↑(at3 c.progs (↑t:Int)).length:Int)∧(0:Int)=
 (↑s:Int)∧(s≤(at3 c.progs (↑t:Int)).length∧(at3 c.progs (↑t:Int)).length≤48∧eX (at3 c.progs (↑t:Int)) ((at3 c.progs (↑t:Int)).length-s) s=eX (at3 c.progs (↑t:Int)) (at3 c.progs (↑t:
 Int)).length (0:Nat)∧(∀(k:Nat),k<s→bX (at2 (at3 c.progs (↑t:Int)) (↑k:Int))=true)∧pwC c t=((0:Int),(0:Int),(0:Int)))∧True))):=by kernel_rfl
theorem T7(c:bg)(t:Nat)(i:Nat):Go.Sy.Tree.holds (bV F (bf g1) 300 Tryz.f87 b16 (pgF c t) 7 (Jx c t) i)=( (decide ((↑i:Int)<(↑(at3 c.progs (↑t:Int)).length:Int))=true→((0:Int)≤(↑i
 :Int)∧(↑i:Int)<(↑(at3 c.progs (↑t:Int)).length:Int))∧sR.pre (Instr.mk (at2 (at3 c.progs (↑t:Int)) (↑i:Int)).op (at2 (at3 c.progs (↑t:Int)) (↑i:Int)).a (at2 (at3 c.progs (↑t:Int)) (↑i:Int)).b
 (at2 (at3 c.progs (↑t:Int)) (↑i:Int)).c (at2 (at3 c.progs (↑t:Int)) (↑i:Int)).n,())∧((!bX (Instr.mk (at2 (at3 c.progs (↑t:Int)) (↑i:Int)).op (at2 (at3 c.progs (↑t:Int)) (↑i:Int)).a (at2 (at3 c.progs
 (↑t:Int)) (↑i:Int)).b (at2 (at3 c.progs (↑t:Int)) (↑i:Int)).c (at2 (at3 c.progs (↑t:Int)) (↑i:Int)).n))=true→oY "no")∧((!bX (Instr.mk (at2 (at3 c.progs (↑t:Int)) (↑i:Int)).op (at2 (at3 c.progs
 (↑t:Int)) (↑i:Int)).a (at2 (at3 c.progs (↑t:Int)) (↑i:Int)).b (at2 (at3 c.progs (↑t:Int)) (↑i:Int)).c (at2 (at3 c.progs (↑t:Int)) (↑i:Int)).n))=false→∃(s:Nat),(↑t:Int)=(↑t:Int)∧c.engine=
 c.engine∧c.clock=c.clock∧c.stripes=c.stripes∧c.reads=c.reads∧c.writes=c.writes∧c.retry=c.retry∧c.fuel=c.fuel∧c.most=c.most∧c.init=c.init∧c.locks=c.locks∧c.conds=c.conds∧c.progs=
 c.progs∧at3 c.progs (↑t:Int)=at3 c.progs (↑t:Int)∧at3 c.progs (↑t:Int)=at3 c.progs (↑t:Int)∧(↑(at3 c.progs (↑t:Int)).length:Int)=(↑(at3 c.progs (↑t:Int)).length:Int)∧IntKind.i64.wrap ((↑i:
 Int)+1)=(↑s:Int)∧(s≤(at3 c.progs (↑t:Int)).length∧(at3 c.progs (↑t:Int)).length≤48∧eX (at3 c.progs (↑t:Int)) ((at3 c.progs (↑t:Int)).length-s) s=eX (at3 c.progs (↑t:Int)) (at3 c.progs
 (↑t:Int)).length (0:Nat)∧(∀(k:Nat),k<s→bX (at2 (at3 c.progs (↑t:Int)) (↑k:Int))=true)∧pwC c t=((0:Int),(0:Int),(0:Int)))∧(200:Nat)-s<200-i∧True))∧(decide ((↑i:Int)<
 (↑(at3 c.progs (↑t:Int)).length:Int))=false→mtD.pre (at3 c.progs (↑t:Int),())∧(decide ((bA (at3 c.progs (↑t:Int))).snd≥(0:Int))=true→oY "no")∧(decide ((bA (at3 c.progs (↑t:Int))).snd
 ≥(0:Int))=false→∃(s:PgS),(↑t:Int)=(↑t:Int)∧c.engine=c.engine∧c.clock=c.clock∧c.stripes=c.stripes∧c.reads=c.reads∧c.writes=c.writes∧c.retry=c.retry∧c.fuel=c.fuel∧c.most=
 c.most∧c.init=c.init∧c.locks=c.locks∧c.conds=c.conds∧c.progs=c.progs∧[]=s.w.o∧(0:Int)=s.w.top∧(0:Int)=s.w.loops∧at3 c.progs (↑t:Int)=at3 c.progs (↑t:Int)∧(↑(at3 c.progs (↑t:
 Int)).length:Int)=(↑(at3 c.progs (↑t:Int)).length:Int)∧(0:Int)=(↑s.i:Int)∧pgI c t (at3 c.progs (↑t:Int)) s∧(100:Nat)-s.i<200-i∧True))):=by kernel_rfl
def noS(b:Bool)(P:Prop):Prop:=(b=true→oY "no")∧(b=false→P)
def ifQ(b:Bool)(P Q:Prop):Prop:=(b=true→P)∧(b=false→Q)
section
variable (c:bg)(t i:Nat)(p:List Instr)(x:Instr)(o:List Instr)(tp lp:Int)
def pgL(o:List Instr)(tp lp:Int):Prop:=∃s:PgS,(t:Int)=(t:Int)∧c.engine=c.engine∧c.clock=c.clock∧c.stripes=c.stripes∧c.reads=c.reads∧c.writes=c.writes∧c.retry=c.retry∧c.fuel=c.fuel∧c.most=c.most∧c.init=c.init∧c.locks=c.locks∧c.conds=c.conds∧c.progs=c.progs∧
 o=s.w.o∧tp=s.w.top∧lp=s.w.loops∧p=p∧(p.length:Int)=(p.length:Int)∧IntKind.i64.wrap ((i:Int)+1)=(s.i:Int)∧pgI c t p s∧100-s.i<100-i∧True
def wkS:Wk:=⟨c.engine,c.clock,c.stripes,c.reads,c.writes,c.retry,c.fuel,c.most,c.init,c.locks,c.conds,c.progs,o,tp,lp⟩
def pgE:Prop:=ifQ ((o.length:Int)==0) ((o.length+1)*40≤140737488355328∧pgL c t i p (o++[x]) (mx (-1) x.a) 0)
 (noS (decide ((o.length:Int)≥3)) (noS (decide (lp>0)) (noS (decide (x.a≤tp)) ((o.length+1)*40≤140737488355328∧pgL c t i p (o++[x]) (mx tp x.a) lp))))
def pgW:Prop:=wrD.pre (wkS c o tp lp,())∧noS (!dR o) (pgL c t i p o tp lp)
def pgK:Prop:=wkD.pre (wkS c o tp lp,x,())∧noS (fa c.conds o x !=0) (pgL c t i p o tp lp)
def pgX:Prop:=ifQ (x.op==13) (noS (decide (x.a≥(c.locks.length:Int))) (ifQ (x.b==1) (((0:Int)≤x.a∧x.a<(c.locks.length:Int))∧noS ((at1 c.locks x.a).kind !=3) (pgE c t i p x o tp lp)) (pgE c t i p x o tp lp)))
 (ifQ (x.op==14) (((0:Int)≤0∧(0:Int)≤IntKind.i64.wrap ((o.length:Int)-1)∧IntKind.i64.wrap ((o.length:Int)-1)≤(o.length:Int))∧pgL c t i p (List.take ((IntKind.i64.wrap ((o.length:Int)-1)).toNat-0) (List.drop 0 o)) tp lp)
 (ifQ (x.op==21) (pgL c t i p o tp (IntKind.i64.wrap (lp+1))) (ifQ (x.op==22) (pgL c t i p o tp (IntKind.i64.wrap (lp-1)))
 (ifQ (x.op==9) (ifQ (decide ((o.length:Int)>0)) (pgW c t i p o tp lp) (pgL c t i p o tp lp)) (ifQ (x.op==10) (pgW c t i p o tp lp) (ifQ (x.op==11) (pgW c t i p o tp lp)
 (ifQ (x.op==15) (waD.pre (wkS c o tp lp,x,())∧noS (fU c.conds o x !=0) (pgL c t i p o tp lp)) (ifQ (x.op==16) (pgK c t i p x o tp lp) (ifQ (x.op==17) (pgK c t i p x o tp lp) (pgL c t i p o tp lp))))))))))
end
theorem Qw(c:bg)(t:Nat)(i:Nat)(o:List Instr)(tp lp:Int)(q:MS):Go.Sy.Tree.holds (bV F (bf g1) 300 Tryz.f87 b16 (pgF c t) 17 (AP c t) ⟨i,⟨o,tp,lp⟩,q⟩)=
 ifQ (decide ((i:Int)<((at3 c.progs (t:Int)).length:Int))) (((0:Int)≤(i:Int)∧(i:Int)<((at3 c.progs (t:Int)).length:Int))∧pgX c t i (at3 c.progs (t:Int)) (at2 (at3 c.progs (t:Int)) (i:Int)) o tp lp) (nY Value.nilIface=bc.nili∧True):=by kernel_rfl
theorem KP{n lo a:Int}:wi n lo a=true↔lo≤n∧n≤a:=by simp[wi]
theorem IQ(n lo a:Int):b7 (bt F (bf []) 200 Tryz.f85 b85 ⟨[],.b (wi n lo a),[]⟩ [.i .i64 n,.i .i64 lo,.i .i64 a]):=by
 refine⟨?_⟩;rw[Tb];exact⟨fun h=>⟨by rw[wi,h,Bool.true_and],trivial⟩,fun h=>⟨by rw[wi,h,Bool.false_and],trivial⟩⟩
theorem TY:bi F.S 85 (bB wiD):=
 bv (fn:=Tryz.f85) (body:=b85) (ctr:=bf []) bE noExt bC cd Tryz.func85 rfl rfl rfl wiD 200 (fun _=>[]) (show 3≤15 by decide) (show 15≤512 by decide) (by kernel_rfl) (fun _ _=>⟨rfl,rfl⟩)
  (fun(x:Int×Int×Int×Unit) a=>IQ x.1 x.2.1 x.2.2.1) (fun x a p b=>by cases b)
theorem HW(w:Wk):b7 (bt F (bf []) 200 Tryz.f150 b48 ⟨[(2,wrC w)],.b (dR w.o),[]⟩ [.fp (vh w)]):=by
 refine⟨?_⟩;rw[Rk];exact⟨0,rfl,rfl,rfl,⟨Nat.zero_le _,fun y a=>by simp at a⟩,trivial⟩
theorem Ij(w:Wk)(k:Nat)(hl:w.o.length≤1000)(d:k≤w.o.length)(a:∀y∈w.o.take k,(y.b==0)=false):b7 (bV F (bf []) 200 Tryz.f150 b48 ⟨[(2,wrC w)],.b (dR w.o),[]⟩ 2 (wrC w) k):=by
 refine⟨?_⟩;rw[Rf];refine⟨fun h=>?_,fun h=>?_⟩
 ·have h:k<w.o.length:=by grind
  have e:at2 w.o (k:Int)=w.o[k]:=kS h;refine⟨⟨by omega,by omega⟩,fun g=>⟨?_,trivial⟩,fun g=>⟨k+1,rfl,rfl,d6 (by omega),⟨h,ft a h (by grind)⟩,by omega,trivial⟩⟩
  rw[dR];grind
 ·have h:k=w.o.length:=by grind
  subst h;rw[List.take_length]at a;refine⟨?_,trivial⟩;rw[dR];grind
theorem Rx:bi F.S 150 (bB wrD):=
 bv (fn:=Tryz.f150) (body:=b48) (ctr:=bf []) bE noExt bC cd Tryz.func150 rfl rfl rfl wrD 200 (fun(x:Wk×Unit)=>[(2,wrC x.1)]) (show 1≤18 by decide) (show 18≤512 by decide) (by kernel_rfl) (fun _ _=>⟨rfl,rfl⟩)
  (fun(x:Wk×Unit) a=>HW x.1) (fun(x:Wk×Unit) a p b s d=>by
   rw[qt]at b;subst b;exact Ij x.1 s a d.1 d.2)
theorem IH(w:Wk)(x:Instr)(hl:w.o.length≤1000)(b:0≤x.a):b7 (bt F (bf []) 200 Tryz.f151 b49 ⟨[],.i .i64 (fU w.conds w.o x),[]⟩ [.fp (vh w),.agg (enc2 x)]):=by
 refine⟨?_⟩;rw[Ta];refine⟨fun h=>⟨?_,trivial⟩,fun h=>⟨fun g=>⟨?_,trivial⟩,fun g=>?_⟩⟩
 ·rw[fU,if_pos (qb h)]
 ·have g:(w.o.length:Int)≠1:=by simpa using g
  rw[fU,if_neg (qc h),if_pos (.inl g)]
 ·have h:=qc h;have g:(w.o.length:Int)=1:=by simpa using g
  refine⟨⟨by omega,by omega⟩,⟨b,by omega⟩,fun k=>⟨?_,trivial⟩,fun k=>⟨⟨by omega,by omega⟩,fun m=>⟨?_,trivial⟩,fun m=>⟨?_,trivial⟩⟩⟩
  ·have k:(at2 w.o 0).a≠at0 w.conds x.a:=by simpa using k
   rw[fU,if_neg h,if_pos (.inr k)]
  ·have k:(at2 w.o 0).a=at0 w.conds x.a:=by simpa using k
   rw[fU,if_neg h,if_neg (by grind),if_pos (eq_of_beq m)]
  ·have k:(at2 w.o 0).a=at0 w.conds x.a:=by simpa using k
   rw[fU,if_neg h,if_neg (by grind),if_neg (ne_of_beq_false m)]
theorem QU:bi F.S 151 (bB waD):=
 bv (fn:=Tryz.f151) (body:=b49) (ctr:=bf []) bE noExt bC cd Tryz.func151 rfl rfl rfl waD 200 (fun _=>[]) (show 2≤50 by decide) (show 50≤512 by decide) (by kernel_rfl) (fun _ _=>⟨rfl,rfl⟩)
  (fun(x:Wk×Instr×Unit) a=>IH x.1 x.2.1 a.1 a.2) (fun x a p b=>by cases b)
theorem IN(w:Wk)(x:Instr):b7 (bt F (bf []) 200 Tryz.f152 b50 ⟨[(4,wkC w x)],.i .i64 (fa w.conds w.o x),[]⟩ [.fp (vh w),.agg (enc2 x)]):=by
 refine⟨?_⟩;rw[SX];refine⟨fun h=>⟨?_,trivial⟩,fun h=>?_⟩
 ·rw[fa,if_pos (qb h)]
 grind
theorem JX(w:Wk)(x:Instr)(k:Nat)(hl:w.o.length≤1000)(l:0≤x.a)(v:k≤w.o.length)(m:x.a<w.conds.length)(d:∀y∈w.o.take k,(y.a==at0 w.conds x.a)=false):b7 (bV F (bf []) 200 Tryz.f152 b50 ⟨[(4,wkC w x)],.i .i64 (fa w.conds w.o x),[]⟩ 4 (wkC w x) k):=by
 refine⟨?_⟩;rw[Tl];refine⟨fun h=>?_,fun h=>?_⟩
 ·have h:k<w.o.length:=by grind
  have e:at2 w.o (k:Int)=w.o[k]:=kS h;refine⟨⟨by omega,by omega⟩,⟨l,m⟩,fun g=>?_,fun g=>?_⟩
  ·have g:(w.o[k].a==at0 w.conds x.a)=false:=by
    grind
   refine⟨k+1, ?_⟩;have n:IntKind.i64.wrap ((k:Int)+1)=((k+1:Nat):Int):=d6 (by omega)
   have f:=ft d h g;grind
  ·have g:w.o[k].a=at0 w.conds x.a:=by
    grind
   have b:w.o.find? (fun y=>y.a==at0 w.conds x.a)=some w.o[k]:=by
    rw[List.find?_eq_some_iff_getElem];refine⟨by simpa using g,k,h,rfl,fun j s=>?_⟩
    have:=d w.o[j] (by rw[List.mem_take_iff_getElem];grind)
    grind
   rw[fa,if_neg (by omega),b,e]
   grind
 ·have h:k=w.o.length:=by grind
  subst h;rw[List.take_length]at d;have b:w.o.find? (fun y=>y.a==at0 w.conds x.a)=none:=List.find?_eq_none.2 fun y u=>by grind
  rw[fa,if_neg (by omega),b]
  grind
theorem Ue:bi F.S 152 (bB wkD):=
 bv (fn:=Tryz.f152) (body:=b50) (ctr:=bf []) bE noExt bC cd Tryz.func152 rfl rfl rfl wkD 200 (fun(x:Wk×Instr×Unit)=>[(4,wkC x.1 x.2.1)]) (show 2≤41 by decide) (show 41≤512 by decide) (by kernel_rfl) (fun _ _=>⟨rfl,rfl⟩)
  (fun(x:Wk×Instr×Unit) a=>IN x.1 x.2.1) (fun(x:Wk×Instr×Unit) a p d s b=>by
   rw[qt]at d;subst d;exact JX x.1 x.2.1 s a.1 a.2 b.1 b.2.1 b.2.2)
theorem Ry:cv F.S (bf g1):=bW fun p h=>by
 simp only[g1,List.mem_cons,List.not_mem_nil,or_false]at h;rcases h with rfl|rfl|rfl|rfl|rfl|rfl|rfl|rfl
 ·exact TY
 ·exact rn
 ·exact rn
 ·exact J9
 ·exact PN
 ·exact Rx
 ·exact QU
 ·exact Ue
theorem Pv{x:Instr}(h:bX x=true):0≤x.a:=by
 simp only[bX,qi]at h;have:=h.2.2.1;simp only[cU,qi,decide_eq_true_eq]at this;exact this.1
theorem qY(a:List Blk)(z:Blk):lst (a++[z])=z:=by
 unfold lst;have hl:a.length<(a++[z]).length:=by simp
 rw[show((a++[z]).length:Int)-1=((a.length:Nat):Int)by simp]
 rw[lh hl];simp
theorem jw(p:List Instr)(a b:List Blk):cnt p (a++b)=cnt p a+cnt p b:=by simp[cnt]
theorem pT(p:List Instr)(b:Blk):cnt p [b]=if(at2 p b.a).op=13 then 1 else 0:=by
 unfold cnt
 grind
theorem oV(a:List Blk)(z:Blk):(a++[z]).take ((a++[z]).length-1)=a:=by simp
theorem zI(a:List Blk)(z b:Blk):(a++[z]).set ((a++[z]).length-1) b=a++[b]:=by simp
theorem uf{p:List Instr}{i:Nat}{m u:List Int}{s f:List Blk}(b:cK p i ⟨m,s⟩=some ⟨u,f⟩):
 ((at2 p i).op=13→cnt p f=cnt p s+1)∧((at2 p i).op=14→cnt p f+1=cnt p s)∧((at2 p i).op≠13→(at2 p i).op≠14→cnt p f=cnt p s):=by
 by_cases k:(at2 p i).op=18∨(at2 p i).op=21∨(at2 p i).op=13
 ·rw[mX k]at b;simp only[qa,MS.mk.injEq]at b;obtain⟨_,rfl⟩:=b;rw[jw,pT];grind
 ·by_cases d:opener (at2 p i).op=0
  ·rw[kr k d]at b;simp only[qa,MS.mk.injEq]at b;obtain⟨_,rfl⟩:=b;refine⟨fun h=>by omega,fun h=>?_,fun _ _=>rfl⟩
   rw[h]at d;simp[opener]at d
  ·by_cases g:dX p i s
   ·rw[uU d g]at b;cases b
   ·rcases List.eq_nil_or_concat s with rfl|⟨a,z,e⟩
    ·exact(g (.inl rfl)).elim
    ·rw[List.concat_eq_append]at e;subst e;have n:(at2 p z.a).op=opener (at2 p i).op:=by
      by_cases h:(at2 p z.a).op=opener (at2 p i).op
      ·exact h
      ·exact(g (.inr (.inl (by rw[qY];exact h)))).elim
     have j:=AR d
     by_cases h1:(at2 p i).op=19
     ·rw[nE d g h1,zI,qY]at b;simp only[qa,MS.mk.injEq]at b;obtain⟨_,rfl⟩:=b;refine⟨fun h=>by omega,fun h=>by omega,fun _ _=>?_⟩
      rw[jw,jw,pT,pT]
     ·have fin:f=a→((at2 p i).op=13→cnt p f=cnt p (a++[z])+1)∧((at2 p i).op=14→cnt p f+1=cnt p (a++[z]))∧((at2 p i).op≠13→(at2 p i).op≠14→cnt p f=cnt p (a++[z])):=by
       rintro rfl;rw[jw,pT,n];refine⟨fun h=>by omega,fun h=>?_,fun _ h=>?_⟩
       ·rw[h];rfl
       ·rw[if_neg]
        ·rfl
        ·rcases j with e|e|e|e
         ·grind
         ·rw[e];decide
         ·rw[e];decide
         grind
      by_cases l:(at2 p i).op=22∨(at2 p i).op=14
      ·rw[lw d g l,oV]at b;grind
      ·rw[sd d g h1 l,oV]at b;grind
theorem J6{p:List Instr}{i:Nat}{m:List Int}{s:List Blk}(a:i<p.length)(d:mtI p ⟨⟨m,s⟩,i⟩)(z:(bA p).2<0):∃j k,cK p i ⟨m,s⟩=some ⟨j,k⟩∧mtI p ⟨⟨j,k⟩,i+1⟩:=by
 cases hs:cK p i ⟨m,s⟩with
 |none=>
  have:=(vu a d hs).2.1;omega
 |some y=>
  obtain⟨j,k⟩:=y;refine⟨j,k,rfl, ?_⟩
  by_cases u:(at2 p i).op=18∨(at2 p i).op=21∨(at2 p i).op=13
  ·refine d9 a d hs ?_ ?_ ?_<;>rw[mX u]at hs<;>simp only[qa,MS.mk.injEq]at hs<;>obtain⟨rfl,rfl⟩:=hs
   all_goals grind
  ·by_cases f:opener (at2 p i).op=0
   ·refine d9 a d hs ?_ ?_ ?_<;>rw[kr u f]at hs<;>simp only[qa,MS.mk.injEq]at hs<;>obtain⟨rfl,rfl⟩:=hs
    all_goals grind
   ·by_cases g:dX p i s
    ·rw[uU f g]at hs;cases hs
    ·have l:s≠[]:=fun e=>g (.inl e)
     by_cases h1:(at2 p i).op=19
     ·refine d9 a d hs ?_ ?_ ?_<;>rw[nE f g h1]at hs<;>simp only[qa,MS.mk.injEq]at hs<;>obtain⟨rfl,rfl⟩:=hs
      ·simp
      ·intro b n;rcases List.mem_or_eq_of_mem_set n with h|rfl
       ·exact .inl h
       ·exact .inr (.inr ⟨_,jI l,rfl,rfl⟩)
      ·simp
     ·by_cases v:(at2 p i).op=22∨(at2 p i).op=14
      ·refine d9 a d hs ?_ ?_ ?_<;>rw[lw f g v]at hs<;>simp only[qa,MS.mk.injEq]at hs<;>obtain⟨rfl,rfl⟩:=hs
       all_goals grind
      ·refine d9 a d hs ?_ ?_ ?_<;>rw[sd f g h1 v]at hs<;>simp only[qa,MS.mk.injEq]at hs<;>obtain⟨rfl,rfl⟩:=hs
       all_goals grind
section
variable {c:bg}{t:Nat}{p:List Instr}{i:Nat}{w:WS}{q:MS}
theorem xb(a:i<p.length):wgo c t p (p.length-i) i w=if cL c (at2 p i) w=0 then wgo c t p (p.length-(i+1)) (i+1) (dB (at2 p i) w)else(cL c (at2 p i) w,t,i):=by
 rw[show p.length-i=(p.length-(i+1))+1 by omega]
 rfl
theorem HJ(a:pgI c t p ⟨i,w,q⟩)(b:i<p.length){k:Int}(j:cL c (at2 p i) w=k)(h1:1≤k)(l:k≤10){s:String}:oY s:=by
 have d:k≠0:=by omega
 have e:pwC c t=(k,(t:Int),(i:Int)):=by
  have h:=a.2.2.2.1;have f:=xb (c:=c) (t:=t) (w:=w) b;grind
 have g:=a.2.2.2.2.2.2.2.2.2;grind
theorem IE(x:Instr)(w:WS):(x.op=13→(dB x w).o.length=w.o.length+1)∧(x.op=14→(dB x w).o.length=w.o.length-1)∧(x.op≠13→x.op≠14→(dB x w).o=w.o)∧(w.loops-1≤(dB x w).loops∨(dB x w).loops=0)∧((dB x w).loops≤w.loops+1∨(dB x w).loops=0):=by
 unfold dB
 grind
theorem Jz(z:pgI c t p ⟨i,w,q⟩)(d:i<p.length)(A:cL c (at2 p i) w=0):∃y,pgI c t p ⟨i+1,dB (at2 p i) w,y⟩:=by
 obtain⟨m,s⟩:=q;obtain⟨B,j,k,a,e,f,g,l,h,b⟩:=z;replace a:pwC c t=wgo c t p (p.length-i) i w:=a;replace e: -(i:Int)≤w.loops∧w.loops≤i:=e;replace f:w.o.length≤i:=f;replace h:w.o.length=cnt p s:=h;obtain⟨n,u,h1,v⟩:=J6 d l g;obtain⟨C,D,c3⟩:=uf h1;obtain⟨E,G,H,I,J⟩:=IE (at2 p i) w;rw[xb d,if_pos A]at a;refine⟨⟨n,u⟩,d,j,k,a, ?_, ?_,g,v, ?_,b⟩
 all_goals grind
theorem Ep(e:pgI c t p ⟨i,w,q⟩)(f:i<p.length)(h:(at2 p i).op=14):1≤w.o.length:=by
 obtain⟨m,s⟩:=q;obtain⟨g,j,k,l,n,u,a,b,v,d⟩:=e;obtain⟨y,z,h1,A⟩:=J6 f b a;have:=(uf h1).2.1 h;grind
theorem Dz(h:i<p.length):eX p (p.length-i) i=if bX (at2 p i)=true then eX p (p.length-(i+1)) (i+1)else i:=by
 rw[show p.length-i=(p.length-(i+1))+1 by omega]
 rfl
end
section
variable (c:bg)(t:Nat)
theorem HH(b:small c)(f:t<c.progs.length)(a:pwC c t=(0,0,0)):b7 (bt F (bf g1) 300 Tryz.f87 b16 (pgF c t) [.agg (enc4 c),.i .i64 t]):=by
 refine⟨?_⟩;have d:=b.2.2.2;rw[Rt,wrap64 (n:=(c.progs.length:Int)-1) (by omega) (by omega),KP.2 ⟨(by omega:(0:Int)≤t),(by omega:(t:Int)≤(c.progs.length:Int)-1)⟩]
 refine⟨trivial,nofun,fun _=>⟨⟨by omega,by omega⟩,fun h=>?_,fun h=>⟨0,rfl,rfl,rfl,rfl,rfl,rfl,rfl,rfl,rfl,rfl,rfl,rfl,rfl,rfl,rfl,rfl,rfl,⟨Nat.zero_le _, ?_,rfl,fun k e=>by omega,a⟩,trivial⟩⟩⟩
 ·rw[pwC,iB,if_pos (qb h)]at a;grind
 grind
theorem JI(i:Nat)(n:i≤(at3 c.progs t).length)(a:(at3 c.progs t).length≤48)(d:eX (at3 c.progs t) ((at3 c.progs t).length-i) i=eX (at3 c.progs t) (at3 c.progs t).length 0)(s:∀k,k<i→bX (at2 (at3 c.progs t) k)=true)(e:pwC c t=(0,0,0)):
 b7 (bV F (bf g1) 300 Tryz.f87 b16 (pgF c t) 7 (Jx c t) i):=by
 refine⟨?_⟩;rw[T7];have l:IntKind.i64.wrap ((i:Int)+1)=((i+1:Nat):Int):=d6 (by omega)
 refine⟨fun h=>?_,fun h=>?_⟩
 ·have h:i<(at3 c.progs t).length:=by grind
  have j:=Dz h;refine⟨⟨by omega,by omega⟩,trivial,fun g=>?_,fun g=>⟨i+1,rfl,rfl,rfl,rfl,rfl,rfl,rfl,rfl,rfl,rfl,rfl,rfl,rfl,rfl,rfl,rfl,l,⟨h,a, ?_, ?_,e⟩,by omega,trivial⟩⟩
  ·have g:(!bX (at2 (at3 c.progs t) i))=true:=g;have g:¬bX (at2 (at3 c.progs t) i)=true:=by simpa using g
   rw[if_neg g,d]at j;rw[pwC,iB,if_neg (by omega),if_pos (by omega),j]at e
   grind
  ·simp_all
  ·have g:(!bX (at2 (at3 c.progs t) i))=false:=g;grind
 ·have h:i=(at3 c.progs t).length:=by grind
  rw[← h,Nat.sub_self]at d;have d:eX (at3 c.progs t) (at3 c.progs t).length 0= -1:=by rw[← h];exact d.symm
  have f:(mtD).pre (at3 c.progs t,()):=by
   show(at3 c.progs t).length≤100000;omega
  refine⟨f,fun g=>?_,fun g=>⟨⟨0,⟨[],0,0⟩,⟨List.replicate (at3 c.progs t).length 0,[]⟩⟩,rfl,rfl,rfl,rfl,rfl,rfl,rfl,rfl,rfl,rfl,rfl,rfl,rfl,rfl,rfl,rfl,rfl,rfl,rfl,⟨Nat.zero_le _,a, ?_, ?_,⟨(show-((0:Nat):Int)≤0 by decide),(show(0:Int)≤((0:Nat):Int)by decide)⟩,qe _, ?_,⟨Nat.zero_le _,⟨List.length_replicate,fun b m=>by cases m⟩,qe _,rfl⟩,rfl,e⟩, ?_,trivial⟩⟩
  ·have g:(bA (at3 c.progs t)).2≥0:=qb g;rw[pwC,iB,if_neg (by omega),if_neg (by omega),if_pos g]at e
   grind
  ·grind
  ·have g:¬(bA (at3 c.progs t)).2≥0:=qc g;rw[pwC,iB,if_neg (by omega),if_neg (by omega),if_neg g]
   rfl
  all_goals grind
theorem GF(i:Nat)(o:List Instr)(tp lp:Int)(q:MS)(u:pgI c t (at3 c.progs t) ⟨i,⟨o,tp,lp⟩,q⟩):b7 (bV F (bf g1) 300 Tryz.f87 b16 (pgF c t) 17 (AP c t) ⟨i,⟨o,tp,lp⟩,q⟩):=by
 refine⟨?_⟩;rw[Qw];generalize hp:at3 c.progs t=p at u ⊢;have k1:i≤p.length:=u.1;have k2:p.length≤48:=u.2.1;have k5: -(i:Int)≤lp∧lp≤i:=u.2.2.2.2.1;have k6:o.length≤i:=u.2.2.2.2.2.1;refine⟨fun h=>?_,fun h=>⟨rfl,trivial⟩⟩
 have h:i<p.length:=by grind
 have K:=Pv (u.2.2.1 i h);refine⟨by omega, ?_⟩
 generalize hx:at2 p (i:Int)=x at K ⊢;have d:∀k:Int,cL c x ⟨o,tp,lp⟩=k→1≤k→k≤10→oY "no" :=fun k h1 n s=>HJ u h (by grind) n s
 have v:∀(o':List Instr) (l m:Int),cL c x ⟨o,tp,lp⟩=0→dB x ⟨o,tp,lp⟩=⟨o',l,m⟩→pgL c t i p o' l m:=by
  intro o' l m h0 X;obtain⟨Y,R⟩:=Jz u h (by grind)
  rw[hx,X]at R;exact⟨⟨i+1,⟨o',l,m⟩,Y⟩,rfl,rfl,rfl,rfl,rfl,rfl,rfl,rfl,rfl,rfl,rfl,rfl,rfl,rfl,rfl,rfl,rfl,rfl,d6 (by omega),R,by grind,trivial⟩
 have L:(o.length+1)*40≤140737488355328:=by omega
 have hl:o.length≤1000:=by omega
 -- whatever is asked of what is open alone
 have M:∀{b:Bool} {k:Int},x.op≠13→x.op≠14→x.op≠21→x.op≠22→1≤k→k≤10→(b=true→cL c x ⟨o,tp,lp⟩=k)→(b=false→cL c x ⟨o,tp,lp⟩=0)→noS b (pgL c t i p o tp lp):=
  fun h1 n s D N Z a b=>⟨fun e=>d _ (a e) N Z,fun e=>v _ _ _ (b e) (by rw[dB,if_neg h1,if_neg n,if_neg s,if_neg D])⟩
 have ne:∀{k:Int},(x.op==k)=false→x.op≠k:=ne_of_beq_false;have wr:x.op≠13→x.op≠14→x.op≠21→x.op≠22→cL c x ⟨o,tp,lp⟩=(if dR o=false then 7 else 0)→pgW c t i p o tp lp:=fun h1 n s D e=>
  ⟨hl,M (k:=7) h1 n s D (by decide) (by decide) (fun g=>by grind) fun g=>by grind⟩
 have y:∀{f:Int},f=0∨(1≤f∧f≤10)→x.op≠13→x.op≠14→x.op≠21→x.op≠22→cL c x ⟨o,tp,lp⟩=f→noS (f !=0) (pgL c t i p o tp lp):=fun {f} hr h1 n s D e=>
  ⟨fun g=>have g:f≠0:=(by simpa using g);d f e (by omega) (by omega),fun g=>v _ _ _ (e.trans (by simpa using g)) (by rw[dB,if_neg h1,if_neg n,if_neg s,if_neg D])⟩
 have P:x.op=16∨x.op=17→pgK c t i p x o tp lp:=fun g=>⟨⟨hl,K⟩,y (by
  unfold fa
  grind) (by omega) (by omega) (by omega) (by omega) (by rw[cL,if_neg (by omega),if_neg (by omega),if_neg (by omega),if_neg (by omega),if_pos g])⟩
 have plain:x.op≠13→x.op≠9→¬(x.op=10∨x.op=11)→x.op≠15→¬(x.op=16∨x.op=17)→cL c x ⟨o,tp,lp⟩=0:=fun h1 n s D N=>by rw[cL,if_neg h1,if_neg n,if_neg s,if_neg D,if_neg N]
 refine⟨fun g=>?_,fun j=>⟨fun g=>?_,fun A=>⟨fun g=>?_,fun B=>⟨fun g=>?_,fun C=>⟨fun g=>?_,fun g9=>⟨fun g=>?_,fun G=>⟨fun g=>?_,fun H=>⟨fun g=>?_,fun O=>⟨fun g=>P (.inl (eq_of_beq g)),fun I=>⟨fun g=>P (.inr (eq_of_beq g)),fun J=>?_⟩⟩⟩⟩⟩⟩⟩⟩⟩⟩
 ·have g:x.op=13:=eq_of_beq g;have E:dB x ⟨o,tp,lp⟩=⟨o++[x],mx (if(o.length:Int)=0 then-1 else tp) x.a,if(o.length:Int)=0 then 0 else lp⟩:=if_pos g
  have z:cL c x ⟨o,tp,lp⟩=(if x.a≥c.locks.length then 6 else if x.b=1∧(at1 c.locks x.a).kind≠3 then 7 else if(o.length:Int)=0 then 0 else if(o.length:Int)≥3 then 5 else if lp>0∨x.a≤tp then 8 else 0):=if_pos g
  have Q:¬x.a≥c.locks.length→¬(x.b=1∧(at1 c.locks x.a).kind≠3)→pgE c t i p x o tp lp:=fun e1 e2=>by
   rw[if_neg e1,if_neg e2]at z;refine⟨fun e=>?_,fun e=>?_⟩
   ·grind
   ·have e:(o.length:Int)≠0:=ne_of_beq_false e;rw[if_neg e]at z;rw[if_neg e,if_neg e]at E;refine⟨fun U=>d 5 (by grind) (by decide) (by decide),fun U=>?_⟩
    rw[if_neg (qc U)]at z;refine⟨fun e6=>d 8 (by grind) (by decide) (by decide),fun e6=>⟨fun e7=>d 8 (by grind) (by decide) (by decide),fun e7=>⟨L,v _ _ _ ?_ E⟩⟩⟩
    grind
  refine⟨fun e1=>d 6 (by grind) (by decide) (by decide),fun e1=>?_⟩
  have e1:=qc e1;refine⟨fun e2=>⟨⟨K,by omega⟩,fun e3=>?_,fun e3=>Q e1 fun e=>e.2 (by grind)⟩,fun e2=>Q e1 fun e=>ne_of_beq_false e2 e.1⟩
  grind
 ·have g:x.op=14:=eq_of_beq g;have hl:1≤o.length:=Ep u h (by grind)
  have W:IntKind.i64.wrap ((o.length:Int)-1)=(o.length:Int)-1:=wrap64 (by omega) (by omega)
  rw[W];refine⟨by omega,v _ _ _ (plain (by omega) (by omega) (by omega) (by omega) (by omega)) ?_⟩
  rw[dB,if_neg (by omega),if_pos g,show((o.length:Int)-1).toNat=o.length-1 by omega]
  rfl
 ·have g:x.op=21:=eq_of_beq g;refine v _ _ _ (plain (by omega) (by omega) (by omega) (by omega) (by omega)) ?_
  rw[dB,if_neg (by omega),if_neg (by omega),if_pos g,wrap64 (by omega) (by omega)]
 ·have g:x.op=22:=eq_of_beq g;refine v _ _ _ (plain (by omega) (by omega) (by omega) (by omega) (by omega)) ?_
  rw[dB,if_neg (by omega),if_neg (by omega),if_neg (by omega),if_pos g,wrap64 (by omega) (by omega)]
 ·have g:x.op=9:=eq_of_beq g;have ci:cL c x ⟨o,tp,lp⟩=if(o.length:Int)>0∧dR o=false then 7 else 0:=by rw[cL,if_neg (by omega),if_pos g]
  refine⟨fun e1=>wr (by omega) (by omega) (by omega) (by omega) ?_,fun e1=>v _ _ _ ?_ (by rw[dB,if_neg (by omega),if_neg (by omega),if_neg (by omega),if_neg (by omega)])⟩
  all_goals grind
 ·have g:x.op=10:=eq_of_beq g;exact wr (by omega) (by omega) (by omega) (by omega) (by rw[cL,if_neg (by omega),if_neg (by omega),if_pos (.inl g)])
 ·have g:x.op=11:=eq_of_beq g;exact wr (by omega) (by omega) (by omega) (by omega) (by rw[cL,if_neg (by omega),if_neg (by omega),if_pos (.inr g)])
 ·have g:x.op=15:=eq_of_beq g;refine⟨⟨hl,K⟩,y ?_ (by omega) (by omega) (by omega) (by omega) (by rw[cL,if_neg (by omega),if_neg (by omega),if_neg (by omega),if_pos g])⟩
  unfold fU
  grind
 ·have j:=ne j;have A:=ne A;have B:=ne B;have C:=ne C;have G:=ne G;have H:=ne H;have I:=ne I;have J:=ne J;exact v _ _ _ (plain j (ne g9) (by omega) (ne O) (by omega)) (by rw[dB,if_neg j,if_neg A,if_neg B,if_neg C])
end
theorem LT:bi F.S 87 (bB prD):=
 bv (fn:=Tryz.f87) (body:=b16) (ctr:=bf g1) bE noExt bC Ry Tryz.func87 rfl rfl rfl prD 300 (fun(x:bg×Int×Unit)=>[(7,Jx x.1 x.2.1.toNat),(17,AP x.1 x.2.1.toNat)]) (show 2≤82 by decide) (show 82≤512 by decide) (by kernel_rfl) (fun _ _=>⟨rfl,rfl⟩)
  (fun(x:bg×Int×Unit) b=>by
   obtain⟨c,l,u⟩:=x;obtain⟨e,f,h1,g⟩:=b;obtain⟨m,rfl⟩:=Int.eq_ofNat_of_zero_le f;exact HH c m e (by grind) g)
  (fun(x:bg×Int×Unit) b p d s a=>by
   simp only[List.mem_cons,List.not_mem_nil,or_false]at d;rcases d with rfl|rfl
   ·exact JI x.1 x.2.1.toNat s a.1 a.2.1 a.2.2.1 a.2.2.2.1 a.2.2.2.2
   ·exact GF x.1 x.2.1.toNat s.i s.w.o s.w.top s.w.loops s.q a)
end Go.Proofs.Y
namespace Go.Proofs.Y
open Go.RowKit Go.Am Go.Sy
def pk(x m:Int):Int:=IntKind.i64.wrap ((IntKind.u64.wrap x).tmod m)
def qv(x:Int):Int:=IntKind.i64.wrap ((IntKind.u64.wrap ((IntKind.u64.wrap x).tdiv 13)).tmod 1073741824)
def dq(q k:Int):Int:=IntKind.i64.wrap (q.tdiv k)
def wq(l y:Int):Int:=IntKind.i64.wrap (IntKind.i64.wrap (3*l)+pk y 3)
def bq(q:Int):Int:=IntKind.i64.wrap (IntKind.i64.wrap (pk q 2+1)+IntKind.i64.wrap ((IntKind.u64.wrap (dq q 2)).tmod (IntKind.u64.wrap (IntKind.i64.wrap (2-pk q 2)))))
def iE(l:Int):Instr:=.mk 13 l 0 0 0
def iL(r d:Int):Instr:=.mk 8 r 0 0 d
def iS(r d:Int):Instr:=.mk 9 r 0 0 d
def iU(r:Int):Instr:=.mk 2 r r 1 0
def iV:Instr:=.mk 14 0 0 0 0
def OD(q:Int):List (List Instr):=[
 [.mk 12 (pk q 4) 0 0 0],
 [.mk 1 2 0 0 (IntKind.i64.wrap (pk q 9-4))],
 [iE (pk q 3),iL 2 (wq (pk q 3) (dq q 3)),iU 2,iS 2 (wq (pk q 3) (dq q 3)),iV],
 [iE (pk q 3),iL 2 (wq (pk q 3) (dq q 3)),iL 3 (wq (pk q 3) (dq q 9)),iS 3 (wq (pk q 3) (dq q 3)),iS 2 (wq (pk q 3) (dq q 9)),iV],
 [iE (pk q 2),iL 2 (wq (pk q 2) (dq q 3)),iE (bq q),iL 3 (wq (bq q) (dq q 9)),iU 2,iS 2 (wq (bq q) (dq q 9)),iV,iU 3,iS 3 (wq (pk q 2) (dq q 27)),iV],
 [.mk 13 2 1 0 0,.mk 8 2 0 0 (IntKind.i64.wrap (6+pk q 3)),.mk 8 3 0 0 (IntKind.i64.wrap (6+(pk (dq q 3) 3))),iV,.mk 12 2 0 0 0,.mk 12 3 0 0 0],
 [iE (pk q 3),.mk 10 0 0 0 (wq (pk q 3) (dq q 3)),iV,iL 2 (wq (pk q 3) (dq q 3)),iU 2,iS 2 (wq (pk q 3) (dq q 3)),iE (pk q 3),.mk 11 0 0 0 (wq (pk q 3) (dq q 3)),iV],
 [iE (pk q 3),iL 2 (wq (pk q 3) (dq q 3)),.mk 18 2 0 0 0,.mk 19 0 0 0 0,.mk 15 (pk q 3) 0 0 0,.mk 20 0 0 0 0,iL 3 (wq (pk q 3) (dq q 3)),iV],
 [iE (pk q 3),iL 2 (wq (pk q 3) (dq q 3)),iU 2,iS 2 (wq (pk q 3) (dq q 3)),.mk 16 (pk q 3) 0 0 0,iV],
 [iE (pk q 3),iL 2 (wq (pk q 3) (dq q 3)),iU 2,iS 2 (wq (pk q 3) (dq q 3)),.mk 17 (pk q 3) 0 0 0,iV],
 [iE (pk q 3),iL 2 (wq (pk q 3) (dq q 3)),.mk 8 3 2 0 (IntKind.i64.wrap (wq (pk q 3) (dq q 9)-2)),iV,.mk 12 3 0 0 0],
 [.mk 1 3 0 0 (IntKind.i64.wrap (1+(pk (dq q 9) 3))),.mk 21 3 0 0 0,iE (pk q 3),iL 2 (wq (pk q 3) (dq q 3)),iU 2,iS 2 (wq (pk q 3) (dq q 3)),iV,.mk 3 3 3 1 0,.mk 22 0 0 0 0],
 [iE (pk q 3),.mk 1 3 0 0 (IntKind.i64.wrap (1+(pk (dq q 9) 3))),.mk 21 3 0 0 0,iL 2 (wq (pk q 3) (dq q 3)),iU 2,iS 2 (wq (pk q 3) (dq q 3)),.mk 3 3 3 1 0,.mk 22 0 0 0 0,iV]]
def zJ(k:Int):Nat→List (List Instr)→List Instr
 |_,[]=>[]
 |_,[l]=>l
 |j,l::ls=>if k=(j:Int)then l else zJ k (j+1) ls
def fJ(x:Int):List Instr:=zJ (pk x 13) 0 (OD (qv x))
def fM(l:List Int):Nat→Nat→List Instr→List Instr
 |0,_,p=>p
 |r+1,i,p=>if(p.length:Int)<34 then fM l r (i+1) (p++fJ (at0 l i))else p
def fz(l:List Int):List Instr:=fM l l.length 0 [⟨1,1,0,0,1⟩]
def pgP:List (Pat cod):=[.tl 0]
def rf(l:List Int):Prop:=l.length≤1000
def pgC(l:List Int):dN cod:=⟨Nat×List Instr,fun s=>s.1≤l.length∧s.2.length≤100∧fM l (l.length-s.1) s.1 s.2=fz l,fun s=>l.length-s.1,
 fun s=>[(0,.tl (T:=T) 0 l),(3,.R 0),(4,.i .i64 s.1)],fun s=>[.rows 2 s.2 true 0]⟩
noncomputable def b38:Code:=Tryz.f68.body.getD .skip
noncomputable def b23:Code:=Tryz.f31.body.getD .skip
noncomputable def Ml:Code:=Tryz.f9.body.getD .skip
noncomputable def b4:Code:=Tryz.f11.body.getD .skip
noncomputable def h1:List (FuncId×Ctr cod):=[(68,oL [.int .i64] (fun _=>True) 2 (fun(x:Int×Unit)=>fJ x.1))]
def oX(rows:List (List Int))(n:Int):Nat→Nat→Bool
 |0,_=>decide ((rows.length:Int)≤4)
 |r+1,i=>if(i:Int)<rows.length then(if((at5 rows i).length:Int)>n then false else oX rows n r (i+1))else decide ((rows.length:Int)≤4)
def iI(rows:List (List Int))(n:Int):Bool:=oX rows n 5 0
def fwD:eC cod where
 pats:=[.tl 5,.int .i64]
 pre:=fun x=>True
 res:=fun(x:List (List Int)×Int×Unit)=>.b (iI x.1 x.2.1)
 objs:=fun x=>[]
end Go.Proofs.Y
namespace Go.Proofs.Y
open Go.RowKit Go.Am Go.Sy
def pcR(q:Int)(j:Nat)(P:Prop):Prop:=bif Nat.beq j 4 then IntKind.u64.wrap (IntKind.i64.wrap (2-pk q 2))≠0∧P else P
def pcP(x:Int)(r:List Instr):Nat→List (List Instr)→Prop
 |_,[]=>True
 |_,[l]=>l=r∧True
 |j,l::ls=>((pk x 13==(j:Int))=true→pcR (qv x) j (l=r∧True))∧((pk x 13==(j:Int))=false→pcP x r (j+1) ls)
theorem Ui(x:Int):Go.Sy.Tree.holds (bt F (bf []) 400 Tryz.f68 b38 ⟨[],.R 0,[.rows 2 (fJ x) false 0]⟩ [.i .i64 x])=pcP x (fJ x) 0 (OD (qv x)):=by kernel_rfl
theorem SL(l:List Int):Go.Sy.Tree.holds (bt F (bf h1) 400 Tryz.f31 b23 ⟨[(3,pgC l)],.R 0,[.rows 2 (fz l) true 0]⟩ [.tl (T:=T) 0 l])=( ∃(s:Nat×List Instr),l=l∧[Instr.mk (1:Int) (1:Int)
 (0:Int) (0:Int) (1:Int)]=s.snd∧(0:Int)=(↑s.fst:Int)∧(s.fst≤l.length∧s.snd.length≤100∧fM l (l.length-s.fst) s.fst s.snd=fz l)∧True):=by kernel_rfl
theorem Uf(l:List Int)(i:Nat)(p:List Instr):Go.Sy.Tree.holds (bV F (bf h1) 400 Tryz.f31 b23 ⟨[(3,pgC l)],.R 0,[.rows 2 (fz l) true 0]⟩ 3 (pgC l) (i,p))=( (decide ((↑i:Int)<(↑l.length:
 Int))=true→(decide ((↑p.length:Int)<34)=true→((0:Int)≤(↑i:Int)∧(↑i:Int)<(↑l.length:Int))∧True∧(p.length+(fJ (at0 l (↑i:Int))).length)*40≤140737488355328∧∃(s:Nat×List
 Instr),l=l∧p++fJ (at0 l (↑i:Int))=s.snd∧IntKind.i64.wrap ((↑i:Int)+1)=(↑s.fst:Int)∧(s.fst≤l.length∧s.snd.length≤100∧fM l (l.length-s.fst) s.fst s.snd=fz l)∧l.length-s.fst
 <l.length-i∧True)∧(decide ((↑p.length:Int)<34)=false→p=fz l∧True))∧(decide ((↑i:Int)<(↑l.length:Int))=false→p=fz l∧True)):=by kernel_rfl
theorem T9(rows:List (List Int))(n:Int):Go.Sy.Tree.holds (bt F (bf []) 400 Tryz.f9 Ml ⟨[],.b (iI rows n),[]⟩ [.tl (T:=T) 5 rows,.i .i64 n])=( (decide ((0:Int)<(↑rows.length:Int))=true→
 ((0:Int)≤0∧(0:Int)<(↑rows.length:Int))∧(decide ((↑(at5 rows (0:Int)).length:Int)>n)=true→false=iI rows n∧True)∧(decide ((↑(at5 rows (0:Int)).length:Int)>n)=false→(decide ((1:
 Int)<(↑rows.length:Int))=true→((0:Int)≤1∧(1:Int)<(↑rows.length:Int))∧(decide ((↑(at5 rows (1:Int)).length:Int)>n)=true→false=iI rows n∧True)∧(decide ((↑(at5 rows (1:Int)).length
 :Int)>n)=false→(decide ((2:Int)<(↑rows.length:Int))=true→((0:Int)≤2∧(2:Int)<(↑rows.length:Int))∧(decide ((↑(at5 rows (2:Int)).length:Int)>n)=true→false=iI rows n∧True)∧
 (decide ((↑(at5 rows (2:Int)).length:Int)>n)=false→(decide ((3:Int)<(↑rows.length:Int))=true→((0:Int)≤3∧(3:Int)<(↑rows.length:Int))∧(decide ((↑(at5 rows (3:Int)).length:Int)>n)=
 true→false=iI rows n∧True)∧(decide ((↑(at5 rows (3:Int)).length:Int)>n)=false→(decide ((4:Int)<(↑rows.length:Int))=true→((0:Int)≤4∧(4:Int)<(↑rows.length:Int))∧(decide ((↑(at5
 rows (4:Int)).length:Int)>n)=true→false=iI rows n∧True)∧(decide ((↑(at5 rows (4:Int)).length:Int)>n)=false→(decide ((5:Int)<(↑rows.length:Int))=true→decide ((↑rows.length:Int)≤4)
 =iI rows n∧True)∧(decide ((5:Int)<(↑rows.length:Int))=false→decide ((↑rows.length:Int)≤4)=iI rows n∧True)))∧(decide ((4:Int)<(↑rows.length:Int))=false→decide ((↑rows.length:Int)≤
 4)=iI rows n∧True)))∧(decide ((3:Int)<(↑rows.length:Int))=false→decide ((↑rows.length:Int)≤4)=iI rows n∧True)))∧(decide ((2:Int)<(↑rows.length:Int))=false→decide ((↑rows.length:
 Int)≤4)=iI rows n∧True)))∧(decide ((1:Int)<(↑rows.length:Int))=false→decide ((↑rows.length:Int)≤4)=iI rows n∧True)))∧(decide ((0:Int)<(↑rows.length:Int))=false→decide
 ((↑rows.length:Int)≤4)=iI rows n∧True)):=by kernel_rfl
theorem LQ(n:Int):0≤IntKind.u64.wrap n∧IntKind.u64.wrap n<18446744073709551616:=by
 have e:IntKind.u64.wrap n=n%18446744073709551616:=rfl;rw[e];omega
theorem nz(n m:Int)(b:0<m)(d:m≤1000000):0≤pk n m∧pk n m<m:=by
 have a:=LQ n;have e:(IntKind.u64.wrap n).tmod m=IntKind.u64.wrap n%m:=Int.tmod_eq_emod_of_nonneg a.1;have h1:=Int.emod_nonneg (IntKind.u64.wrap n) (show m≠0 by omega)
 have c:=Int.emod_lt_of_pos (IntKind.u64.wrap n) b;unfold pk;rw[e,wrap64 (by omega) (by omega)]
 grind
variable {n:Int}
theorem ry(a:0≤n)(h1:n≤9223372036854775807):IntKind.u64.wrap n=n:=by
 have e:IntKind.u64.wrap n=n%18446744073709551616:=rfl;rw[e];omega
theorem vL(y:Int):IntKind.u64.wrap (IntKind.i64.wrap (2-pk y 2))=2-pk y 2:=by
 have h:=nz y 2 (by decide) (by decide)
 rw[wrap64 (by omega) (by omega),ry (by omega) (by omega)]
theorem Fl(x:Int)(r4:IntKind.u64.wrap (IntKind.i64.wrap (2-pk (qv x) 2))≠0):∀(ls:List (List Instr)) (j:Nat),pcP x (zJ (pk x 13) j ls) j ls
 | [],_=>trivial
 | [_],_=>⟨rfl,trivial⟩
 |l::m::ls,j=>⟨fun h=>by
  rw[zJ,if_pos (eq_of_beq h)]
  ·unfold pcR;grind
  ·nofun,fun h=>by
  rw[zJ,if_neg (ne_of_beq_false h)]
  ·exact Fl x r4 (m::ls) (j+1)
  ·nofun⟩
theorem IA(x:Int):b7 (bt F (bf []) 400 Tryz.f68 b38 ⟨[],.R 0,[.rows 2 (fJ x) false 0]⟩ [.i .i64 x]):=by
 refine⟨?_⟩;rw[Ui];have h:=nz (qv x) 2 (by decide) (by decide)
 exact Fl x (by rw[vL];omega) _ 0
theorem G9:∀y:cod.T 2,(cod.enc 2 y).all gO=true:=fun y=>rfl
theorem I8:bi F.S 68 (oL (C:=cod) [.int .i64] (fun _=>True) 2 (fun(x:Int×Unit)=>fJ x.1)):=
 ky (fn:=Tryz.f68) (body:=b38) (ctr:=bf []) bE noExt bC cd Tryz.func68 rfl rfl rfl [.int .i64] (fun _=>True) 2 (fun(x:Int×Unit)=>fJ x.1) false 0 G9 400 (fun _=>[]) (show 1≤Tryz.f68.ntmps by decide) (show Tryz.f68.ntmps≤512 by decide) (by kernel_rfl)
  (fun(x:Int×Unit) a=>IA x.1) (fun x a p b=>by cases b)
theorem RX:cv F.S (bf h1):=bW fun p h=>by
 have h:p∈[_]:=h;rw[qt]at h;subst h;exact I8
theorem yH{P:List Instr→Prop}{k:Int}:∀{ls:List (List Instr)} {j:Nat},P []→(∀l,l∈ls→P l)→P (zJ k j ls)
 | [],_,h,_=>h
 | [l],_,_,h=>h l (by simp)
 |l::m::ls,j,b,h=>by
  rw[zJ]
  ·split
   ·grind
   ·exact yH b fun x a=>h x (List.mem_cons_of_mem _ a)
  ·nofun
theorem s6(x:Int):(fJ x).length≤10:=by
 refine yH (P:=fun l=>l.length≤10) (by decide) ?_
 repeat' (refine List.forall_mem_cons.2 ⟨Nat.le_of_ble_eq_true rfl, ?_⟩)
 nofun
variable {i:Nat}
theorem xY{l:List Int}{p:List Instr}(h:i<l.length):fM l (l.length-i) i p=if(p.length:Int)<34 then fM l (l.length-(i+1)) (i+1) (p++fJ (at0 l i))else p:=by
 rw[show l.length-i=(l.length-(i+1))+1 by omega]
 rfl
theorem IU(l:List Int):b7 (bt F (bf h1) 400 Tryz.f31 b23 ⟨[(3,pgC l)],.R 0,[.rows 2 (fz l) true 0]⟩ [.tl (T:=T) 0 l]):=by
 refine⟨?_⟩;rw[SL];exact⟨(0,[⟨1,1,0,0,1⟩]),rfl,rfl,rfl,⟨Nat.zero_le _,by decide,rfl⟩,trivial⟩
theorem H8(l:List Int)(i:Nat)(p:List Instr)(hl:l.length≤1000)(c:i≤l.length)(d:p.length≤100)(a:fM l (l.length-i) i p=fz l):b7 (bV F (bf h1) 400 Tryz.f31 b23 ⟨[(3,pgC l)],.R 0,[.rows 2 (fz l) true 0]⟩ 3 (pgC l) (i,p)):=by
 refine⟨?_⟩;rw[Uf];have b:l.length≤1000:=hl;have pl:=s6 (at0 l i);refine⟨fun h=>?_,fun h=>?_⟩
 ·have h:i<l.length:=by grind
  rw[xY h]at a;refine⟨fun g=>?_,fun g=>?_⟩
  ·have g:(p.length:Int)<34:=qb g;rw[if_pos g]at a;refine⟨⟨by omega,by omega⟩,trivial,by omega,(i+1,p++fJ (at0 l i)),rfl,rfl,d6 (by omega),⟨h, ?_,a⟩,by grind,trivial⟩
   grind
  grind
 ·have h:i=l.length:=by grind
  rw[h,Nat.sub_self]at a;exact⟨a,trivial⟩
theorem Jq:bi F.S 31 (oL (C:=cod) pgP (fun(x:List Int×Unit)=>rf x.1) 2 (fun(x:List Int×Unit)=>fz x.1)):=
 ky (fn:=Tryz.f31) (body:=b23) (ctr:=bf h1) bE noExt bC RX Tryz.func31 rfl rfl rfl pgP (fun(x:List Int×Unit)=>rf x.1) 2 (fun(x:List Int×Unit)=>fz x.1) true 0 G9 400 (fun(x:List Int×Unit)=>[(3,pgC x.1)]) (show 1≤Tryz.f31.ntmps by decide) (show Tryz.f31.ntmps≤512 by decide) (by kernel_rfl)
  (fun(x:List Int×Unit) b=>IU x.1) (fun(x:List Int×Unit) b p c s a=>by
   simp only[qt]at c;subst c;exact H8 x.1 s.1 s.2 b a.1 a.2.1 a.2.2)
variable {r:Nat}{rows:List (List Int)}
theorem iZ(h:(i:Int)<rows.length):oX rows n (r+1) i=(if((at5 rows i).length:Int)>n then false else oX rows n r (i+1)):=if_pos h
theorem kI(h:¬(i:Int)<rows.length):oX rows n (r+1) i=decide ((rows.length:Int)≤4):=if_neg h
theorem JJ(rows:List (List Int))(n:Int):b7 (bt F (bf []) 400 Tryz.f9 Ml ⟨[],.b (iI rows n),[]⟩ [.tl (T:=T) 5 rows,.i .i64 n]):=by
 refine⟨?_⟩;rw[T9];have q0:oX rows n 5 0=iI rows n:=rfl;refine⟨fun h=>?_,fun h=>⟨?_,trivial⟩⟩
 rotate_left
 ·rw[kI (i:=0) (qc h)]at q0;exact q0
 have c0:((0:Nat):Int)<rows.length:=qb h;rw[iZ (i:=0) c0]at q0;refine⟨⟨by decide,c0⟩,fun g=>⟨?_,trivial⟩,fun g=>?_⟩
 ·grind
 have q1:=(if_neg (qc g)).symm.trans q0;clear h g;refine⟨fun h=>?_,fun h=>⟨?_,trivial⟩⟩
 rotate_left
 ·rw[kI (i:=1) (qc h)]at q1;exact q1
 have d:((1:Nat):Int)<rows.length:=qb h;rw[iZ (i:=1) d]at q1;refine⟨⟨by decide,d⟩,fun g=>⟨?_,trivial⟩,fun g=>?_⟩
 ·grind
 have q2:=(if_neg (qc g)).symm.trans q1;clear h g;refine⟨fun h=>?_,fun h=>⟨?_,trivial⟩⟩
 rotate_left
 ·rw[kI (i:=2) (qc h)]at q2;exact q2
 have e:((2:Nat):Int)<rows.length:=qb h;rw[iZ (i:=2) e]at q2;refine⟨⟨by decide,e⟩,fun g=>⟨?_,trivial⟩,fun g=>?_⟩
 ·grind
 have a:=(if_neg (qc g)).symm.trans q2;clear h g;refine⟨fun h=>?_,fun h=>⟨?_,trivial⟩⟩
 rotate_left
 ·rw[kI (i:=3) (qc h)]at a;exact a
 have c3:((3:Nat):Int)<rows.length:=qb h;rw[iZ (i:=3) c3]at a;refine⟨⟨by decide,c3⟩,fun g=>⟨?_,trivial⟩,fun g=>?_⟩
 ·grind
 have c:=(if_neg (qc g)).symm.trans a;clear h g;refine⟨fun h=>?_,fun h=>⟨?_,trivial⟩⟩
 rotate_left
 ·rw[kI (i:=4) (qc h)]at c;exact c
 have f:((4:Nat):Int)<rows.length:=qb h;rw[iZ (i:=4) f]at c;refine⟨⟨by decide,f⟩,fun g=>⟨?_,trivial⟩,fun g=>?_⟩
 ·grind
 have q5:=(if_neg (qc g)).symm.trans c;clear h g;exact⟨fun _=>⟨q5,trivial⟩,fun _=>⟨q5,trivial⟩⟩
theorem Oy:bi F.S 9 (bB fwD):=
 bv (fn:=Tryz.f9) (body:=Ml) (ctr:=bf []) bE noExt bC cd Tryz.func9 rfl rfl rfl fwD 400 (fun _=>[]) (show 2≤Tryz.f9.ntmps by decide) (show Tryz.f9.ntmps≤512 by decide) (by kernel_rfl) (fun _ _=>⟨rfl,rfl⟩)
  (fun(x:List (List Int)×Int×Unit) a=>JJ x.1 x.2.1) (fun x a p b=>by cases b)
end Go.Proofs.Y
namespace Go.Proofs.Y
open Go.RowKit Go.Am Go.Sy
def ws(op:Int)(σ:List (Int×Bool)):Option (List (Int×Bool)):=
 if op=18∨op=21∨op=13 then some ((op,false)::σ)
 else if opener op=0 then some σ
 else match σ with
  | []=>none
  |(o,f)::τ=>if o=opener op then(if op=19 then(if f=true then none else some ((o,true)::τ))else some τ)else none
def va:List Instr→List (Int×Bool)→Option (List (Int×Bool))
 | [],σ=>some σ
 |x::p,σ=>match ws x.op σ with
  |none=>none
  |some τ=>va p τ
def u0(c:bg):List Instr→WS→Option WS
 | [],w=>some w
 |x::p,w=>if cL c x w=0 then u0 c p (dB x w)else none
theorem pm:∀{p q:List Instr} {σ τ:List (Int×Bool)},va p σ=some τ→va (p++q) σ=va q τ
 | [],q,σ,τ,h=>by cases h;rfl
 |x::p,q,σ,τ,h=>by
  show(match ws x.op σ with|none=>none|some τ=>va (p++q) τ)=_
  unfold va at h;cases hs:ws x.op σ with
  |none=>grind
  |some ρ=>rw[hs]at h;exact pm h
theorem pd{c:bg}:∀{p q:List Instr} {w v:WS},u0 c p w=some v→u0 c (p++q) w=u0 c q v
 | [],q,w,v,h=>by cases h;rfl
 |x::p,q,w,v,h=>by
  show(if cL c x w=0 then u0 c (p++q) (dB x w)else none)=_
  unfold u0 at h
  by_cases a:cL c x w=0
  ·rw[if_pos a]at h ⊢;exact pd h
  grind
structure nh(c:bg)(p:List Instr):Prop where
 may:p.all bX=true
 bal:∀σ,va p σ=some σ
 walk:∀tp lp,(u0 c p ⟨[],tp,lp⟩).map (·.o)=some []
variable {c:bg}{p:List Instr}
theorem nh.append{q:List Instr}(h:nh c p)(k:nh c q):nh c (p++q) where
 may:=by rw[List.all_append,h.may,k.may];rfl
 bal:=fun σ=>by rw[pm (h.bal σ),k.bal]
 walk:=fun e lp=>by
  obtain⟨w,h1,d⟩:=Option.map_eq_some_iff.1 (h.walk e lp);obtain⟨o,a,b⟩:=w;subst d;rw[pd h1];exact k.walk a b
theorem drop_cons{i:Nat}(h:i<p.length):p.drop i=p[i]::p.drop (i+1):=List.drop_eq_getElem_cons h
theorem vP{p:List Instr}(b:p.all bX=true):∀(r i:Nat),i+r=p.length→eX p r i= -1
 |0,i,h=>rfl
 |r+1,i,h=>by
  have a:i<p.length:=by omega
  have e:at2 p (i:Int)=p[i]:=kS a;rw[eX,e,if_pos (List.all_eq_true.1 b _ (List.getElem_mem a))];exact vP b r (i+1) (by omega)
theorem ye{c:bg}{t:Nat}{p:List Instr}:∀(r i:Nat) (w w':WS),i+r=p.length→u0 c (p.drop i) w=some w'→wgo c t p r i w=(0,0,0)
 |0,i,w,w',h,a=>rfl
 |r+1,i,w,w',h,a=>by
  have b:i<p.length:=by omega
  have e:at2 p (i:Int)=p[i]:=kS b;rw[drop_cons b,u0]at a;rw[wgo,e]
  by_cases d:cL c p[i] w=0
  ·rw[if_pos d]at a ⊢;exact ye r (i+1) _ w' (by omega) a
  grind
def I1(p:List Instr):List Blk→List (Int×Bool)→Prop
 | [],[]=>True
 |b::s,(o,f)::σ=>(at2 p b.a).op=o∧(f=false→b.l=b.a)∧I1 p s σ
 |_,_=>False
theorem Fz(s:List Blk)(b:Blk):lst (s++[b])=b:=by
 have h:s.length<(s++[b]).length:=by simp
 have e:lst (s++[b])=(s++[b])[s.length]:=by
  unfold lst;rw[show(((s++[b]).length:Nat):Int)-1=(s.length:Int)by simp]
  exact lh h
 rw[e];simp
theorem rH{p:List Instr}:∀(r i:Nat) (m:List Int) (s:List Blk) (σ:List (Int×Bool)),i+r=p.length→I1 p s.reverse σ→va (p.drop i) σ=some []→(mgo p r i ⟨m,s⟩).2= -1
 |0,i,m,s,σ,h,d,g=>by
  rw[List.drop_of_length_le (by omega)]at g
  cases g;have a:s=[]:=by
   cases a:s.reverse with
   |nil=>simp_all
   |cons b t=>rw[a]at d;exact d.elim
  subst a;rfl
 |r+1,i,m,s,σ,h,d,g=>by
  have q:i<p.length:=by omega
  have e:at2 p (i:Int)=p[i]:=kS q;rw[drop_cons q,va]at g;cases a:ws p[i].op σ with
  |none=>grind
  |some τ=>
   rw[a]at g;have j:∀(n:List Int) (l:List Blk),cK p i ⟨m,s⟩=some ⟨n,l⟩→I1 p l.reverse τ→(mgo p (r+1) i ⟨m,s⟩).2= -1:=by
    intro n l h1 z;rw[mgo,h1];exact rH r (i+1) n l τ (by omega) z g
   unfold ws at a
   by_cases u:p[i].op=18∨p[i].op=21∨p[i].op=13
   ·rw[if_pos u]at a;cases a;refine j _ _ (mX (by grind)) ?_
    rw[List.reverse_append];exact⟨by rw[e],fun _=>rfl,d⟩
   ·rw[if_neg u]at a
    by_cases v:opener p[i].op=0
    ·rw[if_pos v]at a;cases a;exact j _ _ (kr (by grind) (by grind)) d
    ·rw[if_neg v]at a;cases σ with
     |nil=>cases a
     |cons of B=>
      obtain⟨o,f⟩:=of;cases hr:s.reverse with
      |nil=>rw[hr]at d;exact d.elim
      |cons b t=>
       rw[hr]at d;obtain⟨r1,r2,r3⟩:=d;have es:s=t.reverse++[b]:=by
        simp_all
       have el:lst s=b:=by rw[es];exact Fz _ _
       have hl:s.length-1=t.reverse.length:=by rw[es];simp
       simp only at a
       by_cases x:o=opener p[i].op
       ·rw[if_pos x]at a;have y:=AR (p:=p) (i:=i) (by grind)
        by_cases w:p[i].op=19
        ·rw[if_pos w]at a;cases f with
         |true=>cases a
         |false=>
          cases a;have k:¬dX p i s:=by
           unfold dX;grind
          refine j _ _ (nE (by grind) k (by grind)) ?_
          rw[el,hl,es,List.set_append_right _ _ (qe _),Nat.sub_self];simp;exact⟨r1,nofun,r3⟩
        ·rw[if_neg w]at a;have k:¬dX p i s:=by
          unfold dX;grind
         have done:I1 p (s.take (s.length-1)).reverse τ:=by grind
         by_cases A:p[i].op=22∨p[i].op=14
         ·exact j _ _ (lw (by grind) k (by grind)) done
         ·exact j _ _ (sd (by grind) k (by grind) (by grind)) done
       grind
theorem qR{t:Nat}(h:nh c p)(hl:p.length≤48):iB c t p=(0,0,0):=by
 have h1:=vP h.may p.length 0 (Nat.zero_add _);have a:(bA p).2= -1:=rH p.length 0 (List.replicate p.length 0) [] [] (Nat.zero_add _) trivial (h.bal []);obtain⟨w,b,_⟩:=Option.map_eq_some_iff.1 (h.walk 0 0);rw[iB,if_neg (by omega),h1,if_neg (by decide),a,if_neg (by decide)]
 exact ye p.length 0 _ w (Nat.zero_add _) b
end Go.Proofs.Y
namespace Go.Proofs.Y
open Go.RowKit Go.Am Go.Sy
def jP(k:K8):Int:=if pk k.h 4=1 then pk (IntKind.i64.wrap (k.h.tdiv 4)) 12 else 1073741824
def ge(k:K8):Int:=if pk k.e 5>0 then 32 else IntKind.i64.wrap (1+pk k.e 12)
def oneOf(k:K8):Int:=IntKind.i64.wrap (1+pk (IntKind.i64.wrap (k.a.tdiv 2)) 2)
def fy(k:K8)(ps:List (List Instr)):bg:=⟨IntKind.i64.wrap (1+pk k.a 2),IntKind.i64.wrap (1+pk k.b 2),IntKind.i64.wrap (1+pk k.c 7),IntKind.i64.wrap (32-IntKind.i64.wrap (pk k.d 4*9)),ge k,pk k.f 4,IntKind.i64.wrap (20+pk k.g 60),jP k,
 [0,1,2,3,0,1,2,3,0],[⟨oneOf k,0,3⟩,⟨IntKind.i64.wrap (3-oneOf k),3,3⟩,⟨3,6,3⟩],[0,1,2],ps⟩
theorem pk2(x:Int):pk x 2=0∨pk x 2=1:=by
 have:=nz x 2 (by decide) (by decide)
 omega
theorem pk3(x:Int):pk x 3=0∨pk x 3=1∨pk x 3=2:=by
 have:=nz x 3 (by decide) (by decide)
 omega
theorem pk4(x:Int):pk x 4=0∨pk x 4=1∨pk x 4=2∨pk x 4=3:=by
 have:=nz x 4 (by decide) (by decide)
 omega
theorem Ce(y z:Int):∃b,IntKind.i64.wrap (IntKind.i64.wrap (pk y 2+1)+IntKind.i64.wrap ((IntKind.u64.wrap z).tmod (IntKind.u64.wrap (IntKind.i64.wrap (2-pk y 2)))))=b∧((pk y 2=0∧b=1)∨(pk y 2=0∧b=2)∨(pk y 2=1∧b=2)):=by
 refine⟨_,rfl, ?_⟩;rw[vL];rcases pk2 y with h|h
 ·rw[h];have e:IntKind.i64.wrap ((IntKind.u64.wrap z).tmod (2-0))=pk z 2:=rfl;rw[e];rcases pk2 z with g|g
  ·rw[g];exact .inl ⟨rfl,rfl⟩
  ·rw[g];exact .inr (.inl ⟨rfl,rfl⟩)
 ·rw[h];have e:IntKind.i64.wrap ((IntKind.u64.wrap z).tmod (2-1))=pk z 1:=rfl;rw[e];have g:=nz z 1 (by decide) (by decide)
  rw[show pk z 1=0 by omega]
  exact .inr (.inr ⟨rfl,rfl⟩)
section
variable {k:K8}{ps:List (List Instr)}
theorem yA(x:Int):nh (fy k ps) (fJ x):=by
 refine yH (P:=nh (fy k ps)) ⟨by kernel_rfl,fun σ=>by kernel_rfl,fun a lp=>by kernel_rfl⟩ ?_
 repeat' (refine List.forall_mem_cons.2 ⟨?_, ?_⟩)
 ·rcases pk4 (qv x)with h|h|h|h<;>rw[h]<;>exact⟨by kernel_rfl,fun σ=>by kernel_rfl,fun a lp=>by kernel_rfl⟩
 ·exact⟨by kernel_rfl,fun σ=>by kernel_rfl,fun a lp=>by kernel_rfl⟩
 ·rcases pk3 (qv x)with h|h|h<;>rw[h]<;>exact⟨by kernel_rfl,fun σ=>by kernel_rfl,fun a lp=>by kernel_rfl⟩
 ·rcases pk3 (qv x)with h|h|h<;>rw[h]<;>exact⟨by kernel_rfl,fun σ=>by kernel_rfl,fun a lp=>by kernel_rfl⟩
 ·obtain⟨b,e,h⟩:=Ce (qv x) (IntKind.i64.wrap ((qv x).tdiv 2));rw[show bq (qv x)=b from e]
  rcases h with⟨h,rfl⟩|⟨h,rfl⟩|⟨h,rfl⟩<;>rw[h]<;>exact⟨by kernel_rfl,fun σ=>by kernel_rfl,fun a lp=>by kernel_rfl⟩
 ·exact⟨by kernel_rfl,fun σ=>by kernel_rfl,fun a lp=>by kernel_rfl⟩
 all_goals try rcases pk3 (qv x)with h|h|h<;>rw[h]<;>exact⟨by kernel_rfl,fun σ=>by kernel_rfl,fun a lp=>by kernel_rfl⟩
 nofun
theorem ph(l:List Int):∀(r i:Nat) (p:List Instr),nh (fy k ps) p→p.length≤48→nh (fy k ps) (fM l r i p)∧(fM l r i p).length≤48
 |0,i,p,h,hl=>⟨h,hl⟩
 |r+1,i,p,h,hl=>by
  rw[fM]
  by_cases g:(p.length:Int)<34
  ·rw[if_pos g];refine ph l r (i+1) _ (h.append (yA _)) ?_;have:=s6 (at0 l i);grind
  grind
theorem y4(t:Nat)(l:List Int):iB (fy k ps) t (fz l)=(0,0,0):=by
 have h:=ph (k:=k) (ps:=ps) l l.length 0 [⟨1,1,0,0,1⟩] ⟨by kernel_rfl,fun σ=>by kernel_rfl,fun a lp=>by kernel_rfl⟩ (by decide)
 exact qR h.1 h.2
theorem Dn(t:Nat):iB (fy k ps) t []=(0,0,0):=qR ⟨by kernel_rfl,fun σ=>by kernel_rfl,fun a lp=>by kernel_rfl⟩ (by decide)
theorem KM:oneOf k=1∨oneOf k=2:=by
 unfold oneOf;rcases pk2 (IntKind.i64.wrap (k.a.tdiv 2))with h|h<;>rw[h]
 ·exact .inl rfl
 ·exact .inr rfl
end
end Go.Proofs.Y
namespace Go.Proofs.Y
open Go.RowKit Go.Am Go.Sy
def dt(r:R4)(i:Int):Int:=if i=0 then r.a else if i=1 then r.b else if i=2 then r.c else r.d
def xM(r:R4)(i v:Int):R4:=if i=0 then⟨v,r.b,r.c,r.d⟩else if i=1 then⟨r.a,v,r.c,r.d⟩else if i=2 then⟨r.a,r.b,v,r.d⟩else⟨r.a,r.b,r.c,v⟩
def bG(op:Int):Bool:=decide (op≥1) && decide (op≤7)||decide (op≥18) && decide (op≤22)
def Nk(a b:Int):Int:=IntKind.i64.wrap ((BitVec.ofInt IntKind.i64.bits a^^^BitVec.ofInt IntKind.i64.bits b).toNat:Int)
def vB(b:Bool):Int:=if b=true then 1 else 0
def il(x:Instr)(r:R4):Int:=
 if x.op=1 then x.n
 else if x.op=2 then IntKind.i64.wrap (dt r x.b+dt r x.c)
 else if x.op=3 then IntKind.i64.wrap (dt r x.b-dt r x.c)
 else if x.op=4 then IntKind.i64.wrap (dt r x.b*dt r x.c)
 else if x.op=5 then Nk (dt r x.b) (dt r x.c)
 else if x.op=6 then vB (decide (dt r x.b<dt r x.c))
 else vB (dt r x.b==dt r x.c)
def pA:eC cod where
 pats:=[.int .i64]
 pre:=fun x=>True
 res:=fun(x:Int×Unit)=>.b (bG x.1)
 objs:=fun x=>[]
def Jm:eC cod where
 pats:=[.row 2,.row 11]
 pre:=fun(x:Instr×R4×Unit)=>(x.1.op≠1→(0≤x.1.b∧x.1.b<4)∧0≤x.1.c∧x.1.c<4)
 res:=fun(x:Instr×R4×Unit)=>.i .i64 (il x.1 x.2.1)
 objs:=fun x=>[]
def fE(r:R4)(n:Int)(K:Int→Prop):Prop:=((0:Int)≤n∧n<4)∧((n==3)=true→K r.d)∧((n==3)=false→((n==2)=true→K r.c)∧((n==2)=false→((n==1)=true→K r.b)∧((n==1)=false→K r.a)))
theorem bP{r:R4}{n:Int}{K:Int→Prop}(h:0≤n∧n<4)(k:K (dt r n)):fE r n K:=by
 refine⟨h,fun e=>?_,fun e3=>⟨fun e=>?_,fun e2=>⟨fun e=>?_,fun e1=>?_⟩⟩⟩
 ·have e:n=3:=eq_of_beq e;subst e;exact k
 ·have e:n=2:=eq_of_beq e;subst e;exact k
 ·have e:n=1:=eq_of_beq e;subst e;exact k
 ·have h1:=ne_of_beq_false e1;have a:=ne_of_beq_false e2;have b:=ne_of_beq_false e3;obtain rfl:n=0:=by omega
  exact k
noncomputable def b88:Code:=Tryz.f88.body.getD .skip
noncomputable def LV:Code:=Tryz.f125.body.getD .skip
theorem S6(op:Int):Go.Sy.Tree.holds (bt F (bf []) 200 Tryz.f88 b88 ⟨[],.b (bG op),[]⟩ [.i .i64 op])=(
 (decide (op≥1)=true→(decide (op≤7)=true→true=bG op∧True)∧(decide (op≤7)=false→(decide (op≥18)=true→decide (op≤22)=bG op∧True)∧(decide (op≥18)=false→false=bG op∧True)))∧
 (decide (op≥1)=false→(decide (op≥18)=true→decide (op≤22)=bG op∧True)∧(decide (op≥18)=false→false=bG op∧True))):=by kernel_rfl
theorem QA(op:Int):b7 (bt F (bf []) 200 Tryz.f88 b88 ⟨[],.b (bG op),[]⟩ [.i .i64 op]):=by
 refine⟨?_⟩;rw[S6];refine⟨fun h1=>⟨fun c=>⟨?_,trivial⟩,fun c=>⟨fun a=>⟨?_,trivial⟩,fun a=>⟨?_,trivial⟩⟩⟩,fun h1=>⟨fun a=>⟨?_,trivial⟩,fun a=>⟨?_,trivial⟩⟩⟩<;>simp_all[bG]<;>omega
theorem Kx:bi F.S 88 (bB pA):=
 bv (fn:=Tryz.f88) (body:=b88) (ctr:=bf []) bE noExt bC cd Tryz.func88 rfl rfl rfl pA 200 (fun _=>[]) (show 1≤Tryz.f88.ntmps by decide) (show Tryz.f88.ntmps≤512 by decide) (by kernel_rfl) (fun _ _=>⟨rfl,rfl⟩)
  (fun(x:Int×Unit) a=>QA x.1) (fun x a p b=>by cases b)
def zn(x:Instr)(r:R4)(v:Int):Prop:=v=il x r∧True
def MO(x:Instr)(r:R4)(b:Bool):Prop:=(b=true→zn x r 1)∧(b=false→zn x r 0)
theorem TC(x:Instr)(r:R4):Go.Sy.Tree.holds (bt F (bf []) 400 Tryz.f125 LV ⟨[],.i .i64 (il x r),[]⟩ [.agg (enc2 x),.agg (gL r)])=(
 ((x.op==1)=true→zn x r x.n)∧((x.op==1)=false→
 ((x.op==2)=true→fE r x.b fun u=>fE r x.c fun v=>zn x r (IntKind.i64.wrap (u+v)))∧((x.op==2)=false→
 ((x.op==3)=true→fE r x.b fun u=>fE r x.c fun v=>zn x r (IntKind.i64.wrap (u-v)))∧((x.op==3)=false→
 ((x.op==4)=true→fE r x.b fun u=>fE r x.c fun v=>zn x r (IntKind.i64.wrap (u*v)))∧((x.op==4)=false→
 ((x.op==5)=true→fE r x.b fun u=>fE r x.c fun v=>zn x r (Nk u v))∧((x.op==5)=false→
 ((x.op==6)=true→fE r x.b fun u=>fE r x.c fun v=>MO x r (decide (u<v)))∧((x.op==6)=false→
 fE r x.b fun u=>fE r x.c fun v=>MO x r (u==v)))))))):=by kernel_rfl
theorem Qx(x:Instr)(r:R4)(h:x.op≠1→(0≤x.b∧x.b<4)∧0≤x.c∧x.c<4):b7 (bt F (bf []) 400 Tryz.f125 LV ⟨[],.i .i64 (il x r),[]⟩ [.agg (enc2 x),.agg (gL r)]):=by
 refine⟨?_⟩;rw[TC];have j:∀b:Bool,il x r=vB b→MO x r b:=fun b e=>⟨fun a=>⟨by rw[e,a];rfl,trivial⟩,fun a=>⟨by rw[e,a];rfl,trivial⟩⟩
 refine⟨fun e=>?_,fun d=>?_⟩
 ·exact⟨by rw[il,if_pos (eq_of_beq e)],trivial⟩
 have d:=ne_of_beq_false d;obtain⟨a,hc⟩:=h d;refine⟨fun e=>bP a (bP hc ⟨?_,trivial⟩),fun f=>⟨fun e=>bP a (bP hc ⟨?_,trivial⟩),fun n3=>⟨fun e=>bP a (bP hc ⟨?_,trivial⟩),fun g=>⟨fun e=>bP a (bP hc ⟨?_,trivial⟩),fun k=>⟨fun e=>bP a (bP hc (j _ ?_)),fun l=>bP a (bP hc (j _ ?_))⟩⟩⟩⟩⟩
 ·rw[il,if_neg d,if_pos (eq_of_beq e)]
 ·rw[il,if_neg d,if_neg (ne_of_beq_false f),if_pos (eq_of_beq e)]
 ·rw[il,if_neg d,if_neg (ne_of_beq_false f),if_neg (ne_of_beq_false n3),if_pos (eq_of_beq e)]
 ·rw[il,if_neg d,if_neg (ne_of_beq_false f),if_neg (ne_of_beq_false n3),if_neg (ne_of_beq_false g),if_pos (eq_of_beq e)]
 ·rw[il,if_neg d,if_neg (ne_of_beq_false f),if_neg (ne_of_beq_false n3),if_neg (ne_of_beq_false g),if_neg (ne_of_beq_false k),if_pos (eq_of_beq e)]
 ·rw[il,if_neg d,if_neg (ne_of_beq_false f),if_neg (ne_of_beq_false n3),if_neg (ne_of_beq_false g),if_neg (ne_of_beq_false k),if_neg (ne_of_beq_false l)]
theorem P6:bi F.S 125 (bB Jm):=
 bv (fn:=Tryz.f125) (body:=LV) (ctr:=bf []) bE noExt bC cd Tryz.func125 rfl rfl rfl Jm 400 (fun _=>[]) (show 2≤Tryz.f125.ntmps by decide) (show Tryz.f125.ntmps≤512 by decide) (by kernel_rfl) (fun _ _=>⟨rfl,rfl⟩)
  (fun(x:Instr×R4×Unit) a=>Qx x.1 x.2.1 a) (fun x a p b=>by cases b)
def bS(p:List Instr)(ms:List Int)(at_:Int)(r:R4):Int×R4×Bool:=
 if at_<0∨at_≥p.length∨bX (at2 p at_)=false∨bG (at2 p at_).op=false then(at_,r,false)
 else if(at2 p at_).op≥18∧(at2 p at_).op≠20 then
  if at_≥ms.length∨at0 ms at_<0∨at0 ms at_≥p.length then(at_,r,false)
  else if(at2 p at_).op=18∨(at2 p at_).op=21 then(if dt r (at2 p at_).a≠0 then(IntKind.i64.wrap (at_+1),r,true)else(IntKind.i64.wrap (at0 ms at_+1),r,true))
  else if(at2 p at_).op=19 then(IntKind.i64.wrap (at0 ms at_+1),r,true)
  else(at0 ms at_,r,true)
 else if(at2 p at_).op=20 then(IntKind.i64.wrap (at_+1),r,true)
 else(IntKind.i64.wrap (at_+1),xM r (at2 p at_).a (il (at2 p at_) r),true)
def nxR(x:Int×R4×Bool):SV cod.T:=.tup [.i .i64 x.1,.agg (gL x.2.1),.b x.2.2]
def nxD:eC cod where
 pats:=[.tl 2,.tl 0,.int .i64,.row 11]
 pre:=fun x=>True
 res:=fun(x:List Instr×List Int×Int×R4×Unit)=>nxR (bS x.1 x.2.1 x.2.2.1 x.2.2.2.1)
 objs:=fun x=>[]
def adD:eC cod where
 pats:=[.row 2,.row 11]
 pre:=fun(x:Instr×R4×Unit)=>0≤x.1.b∧x.1.b<4
 res:=fun(x:Instr×R4×Unit)=>.i .i64 (IntKind.i64.wrap (dt x.2.1 x.1.b+x.1.n))
 objs:=fun x=>[]
noncomputable def b89:Code:=Tryz.f89.body.getD .skip
noncomputable def MF:Code:=Tryz.f126.body.getD .skip
noncomputable def v1:List (FuncId×Ctr cod):=[(123,bB sR),(88,bB pA),(125,bB Jm),(148,bB xC)]
end Go.Proofs.Y

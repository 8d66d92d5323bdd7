import Derived.Test.YtcholkmididfmaaGreatDoorEw
import Derived.Test.YtcholkmididfmaaGreatDoorCod
import Derived.Test.YtcholkmididfmaaGreatDoorLib6
set_option linter.unusedVariables false
set_option linter.unusedSimpArgs false
namespace Go.Proofs.Y
open Go.RowKit Go.Am Go.Sy
theorem Ek(x:Instr)(M:Nat):jF M (some (Go.Sy.Obj.cells (enc2 x):Ob))=true:=rfl
theorem A7{n N M:Nat}{f:Nat→Option Ob}(x:Instr)(b:N≤M)(c:∀k,dy n 5 k=false→k<N→jF N (f k)=true):∀k,dy n 5 k=false→jF M (gOf f N x k)=true:=by
 intro k a;unfold gOf;cases h1:Nat.blt k N with
 |true=>
  rw[Nat.blt_eq]at h1;exact Cn b (c k a h1)
 |false=>
  cases h2:Nat.beq k N with
  |true=>exact Ek x M
  |false=>rfl
theorem CD{n b k:Nat}(h:dy n b k=false):dy n 5 k=false:=by
 have a:Nat.blt k (8+2*n)=false:=by
  unfold dy at h;grind
 unfold dy;grind
section
variable (n t N:Nat)(s:AcS)(f:Nat→Option Ob)
theorem fL{K:MK}{S:MT}(h1:K=s.K)(h:S=bQ s.K t s.S s.x):dsL n t N s f K S:=zf ⟨h1,h⟩
theorem CE(b:N≤48)(c:∀k,dy n 5 k=false→k<N→jF N (f k)=true)(d:AcI n t s){a:MK×MT×Bool→Prop}(h:a (s.K,im s.K s.S t s.x,!ea s.K s.S t s.x)):Dm n t N s f a:=by
 refine pC ⟨s,rfl,rfl,rfl,rfl,rfl,j9 _ ⟨rfl,rfl,rfl,rfl,rfl,rfl,iw _ ⟨rfl,rfl,rfl,rfl,rfl,rfl,rfl,rfl,rfl,rfl,rfl,rfl,rfl,d,fun y e=>?_,trivial⟩ _⟩ _⟩ (A7 s.x b c) _
 grind
theorem kW{M b:Nat}(e:N≤M)(g:∀k,dy n 5 k=false→k<N→jF N (f k)=true){S:MT}(m:0≤s.x.a)(j:WkI n ⟨s.K,S,s.x.a.toNat⟩){c:MK×MT→Prop}(h:c (s.K,go S s.x.a.toNat)):sk n N s f M b s.K S c:=by
 refine pC ⟨⟨s.K,S,s.x.a.toNat⟩,oA _ _ _ ?_ ⟨j,fun y l=>?_,trivial⟩⟩ (fun k d=>A7 s.x e g k (CD d)) _
 all_goals grind
theorem EV{S:MT}{c:Nat}(h:∀c,c<3→∀u∈S.q c,0≤u∧u<(n:Int)):∀d,d<3→∀u∈(go S c).q d,0≤u∧u<(n:Int):=by
 intro d b u hu;unfold go at hu;cases hq:S.q c with
 |nil=>grind
 |cons v l=>
  rw[hq]at hu;have a:u∈dL S.q c l d:=hu;unfold dL at a;cases hb:Nat.beq d c with
  |true=>
   rw[hb]at a;have e:=Nat.eq_of_beq_eq_true hb;grind
  |false=>
   grind
theorem LF(z:N≤48)(w:∀k,dy n 5 k=false→k<N→jF N (f k)=true)(d:DsI n t s):doP n t N s f:=by
 have y:(s.x.op=8∨s.x.op=9∨s.x.op=10∨s.x.op=11)→bG s.x.op=false→acB n t N s f:=fun h hl=>by
  have A:AcI n t s:=⟨d.b4 h,fun M=>d.a4 (by omega),h,d.own,d.lk,d.opn⟩
  have B:bQ s.K t s.S s.x=bif ea s.K s.S t s.x then dn s.S t 2 else bO (im s.K s.S t s.x) t:=by
   unfold bQ;grind
  refine CE n t N s f z w A ⟨fun e=>fL n t N s f rfl ?_,fun e=>fL n t N s f rfl ?_⟩
  ·have e:ea s.K s.S t s.x=true:=by simpa using e
   rw[B,e];rw[im,if_pos e];rfl
  grind
 refine⟨trivial,fun hl=>⟨⟨by omega,by have:=d.pl;omega⟩,⟨by omega,by have:=d.ml;omega⟩,trivial,fL n t N s f rfl ?_⟩,fun hl=>⟨fun e=>y (.inl (eq_of_beq e)) hl,fun O=>⟨fun e=>y (.inr (.inl (eq_of_beq e))) hl,fun P=>⟨fun e=>y (.inr (.inr (.inl (eq_of_beq e)))) hl,fun G=>⟨fun e=>y (.inr (.inr (.inr (eq_of_beq e)))) hl,fun H=>?_⟩⟩⟩⟩⟩
 ·unfold bQ;grind
 have C:bQ s.K t s.S s.x=(if s.x.op=12 then bO (cD s.S t (lgT (s.S.th t) ((s.S.th t).log++[dt (regs (s.S.th t)) s.x.a]))) t
  else if s.x.op=13 then bO (cD s.S t (opT (s.S.th t) ((s.S.th t).opn++[⟨s.x.a,s.x.b==1⟩]))) t
  else if s.x.op=14 then bO (cD s.S t (opT (s.S.th t) ((s.S.th t).opn.take ((s.S.th t).opn.length-1)))) t
  else if s.x.op=15 then bO (dn { s.S with q:=dL s.S.q s.x.a.toNat (s.S.q s.x.a.toNat++[(t:Int)]) } t 4) t
  else if s.x.op=16 then bO (d4 s.S s.x.a.toNat 1) t
  else if s.x.op=17 then bO (d4 s.S s.x.a.toNat (s.S.q s.x.a.toNat).length) t
  else bO s.S t):=by
  unfold bQ;grind
 refine⟨fun e=>?_,fun l=>⟨fun e=>?_,fun m=>⟨fun e=>?_,fun o=>⟨fun e=>?_,fun p=>⟨fun e=>?_,fun I=>⟨fun e=>?_,fun J=>?_⟩⟩⟩⟩⟩⟩
 ·have e:=eq_of_beq e;refine bP (d.a4 (.inr (.inr e))) ⟨by have:=d.log;grind,fL n t N s f rfl ?_⟩
  grind
 ·refine⟨by have:=d.opn;grind,fL n t N s f rfl ?_⟩
  grind
 ·have e:=eq_of_beq e;have h1:=d.lv e;have u:=d.opn;have D:IntKind.i64.wrap (((s.S.th t).opn.length:Int)-1)=(((s.S.th t).opn.length-1:Nat):Int):=by rw[wrap64 (by omega) (by omega)];omega
  refine⟨⟨by omega,by grind,by grind⟩,fL n t N s f rfl ?_⟩
  grind
 ·have e:=eq_of_beq e;have hc:=d.c3 (.inl e);have E:=d.ql s.x.a.toNat (by omega)
  refine rV hc ⟨by grind,rV hc ?_⟩
  rw[Nat.beq_refl];refine fL n t N s f rfl ?_;grind
 ·have e:=eq_of_beq e;have hc:=d.c3 (.inr (.inr e));have E:=d.ql s.x.a.toNat (by omega)
  have g:s.x.a.toNat<3:=by omega
  have j:bQ s.K t s.S s.x=bO (d4 s.S s.x.a.toNat (s.S.q s.x.a.toNat).length) t:=by grind
  have D:IntKind.i64.wrap (((s.S.q s.x.a.toNat).length:Int)-1)=((s.S.q s.x.a.toNat).length:Int)-1:=wrap64 (by omega) (by omega)
  have q1:=EV n (c:=s.x.a.toNat) d.q;have q2:=EV n (c:=s.x.a.toNat) q1;refine rV hc ?_;unfold toB;refine⟨fun v=>kW n N s f z w hc.1 ⟨g,d.q _ g⟩ ⟨fun h1=>kW n N s f (by omega) w hc.1 ⟨g,q1 _ g⟩ ⟨fun u=>kW n N s f (by omega) w hc.1 ⟨g,q2 _ g⟩ ⟨fun L=>?_,fun L=>fL n t N s f rfl ?_⟩,fun u=>fL n t N s f rfl ?_⟩,fun h1=>fL n t N s f rfl ?_⟩,fun v=>fL n t N s f rfl ?_⟩
  ·grind
  ·have u:=qb u;have:(s.S.q s.x.a.toNat).length=3:=by omega
   rw[j,this];rfl
  ·have h1:=qb h1;have u:=qc u;have:(s.S.q s.x.a.toNat).length=2:=by omega
   rw[j,this];rfl
  ·have v:=qb v;have h1:=qc h1;have:(s.S.q s.x.a.toNat).length=1:=by omega
   rw[j,this];rfl
  ·have v:=qc v;have:(s.S.q s.x.a.toNat).length=0:=by omega
   rw[j,this];rfl
 ·have e:=eq_of_beq e;have l:=ne_of_beq_false l;have m:=ne_of_beq_false m;have o:=ne_of_beq_false o;have p:=ne_of_beq_false p;have hc:=d.c3 (.inr (.inl e));have g:s.x.a.toNat<3:=by omega
  refine kW n N s f z w hc.1 ⟨g,d.q _ g⟩ (fL n t N s f rfl ?_);rw[C,if_neg l,if_neg m,if_neg o,if_neg p,if_pos e];rfl
 ·refine fL n t N s f rfl ?_;grind
end
end Go.Proofs.Y
namespace Go.Proofs.Y
open Go.RowKit Go.Am Go.Sy
set_option maxRecDepth 100000
theorem O4(s:AcS)(f:Nat→Option Ob):Go.Sy.Tree.holds (vcC (goC (w2 3 0) Tryz.f56 b56) (dsD 3 0 40) s (hOf f 40))=doP 3 0 40 s f:=by kernel_rfl
theorem PK(s:AcS)(f:Nat→Option Ob):Go.Sy.Tree.holds (vcC (goC (w2 3 1) Tryz.f56 b56) (dsD 3 1 40) s (hOf f 40))=doP 3 1 40 s f:=by kernel_rfl
theorem OP(s:AcS)(f:Nat→Option Ob):Go.Sy.Tree.holds (vcC (goC (w2 3 2) Tryz.f56 b56) (dsD 3 2 40) s (hOf f 40))=doP 3 2 40 s f:=by kernel_rfl
end Go.Proofs.Y
namespace Go.Proofs.Y
open Go.RowKit Go.Am Go.Sy
theorem wu(K:MK)(n N:Nat)(S:MT)(h:SH cod)(j:Nat)(b:8+2*n≤N)(hl:h.length=N)(c:j<N)(a:lQ n j=false):(Jk K n N S h)[j]?=h[j]?:=by
 have a:¬j<8+2*n:=fun x=>by rw[lQ,← Nat.blt_eq]at*;grind
 have h1:((jR K n N S).map some++List.replicate (3+2*n) (none:Option Ob)).length=8+2*n:=by
  rw[qn,List.length_map,List.length_replicate,gI];omega
 rw[Jk,qf (by grind),qj (by grind),h1,List.getElem?_drop]
 congr 1;omega
theorem TJ(n t N:Nat)(d:8+2*n≤N):ou (dsD n t N) where
 len:=fun s h hl=>by
  have hl:h.length=N:=hl;show(mIn s.K n s.S h).length=N;rw[pI _ _ _ _ (by omega),hl]
 ahead:=fun s h j hl b a=>pG s.K n s.S h j a
 behind:=fun B c r h j hl b a=>by
  cases c with
  |head=>exact wu r.1 n N r.2 h j d hl b a
  |tail _ h=>cases h
theorem T2(n t:Nat)(h1:1≤n)(a:n≤3)(b:t<n):cv F.S (bf (w2 n t)):=bW fun p h=>by
 have h:p∈[_,_,_,_]:=h;simp at h;rcases h with rfl|rfl|rfl|rfl
 ·exact Kx
 ·exact QT
 ·exact O7 n t h1 a b
 ·exact Mb n h1 a
theorem Tq(n t:Nat)(h1:1≤n)(a:n≤3)(b:t<n):bi F.S 56 (goC (w2 n t) Tryz.f56 b56):=dc (body:=b56) bE noExt bC (T2 n t h1 a b) Tryz.func56 rfl (by kernel_rfl) (by kernel_rfl) 2000 (fun _ _=>[]) (fun _ _=>0) (by kernel_rfl)
theorem tP(n t:Nat)(h1:1≤n)(e:n≤3)(g:t<n)(j:∀s f,Go.Sy.Tree.holds (vcC (goC (w2 n t) Tryz.f56 b56) (dsD n t 40) s (hOf f 40))=doP n t 40 s f):bi F.S 56 (gU 40 (fq (fun _=>true) (dsD n t 40))):=
 d1 40 (c7 bE _ _ (TJ n t 40 (by omega)) fun s c h hl a=>⟨_,Tq n t h1 e g,by
  have hl:h.length=40:=hl;rw[rC hl];refine⟨?_⟩;show Go.Sy.Tree.holds (vcC (goC (w2 n t) Tryz.f56 b56) (dsD n t 40) s _);rw[j];exact LF n t 40 s _ (by decide) (fun k d b=>a k b (by
   exact(Bool.or_eq_false_iff.1 d).1)) c⟩)
noncomputable def zZ(n t:Nat):Ctr cod:=gU 40 (fq (fun _=>true) (dsD n t 40))
theorem K7:∀n t,1≤n→n≤3→t<n→bi F.S 56 (zZ n t)
 |1,0,a,b,c=>tP 1 0 a b c N3
 |2,0,a,b,c=>tP 2 0 a b c Qo
 |2,1,a,b,c=>tP 2 1 a b c PU
 |3,0,a,b,c=>tP 3 0 a b c O4
 |3,1,a,b,c=>tP 3 1 a b c PK
 |3,2,a,b,c=>tP 3 2 a b c OP
end Go.Proofs.Y
namespace Go.Proofs.Y
open Go.RowKit Go.Am Go.Sy
noncomputable def b54:Code:=Tryz.f54.body.getD .skip
theorem Si(p:List Instr):Go.Sy.Tree.holds (bt F (bf []) 400 Tryz.f54 b54 ⟨[],.R 0,[.rows 2 p true 0]⟩ [.tl (T:=T) 2 p])=((p=[]→[]=p∧True)∧(([]:List Instr).length+p.length)*40≤140737488355328∧[]++p=p∧True):=by kernel_rfl
theorem pl2:∀y:cod.T 2,(cod.enc 2 y).all gO=true:=fun y=>rfl
def PD:Ctr cod:=oL [.tl 2] (fun(x:List Instr×Unit)=>x.1.length≤100000) 2 (fun(x:List Instr×Unit)=>x.1)
theorem Rh:bi F.S 54 PD:=
 ky (fn:=Tryz.f54) (body:=b54) (ctr:=bf []) bE noExt bC cd Tryz.func54 rfl rfl rfl [.tl 2] (fun(x:List Instr×Unit)=>x.1.length≤100000) 2 (fun(x:List Instr×Unit)=>x.1) true 0 pl2 400 (fun _=>[]) (show 1≤Tryz.f54.ntmps by decide) (show Tryz.f54.ntmps≤512 by decide) (by kernel_rfl)
  (fun(x:List Instr×Unit) a=>⟨by
   show Go.Sy.Tree.holds (bt F (bf []) 400 Tryz.f54 b54 ⟨[],.R 0,[.rows 2 x.1 true 0]⟩ [.tl (T:=T) 2 x.1]);rw[Si];grind⟩) (fun x a p b=>by cases b)
noncomputable def b51:Code:=Tryz.f51.body.getD .skip
noncomputable def b52:Code:=Tryz.f52.body.getD .skip
def clP(l:List Int):Prop:=(l=[]→[]=l∧True)∧(([]:List Int).length+l.length)*8≤140737488355328∧[]++l=l∧True
theorem N6(l:List Int):Go.Sy.Tree.holds (bt F (bf []) 400 Tryz.f51 b51 ⟨[],.R 0,[.rows 0 l true 0]⟩ [.tl (T:=T) 0 l])=clP l:=by kernel_rfl
theorem NS(l:List Int):Go.Sy.Tree.holds (bt F (bf []) 400 Tryz.f52 b52 ⟨[],.R 0,[.rows 0 l true 0]⟩ [.tl (T:=T) 0 l])=clP l:=by kernel_rfl
theorem Eo{l:List Int}(h:l.length≤100000):clP l:=⟨fun h=>⟨h.symm,trivial⟩,by grind,rfl,trivial⟩
def clD:eC cod where
 pats:=[.tl 0]
 pre:=fun(x:List Int×Unit)=>x.1.length≤100000
 res:=fun(x:List Int×Unit)=>.R 0
 objs:=fun(x:List Int×Unit)=>[.rows 0 x.1 true 0]
theorem Ku:bi F.S 51 (bB clD):=
 bv (fn:=Tryz.f51) (body:=b51) (ctr:=bf []) bE noExt bC cd Tryz.func51 rfl rfl rfl clD 400 (fun _=>[]) (show 1≤Tryz.f51.ntmps by decide) (show Tryz.f51.ntmps≤512 by decide) (by kernel_rfl) (fun _ _=>⟨rfl,rfl⟩)
  (fun(x:List Int×Unit) a=>⟨by
   show Go.Sy.Tree.holds (bt F (bf []) 400 Tryz.f51 b51 ⟨[],.R 0,[.rows 0 x.1 true 0]⟩ [.tl (T:=T) 0 x.1]);rw[N6];exact Eo a⟩) (fun x a p b=>by cases b)
theorem Kw:bi F.S 52 (bB clD):=
 bv (fn:=Tryz.f52) (body:=b52) (ctr:=bf []) bE noExt bC cd Tryz.func52 rfl rfl rfl clD 400 (fun _=>[]) (show 1≤Tryz.f52.ntmps by decide) (show Tryz.f52.ntmps≤512 by decide) (by kernel_rfl) (fun _ _=>⟨rfl,rfl⟩)
  (fun(x:List Int×Unit) a=>⟨by
   show Go.Sy.Tree.holds (bt F (bf []) 400 Tryz.f52 b52 ⟨[],.R 0,[.rows 0 x.1 true 0]⟩ [.tl (T:=T) 0 x.1]);rw[NS];exact Eo a⟩) (fun x a p b=>by cases b)
noncomputable def inl(f:FuncId):Ctr cod:=fun a args h K=>nJ F (bf []) (mD F (bf []) 300) a f args h K
theorem Qe(f:FuncId):bi F.S f (inl f):=fun E lo a args h H K av b c d=>ji bE cd (eN bE noExt bC cd 300) E lo a f args h H K av b c d
noncomputable def l9(f:FuncId)(c:Ctr cod):Ctr cod:=fun b args h K=>match args with
 | [.R id]=>c b [.R id] h K
 |a=>inl f b a h K
theorem mQ{f:FuncId}{c:Ctr cod}(hc:bi F.S f c):bi F.S f (l9 f c):=by
 intro E lo a args h H K av b d e;unfold l9 at b;split at b
 ·exact hc E lo a _ h H K av b d e
 ·exact Qe f E lo a _ h H K av b d e
end Go.Proofs.Y
namespace Go.Proofs.Y
open Go.RowKit Go.Am Go.Sy
def mb(f:Nat→One):Nat→List One
 |0=>[]
 |k+1=>mb f k++[f k]
def bw(K:MK)(n:Nat)(S:MT):Mdl:=⟨K.c.engine,K.c.clock,K.c.stripes,K.c.reads,K.c.writes,K.c.retry,K.c.fuel,K.c.most,K.c.init,K.c.locks,K.c.conds,K.c.progs,K.m,S.w,S.o,mb S.th n,[S.q 0,S.q 1,S.q 2]⟩
def fuT(x:One)(fu:Int):One:=⟨x.at_,fu,x.status,x.r0,x.r1,x.r2,x.r3,x.awake,x.opn,x.log⟩
def ca(K:MK)(t:Nat)(S:MT):MT:=if(S.th t).status=0∧(S.th t).at_≥(at3 K.c.progs t).length then cD S t (stT (S.th t) 1)else S
def goM(K:MK)(t:Nat)(S:MT):MT:=
 if(S.th t).awake≥0 then cD S t (awT (opT (S.th t) [⟨at0 K.c.conds (S.th t).awake,false⟩]) (-1))
 else if(S.th t).fuel=0 then dn S t 3
 else bQ K t (cD S t (fuT (S.th t) (IntKind.i64.wrap ((S.th t).fuel-1)))) (at2 (at3 K.c.progs t) (S.th t).at_)
def bZ(K:MK)(n t:Nat)(S:MT):MT:=if cj (bw K n S) t=true then ca K t (goM K t S)else S
theorem eu(f:Nat→One):∀n,(mb f n).length=n
 |0=>rfl
 |n+1=>by rw[mb,qn,eu f n];rfl
theorem xX(f:Nat→One):∀(n k:Nat),k<n→(mb f n)[k]?=some (f k)
 |n+1,k,h=>by
  rw[mb];rcases qk k n with a|a
  ·rw[qf (by rw[eu];exact a),xX f n k a]
  ·have:k=n:=by omega
   subst this;rw[qj (by rw[eu];exact a),eu,Nat.sub_self]
   rfl
theorem lb{f:Nat→One}{n k:Nat}(h:k<n):bN (mb f n) (k:Int)=f k:=by
 have hl:k<(mb f n).length:=by rw[eu];exact h
 rw[sq hl];have:=xX f n k h;grind
theorem mZ{f:Nat→One}:∀{n:Nat} {x:One},x∈mb f n↔∃k,k<n∧x=f k
 |0,x=>Iff.intro (fun h=>by cases h) (fun h=>by grind)
 |n+1,x=>by
  rw[mb,List.mem_append,qt,mZ];grind
theorem bD(f:Nat→One)(t:Nat)(x:One):fF f t x t=x:=by rw[fF,Nat.beq_refl];rfl
theorem cF(f:Nat→One){t u:Nat}(x:One)(h:u≠t):fF f t x u=f u:=by
 have:Nat.beq u t=false:=by rw[Bool.eq_false_iff,Ne,Nat.beq_eq];exact h
 rw[fF,this];rfl
end Go.Proofs.Y
namespace Go.Proofs.Y
open Go.RowKit Go.Am Go.Sy
def zT(p:List Instr):Nat→Option MS
 |0=>some ⟨List.replicate p.length 0,[]⟩
 |i+1=>(zT p i).bind (cK p i)
def opP(p:List Instr)(i:Nat):Int:=(at2 p (i:Int)).op
def os(p:List Instr)(s:List Blk):List Int:=(s.filter fun b=>(at2 p b.a).op==13).map (·.a)
def osF(p:List Instr)(i:Nat):List Int:=match zT p i with
 |some q=>os p q.s
 |none=>[]
theorem gJ(p:List Instr)(s t:List Blk):os p (s++t)=os p s++os p t:=by rw[os,List.filter_append,List.map_append];rfl
theorem oN(p:List Instr)(b:Blk):os p [b]=if(at2 p b.a).op=13 then [b.a]else []:=by
 unfold os
 grind
theorem zC{p:List Instr}{i:Nat}{q:MS}(h:zT p i=some q):osF p i=os p q.s:=by rw[osF,h]
structure tj(p:List Instr)(i:Nat)(m:List Int)(s:List Blk)(k:Nat)(b:Blk):Prop where
 a0:0≤b.a
 ai:b.a<i
 op:(at2 p b.a).op=18∨(at2 p b.a).op=21∨(at2 p b.a).op=13
 st:osF p b.a.toNat=os p (s.take k)
 l:b.l=b.a∨((at2 p b.a).op=18∧b.a<b.l∧b.l<i∧(at2 p b.l).op=19∧osF p b.l.toNat=os p (s.take k)∧at0 m b.a=b.l∧osF p (b.l.toNat+1)=os p (s.take k))
structure I3(p:List Instr)(i:Nat)(m:List Int)(s:List Blk)(x:Nat):Prop where
 op:opP p x=18∨opP p x=21→(∀b∈s,b.a≠(x:Int))→∃j:Nat,at0 m x=(j:Int)∧j<i∧osF p (j+1)=osF p x
 el:opP p x=19→(∀b∈s,b.l≠(x:Int))→∃j:Nat,at0 m x=(j:Int)∧j<i∧osF p (j+1)=osF p x
 bk:opP p x=22→∃j:Nat,at0 m x=(j:Int)∧j<i∧osF p j=osF p x
 lv:opP p x=14→∃j:Nat,at0 m x=(j:Int)∧j<i∧osF p x=osF p (x+1)++[(j:Int)]
structure StI(p:List Instr)(i:Nat)(q:MS):Prop where
 len:q.m.length=p.length
 le:i≤p.length
 is:zT p i=some q
 blk:∀(k:Nat) (b:Blk),q.s[k]?=some b→tj p i q.m q.s k b
 asc:∀(k k':Nat) (b b':Blk),q.s[k]?=some b→q.s[k']?=some b'→k<k'→b.l<b'.a
 done:∀x,x<i→I3 p i q.m q.s x
variable {s:List Blk}
theorem kY(h:s≠[]):s[s.length-1]?=some (lst s):=by
 have hl:0<s.length:=List.length_pos_iff.2 h;have h1:s.length-1<s.length:=by omega
 unfold lst;have e:((s.length:Int)-1)=((s.length-1:Nat):Int):=by omega
 rw[e,lh h1,qq h1]
theorem gf{l:List Int}{i:Nat}{v:Int}(x:Nat)(a:x<l.length):at0 (l.set i v) x=if i=x then v else at0 l x:=by
 rw[gv (by grind),gv a,List.getElem_set]
theorem iQ(h:s≠[]):s=s.take (s.length-1)++[lst s]:=by
 have h1:=kY h;have hl:0<s.length:=List.length_pos_iff.2 h;have a:s.length-1<s.length:=by omega
 rw[qq a]at h1;have:=List.take_succ_eq_append_getElem a;grind
section
variable {p:List Instr}{i:Nat}{q q':MS}
theorem StI.next(a:StI p i q)(c:i<p.length)(b:cK p i q=some q'):zT p (i+1)=some q':=by
 show(zT p i).bind (cK p i)=_;rw[a.is];exact b
theorem StI.cur(a:StI p i q):osF p i=os p q.s:=zC a.is
theorem StI.nxt(a:StI p i q)(b:i<p.length)(c:cK p i q=some q'):osF p (i+1)=os p q'.s:=zC (a.next b c)
theorem lz{m:List Int}{i x:Nat}(a:x<i)(hl:x<m.length):at0 (m.set i (-1)) x=at0 m x:=by rw[gf x hl,if_neg (by omega)]
theorem I3.keep{m g:List Int}{s f:List Blk}{x:Nat}(h:I3 p i m s x)(n:at0 g x=at0 m x)(h1:(∀b∈f,b.a≠(x:Int))→∀b∈s,b.a≠(x:Int))(k:(∀b∈f,b.l≠(x:Int))→∀b∈s,b.l≠(x:Int)):I3 p (i+1) g f x where
 op:=fun a b=>by obtain⟨j,c,d,e⟩:=h.op a (h1 b);grind
 el:=fun a b=>by obtain⟨j,c,d,e⟩:=h.el a (k b);grind
 bk:=fun a=>by obtain⟨j,c,d,e⟩:=h.bk a;grind
 lv:=fun a=>by obtain⟨j,c,d,e⟩:=h.lv a;grind
theorem tj.keep{m c:List Int}{s d:List Blk}{k:Nat}{b:Blk}(h:tj p i m s k b)(f:d.take k=s.take k)(g:∀x:Nat,x<i→(at2 p b.a).op=18→b.a=(x:Int)→b.l≠b.a→at0 c x=at0 m x):tj p (i+1) c d k b where
 a0:=h.a0
 ai:=by have:=h.ai;omega
 op:=h.op
 st:=by rw[f];exact h.st
 l:=by
  rcases h.l with e|⟨e1,e2,e3,e4,j,n,o⟩
  ·exact .inl e
  ·by_cases e:b.l=b.a
   ·exact .inl e
   ·have h1:=h.a0;have:=g b.a.toNat (by omega) e1 (by omega) e
    grind
theorem yr{b:Int}{x:Nat}(e:b=(x:Int)):(at2 p b).op=opP p x:=by rw[e];rfl
theorem tj.la{m:List Int}{s:List Blk}{k:Nat}{b:Blk}(h:tj p i m s k b):b.a≤b.l∧b.l<i:=by
 rcases h.l with e|⟨_,e2,e3,_⟩
 ·have:=h.ai;omega
 ·omega
theorem CJ(e:StI p i q)(o:i<p.length)(t:opP p i=18∨opP p i=21∨opP p i=13)(u:cK p i q=some ⟨q.m.set i (-1),q.s++[⟨i,i⟩]⟩):StI p (i+1) ⟨q.m.set i (-1),q.s++[⟨i,i⟩]⟩ where
 len:=by rw[qu];exact e.len
 le:=o
 is:=e.next o u
 blk:=fun k b d=>by
  rcases qk k q.s.length with g|g
  ·have c:q.s[k]?=some b:=by grind
   exact(e.blk k b c).keep (by grind) fun x l _ _ _=>lz l (by rw[e.len];omega)
  ·have hl:=(List.getElem?_eq_some_iff.1 d).1;simp at hl;have:k=q.s.length:=by omega
   subst this;rw[qj (qe _),Nat.sub_self]at d;have d:(⟨(i:Int),(i:Int)⟩:Blk)=b:=Option.some.inj d;subst d;exact⟨by grind,by grind,t,by
    rw[Int.toNat_natCast,List.take_left,e.cur],.inl rfl⟩
 asc:=fun k j b n d c g=>by
  have hl:=(List.getElem?_eq_some_iff.1 c).1;simp at hl;rw[qf (by omega)]at d
  rcases qk j q.s.length with f|f
  ·rw[qf f]at c;exact e.asc k j b n d c g
  ·have:j=q.s.length:=by omega
   subst this;rw[qj (qe _),Nat.sub_self]at c;have c:(⟨(i:Int),(i:Int)⟩:Blk)=n:=Option.some.inj c;subst c;exact(e.blk k b d).la.2
 done:=fun x l=>by
  rcases qk x i with h|h
  ·exact(e.done x h).keep (lz h (by rw[e.len];omega)) (fun a b d=>a b (List.mem_append_left _ d)) fun a b d=>a b (List.mem_append_left _ d)
  ·have:x=i:=by omega
   subst this;exact⟨fun _ h=>absurd rfl (h ⟨x,x⟩ (List.mem_append_right _ (List.mem_singleton.2 rfl))),fun h=>by omega,fun h=>by omega,fun h=>by omega⟩
theorem step_other(c:StI p i q)(e:i<p.length)(l:¬(opP p i=18∨opP p i=21∨opP p i=13))(hc:opener (opP p i)=0)(j:cK p i q=some ⟨q.m.set i (-1),q.s⟩):StI p (i+1) ⟨q.m.set i (-1),q.s⟩ where
 len:=by rw[qu];exact c.len
 le:=e
 is:=c.next e j
 blk:=fun k b g=>(c.blk k b g).keep rfl fun x d _ _ _=>lz d (by rw[c.len];omega)
 asc:=c.asc
 done:=fun x d=>by
  rcases qk x i with h|h
  ·exact(c.done x h).keep (lz h (by rw[c.len];omega)) (fun a=>a) fun a=>a
  ·have:x=i:=by omega
   subst this;have f:opP p x≠19∧opP p x≠22∧opP p x≠14:=by
    unfold opener at hc;grind
   exact⟨fun h=>by omega,fun h=>by omega,fun h=>by omega,fun h=>by omega⟩
theorem zp(c:StI p i q)(G:i<p.length)(v:q.s≠[])(H:opP p i=19)(I:(at2 p (lst q.s).a).op=18)(J:(lst q.s).l=(lst q.s).a)
 (N:cK p i q=some ⟨(q.m.set i (-1)).set (lst q.s).l.toNat i,q.s.set (q.s.length-1) ⟨(lst q.s).a,i⟩⟩):StI p (i+1) ⟨(q.m.set i (-1)).set (lst q.s).l.toNat i,q.s.set (q.s.length-1) ⟨(lst q.s).a,i⟩⟩:=by
 have z:=kY v;have A:=c.blk _ _ z;have B:=iQ v;generalize htp:lst q.s=t at*;have C:=A.a0;have D:=A.ai;have d:q.s.set (q.s.length-1) ⟨t.a,(i:Int)⟩=q.s.take (q.s.length-1)++[⟨t.a,(i:Int)⟩]:=by
  grind
 have j:t.l.toNat=t.a.toNat:=by rw[J]
 have O:∀x:Nat,x<i→at0 ((q.m.set i (-1)).set t.l.toNat (i:Int)) x=if t.a.toNat=x then(i:Int)else at0 q.m x:=by
  intro x w;rw[gf x (by rw[qu,c.len];omega),lz w (by rw[c.len];omega),j]
 have n:osF p i=os p (q.s.take (q.s.length-1)):=by
  rw[c.cur]
  conv=>lhs;rw[B]
  rw[gJ,oN,if_neg (by grind),List.append_nil]
 have P:osF p (i+1)=os p (q.s.take (q.s.length-1)):=by
  rw[c.nxt G N,d,gJ,oN,if_neg (by grind),List.append_nil]
 have get:∀(k:Nat) (b:Blk),(q.s.set (q.s.length-1) ⟨t.a,(i:Int)⟩)[k]?=some b→(k<q.s.length-1∧q.s[k]?=some b)∨(k=q.s.length-1∧b=⟨t.a,(i:Int)⟩):=by
  intro k b f;rw[qg]at f;grind
 refine⟨by simp;exact c.len,G,c.next G N,fun k b f=>?_,fun k L b M f g y=>?_,fun x w=>?_⟩
 ·rcases get k b f with⟨y,g⟩|⟨y,rfl⟩
  ·refine(c.blk k b g).keep (by grind) fun x w _ e _=>?_
   rw[O x w,if_neg];have h1:=c.asc k _ b t g z y;have K:=(c.blk k b g).la.1;omega
  ·refine⟨C,by grind,.inl I, ?_,.inr ⟨I,D,by grind,H, ?_, ?_, ?_⟩⟩
   ·rw[d,List.take_left' (by grind)]
    exact A.st
   ·rw[d,List.take_left' (by grind),Int.toNat_natCast]
    exact n
   all_goals grind
 ·rcases get k b f with⟨u,h1⟩|⟨u,rfl⟩<;>rcases get L M g with⟨E,K⟩|⟨E,rfl⟩
  ·exact c.asc k L b M h1 K y
  ·exact c.asc k _ b t h1 z u
  all_goals grind
 ·rcases qk x i with h|h
  ·by_cases e:t.a.toNat=x
   ·have o:t.a=(x:Int):=by omega
    have Q:opP p x=18:=by rw[← yr o];exact I
    refine⟨fun _ f=>absurd o (f ⟨t.a,(i:Int)⟩ ?_),fun h=>by omega,fun h=>by omega,fun h=>by omega⟩
    grind
   ·refine(c.done x h).keep (by grind) (fun a b f=>?_) fun a b f=>?_
    all_goals grind
  ·have:x=i:=by omega
   subst this;refine⟨fun h=>by omega,fun _ f=>absurd rfl (f ⟨t.a,(x:Int)⟩ ?_),fun h=>by omega,fun h=>by omega⟩
   grind
theorem lX(d:StI p i q)(G:i<p.length)(o:q.s≠[])(X:opP p i=20∧(at2 p (lst q.s).a).op=18∨opP p i=22∧(at2 p (lst q.s).a).op=21∨opP p i=14∧(at2 p (lst q.s).a).op=13){u:List Int}(hl:u.length=p.length)
 (H:∀x:Nat,x<i→at0 u x=if(lst q.s).l.toNat=x then(i:Int)else at0 q.m x) (U:opP p i≠20→at0 u i=(lst q.s).a)
 (P:cK p i q=some ⟨u,q.s.take (q.s.length-1)⟩):StI p (i+1) ⟨u,q.s.take (q.s.length-1)⟩:=by
 have I:=kY o;have g:=d.blk _ _ I;have v:=iQ o;generalize htp:lst q.s=t at*;have Q:=g.a0;have R:=g.la;have j:=g.st;have J:osF p i=os p (q.s.take (q.s.length-1))++(if(at2 p t.a).op=13 then [t.a]else []):=by
  rw[d.cur]
  conv=>lhs;rw[v]
  rw[gJ,oN]
 have w:osF p (i+1)=os p (q.s.take (q.s.length-1)):=d.nxt G P;have get:∀(k:Nat) (b:Blk),(q.s.take (q.s.length-1))[k]?=some b→k<q.s.length-1∧q.s[k]?=some b:=by
  grind
 refine⟨hl,G,d.next G P,fun k b E=>?_,fun k M b N E c C=>d.asc k M b N (get k b E).2 (get M N c).2 C,fun x O=>?_⟩
 ·obtain⟨C,c⟩:=get k b E;refine(d.blk k b c).keep (by grind) fun x O _ e _=>?_
  rw[H x O,if_neg];have h1:=d.asc k _ b t c I C;have W:=(d.blk k b c).la.1;omega
 ·have tailA:∀x:Nat,t.a≠(x:Int)→(∀b∈q.s.take (q.s.length-1),b.a≠(x:Int))→∀b∈q.s,b.a≠(x:Int):=by
   grind
  have f:∀x:Nat,t.l≠(x:Int)→(∀b∈q.s.take (q.s.length-1),b.l≠(x:Int))→∀b∈q.s,b.l≠(x:Int):=by
   grind
  rcases qk x i with h|h
  ·by_cases y:t.a=(x:Int)
   ·-- the block that is closed
    have z:opP p x=(at2 p t.a).op:=(yr y).symm;have A:t.a.toNat=x:=by omega
    rw[A]at j;refine⟨fun h1 _=>?_,fun h1=>by omega,fun h1=>by omega,fun h1=>by omega⟩
    by_cases el:t.l=t.a
    ·grind
    ·rcases g.l with e|⟨e1,e2,e3,e4,D,K,L⟩
     ·grind
     ·refine⟨t.l.toNat, ?_,by omega,by rw[j,L]⟩
      rw[H x h,if_neg (by omega),← y,K,Int.toNat_of_nonneg (by omega)]
   ·by_cases n:t.l=(x:Int)
    ·-- its else
     rcases g.l with e|⟨e1,e2,e3,e4,D,K,L⟩
     ·grind
     ·have z:opP p x=19:=by rw[← yr n];exact e4
      have B:t.l.toNat=x:=by omega
      rw[B]at D;refine⟨fun h1=>by omega,fun _ _=>⟨i, ?_,by omega,by rw[w,D]⟩,fun h1=>by omega,fun h1=>by omega⟩
      grind
    ·exact(d.done x h).keep (by rw[H x h,if_neg (by omega)]) (tailA x y) (f x n)
  ·have:x=i:=by omega
   subst this;refine⟨fun h1=>by omega,fun h1=>by omega,fun h1=>⟨t.a.toNat,by grind,by omega, ?_⟩,fun h1=>⟨t.a.toNat,by grind,by omega, ?_⟩⟩
   all_goals grind
theorem v8(g:StI p i q)(k:i<p.length)(b:cK p i q=some q'):StI p (i+1) q':=by
 have c:=b;unfold cK at b;by_cases h1:(at2 p (i:Int)).op=18∨(at2 p (i:Int)).op=21∨(at2 p (i:Int)).op=13
 ·rw[if_pos h1]at b;obtain rfl:=Option.some.inj b;exact CJ g k h1 c
 ·rw[if_neg h1]at b
  by_cases u:opener (at2 p (i:Int)).op=0
  ·rw[if_pos u]at b;obtain rfl:=Option.some.inj b;exact step_other g k h1 u c
  ·rw[if_neg u]at b
   by_cases v:q.s=[]∨(at2 p (lst q.s).a).op≠opener (at2 p (i:Int)).op∨((at2 p (i:Int)).op=19∧(lst q.s).l≠(lst q.s).a)
   ·grind
   ·rw[if_neg v]at b;have d:q.s≠[]:=fun e=>v (.inl e)
    have f:(at2 p (lst q.s).a).op=opener (at2 p (i:Int)).op:=Classical.byContradiction fun e=>v (.inr (.inl e))
    have w:(at2 p (i:Int)).op=19→(lst q.s).l=(lst q.s).a:=fun e=>Classical.byContradiction fun y=>v (.inr (.inr ⟨e,y⟩))
    have n:(at2 p (i:Int)).op=19∨(at2 p (i:Int)).op=20∨(at2 p (i:Int)).op=22∨(at2 p (i:Int)).op=14:=by
     unfold opener at u;grind
    have z:=g.blk _ _ (kY d);have o:((q.m.set i (-1)).set (lst q.s).l.toNat (i:Int)).length=p.length:=by simp;exact g.len
    have j:∀x:Nat,x<i→at0 ((q.m.set i (-1)).set (lst q.s).l.toNat (i:Int)) x=if(lst q.s).l.toNat=x then(i:Int)else at0 q.m x:=fun x t=>by
     rw[gf x (by grind),lz t (by grind)]
    rcases n with e|e|e|e
    ·rw[if_pos e]at b;obtain rfl:=Option.some.inj b;exact zp g k d e (by rw[f,e];rfl) (w e) c
    ·rw[if_neg (by omega),if_neg (by omega)]at b
     obtain rfl:=Option.some.inj b;exact lX g k d (.inl ⟨e,by rw[f,e];rfl⟩) o j (fun h=>absurd e h) c
    ·rw[if_neg (by omega),if_pos (.inl e)]at b
     obtain rfl:=Option.some.inj b;refine lX g k d (.inr (.inl ⟨e,by rw[f,e];rfl⟩)) (by grind) (fun x t=>?_) (fun _=>?_) c
     ·rw[gf x (by grind),if_neg (by omega),j x t]
     ·rw[gf i (by grind),if_pos rfl]
    ·rw[if_neg (by omega),if_pos (.inr e)]at b
     obtain rfl:=Option.some.inj b;refine lX g k d (.inr (.inr ⟨e,by rw[f,e];rfl⟩)) (by grind) (fun x t=>?_) (fun _=>?_) c
     ·rw[gf x (by grind),if_neg (by omega),j x t]
     ·rw[gf i (by grind),if_pos rfl]
theorem wz(p:List Instr):StI p 0 ⟨List.replicate p.length 0,[]⟩:=
 ⟨List.length_replicate,Nat.zero_le _,rfl,(fun k b h=>by cases h),(fun k a b c h=>by cases h),(fun x h=>by omega)⟩
theorem Ho:∀(r i:Nat) (q:MS),i+r=p.length→StI p i q→(mgo p r i q).2= -1→(∀j,i≤j→j≤p.length→∃q',StI p j q')∧∃q',StI p p.length q'∧q'.s=[]∧(mgo p r i q).1=q'.m
 |0,i,q,h,c,b=>by
  have e:i=p.length:=by omega
  subst e;unfold mgo at b
  by_cases a:q.s=[]
  ·refine⟨fun j h1 g=>?_,q,c,a,by unfold mgo;grind⟩
   grind
  ·have k:=(c.blk _ _ (kY a)).a0;grind
 |r+1,i,q,h,c,b=>by
  unfold mgo at b;cases a:cK p i q with
  |none=>grind
  |some q1=>
   rw[a]at b;have h1:=v8 c (by omega) a
   obtain⟨l,q2,d,f,n⟩:=Ho r (i+1) q1 (by omega) h1 b
   refine⟨fun j g o=>?_,q2,d,f,by unfold mgo;grind⟩
   grind
structure Kp(p:List Instr)(m:List Int):Prop where
 len:m.length=p.length
 st:∀j,j≤p.length→∃q,StI p j q
 fin:osF p p.length=[]
 br:∀x:Nat,x<p.length→opP p x=18∨opP p x=21∨opP p x=19→∃j:Nat,at0 m x=(j:Int)∧j<p.length∧osF p (j+1)=osF p x
 bk:∀x:Nat,x<p.length→opP p x=22→∃j:Nat,at0 m x=(j:Int)∧j<p.length∧osF p j=osF p x
 lv:∀x:Nat,x<p.length→opP p x=14→∃j:Nat,at0 m x=(j:Int)∧j<p.length∧osF p x=osF p (x+1)++[(j:Int)]
theorem DM(h:(bA p).2= -1):Kp p (bA p).1:=by
 obtain⟨o,q,d,t,g⟩:=Ho p.length 0 _ (by omega) (wz p) h
 have g:(bA p).1=q.m:=g;rw[g];have k:∀b∈q.s,∀x:Nat,b.a≠(x:Int):=fun b e=>by grind
 have n:∀b∈q.s,∀x:Nat,b.l≠(x:Int):=fun b e=>by grind
 refine⟨d.len,fun j u=>o j (Nat.zero_le _) u,by rw[zC d.is,t];rfl,fun x f c=>?_,fun x f c=>(d.done x f).bk c,fun x f c=>(d.done x f).lv c⟩
 rcases c with c|c|c
 ·exact(d.done x f).op (.inl c) fun b e=>k b e x
 ·exact(d.done x f).op (.inr c) fun b e=>k b e x
 ·exact(d.done x f).el c fun b e=>n b e x
end
end Go.Proofs.Y
namespace Go.Proofs.Y
open Go.RowKit Go.Am Go.Sy
structure RM where
 w:List Int
 o:List Int
 th:Nat→Man
 q:Nat→List Int
def iW(f:Nat→Man)(t:Nat)(x:Man):Nat→Man:=fun i=>if Nat.beq i t then x else f i
def cP(x:Man):R4:=⟨x.r0,x.r1,x.r2,x.r3⟩
def atR(x:Man)(a:Int):Man:=⟨a,x.fuel,x.status,x.r0,x.r1,x.r2,x.r3,x.told,x.has,x.wants,x.mate⟩
def fuR(x:Man)(a:Int):Man:=⟨x.at_,a,x.status,x.r0,x.r1,x.r2,x.r3,x.told,x.has,x.wants,x.mate⟩
def stR(x:Man)(a:Int):Man:=⟨x.at_,x.fuel,a,x.r0,x.r1,x.r2,x.r3,x.told,x.has,x.wants,x.mate⟩
def rgR(x:Man)(r:R4):Man:=⟨x.at_,x.fuel,x.status,r.a,r.b,r.c,r.d,x.told,x.has,x.wants,x.mate⟩
def toR(x:Man)(l:List Int):Man:=⟨x.at_,x.fuel,x.status,x.r0,x.r1,x.r2,x.r3,l,x.has,x.wants,x.mate⟩
def haR(x:Man)(l:List Int):Man:=⟨x.at_,x.fuel,x.status,x.r0,x.r1,x.r2,x.r3,x.told,l,x.wants,x.mate⟩
def waR(x:Man)(b:Bool):Man:=⟨x.at_,x.fuel,x.status,x.r0,x.r1,x.r2,x.r3,x.told,x.has,b,x.mate⟩
def b6(S:RM)(t:Nat)(x:Man):RM:={ S with th:=iW S.th t x }
def cA(l:List Int):Bool:=l.any fun h=>h !=0
def we(n:Nat)(f:Nat→Man)(lock:Int)(a:Bool):Bool:=(List.range n).all fun u=>!(at0 (f u).has lock==1||(at0 (f u).has lock==2 && !a))
def gu(K:MK)(n:Nat)(S:RM)(t:Nat):Bool:=
 if t<n∧(S.th t).status=0 then
  (if(S.th t).wants=true then we n S.th (at0 K.c.conds (at2 (at3 K.c.progs t) ((S.th t).at_-1)).a) false
  else(S.th t).fuel==0||((at2 (at3 K.c.progs t) (S.th t).at_).op !=13||we n S.th (at2 (at3 K.c.progs t) (S.th t).at_).a ((at2 (at3 K.c.progs t) (S.th t).at_).b==1)))
 else false
def lN(S:RM)(t:Nat)(st:Int):RM:=b6 S t (haR (stR (S.th t) st) (List.replicate (S.th t).has.length 0))
def ck(K:MK)(S:RM)(t:Nat)(x:Instr):Bool:=
 let d:=IntKind.i64.wrap (dt (cP (S.th t)) x.b+x.n)
 let k:=dm K.c.locks d
 let h:=(S.th t).has
 decide (d<0)||(decide (d≥S.w.length)||((if cA h=true then decide (k<0)||(at0 h k==0||((at0 h k==2 && x.op !=8)||(decide (at0 S.o d≥0) && at0 S.o d !=t)))else at0 S.o d !=t||(x.op==10||x.op==11))||
  (x.op !=8 && (x.op !=9 && (x.op !=10 && at0 S.o d !=t)))))
def hY(K:MK)(S:RM)(t:Nat)(x:Instr):RM:=
 let d:=IntKind.i64.wrap (dt (cP (S.th t)) x.b+x.n)
 if ck K S t x=true then S
 else if x.op=8 then b6 S t (rgR (S.th t) (xM (cP (S.th t)) x.a (at0 S.w d)))
 else if x.op=9 then { S with w:=S.w.set d.toNat (dt (cP (S.th t)) x.a) }
 else if x.op=10 then { S with o:=S.o.set d.toNat t }
 else { S with o:=S.o.set d.toNat (-1) }
def eH(S:RM)(c:Nat):RM:=match S.q c with
 | []=>S
 |u::l=>{ S with th:=iW S.th u.toNat (waR (stR (S.th u.toNat) 0) true),q:=dL S.q c l }
def cW(S:RM)(c:Nat):Nat→RM
 |0=>S
 |k+1=>eH (cW S c k) c
def doR(K:MK)(t:Nat)(S:RM)(x:Instr):RM:=
 let y:=S.th t
 let z:=atR y (IntKind.i64.wrap (y.at_+1))
 if x.op=12 then b6 S t (toR z (y.told++[dt (cP y) x.a]))
 else if x.op=13 then b6 S t (haR z (y.has.set x.a.toNat (IntKind.i64.wrap (1+x.b))))
 else if x.op=14 then b6 S t (haR z (y.has.set (at2 (at3 K.c.progs t) (at0 y.mate y.at_)).a.toNat 0))
 else if x.op=15 then { b6 S t (stR (haR z (y.has.set (at0 K.c.conds x.a).toNat 0)) 4)with q:=dL S.q x.a.toNat (S.q x.a.toNat++[(t:Int)]) }
 else if x.op=16 then cW (b6 S t z) x.a.toNat 1
 else if x.op=17 then cW (b6 S t z) x.a.toNat (S.q x.a.toNat).length
 else if ck K S t x=true then lN S t 2
 else hY K (b6 S t z) t x
def fx(K:MK)(t:Nat)(S:RM):RM:=if(S.th t).status=0∧(S.th t).at_=(at3 K.c.progs t).length∧cA (S.th t).has=false then b6 S t (stR (S.th t) 1)else S
def goR(K:MK)(t:Nat)(S:RM):RM:=
 let y:=S.th t
 if y.wants=true then b6 S t (haR (waR y false) (y.has.set (at0 K.c.conds (at2 (at3 K.c.progs t) (y.at_-1)).a).toNat 1))
 else if y.fuel=0 then lN S t 3
 else
  let b:=b6 S t (fuR y (IntKind.i64.wrap (y.fuel-1)))
  let x:=at2 (at3 K.c.progs t) y.at_
  fx K t (if bG x.op=true then b6 b t (rgR (atR (b.th t) (bS (at3 K.c.progs t) y.mate y.at_ (cP y)).1) (bS (at3 K.c.progs t) y.mate y.at_ (cP y)).2.1)else doR K t b x)
def dh(K:MK)(n t:Nat)(S:RM):RM:=if gu K n S t=true then goR K t S else S
def dC(l:List Held)(k:Int):Int:=match l.find? fun h=>h.lock==k with
 |none=>0
 |some h=>if h.read=true then 2 else 1
def dK(p:List Instr)(a:Nat):List Held:=(osF p a).map fun b=>⟨(at2 p b).a,(at2 p b).b==1⟩
structure vd(p:List Instr)(m:List Int)(x:One)(y:Man):Prop where
 at_:y.at_=x.at_
 fuel:y.fuel=x.fuel
 status:y.status=x.status
 r0:y.r0=x.r0
 r1:y.r1=x.r1
 r2:y.r2=x.r2
 r3:y.r3=x.r3
 told:y.told=x.log
 mate:y.mate=m
 hl:y.has.length=3
 has:∀k:Nat,k<3→at0 y.has k=dC x.opn k
 wants:y.wants=decide (x.awake≥0)
structure u3(p:List Instr)(a:Nat)(x:One):Prop where
 at_:x.at_=(a:Int)
 le:a≤p.length
 run:x.status=0→a<p.length
 opn:x.opn=if x.status=0∧x.awake<0 then dK p a else []
 aw:x.awake≥0→x.status=0
 wait:x.awake≥0∨x.status=4→∃b:Nat,a=b+1∧opP p b=15∧(x.awake≥0→x.awake=(at2 p b).a)
 sts:x.status=0∨x.status=1∨x.status=2∨x.status=3∨x.status=4
 fu:0≤x.fuel∧x.fuel≤1000
 log:x.log.length+x.fuel≤1000
structure Both(K:MK)(n:Nat)(S:MT)(T:RM):Prop where
 w:T.w=S.w
 o:T.o=S.o
 q:∀c,c<3→T.q c=S.q c
 th:∀t,t<n→vd (at3 K.c.progs t) (at5 K.m t) (S.th t) (T.th t)
structure bY(K:MK)(n:Nat)(a:Nat→Nat)(S:MT):Prop where
 th:∀t,t<n→u3 (at3 K.c.progs t) (a t) (S.th t)
 own:S.o.length=S.w.length
 ow:∀v∈S.o,-1≤v
 q:∀c:Nat,c<3→∀u∈S.q c,∃v:Nat,u=(v:Int)∧v<n∧(S.th v).status=4∧∀b:Nat,a v=b+1→(at2 (at3 K.c.progs v) b).a=c
 nod:∀c,c<3→(S.q c).Nodup
end Go.Proofs.Y
namespace Go.Proofs.Y
open Go.RowKit Go.Am Go.Sy
section
variable {p:List Instr}{i:Nat}{q q':MS}
theorem mO(y:StI p i q)(D:i<p.length)(b:cK p i q=some q'):
 (opP p i=13→osF p (i+1)=osF p i++[(i:Int)])∧(opP p i=14→∃j:Int,osF p i=osF p (i+1)++[j])∧(opP p i≠13→opP p i≠14→osF p (i+1)=osF p i):=by
 have d:=y.nxt D b;have hc:=y.cur;unfold cK at b;by_cases h1:(at2 p (i:Int)).op=18∨(at2 p (i:Int)).op=21∨(at2 p (i:Int)).op=13
 ·rw[if_pos h1]at b;obtain rfl:=Option.some.inj b;rw[gJ,oN,← hc]at d;have z:opP p i=18∨opP p i=21∨opP p i=13:=h1;refine⟨fun e=>?_,fun e=>by omega,fun e _=>?_⟩
  ·rw[if_pos (show(at2 p (i:Int)).op=13 from e)]at d;exact d
  ·rw[if_neg (show ¬(at2 p (i:Int)).op=13 from e),List.append_nil]at d;exact d
 ·rw[if_neg h1]at b;have m:opP p i≠13:=fun e=>h1 (.inr (.inr e))
  by_cases k:opener (at2 p (i:Int)).op=0
  ·rw[if_pos k]at b;have n:opP p i≠14:=fun e=>by
    have e:(at2 p (i:Int)).op=14:=e;rw[e]at k;exact absurd k (by decide)
   grind
  ·rw[if_neg k]at b
   by_cases o:q.s=[]∨(at2 p (lst q.s).a).op≠opener (at2 p (i:Int)).op∨((at2 p (i:Int)).op=19∧(lst q.s).l≠(lst q.s).a)
   ·grind
   ·rw[if_neg o]at b;have u:q.s≠[]:=fun e=>o (.inl e)
    have f:(at2 p (lst q.s).a).op=opener (at2 p (i:Int)).op:=Classical.byContradiction fun e=>o (.inr (.inl e))
    have c:=iQ u;have w:osF p i=os p (q.s.take (q.s.length-1))++(if(at2 p (lst q.s).a).op=13 then [(lst q.s).a]else []):=by
     rw[hc]
     conv=>lhs;rw[c]
     rw[gJ,oN]
    have n:opP p i=14→(at2 p (lst q.s).a).op=13:=fun e=>by
     have e:(at2 p (i:Int)).op=14:=e;rw[f,e];rfl
    have v:opP p i≠14→(at2 p (lst q.s).a).op≠13:=fun e h=>by
     rw[f]at h;unfold opener at h
     by_cases g1:(at2 p (i:Int)).op=19∨(at2 p (i:Int)).op=20
     ·grind
     ·by_cases A:(at2 p (i:Int)).op=22
      ·grind
      ·rw[if_neg A,if_neg (show ¬(at2 p (i:Int)).op=14 from e)]at h
       grind
    have B:osF p (i+1)=os p (q.s.take (q.s.length-1))→(opP p i=13→osF p (i+1)=osF p i++[(i:Int)])∧(opP p i=14→∃j:Int,osF p i=osF p (i+1)++[j])∧(opP p i≠13→opP p i≠14→osF p (i+1)=osF p i):=fun E=>
     ⟨fun e=>absurd e m,fun e=>⟨(lst q.s).a,by grind⟩,fun _ e=>by grind⟩
    by_cases x:(at2 p (i:Int)).op=19
    ·rw[if_pos x]at b;obtain rfl:=Option.some.inj b;have g:q.s.set (q.s.length-1) ⟨(lst q.s).a,(i:Int)⟩=q.s.take (q.s.length-1)++[⟨(lst q.s).a,(i:Int)⟩]:=by
      generalize lst q.s=t at c ⊢
      conv=>lhs;rw[c]
      simp
     refine B ?_;have C:opP p i=19:=x;rw[d,g,gJ,oN,if_neg (v (by omega)),List.append_nil]
    grind
end
def oiF(p:List Instr)(i:Nat):List Instr:=(osF p i).map fun b=>at2 p b
structure Good(c:bg)(p:List Instr):Prop where
 jmp:Kp p (bA p).1
 may:∀i:Nat,i<p.length→bX (at2 p i)=true
 chk:∀i:Nat,i<p.length→∃w:WS,w.o=oiF p i∧cL c (at2 p i) w=0∧(w.o≠[]→∀y∈w.o,y.a≤w.top)
 len:p.length≤48
theorem tk{p:List Instr}:∀(r i:Nat),i+r=p.length→eX p r i<0→∀j,i≤j→j<p.length→bX (at2 p j)=true
 |0,i,h,_,j,h1,c=>by omega
 |r+1,i,h,a,j,h1,c=>by
  unfold eX at a
  by_cases d:bX (at2 p i)=true
  ·rw[if_pos d]at a;rcases qk i j with b|b
   ·exact tk r (i+1) (by omega) a j b c
   grind
  grind
theorem nG{p:List Instr}(c:∀j,j≤p.length→∃q,StI p j q){i:Nat}(d:i<p.length):∃q q',StI p i q∧cK p i q=some q':=by
 obtain⟨q,b⟩:=c i (by omega)
 obtain⟨q',a⟩:=c (i+1) d;refine⟨q,q',b, ?_⟩;have h:=a.is;have e:(zT p i).bind (cK p i)=some q':=h;rw[b.is]at e;exact e
theorem Iv{p:List Instr}(m:∀j,j≤p.length→∃q,StI p j q){i:Nat}(f:i<p.length){w:WS}(g:w.o=oiF p i):(dB (at2 p i) w).o=oiF p (i+1):=by
 obtain⟨q,q',h1,h⟩:=nG m f;obtain⟨c,d,k⟩:=mO h1 f h;unfold dB
 by_cases a:(at2 p (i:Int)).op=13
 ·rw[if_pos a,oiF,c a,List.map_append,g];rfl
 ·rw[if_neg a]
  by_cases b:(at2 p (i:Int)).op=14
  ·obtain⟨j,l⟩:=d b;rw[if_pos b];rw[g,oiF,l,List.map_append];simp[oiF]
  ·have e:=k a b;have:oiF p (i+1)=oiF p i:=by rw[oiF,oiF,e]
   all_goals grind
theorem FJ{x:Instr}{w:WS}(h:w.o≠[]→∀y∈w.o,y.a≤w.top):(dB x w).o≠[]→∀y∈(dB x w).o,y.a≤(dB x w).top:=by
 intro f y c;unfold dB at c f ⊢
 by_cases d:x.op=13
 ·rw[if_pos d]at c ⊢;have j:∀a b:Int,a≤mx a b∧b≤mx a b:=fun a b=>by unfold mx;grind
  rcases List.mem_append.1 c with h1|h1
  ·have k:w.o≠[]:=fun e=>by grind
   grind
  grind
 ·rw[if_neg d]at c f ⊢
  by_cases g:x.op=14
  ·rw[if_pos g]at c ⊢;have l:=List.mem_of_mem_take c;simp_all
  grind
theorem Bv{c:bg}{t:Nat}{p:List Instr}(e:∀j,j≤p.length→∃q,StI p j q):∀(r i:Nat) (w:WS),i+r=p.length→w.o=oiF p i→(w.o≠[]→∀y∈w.o,y.a≤w.top)→wgo c t p r i w=(0,0,0)→
 ∀j,i≤j→j<p.length→∃w:WS,w.o=oiF p j∧cL c (at2 p j) w=0∧(w.o≠[]→∀y∈w.o,y.a≤w.top)
 |0,i,w,h,_,_,_,j,h1,f=>by omega
 |r+1,i,w,h,g,k,b,j,h1,f=>by
  unfold wgo at b
  by_cases hc:cL c (at2 p i) w=0
  ·rw[if_pos hc]at b;rcases qk i j with d|d
   ·exact Bv e r (i+1) _ (by omega) (Iv e (by omega) g) (FJ k) b j d f
   grind
  grind
theorem Ap{c:bg}{t:Nat}{p:List Instr}(h:iB c t p=(0,0,0)):Good c p:=by
 unfold iB at h
 by_cases h1:(p.length:Int)>48
 ·grind
 ·rw[if_neg h1]at h
  by_cases j:eX p p.length 0≥0
  ·grind
  ·rw[if_neg j]at h
   by_cases k:(bA p).2≥0
   ·grind
   ·rw[if_neg k]at h;have l:(bA p).2= -1:=by
     have key:∀(r i:Nat) (q:MS),i+r=p.length→StI p i q→(mgo p r i q).2<0→(mgo p r i q).2= -1:=by
      intro r;induction r with
      |zero=>
       intro i q b f a;unfold mgo at a ⊢
       by_cases d:q.s=[]
       ·grind
       ·have:=(f.blk _ _ (kY d)).a0;grind
      |succ r m=>
       intro i q b f a;unfold mgo at a ⊢;cases d:cK p i q with
       |none=>grind
       |some q1=>rw[d]at a;exact m (i+1) q1 (by omega) (v8 f (by omega) d) a
     exact key p.length 0 _ (by omega) (wz p) (by show(bA p).2<0;omega)
    have g:=DM l;refine⟨g,fun i b=>tk p.length 0 (by omega) (by omega) i (Nat.zero_le _) b,fun i b=>Bv g.st p.length 0 _ (by omega) rfl (fun e=>absurd rfl e) h i (Nat.zero_le _) b,by omega⟩
end Go.Proofs.Y
namespace Go.Proofs.Y
open Go.RowKit Go.Am Go.Sy
def DC(d:Int):List Instr:=[⟨13,d.tdiv 3,0,0,0⟩,⟨8,2,0,0,d⟩,⟨2,2,2,1,0⟩,⟨9,2,0,0,d⟩,⟨14,0,0,0,0⟩]
def SF(ds:List Int):List Instr:=⟨1,1,0,0,1⟩::ds.flatMap DC
theorem ie:∀ds:List Int,(ds.flatMap DC).length=5*ds.length
 | []=>rfl
 |d::ds=>by rw[List.flatMap_cons,qn,ie ds,qm];show 5+_=_;omega
theorem flat_get:∀(ds:List Int) (j k:Nat),j<ds.length→k<5→(ds.flatMap DC)[5*j+k]?=(DC (ds.getD j 0))[k]?
 | [],j,k,h,_=>by cases h
 |d::ds,0,k,_,b=>by
  rw[List.flatMap_cons,qf (by show _<5;omega)]
  simp
 |d::ds,j+1,k,h,b=>by
  rw[List.flatMap_cons,qj (by show 5≤_;omega)]
  have:5*(j+1)+k-(DC d).length=5*j+k:=by show _-5=_;omega
  rw[this,flat_get ds j k (by simpa using h) b]
  simp
def M1(ds:List Int)(a:Nat):Int:=ds.getD ((a-1)/5) 0
def Mt(ds:List Int)(a:Nat):List Held:=if a=0∨(a-1)%5=0 then []else [⟨(M1 ds a).tdiv 3,false⟩]
def R3(ds:List Int)(a:Nat)(d:Int):Nat:=(ds.take (a/5)).count d
def PG(f:Nat→Nat):Nat→Nat
 |0=>0
 |n+1=>PG f n+f n
structure HOk(K:MK)(n:Nat)(ds:Nat→List Int):Prop where
 n3:n≤3
 pl:K.c.progs.length=n
 reg:∀d:Int,0≤d→d<9→dm K.c.locks d=d.tdiv 3
 pr:∀t:Nat,t<n→at3 K.c.progs t=SF (ds t)∨(at3 K.c.progs t=[]∧ds t=[])
 dd:∀t,t<n→∀d∈ds t,0≤d∧d<9
 six:∀t,t<n→(ds t).length≤6
def SU(K:MK)(t:Nat):Nat:=(at3 K.c.progs t).length
structure Th(L:Nat)(ds:List Int)(w:List Int)(a:Nat)(x:One):Prop where
 le:a≤L
 at_:x.at_=(a:Int)
 fuel:x.fuel=200-(a:Int)
 status:x.status=if a=L then 1 else 0
 awake:x.awake= -1
 opn:x.opn=Mt ds a
 log:x.log=[]
 r0:x.r0=0
 r1:1≤a→x.r1=1
 r2:1≤a→(a-1)%5=2→x.r2=at0 w (M1 ds a)
 r3:1≤a→(a-1)%5=3→x.r2=at0 w (M1 ds a)+1
structure Uq(K:MK)(n:Nat)(ds:Nat→List Int)(w0:List Int)(a:Nat→Nat)(S:MT):Prop where
 th:∀t,t<n→Th (SU K t) (ds t) S.w (a t) (S.th t)
 own:S.o=List.replicate 9 (-1)
 wl:S.w.length=9
 cnt:∀d:Nat,d<9→at0 S.w d=at0 w0 d+(PG (fun t=>R3 (ds t) (a t) d) n:Nat)
 q:∀c,c<3→S.q c=[]
 mux:∀t u,t<n→u<n→t≠u→∀h∈Mt (ds t) (a t),∀h'∈Mt (ds u) (a u),h.lock≠h'.lock
section
variable {K:MK}{n:Nat}{ds:Nat→List Int}{w0:List Int}{a:Nat→Nat}{S:MT}
end
end Go.Proofs.Y
namespace Go.Proofs.Y
open Go.RowKit Go.Am Go.Sy
def gh(a:Nat→Nat)(t v:Nat):Nat→Nat:=fun i=>if i=t then v else a i
section
variable {K:MK}{S:MT}{t:Nat}
end
structure Up(S S':MT)(t:Nat)(y:One)(w:List Int):Prop where
 th:S'.th t=y
 oth:∀u,u≠t→S'.th u=S.th u
 w:S'.w=w
 o:S'.o=S.o
 q:S'.q=S.q
def gR(K:MK)(t:Nat)(y:One):One:=if y.status=0∧y.at_≥(at3 K.c.progs t).length then stT y 1 else y
section
variable {K:MK}{n:Nat}{ds:Nat→List Int}{w0:List Int}{a:Nat→Nat}{S S':MT}
end
end Go.Proofs.Y
namespace Go.Proofs.Y
open Go.RowKit Go.Am Go.Sy
structure PkS where
 K:MK
 S:MT
structure PkI(n t:Nat)(s:PkS):Prop where
 can:ua (bw s.K n s.S)
 ml:n≤s.K.m.length
 ds:t<n→cj (bw s.K n s.S) t=true→(s.S.th t).awake<0→DsI n t ⟨s.K,cD s.S t (fuT (s.S.th t) (IntKind.i64.wrap ((s.S.th t).fuel-1))),at2 (at3 s.K.c.progs t) (s.S.th t).at_⟩
def Qf(f:Nat→One)(r t N:Nat):Nat→List Ob
 |0=>[]
 |k+1=>Qf f r t N k++[.rows 6 (f k).opn false (bif Nat.beq k t then N else r+2*k),.rows 0 (f k).log false (r+2*k+1)]
def IK(n t N:Nat)(S:MT):List Ob:=[.rows 0 (S.q 0) false 5,.rows 0 (S.q 1) false 6,.rows 0 (S.q 2) false 7]++Qf S.th 8 t N n
def GN(K:MK)(n t N:Nat)(S:MT)(h:SH cod):SH cod:=(jR K n N S).map some++List.replicate (3+2*n) none++h.drop (8+2*n)++(IK n t N S).map some
def P1(t:Nat)(h:SH cod):Nat:=match (h[3]?:Option (Option Ob))with
 |some (some (.cells cs))=>match (cs[10*t+8]?:Option V)with
  |some (.sl _ _ _ _ _ _)=>1
  |_=>0
 |_=>0
def pkD(n t N:Nat):FrD cod:=⟨N,lQ n,PkS,PkI n t,fun s=>[.ptr 0 0,li t],fun s=>mIn s.K n s.S,
 [⟨MK×MT×Bool,fun s r=>r.1=s.K∧r.2.1=bZ s.K n t s.S∧r.2.2=cj (bw s.K n s.S) t,fun r=>.b r.2.2,fun r h=>Jk r.1 n N r.2.1 h⟩,
  ⟨MK×MT×Bool,fun s r=>r.1=s.K∧r.2.1=bZ s.K n t s.S∧r.2.2=cj (bw s.K n s.S) t∧r.2.2=true∧(s.S.th t).awake≥0,fun r=>.b r.2.2,fun r h=>GN r.1 n t N r.2.1 h⟩],fun _ h=>P1 t h⟩
noncomputable def b17:Code:=Tryz.f17.body.getD .skip
noncomputable def w3(n t:Nat):List (FuncId×Ctr cod):=[(18,bB caD),(56,zZ n t)]
noncomputable def w4:List (FuncId×Ctr cod):=[(18,bB caD),(56,AC)]
def mLp(n N:Nat)(f:Nat→Option Ob)(K:MK)(S:MT)(b:Bool)(Q:MK×MT×Bool→Prop):Prop:=
 ∃r:MK×MT×Bool,S.w=r.2.1.w∧S.o=r.2.1.o∧b=r.2.2∧S.q 0=r.2.1.q 0∧S.q 1=r.2.1.q 1∧S.q 2=r.2.1.q 2∧sL S.th r.2.1.th n (kE K r.1 (oB f n 5 N (Q r∧True)))
theorem ED{n N:Nat}{f:Nat→Option Ob}{K:MK}{S:MT}{b:Bool}{Q:MK×MT×Bool→Prop}(h:Q (K,S,b)):mLp n N f K S b Q:=
 ⟨(K,S,b),rfl,rfl,rfl,rfl,rfl,rfl,gA _ ⟨rfl,rfl,rfl,rfl,rfl,rfl,rfl,rfl,rfl,rfl,rfl,rfl,rfl,AV _ _ _ ⟨h,trivial⟩ _⟩ _⟩
section
variable (n t N:Nat)(s:PkS)(f:Nat→Option Ob)
def pkL(K:MK)(S:MT)(b:Bool):Prop:=mLp n N f K S b fun r=>r.1=s.K∧r.2.1=bZ s.K n t s.S∧r.2.2=cj (bw s.K n s.S) t
def D7(K:MK)(S:MT)(x:Instr)(d:MK×MT→Prop):Prop:=uR N n 5 f N (∃z:AcS,S.w=z.S.w∧S.o=z.S.o∧S.q 0=z.S.q 0∧S.q 1=z.S.q 1∧S.q 2=z.S.q 2∧lsE S.th z.S.th n
 (bc.int .i64 t=bc.int .i64 t∧x.op=z.x.op∧x.a=z.x.a∧x.b=z.x.b∧x.c=z.x.c∧x.n=z.x.n∧sP S.th z.S.th n (kE K z.K (DsI n t z∧(∀y:MK×MT,y.1=z.K∧y.2=bQ z.K t z.S z.x→d y)∧True))))
def pkA(K:MK)(S:MT)(b:Bool):Prop:=mLp n N f K S b fun r=>r.1=s.K∧r.2.1=bZ s.K n t s.S∧r.2.2=cj (bw s.K n s.S) t∧r.2.2=true∧(s.S.th t).awake≥0
def Mq(K:MK)(S:MT)(L:MT→Prop):Prop:=
 (((S.th t).status==0)=true→bnN t K.c.progs.length ((decide ((S.th t).at_≥((at3 K.c.progs t).length:Int))=true→L (cD S t (stT (S.th t) 1)))∧(decide ((S.th t).at_≥((at3 K.c.progs t).length:Int))=false→L S)))∧
 (((S.th t).status==0)=false→L S)
def goB:Prop:=bnN t s.K.c.progs.length (((0:Int)≤(s.S.th t).at_∧(s.S.th t).at_<((at3 s.K.c.progs t).length:Int))∧
 D7 n t N f s.K (cD s.S t (fuT (s.S.th t) (IntKind.i64.wrap ((s.S.th t).fuel-1)))) (at2 (at3 s.K.c.progs t) (s.S.th t).at_) fun y=>Mq t y.1 y.2 fun S=>pkL n t N s f y.1 S true)
def pkP:Prop:=caD.pre (bw s.K n s.S,(t:Int),())∧((!cj (bw s.K n s.S) t)=true→pkL n t N s f s.K s.S false)∧((!cj (bw s.K n s.S) t)=false→
 (decide ((s.S.th t).awake≥0)=true→((0:Int)≤(s.S.th t).awake∧(s.S.th t).awake<(s.K.c.conds.length:Int))∧Mq t s.K (cD s.S t (awT (opT (s.S.th t) [⟨at0 s.K.c.conds (s.S.th t).awake,false⟩]) (-1))) fun S=>pkA n t N s f s.K S true)∧
 (decide ((s.S.th t).awake≥0)=false→(((s.S.th t).fuel==0)=true→pkL n t N s f s.K (dn s.S t 3) true)∧(((s.S.th t).fuel==0)=false→goB n t N s f)))
def pkN:Prop:=caD.pre (bw s.K n s.S,(t:Int),())∧((!cj (bw s.K n s.S) t)=true→pkL n t N s f s.K s.S false)∧((!cj (bw s.K n s.S) t)=false→False)
end
end Go.Proofs.Y
namespace Go.Proofs.Y
open Go.RowKit Go.Am Go.Sy
set_option maxRecDepth 100000
theorem Qa(s:PkS)(f:Nat→Option Ob):Go.Sy.Tree.holds (vcC (goC (w3 1 0) Tryz.f17 b17) (pkD 1 0 40) s (hOf f 40))=pkP 1 0 40 s f:=by kernel_rfl
theorem Qq(s:PkS)(f:Nat→Option Ob):Go.Sy.Tree.holds (vcC (goC (w3 2 0) Tryz.f17 b17) (pkD 2 0 40) s (hOf f 40))=pkP 2 0 40 s f:=by kernel_rfl
theorem O3(s:PkS)(f:Nat→Option Ob):Go.Sy.Tree.holds (vcC (goC (w3 2 1) Tryz.f17 b17) (pkD 2 1 40) s (hOf f 40))=pkP 2 1 40 s f:=by kernel_rfl
theorem Qh(s:PkS)(f:Nat→Option Ob):Go.Sy.Tree.holds (vcC (goC (w3 3 0) Tryz.f17 b17) (pkD 3 0 40) s (hOf f 40))=pkP 3 0 40 s f:=by kernel_rfl
theorem Qv(s:PkS)(f:Nat→Option Ob):Go.Sy.Tree.holds (vcC (goC (w3 3 1) Tryz.f17 b17) (pkD 3 1 40) s (hOf f 40))=pkP 3 1 40 s f:=by kernel_rfl
theorem Nt(s:PkS)(f:Nat→Option Ob):Go.Sy.Tree.holds (vcC (goC (w3 3 2) Tryz.f17 b17) (pkD 3 2 40) s (hOf f 40))=pkP 3 2 40 s f:=by kernel_rfl
theorem NC(s:PkS)(f:Nat→Option Ob):Go.Sy.Tree.holds (vcC (goC w4 Tryz.f17 b17) (pkD 1 1 40) s (hOf f 40))=pkN 1 1 40 s f:=by kernel_rfl
theorem O1(s:PkS)(f:Nat→Option Ob):Go.Sy.Tree.holds (vcC (goC w4 Tryz.f17 b17) (pkD 1 2 40) s (hOf f 40))=pkN 1 2 40 s f:=by kernel_rfl
theorem OR(s:PkS)(f:Nat→Option Ob):Go.Sy.Tree.holds (vcC (goC w4 Tryz.f17 b17) (pkD 2 2 40) s (hOf f 40))=pkN 2 2 40 s f:=by kernel_rfl
end Go.Proofs.Y
namespace Go.Proofs.Y
open Go.RowKit Go.Am Go.Sy
section
variable (n t N:Nat)(s:PkS)(f:Nat→Option Ob)
theorem uh{K:MK}{S:MT}{b:Bool}(h1:K=s.K)(a:S=bZ s.K n t s.S)(c:b=cj (bw s.K n s.S) t):pkL n t N s f K S b:=ED ⟨h1,a,c⟩
theorem C2(l:∀k,dy n 5 k=false→k<N→jF N (f k)=true){K:MK}{S:MT}{x:Instr}(g:DsI n t ⟨K,S,x⟩){d:MK×MT→Prop}(h:d (K,bQ K t S x)):D7 n t N f K S x d:=by
 have e:∀k,k≤N→uR N n 5 f k (∃z:AcS,S.w=z.S.w∧S.o=z.S.o∧S.q 0=z.S.q 0∧S.q 1=z.S.q 1∧S.q 2=z.S.q 2∧lsE S.th z.S.th n
 (bc.int .i64 t=bc.int .i64 t∧x.op=z.x.op∧x.a=z.x.a∧x.b=z.x.b∧x.c=z.x.c∧x.n=z.x.n∧sP S.th z.S.th n (kE K z.K (DsI n t z∧(∀y:MK×MT,y.1=z.K∧y.2=bQ z.K t z.S z.x→d y)∧True)))):=by
  intro k;induction k with
  |zero=>
   intro _;refine⟨⟨K,S,x⟩,rfl,rfl,rfl,rfl,rfl,j9 _ ⟨rfl,rfl,rfl,rfl,rfl,rfl,iw _ ⟨rfl,rfl,rfl,rfl,rfl,rfl,rfl,rfl,rfl,rfl,rfl,rfl,rfl,g,fun y j=>?_,trivial⟩ _⟩ _⟩
   grind
  |succ k m=>
   unfold uR;grind
 exact e N (qe _)
theorem AY{K:MK}{S:MT}{L:MT→Prop}(a:t<K.c.progs.length)(h:L (ca K t S)):Mq t K S L:=by
 refine⟨fun e=>⟨⟨by omega,by omega⟩,fun h1=>?_,fun h1=>?_⟩,fun e=>?_⟩
 ·have e:=eq_of_beq e;have h1:=qb h1;rw[ca,if_pos ⟨e,h1⟩]at h;exact h
 ·have h1:=qc h1;rw[ca,if_neg (fun x=>h1 x.2)]at h
  exact h
 ·have e:=ne_of_beq_false e;rw[ca,if_neg (fun x=>e x.1)]at h
  exact h
theorem yB{t:Nat}(g:ua (bw s.K n s.S))(hc:cj (bw s.K n s.S) t=true):t<n∧t<s.K.c.progs.length∧0≤(s.S.th t).at_∧(s.S.th t).at_<((at3 s.K.c.progs t).length:Int):=by
 have a:(bw s.K n s.S).all.length=n:=eu _ _;have j:n=s.K.c.progs.length:=by rw[← a];exact g.len
 unfold cj at hc
 by_cases h:((t:Int)<0∨(t:Int)≥(bw s.K n s.S).all.length∨(bN (bw s.K n s.S).all (t:Int)).status≠0)
 ·grind
 ·have d:t<n:=by
   grind
  have b:(bN (bw s.K n s.S).all (t:Int)).status=0:=by
   grind
  have e:=g.run t (by grind) b
  have k:bN (bw s.K n s.S).all (t:Int)=s.S.th t:=lb d;rw[k]at e;exact⟨d,by omega,e.2⟩
theorem KN(y:∀k,dy n 5 k=false→k<N→jF N (f k)=true)(m:t<n)(d:PkI n t s):pkP n t N s f:=by
 refine⟨d.can,fun e=>?_,fun e=>?_⟩
 ·have e:cj (bw s.K n s.S) t=false:=by simpa using e
  exact uh n t N s f rfl (by rw[bZ,if_neg (by grind)]) e.symm
 ·have e:cj (bw s.K n s.S) t=true:=by simpa using e
  obtain⟨_,l,w,x⟩:=yB n s d.can e;have g:bZ s.K n t s.S=ca s.K t (goM s.K t s.S):=by rw[bZ,if_pos e]
  have o:(bw s.K n s.S).all.length=n:=eu _ _;have p:bN (bw s.K n s.S).all (t:Int)=s.S.th t:=lb m;refine⟨fun a=>?_,fun a=>?_⟩
  ·have a:=qb a;have q:(s.S.th t).status=0:=by
    have u:=e;unfold cj at u;grind
   have j:=(d.can.run t (by grind) (by grind)).1
   rw[p]at j;refine⟨⟨a,j⟩,AY t l (ED ⟨rfl, ?_,e.symm,rfl,a⟩)⟩;rw[g,goM,if_pos a]
  have h:(s.S.th t).awake<0:=by grind
  refine⟨fun b=>?_,fun b=>?_⟩
  ·have b:=eq_of_beq b;refine uh n t N s f rfl ?_ e.symm;rw[g,goM,if_neg (by omega),if_pos b,ca,if_neg]
   have:((dn s.S t 3).th t).status=3:=by show(fF _ _ _ t).status=3;rw[bD];rfl
   omega
  ·have b:=ne_of_beq_false b;have v:goM s.K t s.S=bQ s.K t (cD s.S t (fuT (s.S.th t) (IntKind.i64.wrap ((s.S.th t).fuel-1)))) (at2 (at3 s.K.c.progs t) (s.S.th t).at_):=by rw[goM,if_neg (by omega),if_neg b]
   refine⟨⟨by omega,by omega⟩,⟨w,x⟩,C2 n t N f y (d.ds m e h) (AY t l (uh n t N s f rfl ?_ e.symm))⟩
   rw[g,v]
theorem MV(c:n≤t)(a:PkI n t s):pkN n t N s f:=by
 have b:¬cj (bw s.K n s.S) t=true:=fun e=>by
  have:=(yB n s a.can e).1;omega
 have e:cj (bw s.K n s.S) t=false:=by grind
 refine⟨a.can,fun _=>uh n t N s f rfl (by rw[bZ,if_neg b]) e.symm,fun h=>?_⟩
 grind
end
theorem BW(K:MK)(n t N:Nat)(S:MT)(h:SH cod)(j:Nat)(b:8+2*n≤N)(hl:h.length=N)(c:j<N)(a:lQ n j=false):(GN K n t N S h)[j]?=h[j]?:=by
 have a:¬j<8+2*n:=fun x=>by rw[lQ,← Nat.blt_eq]at*;grind
 have h1:((jR K n N S).map some++List.replicate (3+2*n) (none:Option Ob)).length=8+2*n:=by
  rw[qn,List.length_map,List.length_replicate,gI];omega
 rw[GN,qf (by grind),qj (by grind),h1,List.getElem?_drop]
 congr 1;omega
theorem Pn(n t N:Nat)(d:8+2*n≤N):ou (pkD n t N) where
 len:=fun s h hl=>by
  have hl:h.length=N:=hl;show(mIn s.K n s.S h).length=N;rw[pI _ _ _ _ (by omega),hl]
 ahead:=fun s h j hl b a=>pG s.K n s.S h j a
 behind:=fun B c r h j hl b a=>by
  cases c with
  |head=>exact wu r.1 n N r.2.1 h j d hl b a
  |tail _ c=>
   cases c with
   |head=>exact BW r.1 n t N r.2.1 h j d hl b a
   |tail _ h=>cases h
theorem TQ(n t:Nat)(h1:1≤n)(a:n≤3)(b:t<n):cv F.S (bf (w3 n t)):=bW fun p h=>by
 have h:p∈[_,_]:=h;simp at h;rcases h with rfl|rfl
 ·exact Dj
 ·exact K7 n t h1 a b
theorem TF:cv F.S (bf w4):=bW fun p h=>by
 have h:p∈[_,_]:=h;simp at h;rcases h with rfl|rfl
 ·exact Dj
 ·exact rn
theorem Nw{l:List (FuncId×Ctr cod)}(hl:cv F.S (bf l)):bi F.S 17 (goC l Tryz.f17 b17):=dc (body:=b17) bE noExt bC hl Tryz.func17 rfl (by kernel_rfl) (by kernel_rfl) 2000 (fun _ _=>[]) (fun _ _=>0) (by kernel_rfl)
theorem QE{n N:Nat}{h:SH cod}(a:qU N (lQ n) h N):∀k,dy n 5 k=false→k<N→jF N (h.getD k none)=true:=fun k c b=>a k b (by
 exact(Bool.or_eq_false_iff.1 c).1)
theorem tO(n t:Nat)(h1:1≤n)(d:n≤3)(b:t<n)(e:∀s f,Go.Sy.Tree.holds (vcC (goC (w3 n t) Tryz.f17 b17) (pkD n t 40) s (hOf f 40))=pkP n t 40 s f):bi F.S 17 (gU 40 (fq (fun _=>true) (pkD n t 40))):=
 d1 40 (c7 bE _ _ (Pn n t 40 (by omega)) fun s c h hl a=>⟨_,Nw (TQ n t h1 d b),by
  have hl:h.length=40:=hl;rw[rC hl];refine⟨?_⟩;show Go.Sy.Tree.holds (vcC (goC (w3 n t) Tryz.f17 b17) (pkD n t 40) s _);rw[e];exact KN n t 40 s _ (QE a) b c⟩)
theorem zb(n t:Nat)(e:n≤3)(c:n≤t)(d:∀s f,Go.Sy.Tree.holds (vcC (goC w4 Tryz.f17 b17) (pkD n t 40) s (hOf f 40))=pkN n t 40 s f):bi F.S 17 (gU 40 (fq (fun _=>true) (pkD n t 40))):=
 d1 40 (c7 bE _ _ (Pn n t 40 (by omega)) fun s b h hl a=>⟨_,Nw TF,by
  have hl:h.length=40:=hl;rw[rC hl];refine⟨?_⟩;show Go.Sy.Tree.holds (vcC (goC w4 Tryz.f17 b17) (pkD n t 40) s _);rw[d];exact MV n t 40 s _ c b⟩)
noncomputable def Fx(n t:Nat):Ctr cod:=gU 40 (fq (fun _=>true) (pkD n t 40))
theorem KT:∀n t,1≤n→n≤3→t<3→bi F.S 17 (Fx n t)
 |1,0,a,b,_=>tO 1 0 a b (by decide) Qa
 |1,1,a,b,_=>zb 1 1 b (by decide) NC
 |1,2,a,b,_=>zb 1 2 b (by decide) O1
 |2,0,a,b,_=>tO 2 0 a b (by decide) Qq
 |2,1,a,b,_=>tO 2 1 a b (by decide) O3
 |2,2,a,b,_=>zb 2 2 b (by decide) OR
 |3,0,a,b,_=>tO 3 0 a b (by decide) Qh
 |3,1,a,b,_=>tO 3 1 a b (by decide) Qv
 |3,2,a,b,_=>tO 3 2 a b (by decide) Nt
end Go.Proofs.Y
namespace Go.Proofs.Y
open Go.RowKit Go.Am Go.Sy
def gX:List V→List Nat
 | []=>[]
 | .R k::t=>k::gX t
 |_::t=>gX t
def Jl(args:List V)(h:SH cod):Option (List Nat):=match args with
 | .ptr id _::_=>match bF h id with
  |some (.cells cs)=>match (cs.drop 13:List V)with
   | [.R w,.R o,.sl _ T _ _ _ _,.sl _ Q _ _ _ _]=>match bF h T,bF h Q with
    |some (.cells a),some (.cells qs)=>some ([id,w,o,T,Q]++(gX qs++gX a))
    |_,_=>none
   |_=>none
  |_=>none
 |_=>none
def xG(h:SH cod)(r:Nat):List Nat→Nat→Option Nat
 | [],_=>none
 |k::t,j=>match bF h k with
  |some (.rows _ _ _ a)=>bif Nat.beq a r then some j else xG h r t (j+1)
  |_=>xG h r t (j+1)
def RJ(h:SH cod)(r:Nat):Option Nat:=match bF h 3 with
 |some (.cells a)=>xG h r (gX a) 8
 |_=>none
noncomputable def nD(n t:Nat):Ctr cod:=dD Jl RJ (Fx n t)
def EQ(K:MK)(n N:Nat)(S:MT):SH cod:=(jR K n N S).map some++List.replicate (3+2*n) none++(iR n S).map some
def BL(K:MK)(n:Nat)(S:MT):SH cod:=(jR K n 5 S++iR n S).map some
def pzD(n t:Nat):FrD cod:=⟨8+2*n,fun _=>true,PkS,PkI n t,fun s=>[.ptr 0 0,li t],fun s _=>BL s.K n s.S,
 [⟨MK×MT×Bool,fun s r=>r.1=s.K∧r.2.1=bZ s.K n t s.S∧r.2.2=cj (bw s.K n s.S) t,fun r=>.b r.2.2,fun r _=>EQ r.1 n (8+2*n) r.2.1⟩],fun _ _=>0⟩
noncomputable def xZ(n t:Nat):Ctr cod:=dD Jl (fun _ _=>none) (pb (pzD n t))
def mLz(n:Nat)(K:MK)(S:MT)(b:Bool)(Q:MK×MT×Bool→Prop):Prop:=
 ∃r:MK×MT×Bool,S.w=r.2.1.w∧S.o=r.2.1.o∧b=r.2.2∧S.q 0=r.2.1.q 0∧S.q 1=r.2.1.q 1∧S.q 2=r.2.1.q 2∧sL S.th r.2.1.th n (kE K r.1 (Q r∧True))
def mLy(n:Nat)(K:MK)(S:MT)(Q:MK×MT→Prop):Prop:=
 ∃r:MK×MT,S.w=r.2.w∧S.o=r.2.o∧S.q 0=r.2.q 0∧S.q 1=r.2.q 1∧S.q 2=r.2.q 2∧sL S.th r.2.th n (kE K r.1 (Q r∧True))
variable {K:MK}{S:MT}
theorem F5{n:Nat}{b:Bool}{Q:MK×MT×Bool→Prop}(h:Q (K,S,b)):mLz n K S b Q:=
 ⟨(K,S,b),rfl,rfl,rfl,rfl,rfl,rfl,gA _ ⟨rfl,rfl,rfl,rfl,rfl,rfl,rfl,rfl,rfl,rfl,rfl,rfl,rfl,h,trivial⟩ _⟩
theorem Mz{n:Nat}{Q:MK×MT→Prop}(h:Q (K,S)):mLy n K S Q:=
 ⟨(K,S),rfl,rfl,rfl,rfl,rfl,gA _ ⟨rfl,rfl,rfl,rfl,rfl,rfl,rfl,rfl,rfl,rfl,rfl,rfl,rfl,h,trivial⟩ _⟩
def loE(N:Nat):Nat→Prop→Prop
 |0,P=>P
 |k+1,P=>jF (T:=T) N none=true∧loE N k P
theorem Hl(N:Nat){P:Prop}(h:P):∀k,loE N k P
 |0=>h
 |k+1=>⟨rfl,Hl N h k⟩
def pzP(n t:Nat)(s:PkS):Prop:=loE 40 (32-2*n) (∃z:PkS,toE n s.K z.K s.S z.S (bc.int .i64 (t:Int)=bc.int .i64 (t:Int)) (PkI n t z∧
 (∀y:MK×MT×Bool,y.1=z.K∧y.2.1=bZ z.K n t z.S∧y.2.2=cj (bw z.K n z.S) t→mLz n y.1 y.2.1 y.2.2 fun r=>r.1=s.K∧r.2.1=bZ s.K n t s.S∧r.2.2=cj (bw s.K n s.S) t)∧
 (∀y:MK×MT×Bool,y.1=z.K∧y.2.1=bZ z.K n t z.S∧y.2.2=cj (bw z.K n z.S) t∧y.2.2=true∧(z.S.th t).awake≥0→mLz n y.1 y.2.1 y.2.2 fun r=>r.1=s.K∧r.2.1=bZ s.K n t s.S∧r.2.2=cj (bw s.K n s.S) t)∧True))
def rgB(K:MK)(n:Nat)(S:MT)(t:Nat):Bool:=cj (bw K n S) t && (decide ((S.th t).awake<0) && !fi (bw K n S) t)
def lG(K:MK)(n t:Nat):Nat→MT→MT
 |0,S=>S
 |r+1,S=>if rgB K n S t=true then lG K n t r (bZ K n t S)else S
def lM(K:MK)(n:Nat):Nat→MT→MT
 |0,S=>S
 |t+1,S=>lG K n t 2005 (lM K n t S)
structure RsS where
 K:MK
 S:MT
structure RtS where
 S:MT
 r:Nat
section
variable (P:MK→MT→Prop)(n:Nat)
def mF(x:One):Nat:=if x.status=0 then 2*x.fuel.toNat+(if x.awake≥0 then 2 else 1)else 0
def rsL(s:RsS)(t:Nat):LpD cod:=⟨8+2*n,RtS,fun z=>P s.K z.S∧lG s.K n t z.r z.S=lM s.K n (t+1) s.S∧mF (z.S.th t)<z.r,fun z=>3000*(n-t)+z.r,fun z=>[(0,.ptr 0 0),(2,li t),(9,li n),(10,li t)],fun z=>EQ s.K n (8+2*n) z.S⟩
def rsD:FrD cod:=⟨8+2*n,fun _=>true,RsS,fun s=>P s.K s.S,fun s=>[.ptr 0 0],fun s _=>BL s.K n s.S,[⟨MK×MT,fun s r=>r.1=s.K∧r.2=lM s.K n n s.S,fun r=>.any,fun r _=>EQ r.1 n (8+2*n) r.2⟩],fun _ _=>0⟩
def Ko(s:RsS):Nat→List (Nat×LpD cod)
 |0=>[]
 |t+1=>Ko s t++[(4,rsL P n s t)]
noncomputable def Bx(r:SR cod)(h:SH cod):Nat:=match r.get 2 with
 | .a (.int _ (.ofNat t))=>t
 |_=>99
noncomputable def b24:Code:=Tryz.f24.body.getD .skip
noncomputable def AI(n:Nat):Ctr cod:=fun b args h K=>match args with
 | [p,.a (.int .i64 (.ofNat t))]=>bif Nat.blt t n then xZ n t b args h K else .stuck "pick"
 |_=>.stuck "pick"
noncomputable def w5:List (FuncId×Ctr cod):=[(18,bB caD),(58,bB enD),(17,AI n)]
noncomputable def rsC(s:RsS):Ctr cod:=iy F (bf (w5 n)) 2000 Tryz.f24 b24 (fun _ _=>Ko P n s n) Bx
end
end Go.Proofs.Y
namespace Go.Proofs.Y
open Go.RowKit Go.Am Go.Sy
set_option maxRecDepth 100000
theorem Ow(s:PkS)(h:SH cod):Go.Sy.Tree.holds (vcC (nD 1 0) (pzD 1 0) s h)=pzP 1 0 s:=by kernel_rfl
theorem Ou(s:PkS)(h:SH cod):Go.Sy.Tree.holds (vcC (nD 2 0) (pzD 2 0) s h)=pzP 2 0 s:=by kernel_rfl
theorem OF(s:PkS)(h:SH cod):Go.Sy.Tree.holds (vcC (nD 2 1) (pzD 2 1) s h)=pzP 2 1 s:=by kernel_rfl
theorem PV(s:PkS)(h:SH cod):Go.Sy.Tree.holds (vcC (nD 3 0) (pzD 3 0) s h)=pzP 3 0 s:=by kernel_rfl
theorem PF(s:PkS)(h:SH cod):Go.Sy.Tree.holds (vcC (nD 3 1) (pzD 3 1) s h)=pzP 3 1 s:=by kernel_rfl
theorem NG(s:PkS)(h:SH cod):Go.Sy.Tree.holds (vcC (nD 3 2) (pzD 3 2) s h)=pzP 3 2 s:=by kernel_rfl
end Go.Proofs.Y
namespace Go.Proofs.Y
open Go.RowKit Go.Am Go.Sy
def ai(n:Nat):bc:=.int .i64 (n:Int)
section
variable (P:MK→MT→Prop)(n:Nat)(s:RsS)
def AZ(t:Nat)(K:MK)(S:MT)(Q:RtS→Prop):Prop:=∃z:RtS,S.w=z.S.w∧S.o=z.S.o∧ai t=ai t∧ai n=ai n∧ai t=ai t∧S.q 0=z.S.q 0∧S.q 1=z.S.q 1∧S.q 2=z.S.q 2∧sL S.th z.S.th n (kE K s.K ((rsL P n s t).I z∧Q z))
theorem qO{t:Nat}{S:MT}{Q:RtS→Prop}(r:Nat)(h:(rsL P n s t).I ⟨S,r⟩∧Q ⟨S,r⟩):AZ P n s t s.K S Q:=⟨⟨S,r⟩,rfl,rfl,rfl,rfl,rfl,rfl,rfl,rfl,gA _ ⟨rfl,rfl,rfl,rfl,rfl,rfl,rfl,rfl,rfl,rfl,rfl,rfl,rfl,h⟩ _⟩
def nQ(t:Nat)(y:RtS):Prop:=bif Nat.blt (t+1) n then AZ P n s (t+1) s.K y.S (fun z=>(rsL P n s (t+1)).m z<(rsL P n s t).m y∧True)else mLy n s.K y.S fun r=>r.1=s.K∧r.2=lM s.K n n s.S
def rsV(t:Nat):Prop:=∀y:RtS,(rsL P n s t).I y→caD.pre (bw s.K n y.S,(t:Int),())∧(cj (bw s.K n y.S) t=true→
 (decide ((y.S.th t).awake<0)=true→enD.pre (bw s.K n y.S,(t:Int),())∧((!fi (bw s.K n y.S) t)=true→∃z:PkS,toE n s.K z.K y.S z.S (ai t=ai t) (PkI n t z∧(∀r:MK×MT×Bool,r.1=z.K∧r.2.1=bZ z.K n t z.S∧r.2.2=cj (bw z.K n z.S) t→
  AZ P n s t r.1 r.2.1 fun z=>(rsL P n s t).m z<(rsL P n s t).m y∧True)∧True))∧((!fi (bw s.K n y.S) t)=false→nQ P n s t y))∧
 (decide ((y.S.th t).awake<0)=false→nQ P n s t y))∧(cj (bw s.K n y.S) t=false→nQ P n s t y)
def CB:Nat→Nat→Prop
 |0,_=>AZ P n s 0 s.K s.S fun _=>True
 |k+1,t=>rsV P n s t∧CB k (t+1)
end
end Go.Proofs.Y
namespace Go.Proofs.Y
open Go.RowKit Go.Am Go.Sy
set_option maxRecDepth 100000
theorem RO(P:MK→MT→Prop)(s:RsS)(h:SH cod):Go.Sy.Tree.holds (vcC (rsC P 1 s) (rsD P 1) s h)=CB P 1 s 1 0:=by kernel_rfl
theorem Rq(P:MK→MT→Prop)(s:RsS)(h:SH cod):Go.Sy.Tree.holds (vcC (rsC P 2 s) (rsD P 2) s h)=CB P 2 s 2 0:=by kernel_rfl
theorem TO(P:MK→MT→Prop)(s:RsS)(h:SH cod):Go.Sy.Tree.holds (vcC (rsC P 3 s) (rsD P 3) s h)=CB P 3 s 3 0:=by kernel_rfl
end Go.Proofs.Y

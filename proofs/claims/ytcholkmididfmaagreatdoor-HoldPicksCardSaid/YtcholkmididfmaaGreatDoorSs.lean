import Derived.Test.YtcholkmididfmaaGreatDoorLp
import Derived.Test.YtcholkmididfmaaGreatDoorJe
set_option linter.unusedVariables false
set_option linter.unusedSimpArgs false
namespace Go.Proofs.Y
open Go.RowKit Go.Am Go.Sy
theorem D4{l:List Held}(f:vU l)(op:Int)(k:Int):holdsB l op k=(dC l k==1||(dC l k==2 && op==8)):=by
 by_cases h:∃x∈l,x.lock=k
 ·obtain⟨x,b,rfl⟩:=h;rw[mc f b];have d:∀y∈l,y.lock=x.lock→y=x:=by
   intro y c e;obtain⟨i,o,e1⟩:=List.mem_iff_getElem.1 c;obtain⟨j,p,e2⟩:=List.mem_iff_getElem.1 b;have m:=List.pairwise_iff_getElem.1 f.lt;grind
  cases hrd:x.read with
  |false=>
   have:holdsB l op x.lock=true:=List.any_eq_true.2 ⟨x,b,by grind⟩
   grind
  |true=>
   by_cases e:op=8
   ·have:holdsB l op x.lock=true:=List.any_eq_true.2 ⟨x,b,by rw[e];simp⟩
    grind
   ·have:holdsB l op x.lock=false:=List.any_eq_false.2 fun y c=>by
     grind
    grind
 ·have g:∀x∈l,x.lock≠k:=fun x b e=>h ⟨x,b,e⟩
  rw[hF g];have:holdsB l op k=false:=List.any_eq_false.2 fun y c=>by grind
  grind
theorem BY(l:List Held)(k:Int):dC l k=0∨dC l k=1∨dC l k=2:=by
 unfold dC;grind
section
variable {K:MK}{n:Nat}{a:Nat→Nat}{S:MT}{T:RM}
theorem D1{t:Nat}(h:Goes K n a S T t)(b:opP (at3 K.c.progs t) (a t)=10∨opP (at3 K.c.progs t) (a t)=11):(S.th t).opn≠[]:=by
 obtain⟨w,f,hc,_⟩:=(h.ok.gd t h.lt).chk (a t) h.at_;have b:(at2 (at3 K.c.progs t) (a t:Int)).op=10∨(at2 (at3 K.c.progs t) (a t:Int)).op=11:=b;unfold cL at hc;have d:dR w.o=true:=Classical.byContradiction fun e=>by
  grind
 obtain⟨x,g,_⟩:=List.any_eq_true.1 d;rw[h.opn,pO,← f];intro e;simp_all
theorem OW{t:Nat}(h:Goes K n a S T t)(m:let op:=opP (at3 K.c.progs t) (a t);op=8∨op=9∨op=10∨op=11):ea K S t (at2 (at3 K.c.progs t) (a t))=ck K T t (at2 (at3 K.c.progs t) (a t)):=by
 have l:=h.both.th t h.lt;have p:=jt h.ok h.hold h.lt;have f:=D1 h;have m:let op:=(at2 (at3 K.c.progs t) (a t)).op;op=8∨op=9∨op=10∨op=11:=m
 have f:((at2 (at3 K.c.progs t) (a t)).op=10∨(at2 (at3 K.c.progs t) (a t)).op=11)→(S.th t).opn≠[]:=f;generalize at2 (at3 K.c.progs t) (a t:Int)=x at m f ⊢;unfold ea ck io;simp only;rw[jn l,h.both.w,h.both.o,oM p l.hl l.has];generalize hd:IntKind.i64.wrap (dt (regs (S.th t)) x.b+x.n)=d
 by_cases E:d<0
 ·grind
 ·by_cases G:d≥S.w.length
  ·grind
  ·have q: -1≤at0 S.o d:=by
    have hl:d.toNat<S.o.length:=by rw[h.hold.own];omega
    have e:at0 S.o d=S.o[d.toNat]:=by
     have:=gv hl;grind
    rw[e];exact h.hold.ow _ (List.getElem_mem hl)
   generalize at0 S.o d=o at q ⊢;have A:=h.ok.conf.reg d;generalize dm K.c.locks d=k at A ⊢;rw[D4 p];have B:0≤k→at0 (T.th t).has k=dC (S.th t).opn k:=fun u=>by
    have:=l.has k.toNat (by omega)
    grind
   have v:k<0→dC (S.th t).opn k=0:=fun u=>hF fun y D e=>by
    have:=(p.in3 y D).1;omega
   have g:=BY (S.th t).opn k;by_cases C:(S.th t).opn=[]
   ·grind
   ·have j:(S.th t).opn.length>0:=List.length_pos_iff.2 C;rw[decide_eq_true j,if_pos rfl,Bool.true_and];have e3:(((S.th t).opn.length:Int)==0)=false:=by grind
    rw[e3,Bool.or_false];have s:(o != -1)=decide (o≥0):=by
     grind
    rw[s]
    by_cases c3:k<0
    ·simp_all
    ·have z:=B (by omega)
     rw[decide_eq_false c3,z];rcases m with e|e|e|e<;>rw[e]<;>rcases g with e1|e1|e1<;>rw[e1]<;>cases hot:(o !=(t:Int))<;>cases hoz:decide (o≥0)<;>simp[hot,hoz]
theorem CA{t:Nat}(h:Goes K n a S T t)(z:let op:=opP (at3 K.c.progs t) (a t);op=8∨op=9∨op=10∨op=11):
 ∃E,bY K n (gh a t E) (ca K t (bQ K t S (at2 (at3 K.c.progs t) (a t))))∧Both K n (ca K t (bQ K t S (at2 (at3 K.c.progs t) (a t)))) (fx K t (doR K t T (at2 (at3 K.c.progs t) (a t)))):=by
 have f:=h.both.th t h.lt;have G:=h.hold.th t h.lt;have B:=OW h z;have H:=h.os.2 (by grind) (by grind)
 have z:let op:=(at2 (at3 K.c.progs t) (a t)).op;op=8∨op=9∨op=10∨op=11:=z
 have p:=h.wr;generalize at2 (at3 K.c.progs t) (a t:Int)=x at z B ⊢;have R:bQ K t S x=bif ea K S t x then dn S t 2 else bO (im K S t x) t:=by
  unfold bQ;have:¬bG x.op=true:=by rcases z with e|e|e|e<;>rw[e]<;>decide
  grind
 have U:doR K t T x=if ck K T t x=true then lN T t 2 else hY K (b6 T t (atR (T.th t) (IntKind.i64.wrap ((T.th t).at_+1)))) t x:=by
  unfold doR;grind
 rw[R,U,← B];cases hacc:ea K S t x with
 |true=>
  show ∃E,bY K n (gh a t E) (ca K t (dn S t 2))∧Both K n (ca K t (dn S t 2)) (fx K t (lN T t 2));obtain⟨N,d2,Q,O,d5⟩:=fZ K t (dn S t 2);obtain⟨e1,e2,e3,e4,e5⟩:=uO K t (lN T t 2);have I:(dn S t 2).th t=opT (stT (S.th t) 2) []:=bD _ _ _;have C:(lN T t 2).th t=haR (stR (T.th t) 2) (List.replicate (T.th t).has.length 0):=c6 _ _ _;have W:gR K t (opT (stT (S.th t) 2) [])=opT (stT (S.th t) 2) []:=by unfold gR;rw[if_neg (fun e=>absurd e.1 (show ¬(2:Int)=0 by decide))]
  have X:uH K t (haR (stR (T.th t) 2) (List.replicate (T.th t).has.length 0))=haR (stR (T.th t) 2) (List.replicate (T.th t).has.length 0):=by unfold uH;rw[if_neg (fun e=>absurd e.1 (show ¬(2:Int)=0 by decide))]
  rw[I,W]at N;rw[C,X]at e1;refine⟨a t,re h.hold h.both h.lt h.st (fun u hu=>by rw[d2 u hu];exact cF _ _ hu) (fun u hu=>by rw[e2 u hu];exact cH _ _ hu) (by rw[Q,e3];exact h.both.w) (by rw[O,e4];exact h.both.o) d5 e5 (by rw[Q,O];exact h.hold.own) (by rw[O];exact h.hold.ow) ?_ ?_⟩
  ·rw[N,e1];refine⟨f.at_,f.fuel,rfl,f.r0,f.r1,f.r2,f.r3,f.told,f.mate,by show(List.replicate _ _).length=3;rw[List.length_replicate];exact f.hl,fun k hk=>?_,f.wants⟩
   show at0 (List.replicate (T.th t).has.length 0) k=dC [] k;rw[f.hl,Dt k hk];rfl
  ·rw[N];have Y:=h.aw;refine⟨G.at_,G.le,fun e=>absurd e (show ¬(2:Int)=0 by decide), ?_,fun e=>?_,fun e=>?_,.inr (.inr (.inl rfl)),G.fu,G.log⟩
   ·show([]:List Held)=_;rw[if_neg (fun e=>absurd e.1 (show ¬(2:Int)=0 by decide))]
   ·have e:(S.th t).awake≥0:=e;omega
   ·rcases e with e|e
    ·have e:(S.th t).awake≥0:=e;omega
    ·exact absurd e (show ¬(2:Int)=4 by decide)
 |false=>
  rw[if_neg (by decide)]
  show ∃E,bY K n (gh a t E) (ca K t (bO (im K S t x) t))∧Both K n (ca K t (bO (im K S t x) t)) _;have P:(b6 T t (atR (T.th t) (IntKind.i64.wrap ((T.th t).at_+1)))).th t=atR (T.th t) (IntKind.i64.wrap ((T.th t).at_+1)):=ip _ _ _;have D:ck K (b6 T t (atR (T.th t) (IntKind.i64.wrap ((T.th t).at_+1)))) t x=false:=by
   have e:ck K (b6 T t (atR (T.th t) (IntKind.i64.wrap ((T.th t).at_+1)))) t x=ck K T t x:=by
    unfold ck;rw[P];rfl
   grind
  unfold im hY;rw[D,hacc,P];have q:io K S t x=IntKind.i64.wrap (dt (cP (T.th t)) x.b+x.n):=by rw[jn f];rfl
  have s:cP (atR (T.th t) (IntKind.i64.wrap ((T.th t).at_+1)))=cP (T.th t):=rfl;have J:=h.hold.th t h.lt;have Z:=h.lg;have j:=J.fu;have y:IntKind.i64.wrap ((T.th t).at_+1)=IntKind.i64.wrap ((S.th t).at_+1):=by rw[f.at_]
  have L:vd (at3 K.c.progs t) (at5 K.m t) (goT (S.th t) (IntKind.i64.wrap ((S.th t).at_+1)) (regs (S.th t))) (atR (T.th t) (IntKind.i64.wrap ((T.th t).at_+1))):=⟨y,f.fuel,f.status,f.r0,f.r1,f.r2,f.r3,f.told,f.mate,f.hl,f.has,f.wants⟩;have g:(S.th t).opn=dK (at3 K.c.progs t) (a t+1):=by rw[h.opn,H]
  have l:∀(v:Int),-1≤v→∀(d:Nat),∀u∈S.o.set d v,-1≤u:=fun v hv d u hu=>by
   rcases List.mem_or_eq_of_mem_set hu with e|e
   ·exact h.hold.ow u e
   grind
  rcases z with e|e|e|e
  ·have q1:¬x.op=10:=by omega
   have q2:¬x.op=11:=by omega
   rw[if_neg (show ¬false=true by decide),if_neg q1,if_neg q2,if_pos e,if_neg (show ¬false=true by decide),if_pos e,s,← q]
   obtain⟨n1,n2,n3,n4,n5⟩:=kd S t (Ib (S.th t) (xM (regs (S.th t)) x.a (at0 S.w (io K S t x))));refine⟨a t+1,h.turn n1 (ip _ _ _) n2 (fun u hu=>by rw[db _ _ hu,db _ _ hu]) n3 n4 n5 rfl rfl rfl ?_ h.st h.aw p h.at_ g rfl (Nat.le_succ _)⟩
   show vd _ _ _ (rgR _ (xM (cP (T.th t)) x.a (at0 T.w (io K S t x))));rw[jn f,h.both.w];exact⟨y,f.fuel,f.status,rfl,rfl,rfl,rfl,f.told,f.mate,f.hl,f.has,f.wants⟩
  ·have q1:¬x.op=10:=by omega
   have q2:¬x.op=11:=by omega
   have A:¬x.op=8:=by omega
   rw[if_neg (show ¬false=true by decide),if_neg q1,if_neg q2,if_neg A,if_neg (show ¬false=true by decide),if_neg A,if_pos e,s,← q,jn f]
   refine⟨a t+1,pN h.ok h.hold h.both h.lt h.st (fun u hu=>cF _ _ hu) (fun u hu=>db _ _ hu) ?_ h.both.o rfl rfl ?_ h.hold.ow ?_ ?_ ?_ ?_ h.at_ ?_ ?_ ?_⟩
   ·show T.w.set _ _=S.w.set _ _;rw[h.both.w]
   ·show S.o.length=(S.w.set _ _).length;rw[qu];exact h.hold.own
   ·rw[show(bO { S with w:=S.w.set (io K S t x).toNat (dt (regs (S.th t)) x.a) } t).th t=_ from bD _ _ _]
    grind
   all_goals rw[show(bO { S with w:=S.w.set (io K S t x).toNat (dt (regs (S.th t)) x.a) } t).th t=_ from bD _ _ _]
   ·exact h.st
   ·exact h.aw
   ·exact p
   ·exact g
   ·exact j
   ·show((S.th t).log.length:Int)+(S.th t).fuel≤1000;omega
  ·have A:¬x.op=8:=by omega
   have M:¬x.op=9:=by omega
   rw[if_neg (show ¬false=true by decide),if_pos e,if_neg (show ¬false=true by decide),if_neg A,if_neg M,if_pos e,s,← q]
   refine⟨a t+1,pN h.ok h.hold h.both h.lt h.st (fun u hu=>cF _ _ hu) (fun u hu=>db _ _ hu) h.both.w ?_ rfl rfl ?_ (l _ (by omega) _) ?_ ?_ ?_ ?_ h.at_ ?_ ?_ ?_⟩
   ·show T.o.set _ _=S.o.set _ _;rw[h.both.o]
   ·show(S.o.set _ _).length=S.w.length;rw[qu];exact h.hold.own
   ·rw[show(bO { S with o:=S.o.set (io K S t x).toNat (t:Int) } t).th t=_ from bD _ _ _]
    grind
   all_goals rw[show(bO { S with o:=S.o.set (io K S t x).toNat (t:Int) } t).th t=_ from bD _ _ _]
   ·exact h.st
   ·exact h.aw
   ·exact p
   ·exact g
   ·exact j
   ·show((S.th t).log.length:Int)+(S.th t).fuel≤1000;omega
  ·have A:¬x.op=8:=by omega
   have M:¬x.op=9:=by omega
   have q5:¬x.op=10:=by omega
   rw[if_neg (show ¬false=true by decide),if_neg q5,if_pos e,if_neg (show ¬false=true by decide),if_neg A,if_neg M,if_neg q5,s,← q]
   refine⟨a t+1,pN h.ok h.hold h.both h.lt h.st (fun u hu=>cF _ _ hu) (fun u hu=>db _ _ hu) h.both.w ?_ rfl rfl ?_ (l _ (by omega) _) ?_ ?_ ?_ ?_ h.at_ ?_ ?_ ?_⟩
   ·show T.o.set _ _=S.o.set _ _;rw[h.both.o]
   ·show(S.o.set _ _).length=S.w.length;rw[qu];exact h.hold.own
   ·rw[show(bO { S with o:=S.o.set (io K S t x).toNat (-1) } t).th t=_ from bD _ _ _]
    grind
   all_goals rw[show(bO { S with o:=S.o.set (io K S t x).toNat (-1) } t).th t=_ from bD _ _ _]
   ·exact h.st
   ·exact h.aw
   ·exact p
   ·exact g
   ·exact j
   ·show((S.th t).log.length:Int)+(S.th t).fuel≤1000;omega
theorem JD{t:Nat}(h:Goes K n a S T t):∃g,bY K n g (ca K t (bQ K t S (at2 (at3 K.c.progs t) (a t))))∧
 Both K n (ca K t (bQ K t S (at2 (at3 K.c.progs t) (a t)))) (fx K t (if bG (at2 (at3 K.c.progs t) (a t)).op=true then b6 T t (rgR (atR (T.th t) (bS (at3 K.c.progs t) (T.th t).mate (T.th t).at_ (cP (T.th t))).1) (bS (at3 K.c.progs t) (T.th t).mate (T.th t).at_ (cP (T.th t))).2.1)else doR K t T (at2 (at3 K.c.progs t) (a t)))):=by
 by_cases hl:bG (at2 (at3 K.c.progs t) (a t)).op=true
 ·obtain⟨g,v,x⟩:=zN h hl;grind
 ·rw[if_neg hl];have j:=(h.ok.gd t h.lt).may _ h.at_;have k:opP (at3 K.c.progs t) (a t)=(at2 (at3 K.c.progs t) (a t)).op:=rfl;have y:8≤(at2 (at3 K.c.progs t) (a t)).op∧(at2 (at3 K.c.progs t) (a t)).op≤17:=by
   simp only[bX,qi,decide_eq_true_eq]at j;rw[Bool.not_eq_true]at hl;simp only[bG,Bool.or_eq_false_iff,Bool.and_eq_false_iff,decide_eq_false_iff_not]at hl;omega
  by_cases z:(at2 (at3 K.c.progs t) (a t)).op≤11
  ·obtain⟨g,v,x⟩:=CA h (by grind)
   grind
  ·by_cases l:(at2 (at3 K.c.progs t) (a t)).op=12
   ·exact⟨_,GD h l⟩
   ·by_cases c3:(at2 (at3 K.c.progs t) (a t)).op=13
    ·exact⟨_,y7 h c3⟩
    ·by_cases m:(at2 (at3 K.c.progs t) (a t)).op=14
     ·exact⟨_,zq h m⟩
     ·by_cases c5:(at2 (at3 K.c.progs t) (a t)).op=15
      ·exact⟨_,C1 h c5⟩
      ·have o:(at2 (at3 K.c.progs t) (a t)).op=16∨(at2 (at3 K.c.progs t) (a t)).op=17:=by omega
       obtain⟨w,A,hc,_⟩:=(h.ok.gd t h.lt).chk (a t) h.at_;have p:(at2 (at3 K.c.progs t) (a t)).a<3:=by
        unfold cL at hc;unfold fa at hc;have s:K.c.conds.length=3:=by rw[h.ok.conf.conds];rfl
        grind
       have b:(at2 (at3 K.c.progs t) (a t)).a.toNat<3:=by omega
       have u:(T.q (at2 (at3 K.c.progs t) (a t)).a.toNat).length=(S.q (at2 (at3 K.c.progs t) (a t)).a.toNat).length:=by rw[h.both.q _ b]
       rcases o with e|e
       ·have d:bQ K t S (at2 (at3 K.c.progs t) (a t))=bO (d4 S (at2 (at3 K.c.progs t) (a t)).a.toNat 1) t:=by
         unfold bQ;grind
        have f:doR K t T (at2 (at3 K.c.progs t) (a t))=cW (b6 T t (atR (T.th t) (IntKind.i64.wrap ((T.th t).at_+1)))) (at2 (at3 K.c.progs t) (a t)).a.toNat 1:=by
         unfold doR;grind
        rw[d,f];exact⟨_,sy h b (.inl e) 1⟩
       ·have d:bQ K t S (at2 (at3 K.c.progs t) (a t))=bO (d4 S (at2 (at3 K.c.progs t) (a t)).a.toNat (S.q (at2 (at3 K.c.progs t) (a t)).a.toNat).length) t:=by
         unfold bQ;grind
        have f:doR K t T (at2 (at3 K.c.progs t) (a t))=cW (b6 T t (atR (T.th t) (IntKind.i64.wrap ((T.th t).at_+1)))) (at2 (at3 K.c.progs t) (a t)).a.toNat (T.q (at2 (at3 K.c.progs t) (a t)).a.toNat).length:=by
         unfold doR;grind
        rw[d,f,u];exact⟨_,sy h b (.inr e) _⟩
theorem gE(o:KOk K n)(j:bY K n a S)(k:Both K n S T)(t:Nat):∃y,bY K n y (bZ K n t S)∧Both K n (bZ K n t S) (dh K n t T):=by
 unfold bZ dh;rw[← j0 o j k t]
 by_cases hc:cj (bw K n S) t=true
 ·rw[if_pos hc,if_pos hc];have l:=hc;rw[j0 o j k t]at l;have q:t<n∧(T.th t).status=0:=Classical.byContradiction fun e=>by
   unfold gu at l;grind
  obtain⟨h,b⟩:=q;have g:=k.th t h;have m:=j.th t h;have b:(S.th t).status=0:=by rw[← g.status];exact b
  by_cases d:(S.th t).awake≥0
  ·have⟨k1,k2⟩:=DU o j k h b d;grind
  ·have d:(S.th t).awake<0:=by omega
   by_cases p:(S.th t).fuel=0
   ·exact⟨_,It o j k h b d p⟩
   ·obtain⟨s,l2⟩:=vG (a:=a) j k h b p;rw[nN]at s;have u:=m.fu;have v:=m.log;have f:IntKind.i64.wrap ((S.th t).fuel-1)=(S.th t).fuel-1:=wrap64 (by omega) (by omega)
    have w:goM K t S=bQ K t (cD S t (fuT (S.th t) ((S.th t).fuel-1))) (at2 (at3 K.c.progs t) (a t)):=by
     rw[goM,if_neg (by omega),if_neg p,f,m.at_]
    have x:¬(T.th t).wants=true:=by rw[g.wants,decide_eq_false (by omega)];decide
    have e1:(cD S t (fuT (S.th t) ((S.th t).fuel-1))).th t=fuT (S.th t) ((S.th t).fuel-1):=bD _ _ _;have e2:(b6 T t (fuR (T.th t) ((S.th t).fuel-1))).th t=fuR (T.th t) ((S.th t).fuel-1):=c6 _ _ _;have G:Goes K n a (cD S t (fuT (S.th t) ((S.th t).fuel-1))) (b6 T t (fuR (T.th t) ((S.th t).fuel-1))) t:=
     ⟨o,s,l2,h,by rw[e1];exact b,by rw[e1];exact d,by rw[e1];show((S.th t).log.length:Int)+((S.th t).fuel-1)≤999;omega⟩
    have D:=JD G;have z:goR K t T=fx K t (if bG (at2 (at3 K.c.progs t) (a t)).op=true then b6 (b6 T t (fuR (T.th t) ((S.th t).fuel-1))) t (rgR (atR ((b6 T t (fuR (T.th t) ((S.th t).fuel-1))).th t) (bS (at3 K.c.progs t) ((b6 T t (fuR (T.th t) ((S.th t).fuel-1))).th t).mate ((b6 T t (fuR (T.th t) ((S.th t).fuel-1))).th t).at_ (cP ((b6 T t (fuR (T.th t) ((S.th t).fuel-1))).th t))).1)
     (bS (at3 K.c.progs t) ((b6 T t (fuR (T.th t) ((S.th t).fuel-1))).th t).mate ((b6 T t (fuR (T.th t) ((S.th t).fuel-1))).th t).at_ (cP ((b6 T t (fuR (T.th t) ((S.th t).fuel-1))).th t))).2.1)else doR K t (b6 T t (fuR (T.th t) ((S.th t).fuel-1))) (at2 (at3 K.c.progs t) (a t))):=by
     unfold goR;simp only;rw[if_neg x,if_neg (by rw[g.fuel];exact p),g.fuel,f,g.at_,m.at_,e2]
     show fx K t (if bG _=true then b6 _ t (rgR (atR _ (bS _ (T.th t).mate (a t) (cP (T.th t))).1) _)else _)=fx K t (if bG _=true then b6 _ t (rgR (atR _ (bS _ (T.th t).mate (T.th t).at_ (cP (T.th t))).1) (bS _ (T.th t).mate (T.th t).at_ (cP (T.th t))).2.1)else _)
     rw[g.at_,m.at_]
    grind
 grind
end
end Go.Proofs.Y
namespace Go.Proofs.Y
open Go.RowKit Go.Am Go.Sy
theorem qV{l:List Held}(h:vU l):l.length≤3:=by
 match l,h with
 | [],_=>grind
 | [_],_=>grind
 | [_,_],_=>grind
 | [_,_,_],_=>grind
 |x::y::z::w::l,h=>
  have p:=h.lt;rw[List.pairwise_cons,List.pairwise_cons,List.pairwise_cons]at p;have h1:=p.1 y (by simp)
  have b:=p.2.1 z (by simp)
  have c:=p.2.2.1 w (by simp)
  have d:=(h.in3 x (by simp)).1
  have e:=(h.in3 w (by simp)).2
  omega
theorem tX{l:List Int}{n:Nat}(k:n≤3)(b:l.Nodup)(h:∀u∈l,0≤u∧u<(n:Int)):l.length≤3:=by
 match l,b,h with
 | [],_,_=>grind
 | [_],_,_=>grind
 | [_,_],_,_=>grind
 | [_,_,_],_,_=>grind
 |x::y::z::w::l,b,h=>
  rw[List.nodup_cons,List.nodup_cons,List.nodup_cons]at b;obtain⟨c,d,e,_⟩:=b;simp at c d e;have h1:=h x (by simp)
  have f:=h y (by simp)
  have g:=h z (by simp)
  have j:=h w (by simp)
  omega
def mkT(K:MK)(S:MT):RM:=⟨S.w,S.o,fun u=>⟨(S.th u).at_,(S.th u).fuel,(S.th u).status,(S.th u).r0,(S.th u).r1,(S.th u).r2,(S.th u).r3,(S.th u).log,[dC (S.th u).opn 0,dC (S.th u).opn 1,dC (S.th u).opn 2],decide ((S.th u).awake≥0),at5 K.m u⟩,S.q⟩
theorem rT(K:MK)(n:Nat)(S:MT):Both K n S (mkT K S) where
 w:=rfl
 o:=rfl
 q:=fun _ _=>rfl
 th:=fun t _=>⟨rfl,rfl,rfl,rfl,rfl,rfl,rfl,rfl,rfl,rfl,fun k b=>by
  have:k=0∨k=1∨k=2:=by omega
  rcases this with rfl|rfl|rfl<;>rfl,rfl⟩
def Nx(n:Nat)(K:MK)(S:MT):Prop:=KOk K n∧∃a,bY K n a S
section
variable {K:MK}{n:Nat}{a:Nat→Nat}{S:MT}
theorem DN(f:KOk K n)(m:bY K n a S):ua (bw K n S):=by
 have d:(bw K n S).all.length=n:=eu _ _;refine⟨by rw[d];exact f.pl.symm,by have:=f.n3;omega,fun y s=>?_,fun t g l=>?_⟩
 ·obtain⟨u,hu,rfl⟩:=mZ.1 s;have:=qV (jt f m hu);omega
 ·rw[d]at g;have o:bN (bw K n S).all (t:Int)=S.th t:=lb g;rw[o]at l ⊢;have e:=m.th t g;refine⟨?_,by rw[e.at_];omega, ?_⟩
  ·show(S.th t).awake<(K.c.conds.length:Int);rw[f.conf.conds]
   by_cases h:(S.th t).awake≥0
   ·obtain⟨b,q,j,k⟩:=e.wait (.inl h);have p:=e.le;have:=(iC f g (b:=b) (by omega) j).1
    grind
   grind
  ·show(S.th t).at_<((at3 K.c.progs t).length:Int);rw[e.at_];have:=e.run l;omega
theorem zD(b:KOk K n)(c:bY K n a S){t:Nat}(hc:cj (bw K n S) t=true):t<n∧(S.th t).status=0:=by
 rw[j0 b c (rT K n S) t]at hc;have key:t<n∧((mkT K S).th t).status=0:=Classical.byContradiction fun e=>by
  unfold gu at hc;grind
 exact key
theorem OB(b:KOk K n)(m:bY K n a S){t:Nat}(f:t<n)(o:(S.th t).status=0)(x:(S.th t).awake<0):
 DsI n t ⟨K,cD S t (fuT (S.th t) (IntKind.i64.wrap ((S.th t).fuel-1))),at2 (at3 K.c.progs t) (S.th t).at_⟩:=by
 have h:=m.th t f;have p:=h.run o;have s:=(b.gd t f).may _ p;have l:(S.th t).opn=dK (at3 K.c.progs t) (a t):=by rw[h.opn,if_pos ⟨o,x⟩]
 have g:(cD S t (fuT (S.th t) (IntKind.i64.wrap ((S.th t).fuel-1)))).th t=fuT (S.th t) (IntKind.i64.wrap ((S.th t).fuel-1)):=bD _ _ _;rw[h.at_];have y:∀c:Nat,c<3→∀u∈S.q c,0≤u∧u<(n:Int):=fun c hc u hu=>by
  obtain⟨v,q1,q2,_⟩:=m.q c hc u hu;omega
 refine⟨by rw[b.pl];exact f,by rw[b.ml];exact f,fun d=>?_,fun d=>?_,fun d=>?_,fun d=>?_,m.own,by rw[b.conf.locks];decide, ?_, ?_,y,fun c hc=>tX b.n3 (m.nod c hc) (y c hc)⟩
 ·exact mC s (k:=1) (by rcases d with e|e|e<;>(rw[e];rfl)) (by decide)
 ·exact Kz s (by rcases d with e|e|e|e<;>(rw[e];rfl))
 ·have d:(at2 (at3 K.c.progs t) (a t)).op=15∨(at2 (at3 K.c.progs t) (a t)).op=16∨(at2 (at3 K.c.progs t) (a t)).op=17:=d;rcases d with e|e|e
  ·exact(iC b f p e).1
  all_goals
   obtain⟨w,D,hc,_⟩:=(b.gd t f).chk (a t) p;have z:=mC s (k:=3) (by rw[e];rfl) (by decide)
   unfold cL at hc;unfold fa at hc;have A:K.c.conds.length=3:=by rw[b.conf.conds];rfl
   grind
 ·obtain⟨j,_,_,B⟩:=(b.gd t f).jmp.lv _ p d;rw[g];show 1≤(S.th t).opn.length;rw[l,dK,B,List.length_map,qn];grind
 ·rw[g];have:=qV (jt b m f);show(S.th t).opn.length≤1000;omega
 ·rw[g];have h1:=h.log;have C:=h.fu;show(S.th t).log.length≤1000;omega
theorem In{t:Nat}{T:RM}(h:Goes K n a S T t):((bQ K t S (at2 (at3 K.c.progs t) (a t))).th t).fuel=(S.th t).fuel∧((bQ K t S (at2 (at3 K.c.progs t) (a t))).th t).awake=(S.th t).awake:=by
 have u:∀c k,c<3→(d4 S c k).th t=S.th t:=fun c k hc=>(jz h hc k).2
 have nx:∀(b:MT) (y:One),b.th t=y→((bO b t).th t).fuel=y.fuel∧((bO b t).th t).awake=y.awake:=fun b y l=>by
  rw[show(bO b t).th t=_ from bD _ _ _,l]
  exact⟨rfl,rfl⟩
 have d:∀(b:MT) (y:One),b.th t=y→y.fuel=(S.th t).fuel→y.awake=(S.th t).awake→((bO b t).th t).fuel=(S.th t).fuel∧((bO b t).th t).awake=(S.th t).awake:=fun b y l h1 e=>by
  grind
 have st:∀(b:MT) (y:One),(cD b t y).th t=y:=fun b y=>bD _ _ _
 have m:=(h.ok.gd t h.lt).may _ h.at_;generalize hx:at2 (at3 K.c.progs t) (a t:Int)=x at m ⊢;unfold bQ
 by_cases h1:bG x.op=true
 ·rw[if_pos h1];rw[st];exact⟨rfl,rfl⟩
 ·rw[if_neg h1]
  by_cases e:x.op=8∨x.op=9∨x.op=10∨x.op=11
  ·rw[if_pos e];cases hacc:ea K S t x with
   |true=>
    show((dn S t 2).th t).fuel=_∧((dn S t 2).th t).awake=_;rw[show(dn S t 2).th t=_ from bD _ _ _]
    exact⟨rfl,rfl⟩
   |false=>
    have:((im K S t x).th t).fuel=(S.th t).fuel∧((im K S t x).th t).awake=(S.th t).awake:=by
     unfold im;simp only[hacc];rw[if_neg (by decide)]
     by_cases o:x.op=10
     ·grind
     ·rw[if_neg o]
      by_cases p:x.op=11
      ·grind
      ·rw[if_neg p]
       by_cases c3:x.op=8
       ·rw[if_pos c3];rw[show({ S with th:=fF S.th t _ }:MT).th t=_ from bD _ _ _]
        exact⟨rfl,rfl⟩
       grind
    grind
  ·rw[if_neg e]
   by_cases f:x.op=12
   ·rw[if_pos f];exact d _ _ (st _ _) rfl rfl
   ·rw[if_neg f]
    by_cases g:x.op=13
    ·rw[if_pos g];exact d _ _ (st _ _) rfl rfl
    ·rw[if_neg g]
     by_cases j:x.op=14
     ·rw[if_pos j];exact d _ _ (st _ _) rfl rfl
     ·rw[if_neg j]
      by_cases q:x.op=15
      ·rw[if_pos q];exact d _ _ (st _ _) rfl rfl
      ·have c3:x.op=16∨x.op=17→x.a.toNat<3:=fun B=>by
        obtain⟨w,A,hc,_⟩:=(h.ok.gd t h.lt).chk (a t) h.at_;rw[hx]at hc;unfold cL at hc;unfold fa at hc;have s:K.c.conds.length=3:=by rw[h.ok.conf.conds];rfl
        grind
       by_cases v:x.op=16
       ·grind
       ·by_cases z:x.op=17
        all_goals grind
theorem I5(K:MK)(t:Nat)(S:MT):mF ((ca K t S).th t)≤mF (S.th t):=by
 rw[(fZ K t S).1];unfold gR;split
 ·exact Nat.zero_le _
 grind
theorem J7{x:One}{f:Nat}(h1:x.fuel.toNat≤f)(b:x.awake<0):mF x≤2*f+1:=by
 unfold mF;grind
theorem tJ(q:KOk K n)(l:bY K n a S){t:Nat}(hc:cj (bw K n S) t=true):mF ((bZ K n t S).th t)<mF (S.th t):=by
 obtain⟨k,g⟩:=zD q l hc;have h:=l.th t k;have s:=h.fu;have u:=h.log;rw[bZ,if_pos hc];refine Nat.lt_of_le_of_lt (I5 K t _) ?_
 by_cases b:(S.th t).awake≥0
 ·rw[goM,if_pos b,show(cD S t _).th t=_ from bD _ _ _]
  have e:mF (S.th t)=2*(S.th t).fuel.toNat+2:=by unfold mF;grind
  have:=J7 (x:=awT (opT (S.th t) [⟨at0 K.c.conds (S.th t).awake,false⟩]) (-1)) (f:=(S.th t).fuel.toNat) (qe _) (show(-1:Int)<0 by decide)
  omega
 ·have e:mF (S.th t)=2*(S.th t).fuel.toNat+1:=by unfold mF;grind
  by_cases j:(S.th t).fuel=0
  ·rw[goM,if_neg b,if_pos j,show(dn S t 3).th t=_ from bD _ _ _]
   have:mF (opT (stT (S.th t) 3) [])=0:=if_neg (show ¬(3:Int)=0 by decide)
   omega
  ·have d:IntKind.i64.wrap ((S.th t).fuel-1)=(S.th t).fuel-1:=wrap64 (by omega) (by omega)
   obtain⟨m,l2⟩:=vG (a:=a) l (rT K n S) k g j;rw[nN]at m;have e1:(cD S t (fuT (S.th t) ((S.th t).fuel-1))).th t=fuT (S.th t) ((S.th t).fuel-1):=bD _ _ _;have G:Goes K n a (cD S t (fuT (S.th t) ((S.th t).fuel-1))) (b6 (mkT K S) t (fuR ((mkT K S).th t) ((S.th t).fuel-1))) t:=
    ⟨q,m,l2,k,by rw[e1];exact g,by rw[e1];show(S.th t).awake<0;omega,by rw[e1];show((S.th t).log.length:Int)+((S.th t).fuel-1)≤999;omega⟩
   obtain⟨o,p⟩:=In G;rw[goM,if_neg b,if_neg j,d,h.at_];rw[e1]at o p;have:=J7 (f:=(S.th t).fuel.toNat-1) (x:=(bQ K t (cD S t (fuT (S.th t) ((S.th t).fuel-1))) (at2 (at3 K.c.progs t) (a t))).th t) (by rw[o];show((S.th t).fuel-1).toNat≤_;omega) (by rw[p];show(S.th t).awake<0;omega)
   omega
theorem Cy(c:KOk K n)(d:bY K n a S)(t:Nat):∃b,bY K n b (bZ K n t S):=by
 obtain⟨b,h,_⟩:=gE c d (rT K n S) t;grind
end
theorem sc(n:Nat):B6 (Nx n) n where
 can:=fun {K S} h=>by obtain⟨b,a,c⟩:=h;exact DN b c
 pk:=fun {K S t} h d=>by
  obtain⟨b,a,c⟩:=h;exact⟨DN b c,by rw[b.ml];grind,fun _ hc e=>OB b c d (zD b c hc).2 e⟩
 next:=fun {K S t} h d=>by obtain⟨b,a,c⟩:=h;exact⟨b,Cy b c t⟩
 less:=fun {K S t} h d hc=>by obtain⟨b,a,c⟩:=h;exact tJ b c hc
 most:=fun {K S t} h d=>by
  obtain⟨b,a,c⟩:=h;have:=(c.th t d).fu;unfold mF;grind
end Go.Proofs.Y
namespace Go.Proofs.Y
open Go.RowKit Go.Am Go.Sy
def rgQ(K:MK)(n:Nat)(T:RM)(t:Nat):Bool:=gu K n T t && (!(T.th t).wants && ((T.th t).fuel==0||(at2 (at3 K.c.progs t) (T.th t).at_).op !=13))
def mG(K:MK)(n t:Nat):Nat→RM→RM
 |0,T=>T
 |r+1,T=>if rgQ K n T t=true then mG K n t r (dh K n t T)else T
def mA(K:MK)(n:Nat):Nat→RM→RM
 |0,T=>T
 |t+1,T=>mG K n t 2005 (mA K n t T)
def se(K:MK)(n t:Nat):Nat→Bool→RM→Option RM
 |0,_,_=>none
 |r+1,b,T=>if gu K n T t=true then
  (if b=true∧(((dh K n t T).th t).status≠0∨cA ((dh K n t T).th t).has=false)then some (dh K n t T)
   else se K n t r (b||cA ((dh K n t T).th t).has) (dh K n t T))
  else none
def iH(K:MK)(n t:Nat)(T:RM):Option RM:=if cA (T.th t).has=true then none else se K n t 2010 false T
def Ks(K:MK)(n:Nat):Option MT→Option RM→Prop
 |none,none=>True
 |some S,some T=>(∃a,bY K n a S)∧Both K n S T
 |_,_=>False
section
variable {K:MK}{n:Nat}{a:Nat→Nat}{S:MT}{T:RM}
theorem EM{t:Nat}(d:t<n):fi (bw K n S) t=(decide ((S.th t).awake<0) && (decide ((S.th t).fuel>0) && ((at2 (at3 K.c.progs t) (S.th t).at_).op==13))):=by
 have b:bN (bw K n S).all (t:Int)=S.th t:=lb d;unfold fi ins;rw[b];rfl
theorem O5(g:KOk K n)(d:bY K n a S)(e:Both K n S T){t:Nat}(c:t<n):rgB K n S t=rgQ K n T t:=by
 have b:=e.th t c;have f:=(d.th t c).fu;rw[rgB,rgQ,j0 g d e t,EM c,b.wants,b.fuel,b.at_];grind
theorem p8(d:KOk K n){t:Nat}(f:t<n):∀(r:Nat) {a:Nat→Nat} {S:MT} {T:RM},bY K n a S→Both K n S T→∃e,bY K n e (lG K n t r S)∧Both K n (lG K n t r S) (mG K n t r T)
 |0,a,S,T,b,c=>⟨a,b,c⟩
 |r+1,a,S,T,b,c=>by
  rw[lG,mG,← O5 d b c f]
  by_cases h:rgB K n S t=true
  ·rw[if_pos h,if_pos h];obtain⟨e,h1,g⟩:=gE d b c t;exact p8 d f r h1 g
  grind
theorem rz(c:KOk K n)(d:bY K n a S)(e:Both K n S T):∀k,k≤n→∃b,bY K n b (lM K n k S)∧Both K n (lM K n k S) (mA K n k T)
 |0,_=>⟨a,d,e⟩
 |k+1,h=>by
  obtain⟨b,h1,f⟩:=rz c d e k (by omega)
  exact p8 c (by omega) 2005 h1 f
theorem F1{t:Nat}(h:Goes K n a S T t)(f:(S.th t).opn=[])(d:(at2 (at3 K.c.progs t) (a t)).op≠13):((bQ K t S (at2 (at3 K.c.progs t) (a t))).th t).opn=[]:=by
 have v:∀c k,c<3→(d4 S c k).th t=S.th t:=fun c k hc=>(jz h hc k).2
 have nx:∀(b:MT) (y:One),b.th t=y→y.opn=[]→((bO b t).th t).opn=[]:=fun b y u e=>by
  rw[show(bO b t).th t=_ from bD _ _ _,u]
  exact e
 have st:∀(b:MT) (y:One),(cD b t y).th t=y:=fun b y=>bD _ _ _
 have m:=(h.ok.gd t h.lt).may _ h.at_;generalize hx:at2 (at3 K.c.progs t) (a t:Int)=x at m d ⊢;unfold bQ
 by_cases h1:bG x.op=true
 ·rw[if_pos h1,st];exact f
 ·rw[if_neg h1]
  by_cases g:x.op=8∨x.op=9∨x.op=10∨x.op=11
  ·rw[if_pos g];cases hacc:ea K S t x with
   |true=>
    show((dn S t 2).th t).opn=_;rw[show(dn S t 2).th t=_ from bD _ _ _]
    rfl
   |false=>
    refine nx (im K S t x) _ rfl ?_;unfold im;simp only[hacc];rw[if_neg (by decide)]
    by_cases o:x.op=10
    ·grind
    ·rw[if_neg o]
     by_cases p:x.op=11
     ·grind
     ·rw[if_neg p]
      by_cases c3:x.op=8
      ·rw[if_pos c3];rw[show({ S with th:=fF S.th t _ }:MT).th t=_ from bD _ _ _]
       exact f
      grind
  ·rw[if_neg g]
   by_cases j:x.op=12
   ·rw[if_pos j];exact nx _ _ (st _ _) f
   ·rw[if_neg j,if_neg d]
    by_cases l:x.op=14
    ·rw[if_pos l];exact nx _ _ (st _ _) (by rw[f];rfl)
    ·rw[if_neg l]
     by_cases q:x.op=15
     ·rw[if_pos q];exact nx _ _ (st _ _) rfl
     ·have c3:x.op=16∨x.op=17→x.a.toNat<3:=fun A=>by
       obtain⟨w,z,hc,_⟩:=(h.ok.gd t h.lt).chk (a t) h.at_;rw[hx]at hc;unfold cL at hc;unfold fa at hc;have s:K.c.conds.length=3:=by rw[h.ok.conf.conds];rfl
       grind
      grind
theorem D3(K:MK)(t:Nat)(S:MT):((ca K t S).th t).opn=(S.th t).opn:=by
 rw[(fZ K t S).1];unfold gR;split<;>rfl
theorem Eu(o:KOk K n)(l:bY K n a S)(s:Both K n S T){t:Nat}(hc:cj (bw K n S) t=true)(u:(S.th t).opn=[]):
 (((decide ((S.th t).awake≥0)||fi (bw K n S) t)=true)→((bZ K n t S).th t).opn≠[])∧(((decide ((S.th t).awake≥0)||fi (bw K n S) t)=false)→((bZ K n t S).th t).opn=[]):=by
 obtain⟨j,g⟩:=zD o l hc;have k:=l.th t j;have p:=k.fu;have q:=k.log;rw[bZ,if_pos hc,D3,EM j]
 by_cases b:(S.th t).awake≥0
 ·rw[goM,if_pos b,show(cD S t _).th t=_ from bD _ _ _,decide_eq_true b]
  exact⟨fun _=>nofun,fun e=>nomatch e⟩
 ·rw[decide_eq_false b,decide_eq_true (show(S.th t).awake<0 by omega)]
  by_cases h:(S.th t).fuel=0
  ·rw[goM,if_neg b,if_pos h,show(dn S t 3).th t=_ from bD _ _ _,h]
   exact⟨(nofun),fun _=>rfl⟩
  ·rw[decide_eq_true (show(S.th t).fuel>0 by omega)]
   have f:IntKind.i64.wrap ((S.th t).fuel-1)=(S.th t).fuel-1:=wrap64 (by omega) (by omega)
   obtain⟨m,l2⟩:=vG (a:=a) l s j g h;rw[nN]at m;have e1:(cD S t (fuT (S.th t) ((S.th t).fuel-1))).th t=fuT (S.th t) ((S.th t).fuel-1):=bD _ _ _;have G:Goes K n a (cD S t (fuT (S.th t) ((S.th t).fuel-1))) (b6 T t (fuR (T.th t) ((S.th t).fuel-1))) t:=
    ⟨o,m,l2,j,by rw[e1];exact g,by rw[e1];show(S.th t).awake<0;omega,by rw[e1];show((S.th t).log.length:Int)+((S.th t).fuel-1)≤999;omega⟩
   rw[goM,if_neg b,if_neg h,f,k.at_];refine⟨fun e=>?_,fun e=>F1 G (by rw[e1];exact u) fun d=>?_⟩
   ·have d:(at2 (at3 K.c.progs t) (a t)).op=13:=eq_of_beq e;unfold bQ;rw[if_neg (by rw[d];decide),if_neg (by omega),if_neg (by omega),if_pos d,show(bO _ t).th t=_ from bD _ _ _]
    show(((cD _ t _).th t).opn)≠[];rw[show(cD _ t _).th t=_ from bD _ _ _]
    show _++[_]≠[];simp
   grind
theorem nB(d:KOk K n){t:Nat}(e:t<n):∀(r:Nat) (b:Bool) {a:Nat→Nat} {S:MT} {T:RM},bY K n a S→Both K n S T→(b=false→(S.th t).opn=[])→Ks K n (vA K n t r b S) (se K n t r b T)
 |0,b,a,S,T,g,h,m=>trivial
 |r+1,b,a,S,T,g,h,m=>by
  rw[vA,se,← j0 d g h t]
  by_cases hc:cj (bw K n S) t=true
  rotate_left
  ·rw[if_neg hc,if_neg hc];trivial
  rw[if_pos hc,if_pos hc];obtain⟨s,h1,f⟩:=gE d g h t;have j:=f.th t e;have o:=h1.th t e;have p:cA ((dh K n t T).th t).has=decide (((bZ K n t S).th t).opn.length>0):=oM (jt d h1 e) j.hl j.has;rw[p,j.status];cases b with
  |true=>
   by_cases k:((bZ K n t S).th t).opn.length=0∨((bZ K n t S).th t).status≠0
   ·rw[if_pos ⟨rfl,k⟩,if_pos ⟨rfl,by grind⟩]
    exact⟨⟨s,h1⟩,f⟩
   ·rw[if_neg (fun x=>k x.2),if_neg (fun x=>k (by grind))]
    exact nB d e r true h1 f nofun
  |false=>
   obtain⟨u,v⟩:=Eu d g h hc (m rfl);cases he:(decide ((S.th t).awake≥0)||fi (bw K n S) t)with
   |true=>
    have c:=u he;have l:((bZ K n t S).th t).opn.length>0:=List.length_pos_iff.2 c;have q:((bZ K n t S).th t).status=0:=by
     have:=o.opn
     grind
    rw[if_neg (by grind),decide_eq_true l]
    exact nB d e r true h1 f nofun
   |false=>
    have c:=v he;rw[if_neg (by grind),decide_eq_false (by grind)]
    exact nB d e r false h1 f fun _=>c
theorem Dd(d:KOk K n)(e:bY K n a S)(f:Both K n S T){t:Nat}(b:t<n):Ks K n (kb K n t S) (iH K n t T):=by
 have c:=f.th t b;have g:cA (T.th t).has=decide ((S.th t).opn.length>0):=oM (jt d e b) c.hl c.has;rw[kb,iH,g]
 by_cases h:(S.th t).opn.length>0
 ·rw[if_pos h,if_pos (decide_eq_true h)];trivial
 ·rw[if_neg h,if_neg (by grind)]
  exact nB d b 2010 false e f fun _=>qp (by omega)
end
end Go.Proofs.Y
namespace Go.Proofs.Y
open Go.RowKit Go.Am Go.Sy
def mR(x:Man):Nat:=if x.status=0 then 2*x.fuel.toNat+(if x.wants=true then 2 else 1)else 0
structure RrS where
 S:RM
 r:Nat
section
variable (P:MK→RM→Prop)(n:Nat)
def rrL(s:RpS)(t:Nat):LpD cod:=⟨8+n,RrS,fun z=>P s.K z.S∧mG s.K n t z.r z.S=mA s.K n (t+1) s.S∧mR (z.S.th t)<z.r,fun z=>3000*(n-t)+z.r,fun z=>[(0,.ptr 0 0),(2,li t)],fun z=>vQ s.K.c n (8+n) z.S⟩
def rrD:FrD cod:=⟨8+n,fun _=>true,RpS,fun s=>P s.K s.S,fun s=>[.ptr 0 0],fun s _=>qG s.K.c n s.S,[⟨bg×RM,fun s r=>r.1=s.K.c∧r.2=mA s.K n n s.S,fun r=>.any,fun r _=>vQ r.1 n (8+n) r.2⟩],fun _ _=>0⟩
def Ky(s:RpS):Nat→List (Nat×LpD cod)
 |0=>[]
 |t+1=>Ky s t++[(3,rrL P n s t)]
noncomputable def b25:Code:=Tryz.f25.body.getD .skip
noncomputable def H9(n:Nat):Ctr cod:=fun b args h K=>match args with
 | [p,.a (.int .i64 (.ofNat t))]=>bif Nat.blt t n then rpZ n t b args h K else .stuck "pick"
 |_=>.stuck "pick"
noncomputable def x4:List (FuncId×Ctr cod):=[(27,bB rcD),(26,H9 n)]
noncomputable def rrC(s:RpS):Ctr cod:=dD vr M7 (iy F (bf (x4 n)) 2000 Tryz.f25 b25 (fun _ _=>Ky P n s n) Bx)
end
section
variable (P:MK→RM→Prop)(n:Nat)(s:RpS)
def p9(t:Nat)(c:bg)(S:RM)(a:bg×RM×Bool→Prop):Prop:=∃z:RpS,S.w=z.S.w∧S.o=z.S.o∧S.q 0=z.S.q 0∧S.q 1=z.S.q 1∧S.q 2=z.S.q 2∧mlE S.th z.S.th n (ai t=ai t∧mcE S.th z.S.th n (cE c z.K.c (RpI n t z∧
 (∀y:bg×RM×Bool,y.1=z.K.c∧y.2.1=dh z.K n t z.S∧y.2.2=gu z.K n z.S t→a y)∧True)))
theorem oy{t:Nat}(K:MK){S:RM}{a:bg×RM×Bool→Prop}(b:RpI n t ⟨K,S⟩)(h:a (K.c,dh K n t S,gu K n S t)):p9 n t K.c S a:=⟨⟨K,S⟩,rfl,rfl,rfl,rfl,rfl,jD _ ⟨rfl,jy _ (fY _ ⟨b,fun y d=>by
 grind,trivial⟩) _⟩ _⟩
def Aj(t:Nat)(c:bg)(S:RM)(Q:RrS→Prop):Prop:=∃z:RrS,S.w=z.S.w∧S.o=z.S.o∧ai t=ai t∧S.q 0=z.S.q 0∧S.q 1=z.S.q 1∧S.q 2=z.S.q 2∧moE S.th z.S.th n (cE c s.K.c ((rrL P n s t).I z∧Q z))
theorem qZ{t:Nat}{S:RM}{Q:RrS→Prop}(r:Nat)(h:(rrL P n s t).I ⟨S,r⟩∧Q ⟨S,r⟩):Aj P n s t s.K.c S Q:=⟨⟨S,r⟩,rfl,rfl,rfl,rfl,rfl,rfl,j1 _ (fY _ h) _⟩
def oF(t:Nat)(y:RrS):Prop:=bif Nat.blt (t+1) n then Aj P n s (t+1) s.K.c y.S (fun z=>(rrL P n s (t+1)).m z<(rrL P n s t).m y∧True)else roL n s.K.c y.S fun r=>r.1=s.K.c∧r.2=mA s.K n n s.S
def L5(t:Nat)(y:RrS):Prop:=p9 n t s.K.c y.S fun r=>Aj P n s t r.1 r.2.1 fun z=>(rrL P n s t).m z<(rrL P n s t).m y∧True
def rrV(t:Nat):Prop:=∀y:RrS,(rrL P n s t).I y→rcD.pre (de s.K.c n y.S,(t:Int),())∧(ik (de s.K.c n y.S) t=true→
 ((!(y.S.th t).wants)=true→ifB (y.S.th t).fuel 0 (L5 P n s t y) (bnN t s.K.c.progs.length (((0:Int)≤(y.S.th t).at_∧(y.S.th t).at_<((at3 s.K.c.progs t).length:Int))∧
   (((at2 (at3 s.K.c.progs t) (y.S.th t).at_).op !=13)=true→L5 P n s t y)∧(((at2 (at3 s.K.c.progs t) (y.S.th t).at_).op !=13)=false→oF P n s t y))))∧
 ((!(y.S.th t).wants)=false→oF P n s t y))∧(ik (de s.K.c n y.S) t=false→oF P n s t y)
def Dh:Nat→Nat→Prop
 |0,_=>Aj P n s 0 s.K.c s.S fun _=>True
 |k+1,t=>rrV P n s t∧Dh k (t+1)
end
end Go.Proofs.Y
namespace Go.Proofs.Y
open Go.RowKit Go.Am Go.Sy
set_option maxRecDepth 100000
theorem TM(P:MK→RM→Prop)(s:RpS)(h:SH cod):Go.Sy.Tree.holds (vcC (rrC P 1 s) (rrD P 1) s h)=Dh P 1 s 1 0:=by kernel_rfl
theorem R1(P:MK→RM→Prop)(s:RpS)(h:SH cod):Go.Sy.Tree.holds (vcC (rrC P 2 s) (rrD P 2) s h)=Dh P 2 s 2 0:=by kernel_rfl
theorem SP(P:MK→RM→Prop)(s:RpS)(h:SH cod):Go.Sy.Tree.holds (vcC (rrC P 3 s) (rrD P 3) s h)=Dh P 3 s 3 0:=by kernel_rfl
theorem An{n:Nat}(h1:1≤n)(e:n≤3):bi F.S 26 (H9 n):=by
 intro E lo b args h H K av a c d;unfold H9 at a;split at a
 ·rename_i p t;cases hb:Nat.blt t n with
  |false=>rw[hb]at a;exact qw a
  |true=>
   rw[hb]at a;rw[Nat.blt_eq]at hb;exact GE n t h1 e hb E lo b _ h H K av a c d
 ·exact qw a
theorem RT{n:Nat}(h1:1≤n)(a:n≤3):cv F.S (bf (x4 n)):=bW fun p h=>by
 simp only[x4,List.mem_cons,List.not_mem_nil,or_false]at h;rcases h with rfl|rfl
 ·exact Js
 ·exact An h1 a
structure Jj(P:MK→RM→Prop)(n:Nat):Prop where
 can:∀{K S},P K S→∀t:Int,FP (de K.c n S) t
 pk:∀{K S t},P K S→t<n→RpI n t ⟨K,S⟩
 next:∀{K S t},P K S→t<n→P K (dh K n t S)
 less:∀{K S t},P K S→t<n→gu K n S t=true→mR ((dh K n t S).th t)<mR (S.th t)
 most:∀{K S t},P K S→t<n→mR (S.th t)≤2002
section
variable {P:MK→RM→Prop}{n:Nat}(hP:Jj P n)(s:RpS)
include hP
theorem De{t:Nat}{y:RrS}(c:t<n)(h:P s.K y.S)(a:y.S=mA s.K n (t+1) s.S):oF P n s t y:=by
 unfold oF;cases hb:Nat.blt (t+1) n with
 |true=>
  rw[Nat.blt_eq]at hb;refine qZ P n s 2005 ⟨⟨h, ?_, ?_⟩, ?_,trivial⟩
  ·rw[a];rfl
  ·have:=hP.most h hb;grind
  ·show 3000*(n-(t+1))+2005<3000*(n-t)+y.r;omega
 |false=>
  have b:t+1=n:=by
   have:¬t+1<n:=fun x=>by rw[← Nat.blt_eq,hb]at x;cases x
   omega
  exact DK ⟨rfl,by rw[a,b]⟩
theorem Me{t:Nat}(a:t<n):rrV P n s t:=by
 rintro⟨S,r⟩ ⟨h,b,f⟩;have f:mR (S.th t)<r:=f;obtain⟨r,rfl⟩:∃q,r=q+1:=⟨r-1,by omega⟩
 have u:=uC (K:=s.K) (S:=S) a;have out:rgQ s.K n S t=false→oF P n s t ⟨S,r+1⟩:=fun l=>De hP s a h (by
  rw[mG,if_neg (by grind)]at b
  exact b)
 have g:rgQ s.K n S t=true→gu s.K n S t=true→L5 P n s t ⟨S,r+1⟩:=fun m hc=>oy n s.K (hP.pk h a) (by
  have hl:mR ((dh s.K n t S).th t)<mR (S.th t):=hP.less h a hc;refine qZ P n s r ⟨⟨hP.next h a, ?_, ?_⟩, ?_,trivial⟩
  ·rw[mG,if_pos m]at b;exact b
  ·grind
  ·show 3000*(n-t)+r<3000*(n-t)+(r+1);omega)
 refine⟨hP.can h t,fun hc=>?_,fun hc=>out ?_⟩
 rotate_left
 ·show(_ && _)=false;grind
 have hc:gu s.K n S t=true:=by grind
 refine⟨fun o=>⟨fun l=>g ?_ hc,fun l=>?_⟩,fun o=>out ?_⟩
 ·show(_ && (_ && _))=true;grind
 ·obtain⟨_,v⟩:=vp hc;have j:=hP.can h t;have hl:(de s.K.c n S).man.length=n:=eG _ _;have d:dl (de s.K.c n S).man (t:Int)=S.th t:=pH a;have e:=j.pl (by omega) (by grind)
  obtain⟨k,_⟩:=j.at_ (by omega) (by grind) (by grind)
  rw[d]at k;refine⟨⟨by omega,e⟩,k,fun p=>g ?_ hc,fun p=>out ?_⟩
  ·show(_ && (_ && (_||_)))=true;grind
  ·show(_ && (_ && (_||_)))=false;grind
 ·show(_ && (_ && _))=false;grind
theorem Aa(h:P s.K s.S)(h1:1≤n):∀k t,k+t=n→Dh P n s k t
 |0,t,_=>qZ P n s 2005 ⟨⟨h,rfl,by have:=hP.most h h1;grind⟩,trivial⟩
 |k+1,t,e=>⟨Me hP s (by omega),Aa h h1 k (t+1) (by omega)⟩
end
noncomputable def rrZ(P:MK→RM→Prop)(n:Nat):Ctr cod:=dD vr (fun _ _=>none) (pb (rrD P n))
theorem Tc(P:MK→RM→Prop)(n:Nat):ou (rrD P n) where
 len:=fun s h _=>ke s.K.c n s.S
 ahead:=fun s h j _ _ a=>by cases a
 behind:=fun B b s h j _ _ a=>by cases a
theorem Fs{P:MK→RM→Prop}{n:Nat}(hP:Jj P n)(h1:1≤n)(c:n≤3)(d:∀s h,Go.Sy.Tree.holds (vcC (rrC P n s) (rrD P n) s h)=Dh P n s n 0):bi F.S 25 (rrZ P n):=
 cR bE _ _ (c7 bE _ _ (Tc P n) fun s b h hl a=>⟨rrC P n s,cR bE _ _ (dc (body:=b25) bE noExt bC (RT h1 c) Tryz.func25 rfl (by kernel_rfl) (by kernel_rfl) 2000 _ Bx (by kernel_rfl)),⟨by
  exact(d s h).mpr (Aa hP s b h1 n 0 rfl)⟩⟩)
theorem Lf{P:MK→RM→Prop}:∀{n:Nat},Jj P n→1≤n→n≤3→bi F.S 25 (rrZ P n)
 |1,hP,a,b=>Fs hP a b (TM P)
 |2,hP,a,b=>Fs hP a b (R1 P)
 |3,hP,a,b=>Fs hP a b (SP P)
end Go.Proofs.Y
namespace Go.Proofs.Y
open Go.RowKit Go.Am Go.Sy
def Nz(f:Nat→Man)(nm:Nat→Nat):Nat→List V
 |0=>[]
 |k+1=>Nz f nm k++rmC (f k) (nm k)
def Eb(c:bg)(n:Nat):Ob:=.cells (enc4 c++[.sl 11 (10+5*n) 0 n n false,.R (8+n),.R (9+n),.sl 1 (19+5*n) 0 3 3 false])
def OY(n:Nat)(S:RM)(a:Nat→Nat):Nat→SH cod
 |0=>[]
 |k+1=>OY n S a k++[none,some (.rows 0 (S.th k).has false (a k)),none,bif Nat.beq (k+1) n then some (.cells (Nz S.th (fun k=>12+n+4*k) n))else none]
def cpO(n:Nat)(S:RM)(a:Option Ob)(r b:Nat→Nat):SH cod:=
 [some (.rows 0 S.w false (r 0)),some (.rows 0 S.o false (r 1)),a]++OY n S b n++[some (.rows 0 (S.q 0) false (r 2)),none,none,some (.rows 0 (S.q 1) false (r 3)),none,none,some (.rows 0 (S.q 2) false (r 4)),none,some (.cells [.R (11+5*n),.R (14+5*n),.R (17+5*n)])]
def cpR(n k:Nat):Nat:=bif Nat.blt k 2 then 8+n+k else 11+5*n+3*(k-2)
def cpH(n k:Nat):Nat:=12+n+4*k
def inR(k:Nat):Nat:=bif Nat.blt k 2 then k+1 else k+3
def Tv(c:bg)(n:Nat)(S:RM):SH cod:=[some (Eb c n)]++List.replicate (7+n) none++cpO n S none inR (8+ ·)
def Gg(h:SH cod)(k r:Nat):Bool:=match bF h k with
 |some (.rows _ _ _ a)=>Nat.beq a r
 |_=>false
def Ts(h:SH cod)(r:Nat):Option Nat:=match bF h 0 with
 |some (.cells cs)=>match (cs.drop 12:List V)with
  | [.sl _ T _ _ _ _,.R w,.R o,.sl _ Q _ _ _ _]=>bif Gg h w r then some 1 else bif Gg h o r then some 2 else match bF h T,bF h Q with
   |some (.cells a),some (.cells qs)=>xG h r (gX qs++gX a) 5
   |_,_=>none
  |_=>none
 |_=>none
structure QcS where
 S:RM
 r:Nat
 b:Bool
section
variable (P:MK→RM→Prop)(n t:Nat)
def qcL(s:RpS):LpD cod:=⟨8+n,QcS,fun z=>P s.K z.S∧se s.K n t z.r z.b z.S=iH s.K n t s.S∧mR (z.S.th t)<z.r,fun z=>z.r,fun z=>[(0,.ptr 0 0),(1,li t),(5,.ptr (10+n) 0),(6,.b z.b)],
 fun z=>qG s.K.c n s.S++cpO n z.S (some (Eb s.K.c n)) (cpR n) (cpH n)⟩
def OU(sv:V)(h:SH cod):Nat:=match sv with
 | .a (.bool true)=>1
 |_=>0
def qcD:FrD cod:=⟨8+n,fun _=>true,RpS,fun s=>P s.K s.S,fun s=>[.ptr 0 0,li t],fun s _=>qG s.K.c n s.S,
 [⟨bg×RM,fun s r=>r.1=s.K.c∧r.2=s.S∧iH s.K n t s.S=none,fun r=>.a (.bool false),fun r _=>qG r.1 n r.2⟩,⟨bg×RM,fun s r=>r.1=s.K.c∧iH s.K n t s.S=some r.2,fun r=>.a (.bool true),fun r _=>Tv r.1 n r.2⟩],OU⟩
noncomputable def NZ:Code:=Tryz.f23.body.getD .skip
noncomputable def x5:List (FuncId×Ctr cod):=[(26,H9 n),(60,bB haD)]
noncomputable def qcC(s:RpS):Ctr cod:=dD vr Ts (iy F (bf (x5 n)) 2000 Tryz.f23 NZ (fun _ _=>[(5,qcL P n t s)]) (fun _ _=>0))
end
section
variable (P:MK→RM→Prop)(n t:Nat)(s:RpS)
def wc(c:bg)(S:RM)(b:Bool)(Q:QcS→Prop):Prop:=∃z:QcS,s.S.w=s.S.w∧s.S.o=s.S.o∧s.S.q 0=s.S.q 0∧s.S.q 1=s.S.q 1∧s.S.q 2=s.S.q 2∧mlE s.S.th s.S.th n (ai t=ai t∧cE c s.K.c (moE S.th z.S.th n (S.w=z.S.w∧S.o=z.S.o∧S.q 0=z.S.q 0∧S.q 1=z.S.q 1∧S.q 2=z.S.q 2∧
 b=z.b∧mcE s.S.th s.S.th n (cE s.K.c s.K.c ((qcL P n t s).I z∧Q z)))))
theorem xU{S:RM}{b:Bool}{Q:QcS→Prop}(r:Nat)(h:(qcL P n t s).I ⟨S,r,b⟩∧Q ⟨S,r,b⟩):wc P n t s s.K.c S b Q:=
 ⟨⟨S,r,b⟩,rfl,rfl,rfl,rfl,rfl,jD _ ⟨rfl,fY _ (j1 _ ⟨rfl,rfl,rfl,rfl,rfl,rfl,jy _ (fY _ h) _⟩ _)⟩ _⟩
def qcT(c:bg)(S:RM):Prop:=∃r:bg×RM,bc.bool true=bc.bool true∧cE c r.1 (moE S.th r.2.th n (S.w=r.2.w∧S.o=r.2.o∧S.q 0=r.2.q 0∧S.q 1=r.2.q 1∧S.q 2=r.2.q 2∧(r.1=s.K.c∧iH s.K n t s.S=some r.2)∧True))
theorem K5{S:RM}(h:iH s.K n t s.S=some S):qcT n t s s.K.c S:=⟨(s.K.c,S),rfl,fY _ (j1 _ ⟨rfl,rfl,rfl,rfl,rfl,⟨rfl,h⟩,trivial⟩ _)⟩
def qcF:Prop:=∃r:bg×RM,s.S.w=r.2.w∧s.S.o=r.2.o∧s.S.q 0=r.2.q 0∧s.S.q 1=r.2.q 1∧s.S.q 2=r.2.q 2∧mlE s.S.th r.2.th n (bc.bool false=bc.bool false∧mcE s.S.th r.2.th n (cE s.K.c r.1 ((r.1=s.K.c∧r.2=s.S∧iH s.K n t s.S=none)∧True)))
theorem Gx(h:iH s.K n t s.S=none):qcF n t s:=⟨(s.K.c,s.S),rfl,rfl,rfl,rfl,rfl,jD _ ⟨rfl,jy _ (fY _ ⟨⟨rfl,rfl,h⟩,trivial⟩) _⟩ _⟩
def qcB(y:QcS)(r:bg×RM×Bool):Prop:=(y.b=true→wc P n t s r.1 r.2.1 true fun z=>(qcL P n t s).m z<(qcL P n t s).m y∧True)∧
 (y.b=false→haD.pre (r.2.1.th t,())∧wc P n t s r.1 r.2.1 (cA (r.2.1.th t).has) fun z=>(qcL P n t s).m z<(qcL P n t s).m y∧True)
def qcV:Prop:=∀y:QcS,(qcL P n t s).I y→p9 n t s.K.c y.S fun r=>(r.2.2=true→(y.b=true→(((r.2.1.th t).status !=0)=true→qcT n t s r.1 r.2.1)∧(((r.2.1.th t).status !=0)=false→haD.pre (r.2.1.th t,())∧
 ((!cA (r.2.1.th t).has)=true→qcT n t s r.1 r.2.1)∧((!cA (r.2.1.th t).has)=false→qcB P n t s y r)))∧(y.b=false→qcB P n t s y r))∧(r.2.2=false→qcF n t s)
def KH(f:Nat→Man):Nat→Prop→Prop
 |0,P=>P
 |k+1,P=>KH f k ((f k).has.length*8≤140737488355328∧P)
theorem Bo{f:Nat→Man}{P:Prop}(h:P):∀n,(∀k,k<n→(f k).has.length≤1000)→KH f n P
 |0,_=>h
 |n+1,hl=>by
  exact Bo ⟨by grind,h⟩ n fun k a=>hl k (by omega)
def qcP:Prop:=qcV P n t s∧s.S.w.length*8≤140737488355328∧s.S.o.length*8≤140737488355328∧KH s.S.th n ((s.S.q 0).length*8≤140737488355328∧(s.S.q 1).length*8≤140737488355328∧(s.S.q 2).length*8≤140737488355328∧haD.pre (s.S.th t,())∧
 (cA (s.S.th t).has=true→qcF n t s)∧(cA (s.S.th t).has=false→wc P n t s s.K.c s.S false fun _=>True))
end
end Go.Proofs.Y
namespace Go.Proofs.Y
open Go.RowKit Go.Am Go.Sy
set_option maxRecDepth 100000
theorem Pr(P:MK→RM→Prop)(s:RpS)(h:SH cod):Go.Sy.Tree.holds (vcC (qcC P 1 0 s) (qcD P 1 0) s h)=qcP P 1 0 s:=by kernel_rfl
theorem P9(P:MK→RM→Prop)(s:RpS)(h:SH cod):Go.Sy.Tree.holds (vcC (qcC P 2 0 s) (qcD P 2 0) s h)=qcP P 2 0 s:=by kernel_rfl
theorem Pq(P:MK→RM→Prop)(s:RpS)(h:SH cod):Go.Sy.Tree.holds (vcC (qcC P 2 1 s) (qcD P 2 1) s h)=qcP P 2 1 s:=by kernel_rfl
theorem NV(P:MK→RM→Prop)(s:RpS)(h:SH cod):Go.Sy.Tree.holds (vcC (qcC P 3 0 s) (qcD P 3 0) s h)=qcP P 3 0 s:=by kernel_rfl
theorem ON(P:MK→RM→Prop)(s:RpS)(h:SH cod):Go.Sy.Tree.holds (vcC (qcC P 3 1 s) (qcD P 3 1) s h)=qcP P 3 1 s:=by kernel_rfl
theorem Pu(P:MK→RM→Prop)(s:RpS)(h:SH cod):Go.Sy.Tree.holds (vcC (qcC P 3 2 s) (qcD P 3 2) s h)=qcP P 3 2 s:=by kernel_rfl
theorem Q2{n:Nat}(h1:1≤n)(a:n≤3):cv F.S (bf (x5 n)):=bW fun p h=>by
 simp only[x5,List.mem_cons,List.not_mem_nil,or_false]at h;rcases h with rfl|rfl
 ·exact An h1 a
 ·exact LR
structure Jr(P:MK→RM→Prop)(n:Nat):Prop extends Jj P n where
 has:∀{K S t},P K S→t<n→(S.th t).has.length=3
 wl:∀{K S},P K S→S.w.length≤1000∧S.o.length≤1000
 ql:∀{K S c},P K S→c<3→(S.q c).length≤1000
section
variable {P:MK→RM→Prop}{n:Nat}(hP:Jr P n)(s:RpS){t:Nat}
include hP
theorem KI(a:t<n):qcV P n t s:=by
 rintro⟨S,r,b⟩ ⟨h,p,g⟩;have g:mR (S.th t)<r:=g;obtain⟨r,rfl⟩:∃v,r=v+1:=⟨r-1,by omega⟩
 refine oy n s.K (hP.pk h a) ?_;rw[se]at p;refine⟨fun hc=>?_,fun hc=>Gx n t s (by grind)⟩
 have hl:mR ((dh s.K n t S).th t)<mR (S.th t):=hP.less h a hc;have j:=hP.next h a;have k:((dh s.K n t S).th t).has.length≤1000:=by rw[hP.has j a];decide
 have cut:∀d,se s.K n t r d (dh s.K n t S)=iH s.K n t s.S→wc P n t s s.K.c (dh s.K n t S) d fun z=>(qcL P n t s).m z<r+1∧True:=fun d e=>xU P n t s r ⟨⟨j,e,by grind⟩,by show r<r+1;omega,trivial⟩
 have l:¬(b=true∧(((dh s.K n t S).th t).status≠0∨cA ((dh s.K n t S).th t).has=false))→qcB P n t s ⟨S,r+1,b⟩ (s.K.c,dh s.K n t S,gu s.K n S t):=fun w=>by
  refine⟨fun e=>cut true ?_,fun e=>⟨k,cut _ ?_⟩⟩
  all_goals grind
 have o:b=true∧(((dh s.K n t S).th t).status≠0∨cA ((dh s.K n t S).th t).has=false)→qcT n t s s.K.c (dh s.K n t S):=fun x=>K5 n t s (by grind)
 refine⟨fun f=>⟨fun q=>o ⟨f,.inl (by grind)⟩,fun q=>⟨k,fun u=>o ⟨f,.inr (by grind)⟩,fun u=>l ?_⟩⟩,fun f=>l ?_⟩
 all_goals grind
theorem LG(a:t<n)(h:P s.K s.S):qcP P n t s:=by
 obtain⟨l,m⟩:=hP.wl h;have b:=hP.ql h (c:=0) (by decide)
 have d:=hP.ql h (c:=1) (by decide)
 have f:=hP.ql h (c:=2) (by decide)
 have j:=hP.most h a;refine⟨KI hP s a,by omega,by omega,Bo ⟨by omega,by omega,by omega,by show(s.S.th t).has.length≤1000;rw[hP.has h a];decide,fun e=>Gx n t s ?_,fun e=>xU P n t s 2010 ⟨⟨h, ?_, ?_⟩,trivial⟩⟩ n fun k g=>by rw[hP.has h g];decide⟩
 ·rw[iH,if_pos e]
 ·rw[iH,if_neg (by grind)]
 grind
end
noncomputable def qcZ(P:MK→RM→Prop)(n t:Nat):Ctr cod:=dD vr (fun _ _=>none) (pb (qcD P n t))
theorem S8(P:MK→RM→Prop)(n t:Nat):ou (qcD P n t) where
 len:=fun s h _=>ke s.K.c n s.S
 ahead:=fun s h j _ _ a=>by cases a
 behind:=fun B b s h j _ _ a=>by cases a
theorem tf{P:MK→RM→Prop}{n t:Nat}(hP:Jr P n)(h1:1≤n)(c:n≤3)(d:t<n)(e:∀s h,Go.Sy.Tree.holds (vcC (qcC P n t s) (qcD P n t) s h)=qcP P n t s):bi F.S 23 (qcZ P n t):=
 cR bE _ _ (c7 bE _ _ (S8 P n t) fun s b h hl a=>⟨qcC P n t s,cR bE _ _ (dc (body:=NZ) bE noExt bC (Q2 h1 c) Tryz.func23 rfl (by kernel_rfl) (by kernel_rfl) 2000 _ _ (by kernel_rfl)),⟨by
  exact(e s h).mpr (LG hP s d b)⟩⟩)
theorem Li{P:MK→RM→Prop}:∀{n t:Nat},Jr P n→1≤n→n≤3→t<n→bi F.S 23 (qcZ P n t)
 |1,0,hP,a,b,c=>tf hP a b c (Pr P)
 |2,0,hP,a,b,c=>tf hP a b c (P9 P)
 |2,1,hP,a,b,c=>tf hP a b c (Pq P)
 |3,0,hP,a,b,c=>tf hP a b c (NV P)
 |3,1,hP,a,b,c=>tf hP a b c (ON P)
 |3,2,hP,a,b,c=>tf hP a b c (Pu P)
end Go.Proofs.Y
namespace Go.Proofs.Y
open Go.RowKit Go.Am Go.Sy
theorem qx(S:MT)(c:Nat):∀k,(d4 S c k).w=S.w
 |0=>rfl
 |k+1=>by
  show(go (d4 S c k) c).w=_;rw[← qx S c k];unfold go;split<;>rfl
theorem JR(K:MK)(S:MT)(t:Nat)(x:Instr):(im K S t x).w.length=S.w.length:=by
 unfold im;grind
theorem G0(K:MK)(t:Nat)(S:MT)(x:Instr):(bQ K t S x).w.length=S.w.length:=by
 unfold bQ
 by_cases h:bG x.op=true
 ·rw[if_pos h];rfl
 rw[if_neg h]
 by_cases h:x.op=8∨x.op=9∨x.op=10∨x.op=11
 ·rw[if_pos h];cases ea K S t x with
  |true=>rfl
  |false=>exact JR K S t x
 rw[if_neg h]
 by_cases h:x.op=12
 ·rw[if_pos h];rfl
 rw[if_neg h]
 by_cases h:x.op=13
 ·rw[if_pos h];rfl
 rw[if_neg h]
 by_cases h:x.op=14
 ·rw[if_pos h];rfl
 rw[if_neg h]
 by_cases h:x.op=15
 ·rw[if_pos h];rfl
 rw[if_neg h]
 by_cases h:x.op=16
 ·rw[if_pos h];exact congrArg List.length (qx S _ 1)
 rw[if_neg h]
 by_cases h:x.op=17
 ·rw[if_pos h];exact congrArg List.length (qx S _ _)
 rw[if_neg h];rfl
theorem jd(K:MK)(n t:Nat)(S:MT):(bZ K n t S).w.length=S.w.length:=by
 unfold bZ
 by_cases h:cj (bw K n S) t=true
 ·rw[if_pos h,(fZ K t _).2.2.1];unfold goM
  by_cases h:(S.th t).awake≥0
  ·rw[if_pos h];rfl
  rw[if_neg h]
  by_cases h:(S.th t).fuel=0
  ·rw[if_pos h];rfl
  rw[if_neg h];exact G0 K t _ _
 grind
def PH(n:Nat)(K:MK)(S:MT):Prop:=(KOk K n∧su K.c.locks)∧S.w.length≤1000∧∃a,bY K n a S
theorem PH.run{n:Nat}{K:MK}{S:MT}(h:PH n K S):Nx n K S:=⟨h.1.1,h.2.2⟩
theorem NL{K:MK}{n:Nat}{a:Nat→Nat}{S:MT}(e:KOk K n)(d:bY K n a S){c:Nat}(hc:c<3):(S.q c).length≤3∧∀u∈S.q c,0≤u∧u<(n:Int):=by
 have b:∀u∈S.q c,0≤u∧u<(n:Int):=fun u hu=>by
  obtain⟨v,q1,q2,_⟩:=d.q c hc u hu;omega
 exact⟨tX e.n3 (d.nod c hc) b,b⟩
theorem sm(n:Nat):H4 (PH n) n where
 can:=fun h=>(sc n).can h.run
 pk:=fun h b=>(sc n).pk h.run b
 next:=fun {K S t} h b=>⟨h.1,by rw[jd];exact h.2.1,((sc n).next h.run b).2⟩
 less:=fun h b hc=>(sc n).less h.run b hc
 most:=fun h b=>(sc n).most h.run b
 wl:=fun {K S} h=>by
  obtain⟨_,f,a,d⟩:=h;exact⟨f,by rw[d.own];exact f⟩
 ql:=fun {K S c} h hc=>by
  obtain⟨⟨e,_⟩,_,a,d⟩:=h;have:=(NL e d hc).1;omega
 tl:=fun {K S t} h b=>by
  obtain⟨⟨e,_⟩,_,a,d⟩:=h;have h1:=qV (jt e d b);have g:=(d.th t b).log;have j:=(d.th t b).fu;omega
def PR(n:Nat)(K:MK)(T:RM):Prop:=∃S,PH n K S∧Both K n S T
theorem AS{f:Nat→Man}:∀{n:Nat} {y:Man},y∈nR f n→∃u,u<n∧y=f u
 |0,y,h=>by cases h
 |n+1,y,h=>by
  rw[nR,List.mem_append,qt]at h;rcases h with h|h
  ·obtain⟨u,h1,b⟩:=AS h;grind
  grind
section
variable {K:MK}{n:Nat}{a:Nat→Nat}{S:MT}{T:RM}
theorem K4(b:KOk K n){t:Nat}(d:t<n){i:Nat}(f:i<(at3 K.c.progs t).length)(j:(at2 (at3 K.c.progs t) i).op=16∨(at2 (at3 K.c.progs t) i).op=17):0≤(at2 (at3 K.c.progs t) i).a∧(at2 (at3 K.c.progs t) i).a<3:=by
 obtain⟨w,l,hc,_⟩:=(b.gd t d).chk i f;have g:=mC ((b.gd t d).may i f) (k:=3) (by rcases j with e|e<;>rw[e]<;>rfl) (by decide)
 unfold cL at hc;unfold fa at hc;have h:K.c.conds.length=3:=by rw[b.conf.conds];rfl
 grind
theorem pQ(e:KOk K n)(C:bY K n a S)(w:Both K n S T)(x:Int):FP (de K.c n T) x:=by
 have hl:(de K.c n T).man.length=n:=eG _ _;have D:=e.n3;have z:K.c.conds.length=3:=by rw[e.conf.conds];rfl
 have l:∀y∈(de K.c n T).man,y.has.length=3:=fun y l=>by
  obtain⟨u,h1,rfl⟩:=AS l;exact(w.th u h1).hl
 have at_:∀t:Nat,t<n→dl (de K.c n T).man (t:Int)=T.th t:=fun t d=>pH d
 refine⟨by omega,fun k h1=>?_,fun k h1 f=>?_,fun k h1 f s=>?_,fun k h1 f v=>?_⟩
 ·show x<(K.c.progs.length:Int);rw[e.pl];omega
 all_goals
  obtain⟨t,rfl⟩:=Int.eq_ofNat_of_zero_le k;have d:t<n:=by grind
  have g:=w.th t d;have j:=C.th t d;have p:=e.gd t d;have q:=p.len;rw[at_ t d]at f ⊢;rw[g.status]at f;have m:=j.run f;rw[g.at_,j.at_]
 ·show(0≤(a t:Int)∧(a t:Int)<((at3 K.c.progs t).length:Int))∧(at3 K.c.progs t).length≤1000;omega
 ·rw[at_ t d,g.wants]at s;obtain⟨b,e1,e2,_⟩:=j.wait (.inl (qb s));have o:=(iC e d (b:=b) (by omega) e2).1
  have A:((a t:Nat):Int)-1=(b:Int):=by omega
  rw[A];show 1≤((a t:Nat):Int)∧(0≤(at2 (at3 K.c.progs t) b).a∧(at2 (at3 K.c.progs t) b).a<(K.c.conds.length:Int))∧∀y∈(de K.c n T).man,0≤at0 K.c.conds (at2 (at3 K.c.progs t) b).a∧at0 K.c.conds (at2 (at3 K.c.progs t) b).a<(y.has.length:Int);rw[j8 e.conf o];grind
 ·rw[at_ t d,g.at_,j.at_]at v;have B:=(kf e.conf p m v).1;exact fun y h=>by rw[l y h];exact B
theorem KW(g:KOk K n)(hk:su K.c.locks)(hw:S.w.length≤1000)(P:bY K n a S)(G:Both K n S T){t:Nat}(y:t<n)(hs:(S.th t).status=0)(H:bG (nV ⟨K,T⟩ t).op=false):
 DuI n t ⟨K,eb ⟨K,T⟩ t,nV ⟨K,T⟩ t⟩:=by
 have A:=G.th t y;have B:=P.th t y;have z:=g.gd t y;have f:=B.run hs;have Q:=z.len;have U:nV ⟨K,T⟩ t=at2 (at3 K.c.progs t) (a t):=by show at2 (at3 K.c.progs t) (T.th t).at_=_;rw[A.at_,B.at_]
 rw[U]at H ⊢;have I:=z.may (a t) f;have hb:8≤(at2 (at3 K.c.progs t) (a t)).op∧(at2 (at3 K.c.progs t) (a t)).op≤17:=by
  simp only[bX,qi,decide_eq_true_eq]at I;simp only[bG,Bool.or_eq_false_iff,Bool.and_eq_false_iff,decide_eq_false_iff_not]at H;omega
 have p:(at2 (at3 K.c.progs t) (a t)).op=13∨15≤(at2 (at3 K.c.progs t) (a t)).op→0≤(at2 (at3 K.c.progs t) (a t)).a∧(at2 (at3 K.c.progs t) (a t)).a<3:=fun h=>by
  by_cases e:(at2 (at3 K.c.progs t) (a t)).op=13
  ·exact(kf g.conf z f e).1
  ·by_cases e2:(at2 (at3 K.c.progs t) (a t)).op=15
   ·exact(iC g y f e2).1
   ·exact K4 g y f (by omega)
 have l:(eb ⟨K,T⟩ t).th t=fuR (T.th t) (IntKind.i64.wrap ((T.th t).fuel-1)):=kL _ _ _;have J:((eb ⟨K,T⟩ t).th t).at_=(a t:Int):=by rw[l];show(T.th t).at_=_;rw[A.at_,B.at_]
 have m:((eb ⟨K,T⟩ t).th t).has.length=3:=by rw[l];exact A.hl
 have s:((eb ⟨K,T⟩ t).th t).mate=(bA (at3 K.c.progs t)).1:=by rw[l];show(T.th t).mate=_;rw[A.mate,g.mt t y]
 have W:∀c,c<3→(T.q c).length≤1000∧∀u∈T.q c,0≤u∧u<(n:Int):=fun c hc=>by
  rw[G.q c hc];have:=NL g P hc;grind
 generalize hx:at2 (at3 K.c.progs t) (a t)=x at*;have key:∀op:Nat,x.op=(op:Int)→∀k:Nat,(15≤op→x.a=(k:Int))→DoI n t op k ⟨K,eb ⟨K,T⟩ t,x⟩:=fun op d k v=>{
  op_:=d
  ops:=by omega
  a_:=v
  wd:=fun aa=>⟨Kz I (by have:op=8∨op=9∨op=10∨op=11:=by omega
                        rcases this with e|e|e|e<;>rw[d,e]<;>rfl),fun N=>mC I (k:=1) (by rcases N with e|e<;>(rw[e];rfl)) (by decide),by grind,
   by show T.o.length=T.w.length;rw[G.o,G.w];exact P.own,⟨hk,by show K.c.locks.length≤3;have:=g.conf.locks;omega⟩,by show T.w.length≤1000;rw[G.w];exact hw,by rw[y0];exact m⟩
  at_:=by grind
  has:=m
  told:=by
   rw[l];show(T.th t).told.length≤1000;rw[A.told];have h1:=B.log;have R:=B.fu;omega
  a4:=fun O=>mC I (k:=1) (by rw[d,O];rfl) (by decide)
  a3:=fun h=>p (by omega)
  lv:=fun ab=>by
   obtain⟨j,Y,k2,Z⟩:=z.jmp.lv _ f (show(at2 (at3 K.c.progs t) (a t)).op=14 by grind)
   have C:dK (at3 K.c.progs t) (a t)=dK (at3 K.c.progs t) (a t+1)++[⟨(at2 (at3 K.c.progs t) j).a,(at2 (at3 K.c.progs t) j).b==1⟩]:=by
    rw[dK,Z,List.map_append];rfl
   have D:=oc g.conf z (show a t≤(at3 K.c.progs t).length from by omega)
   rw[C]at D;have L:=D.in3 _ (List.mem_append_right _ (List.mem_singleton.2 rfl));show t<K.c.progs.length∧((eb ⟨K,T⟩ t).th t).at_<(((eb ⟨K,T⟩ t).th t).mate.length:Int)∧(0≤at0 ((eb ⟨K,T⟩ t).th t).mate ((eb ⟨K,T⟩ t).th t).at_∧at0 ((eb ⟨K,T⟩ t).th t).mate ((eb ⟨K,T⟩ t).th t).at_<((at3 K.c.progs t).length:Int))∧
    0≤(at2 (at3 K.c.progs t) (at0 ((eb ⟨K,T⟩ t).th t).mate ((eb ⟨K,T⟩ t).th t).at_)).a∧(at2 (at3 K.c.progs t) (at0 ((eb ⟨K,T⟩ t).th t).mate ((eb ⟨K,T⟩ t).th t).at_)).a<3
   rw[s,J,Y,z.jmp.len];exact⟨by rw[g.pl];exact y,by omega,⟨by omega,by omega⟩,L⟩
  wt:=fun E=>by
   have M:=p (.inr (by omega))
   have X:K.c.conds.length=3:=by rw[g.conf.conds];rfl
   rw[j8 g.conf M];grind
  q:=W }
 obtain⟨op,d⟩:=Int.eq_ofNat_of_zero_le (show 0≤x.op by omega)
 by_cases E:15≤op
 ·have M:=p (.inr (by omega))
  obtain⟨k,v⟩:=Int.eq_ofNat_of_zero_le M.1;refine⟨(op,k), ?_,key op d k fun _=>v⟩
  have h1:op=15∨op=16∨op=17:=by omega
  have R:k=0∨k=1∨k=2:=by omega
  rcases h1 with rfl|rfl|rfl<;>rcases R with rfl|rfl|rfl<;>decide
 ·refine⟨(op,0), ?_,key op d 0 fun h=>absurd h E⟩
  have h1:op=8∨op=9∨op=10∨op=11∨op=12∨op=13∨op=14:=by omega
  rcases h1 with rfl|rfl|rfl|rfl|rfl|rfl|rfl<;>decide
theorem EU{t:Nat}(c:Both K n S T)(d:t<n):mR (T.th t)=mF (S.th t):=by
 have b:=c.th t d;unfold mR mF;rw[b.status,b.fuel,b.wants]
 grind
end
theorem Mg(n:Nat):Jr (PR n) n where
 can:=fun {K T} h t=>by
  obtain⟨S,⟨⟨e,j⟩,k,a,f⟩,b⟩:=h;exact pQ e f b t
 pk:=fun {K T t} h d=>by
  obtain⟨S,⟨⟨e,j⟩,k,a,f⟩,b⟩:=h;refine⟨pQ e f b t,(b.th t d).hl,fun hc _ _ m=>KW e j k f b d ?_ m⟩
  rw[← (b.th t d).status];exact(vp hc).2
 next:=fun {K T t} h d=>by
  obtain⟨S,⟨⟨e,j⟩,k,a,f⟩,b⟩:=h;obtain⟨p,h1,l⟩:=gE e f b t;exact⟨bZ K n t S,⟨⟨e,j⟩,by rw[jd];exact k,p,h1⟩,l⟩
 less:=fun {K T t} h d hc=>by
  obtain⟨S,⟨⟨e,j⟩,k,a,f⟩,b⟩:=h;obtain⟨p,h1,l⟩:=gE e f b t;rw[EU l d,EU b d];exact tJ e f (by rw[j0 e f b t];exact hc)
 most:=fun {K T t} h d=>by
  obtain⟨S,g,b⟩:=h;rw[EU b d];exact(sm n).most g d
 has:=fun {K T t} h d=>by
  obtain⟨S,g,b⟩:=h;exact(b.th t d).hl
 wl:=fun {K T} h=>by
  obtain⟨S,g,b⟩:=h;rw[b.w,b.o];exact(sm n).wl g
 ql:=fun {K T c} h hc=>by
  obtain⟨S,g,b⟩:=h;rw[b.q c hc];exact(sm n).ql g hc
end Go.Proofs.Y
namespace Go.Proofs.Y
open Go.RowKit Go.Am Go.Sy
def opens(s:List Blk):List Int:=s.map (·.l)
def rmL(p:List Instr):List Int:=if(bA p).2<0 then(bA p).1 else []
def rmD:eC cod where
 pats:=[.tl 2]
 pre:=fun(x:List Instr×Unit)=>x.1.length≤100000
 res:=fun(x:List Instr×Unit)=>.tup [.R 0,.i .i64 (bA x.1).2]
 objs:=fun(x:List Instr×Unit)=>[.rows 0 (rmL x.1) false 0]
structure BOk(p:List Instr)(i:Nat)(m:List Int)(b:Blk):Prop where
 a0:0≤b.a
 al:b.a≤b.l
 li:b.l<i
 op:(at2 p b.a).op=18∨(at2 p b.a).op=21∨(at2 p b.a).op=13
 els:b.l≠b.a→(at2 p b.a).op=18∧(at2 p b.l).op=19∧at0 m b.a=b.l∧∀j:Nat,j<i→at0 m j=b.l→(j:Int)=b.a
def jOk(p:List Instr)(s:MtS):Prop:=mtI p s∧s.q.s.Pairwise (fun x y=>x.l<y.a)∧(∀b∈s.q.s,BOk p s.i s.q.m b)∧∀j:Nat,at0 s.q.m j≤0∨at0 s.q.m j<s.i
def iY(s:List Blk):Int:=if s=[]then-1 else(lst s).l
def isO(p:List Instr)(s:List Blk):Int:=if s=[]then 0 else(at2 p (lst s).l).op
def I4(p:List Instr):dN cod:=⟨MtS,fun s=>jOk p s,fun s=>p.length+(4+3*(p.length-s.i)),
 fun s=>[(0,.tl (T:=T) 2 p),(4,.R 0),(5,.R 1),(6,.i .i64 s.i)],fun s=>[.rows 0 s.q.m false 0,.rows 0 (opens s.q.s) false 1]⟩
def Av(p:List Instr):dN cod:=⟨MtS,fun s=>s.i<p.length∧jOk p s,fun s=>p.length+(3+3*(p.length-s.i)),
 fun s=>[(0,.tl (T:=T) 2 p),(4,.R 0),(5,.R 1),(6,.i .i64 s.i),(7,.i .i64 (iY s.q.s)),(8,.i .i64 (isO p s.q.s)),(9,.b true)],fun s=>[.rows 0 (s.q.m.set s.i (-1)) false 0,.rows 0 (opens s.q.s) false 1]⟩
structure RmS where
 m:List Int
 b:Blk
 j:Nat
def Au(p:List Instr):dN cod:=⟨RmS,fun s=>s.m.length=p.length∧BOk p p.length s.m s.b∧s.b.l≠s.b.a∧s.b.l<p.length∧(s.j:Int)≤s.b.a∧(bA p).2=s.b.a,fun s=>p.length-s.j,
 fun s=>[(4,.R 0),(10,.i .i64 s.b.l),(11,.i .i64 s.j)],fun s=>[.rows 0 s.m false 0]⟩
def rmF(p:List Instr):FnD cod:=⟨[(4,I4 p),(14,Av p),(42,Au p)],.tup [.R 0,.i .i64 (bA p).2],[.rows 0 (rmL p) false 0]⟩
noncomputable def b59:Code:=Tryz.f59.body.getD .skip
end Go.Proofs.Y

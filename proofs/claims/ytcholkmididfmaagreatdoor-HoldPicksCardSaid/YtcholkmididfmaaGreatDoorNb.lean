import Derived.Test.YtcholkmididfmaaGreatDoorSs
import Derived.Test.YtcholkmididfmaaGreatDoorDw
import Derived.Test.YtcholkmididfmaaGreatDoorCp
set_option linter.unusedVariables false
set_option linter.unusedSimpArgs false
namespace Go.Proofs.Y
open Go.RowKit Go.Am Go.Sy
theorem Tt(p:List Instr):Go.Sy.Tree.holds (bt F (bf []) 300 Tryz.f59 b59 (rmF p) [.tl (T:=T) 2 p])=( ((0:Int)≤(↑p.length:Int)∧(↑p.length:Int)=(↑p.length:Int)∧(↑p.length:Int)*8≤
 281474976710656∧(↑p.length:Int)≤9223372036854775807)∧∃(s:MtS),p=p∧List.replicate (↑p.length:Int).toNat (0:Int)=s.q.m∧[]=opens s.q.s∧(0:Int)=(↑s.i:Int)∧jOk p s∧True):=by kernel_rfl
theorem Ub(p:List Instr)(m:List Int)(s:List Blk)(i:Nat):Go.Sy.Tree.holds (bV F (bf []) 300 Tryz.f59 b59 (rmF p) 4 (I4 p) ⟨⟨m,s⟩,i⟩)=( (decide ((↑i:Int)<(↑p.length:Int))=true→((0:
 Int)≤(↑i:Int)∧(↑i:Int)<(↑(MS.mk m s).m.length:Int))∧((0:Int)≤(↑i:Int)∧(↑i:Int)<(↑(MS.mk m s).m.length:Int))∧(decide ((↑(opens (MS.mk m s).s).length:Int)>0)=true→((0:Int)≤
 IntKind.i64.wrap ((↑(opens (MS.mk m s).s).length:Int)-1)∧IntKind.i64.wrap ((↑(opens (MS.mk m s).s).length:Int)-1)<(↑(opens (MS.mk m s).s).length:Int))∧((0:Int)≤IntKind.i64.wrap ((↑(opens (MS.mk m
 s).s).length:Int)-1)∧IntKind.i64.wrap ((↑(opens (MS.mk m s).s).length:Int)-1)<(↑(opens (MS.mk m s).s).length:Int))∧(decide (at0 (opens (MS.mk m s).s) (IntKind.i64.wrap ((↑(opens (MS.mk m s).s).length:
 Int)-1))≥(0:Int))=true→((0:Int)≤at0 (opens (MS.mk m s).s) (IntKind.i64.wrap ((↑(opens (MS.mk m s).s).length:Int)-1))∧at0 (opens (MS.mk m s).s) (IntKind.i64.wrap ((↑(opens (MS.mk m s).s).length:Int)
 -1))<(↑p.length:Int))∧∃(c:MtS),p=p∧(MS.mk m s).m.set (↑i:Int).toNat (-1:Int)=c.q.m.set c.i (-1:Int)∧opens (MS.mk m s).s=opens c.q.s∧(↑i:Int)=(↑c.i:Int)∧at0 (opens (MS.mk m
 s).s) (IntKind.i64.wrap ((↑(opens (MS.mk m s).s).length:Int)-1))=iY c.q.s∧(at2 p (at0 (opens (MS.mk m s).s) (IntKind.i64.wrap ((↑(opens (MS.mk m s).s).length:Int)-1)))).op=isO p c.q.s∧true=true∧
 (c.i<p.length∧jOk p c)∧p.length+((3:Nat)+3*(p.length-c.i))<p.length+((4:Nat)+3*(p.length-i))∧True)∧(decide (at0 (opens (MS.mk m s).s) (IntKind.i64.wrap ((↑(opens (MS.mk m
 s).s).length:Int)-1))≥(0:Int))=false→∃(c:MtS),p=p∧(MS.mk m s).m.set (↑i:Int).toNat (-1:Int)=c.q.m.set c.i (-1:Int)∧opens (MS.mk m s).s=opens c.q.s∧(↑i:Int)=(↑c.i:Int)∧
 at0 (opens (MS.mk m s).s) (IntKind.i64.wrap ((↑(opens (MS.mk m s).s).length:Int)-1))=iY c.q.s∧(0:Int)=isO p c.q.s∧true=true∧(c.i<p.length∧jOk p c)∧p.length+((3:Nat)+3*(p.length-
 c.i))<p.length+((4:Nat)+3*(p.length-i))∧True))∧(decide ((↑(opens (MS.mk m s).s).length:Int)>0)=false→∃(c:MtS),p=p∧(MS.mk m s).m.set (↑i:Int).toNat (-1:Int)=c.q.m.set c.i (-1
 :Int)∧opens (MS.mk m s).s=opens c.q.s∧(↑i:Int)=(↑c.i:Int)∧(-1:Int)=iY c.q.s∧(0:Int)=isO p c.q.s∧true=true∧(c.i<p.length∧jOk p c)∧p.length+((3:Nat)+3*(p.length-
 c.i))<p.length+((4:Nat)+3*(p.length-i))∧True))∧(decide ((↑i:Int)<(↑p.length:Int))=false→(((↑(opens (MS.mk m s).s).length:Int)==0)=true→(MS.mk m s).m=rmL p∧(-1:Int)=(bA
 p).snd∧True)∧(((↑(opens (MS.mk m s).s).length:Int)==0)=false→((0:Int)≤IntKind.i64.wrap ((↑(opens (MS.mk m s).s).length:Int)-1)∧IntKind.i64.wrap ((↑(opens (MS.mk m s).s).length:Int)-1)<(↑(opens
 (MS.mk m s).s).length:Int))∧((0:Int)≤IntKind.i64.wrap ((↑(opens (MS.mk m s).s).length:Int)-1)∧IntKind.i64.wrap ((↑(opens (MS.mk m s).s).length:Int)-1)<(↑(opens (MS.mk m s).s).length:Int))∧((0:
 Int)≤at0 (opens (MS.mk m s).s) (IntKind.i64.wrap ((↑(opens (MS.mk m s).s).length:Int)-1))∧at0 (opens (MS.mk m s).s) (IntKind.i64.wrap ((↑(opens (MS.mk m s).s).length:Int)-1))<(↑p.length:Int))∧(((at2 p
 (at0 (opens (MS.mk m s).s) (IntKind.i64.wrap ((↑(opens (MS.mk m s).s).length:Int)-1)))).op==19)=true→∃(c:RmS),(MS.mk m s).m=c.m∧at0 (opens (MS.mk m s).s) (IntKind.i64.wrap ((↑(opens (MS.mk m
 s).s).length:Int)-1))=c.b.l∧(0:Int)=(↑c.j:Int)∧(c.m.length=p.length∧BOk p p.length c.m c.b∧c.b.l≠c.b.a∧c.b.l<(↑p.length:Int)∧(↑c.j:Int)≤c.b.a∧(bA p).snd=
 c.b.a)∧p.length-c.j<p.length+((4:Nat)+3*(p.length-i))∧True)∧(((at2 p (at0 (opens (MS.mk m s).s) (IntKind.i64.wrap ((↑(opens (MS.mk m s).s).length:Int)-1)))).op==19)=false→[]=rmL p∧
 at0 (opens (MS.mk m s).s) (IntKind.i64.wrap ((↑(opens (MS.mk m s).s).length:Int)-1))=(bA p).snd∧True)))):=by kernel_rfl
section
variable (p:List Instr)(m:List Int)(s:List Blk)(i:Nat)
def rQ(M O:List Int):Prop:=∃z:MtS,p=p∧M=z.q.m∧O=opens z.q.s∧IntKind.i64.wrap ((i:Int)+1)=(z.i:Int)∧jOk p z∧p.length+(4+3*(p.length-z.i))<p.length+(3+3*(p.length-i))∧True
def Gp:Prop:=[]=rmL p∧(i:Int)=(bA p).2∧True
def rNo(b:Bool)(P:Prop):Prop:=((!b)=true→Gp p i)∧((!b)=false→P)
def rW:Int:=IntKind.i64.wrap (((opens s).length:Int)-1)
def rM1:List Int:=(m.set i (-1)).set (iY s).toNat (i:Int)
def rM2:List Int:=(rM1 m s i).set (i:Int).toNat (iY s)
def rTk:List Int:=List.take ((rW s).toNat-0) (List.drop 0 (opens s))
def rTp(P:Prop):Prop:=((0:Int)≤iY s∧iY s<((m.set i (-1)).length:Int))∧((0:Int)≤iY s∧iY s<((m.set i (-1)).length:Int))∧P
def rOp(P:Prop):Prop:=((0:Int)≤0∧(0:Int)≤rW s∧rW s≤((opens s).length:Int))∧P
def rBi(P:Prop):Prop:=((0:Int)≤(i:Int)∧(i:Int)<((rM1 m s i).length:Int))∧((0:Int)≤(i:Int)∧(i:Int)<((rM1 m s i).length:Int))∧P
def Bf:Prop:=((opens s).length+1)*8≤140737488355328∧(false=true→Gp p i)∧(false=false→rQ p i (m.set i (-1)) (opens s++[(i:Int)]))
def yg:Prop:=rQ p i (m.set i (-1)) (opens s)
def PP:Prop:=ifQ (isO p s==18) (rTp m s i (((0:Int)≤rW s∧rW s<((opens s).length:Int))∧((0:Int)≤rW s∧rW s<((opens s).length:Int))∧rNo p i (isO p s==18) (rQ p i (rM1 m s i) ((opens s).set (rW s).toNat (i:Int))))) (rNo p i (isO p s==18) (yg p m s i))
def Om:Prop:=ifQ (isO p s==18) (rTp m s i (rOp s (rQ p i (rM1 m s i) (rTk s)))) (ifQ (isO p s==19) (rTp m s i (rOp s (rNo p i (isO p s==19) (rQ p i (rM1 m s i) (rTk s))))) (rNo p i (isO p s==19) (yg p m s i)))
def rBn(P:Prop):Prop:=((0:Int)≤(i:Int)∧(i:Int)<(p.length:Int))∧P
def rLv:Prop:=ifQ (isO p s==13) (rBn p i (ifQ ((at2 p (i:Int)).op==14) (rTp m s i (rBi m s i (rOp s (rNo p i ((at2 p (i:Int)).op==14) (rQ p i (rM2 m s i) (rTk s)))))) (rNo p i ((at2 p (i:Int)).op==14) (yg p m s i)))) (Gp p i)
def KF:Prop:=ifQ (isO p s==21) (rBn p i (ifQ ((at2 p (i:Int)).op==22) (rTp m s i (rBi m s i (rOp s (rQ p i (rM2 m s i) (rTk s))))) (rLv p m s i))) (rLv p m s i)
theorem PM:Go.Sy.Tree.holds (bV F (bf []) 300 Tryz.f59 b59 (rmF p) 14 (Av p) ⟨⟨m,s⟩,i⟩)=
 rBn p i (ifQ ((at2 p (i:Int)).op==18) (Bf p m s i) (ifQ ((at2 p (i:Int)).op==21) (Bf p m s i) (ifQ ((at2 p (i:Int)).op==13) (Bf p m s i) (ifQ ((at2 p (i:Int)).op==19) (PP p m s i) (ifQ ((at2 p (i:Int)).op==20) (Om p m s i)
  (ifQ ((at2 p (i:Int)).op==22) (KF p m s i) (ifQ ((at2 p (i:Int)).op==14) (KF p m s i) ((false=true→Gp p i)∧(false=false→yg p m s i))))))))):=by kernel_rfl
end
theorem Pt(p:List Instr)(m:List Int)(b:Blk)(j:Nat):Go.Sy.Tree.holds (bV F (bf []) 300 Tryz.f59 b59 (rmF p) 42 (Au p) ⟨m,b,j⟩)=( (decide ((↑j:Int)<b.l)=true→((0:Int)≤(↑j:Int)∧
 (↑j:Int)<(↑m.length:Int))∧((0:Int)≤(↑j:Int)∧(↑j:Int)<(↑m.length:Int))∧((at0 m (↑j:Int)==b.l)=true→[]=rmL p∧(↑j:Int)=(bA p).snd∧True)∧((at0 m (↑j:Int)==b.l)=false→∃
 (s:RmS),m=s.m∧b.l=s.b.l∧IntKind.i64.wrap ((↑j:Int)+1)=(↑s.j:Int)∧(s.m.length=p.length∧BOk p p.length s.m s.b∧s.b.l≠s.b.a∧s.b.l<(↑p.length:Int)∧(↑s.j:Int)≤s.b.a∧(bA p).snd=
 s.b.a)∧p.length-s.j<p.length-j∧True))∧(decide ((↑j:Int)<b.l)=false→[]=rmL p∧b.l=(bA p).snd∧True)):=by kernel_rfl
theorem mJ(m:List Int)(k:Nat)(v:Int)(j:Nat):at0 (m.set k v) (j:Int)=if k=j∧k<m.length then v else at0 m (j:Int):=by
 have e:∀l:List Int,at0 l (j:Int)=(l[j]?).getD (cod.dflt 0):=fun l=>by
  exact qh
 grind
section
variable {p:List Instr}{i:Nat}{m m':List Int}{s:List Blk}
theorem BOk.keep{b:Blk}(c:BOk p i m b)(o:∀j:Nat,j<i+1→(j<i∧at0 m' j=at0 m j)∨(at0 m' j≠b.l∧(j:Int)≠b.a)):BOk p (i+1) m' b:=by
 obtain⟨n,e⟩:=Int.eq_ofNat_of_zero_le c.a0;have d:n<i:=by have:=c.al;have:=c.li;omega
 refine⟨c.a0,c.al,by have:=c.li;omega,c.op,fun h=>?_⟩
 obtain⟨h1,f,g,k⟩:=c.els h;grind
theorem oC(s:List Blk):(opens s).length=s.length:=List.length_map _
theorem tn(h:s≠[]):at0 (opens s) ((s.length:Int)-1)=(lst s).l:=by
 have hl:s.length-1<s.length:=by
  have:=List.length_pos_iff.2 h;omega
 have e:((s.length:Int)-1)=((s.length-1:Nat):Int):=by omega
 unfold lst;rw[e,lh hl,gv (by rw[oC];exact hl)]
 simp[opens]
theorem rP(h:s≠[]):s=s.take (s.length-1)++[lst s]:=by
 have hl:s.length-1<s.length:=by
  have:=List.length_pos_iff.2 h;omega
 have e:lst s=s[s.length-1]:=by
  unfold lst;rw[show((s.length:Int)-1)=((s.length-1:Nat):Int)by omega]
  exact lh hl
 have a:s.take (s.length-1+1)=s.take (s.length-1)++[s[s.length-1]]:=List.take_succ_eq_append_getElem hl;grind
theorem ahead(c:s.Pairwise fun x y=>x.l<y.a)(h:s≠[]):(s.take (s.length-1)).Pairwise (fun x y=>x.l<y.a)∧∀b∈s.take (s.length-1),b∈s∧b.l<(lst s).a:=by
 rw[rP h,List.pairwise_append]at c;grind
theorem Lg(o:jOk p ⟨⟨m,s⟩,i⟩)(q:i<p.length)(g:(at2 p i).op=18∨(at2 p i).op=21∨(at2 p i).op=13):jOk p ⟨⟨m.set i (-1),s++[⟨i,i⟩]⟩,i+1⟩:=by
 obtain⟨h1,l,e,t⟩:=o;have d:m.length=p.length:=h1.2.1.1;have c:∀j:Nat,at0 (m.set i (-1)) j=if i=j then-1 else at0 m j:=fun j=>by rw[mJ,d];grind
 refine⟨d9 q h1 (mX g) (by grind) (fun b a=>?_) (by simp), ?_,fun b a=>?_,fun j=>?_⟩
 ·grind
 ·refine List.pairwise_append.2 ⟨l,List.pairwise_singleton _ _,fun x n y f=>?_⟩
  rw[qt]at f;subst f;exact(e x n).li
 ·rcases List.mem_append.1 a with a|a
  ·have k:=e b a;replace k:BOk p i m b:=k;refine k.keep fun j u=>?_
   show(j<i∧at0 (m.set i (-1)) j=at0 m j)∨_;rw[c];have:=k.a0;have:=k.al;have:=k.li
   grind
  ·rw[qt]at a;subst a;exact⟨by grind,Int.le_refl _,by grind,g,fun h=>(h rfl).elim⟩
 grind
theorem JA(g:jOk p ⟨⟨m,s⟩,i⟩)(h:i<p.length)(l:¬((at2 p i).op=18∨(at2 p i).op=21∨(at2 p i).op=13))(n:opener (at2 p i).op=0):jOk p ⟨⟨m.set i (-1),s⟩,i+1⟩:=by
 obtain⟨h1,e,f,o⟩:=g;have c:m.length=p.length:=h1.2.1.1;have a:∀j:Nat,at0 (m.set i (-1)) j=if i=j then-1 else at0 m j:=fun j=>by rw[mJ,c];grind
 refine⟨d9 h h1 (kr l n) (by grind) (fun b d=>.inl d) (by omega),e,fun b d=>?_,fun j=>?_⟩
 ·have k:=f b d;replace k:BOk p i m b:=k;refine k.keep fun j q=>?_
  show(j<i∧at0 (m.set i (-1)) j=at0 m j)∨_;rw[a];have:=k.a0;have:=k.al;have:=k.li
  grind
 grind
theorem vg(G:jOk p ⟨⟨m,s⟩,i⟩)(H:i<p.length)(f:s≠[]){h:List Blk}{v:Int}(I:m'.length=m.length)(d:∀j:Nat,at0 m' j=if i=j then v else if(lst s).l=(j:Int)then(i:Int)else at0 m j)(M:v= -1∨v=(lst s).a)
 (o:cK p i ⟨m,s⟩=some ⟨m',h⟩) (y:h=s.take (s.length-1)∨(h=s.take (s.length-1)++[⟨(lst s).a,i⟩]∧v= -1∧(at2 p i).op=19∧(lst s).l=(lst s).a∧(at2 p (lst s).a).op=18)):jOk p ⟨⟨m',h⟩,i+1⟩:=by
 obtain⟨h1,B,u,C⟩:=G;have z:m.length=p.length:=h1.2.1.1;have g:=u _ (jI f);replace g:BOk p i m (lst s):=g;obtain⟨K,w⟩:=ahead B f;have q:=g.a0;have J:=g.al;have l2:=g.li
 have t:(s.take (s.length-1)).length≤s.length:=by simp_all
 have old:∀b∈s.take (s.length-1),BOk p (i+1) m' b:=by
  intro b c;have k:=u b (w b c).1;replace k:BOk p i m b:=k;have A:b.l<(lst s).a:=(w b c).2;refine k.keep fun j E=>?_
  rw[d];have:=k.a0;have:=k.al;grind
 refine⟨d9 H h1 o I (fun b c=>?_) ?_, ?_,fun b c=>?_,fun j=>?_⟩
 ·rcases y with rfl|⟨rfl,_⟩
  ·grind
  ·rcases List.mem_append.1 c with c|c
   ·grind
   ·rw[qt]at c;subst c;exact .inr (.inr ⟨_,jI f,rfl,rfl⟩)
 ·grind
 ·grind
 ·rcases y with rfl|⟨rfl,rfl,g1,L,x⟩
  ·grind
  ·rcases List.mem_append.1 c with c|c
   ·grind
   ·rw[qt]at c;subst c;obtain⟨n,D⟩:=Int.eq_ofNat_of_zero_le q;refine⟨q,by grind,by grind,.inl x,fun _=>⟨x,g1, ?_,fun j E e=>?_⟩⟩
    ·show at0 m' (lst s).a=(i:Int);rw[D,d,if_neg (by omega),if_pos (by omega)]
    ·have e:at0 m' j=(i:Int):=e;rw[d]at e
     grind
 ·show at0 m' j≤0∨at0 m' j<((i+1:Nat):Int);have:=C j;replace this:at0 m j≤0∨at0 m j<(i:Int):=this;rw[d];grind
end
end Go.Proofs.Y
namespace Go.Proofs.Y
open Go.RowKit Go.Am Go.Sy
section
variable {p:List Instr}
theorem IM(d:p.length≤100000):b7 (bt F (bf []) 300 Tryz.f59 b59 (rmF p) [.tl (T:=T) 2 p]):=by
 refine⟨?_⟩;rw[Tt];have c:∀j:Nat,at0 (List.replicate p.length 0) j≤0:=fun j=>by
  have e:at0 (List.replicate p.length 0) (j:Int)=((List.replicate p.length (0:Int))[j]?).getD (cod.dflt 0):=qh;rw[e,List.getElem?_replicate];split
  ·grind
  ·exact Int.le_refl _
 exact⟨⟨by omega,rfl,by omega,by omega⟩,⟨⟨List.replicate p.length 0,[]⟩,0⟩,rfl,rfl,rfl,rfl,⟨⟨Nat.zero_le _,⟨List.length_replicate,fun b a=>by cases a⟩,qe _,rfl⟩,.nil,⟨(fun b a=>by cases a),fun j=>.inl (c j)⟩⟩,trivial⟩
theorem uN(h:0≤(bA p).2):[]=rmL p:=by rw[rmL,if_neg (by omega)]
theorem Hw(m:List Int)(b:Blk)(j:Nat)(k:m.length=p.length)(d:BOk p p.length m b)(c:b.l≠b.a)(hl:b.l<p.length)(s:(j:Int)≤b.a)(n:(bA p).2=b.a)(t:p.length≤100000):b7 (bV F (bf []) 300 Tryz.f59 b59 (rmF p) 42 (Au p) ⟨m,b,j⟩):=by
 refine⟨?_⟩;rw[Pt];obtain⟨h1,o,q,f⟩:=d.els c;have a0:=d.a0;have al:=d.al
 have r1:(0:Int)≤j∧(j:Int)<m.length:=⟨by omega,by omega⟩
 refine⟨fun h=>⟨r1,r1,fun g=>?_,fun g=>?_⟩,fun h=>?_⟩
 ·have g:at0 m j=b.l:=eq_of_beq g;have e:=f j (by omega) g
  exact⟨uN (by omega),by omega,trivial⟩
 ·have g:¬at0 m j=b.l:=ne_of_beq_false g;have e:(j:Int)≠b.a:=fun e=>g (by grind)
  exact⟨⟨m,b,j+1⟩,rfl,rfl,d6 (by omega),⟨k,d,c,hl,by grind,n⟩,by grind,trivial⟩
 grind
theorem JN(A:p.length≤100000)(m:List Int)(s:List Blk)(i:Nat)(n:jOk p ⟨⟨m,s⟩,i⟩):b7 (bV F (bf []) 300 Tryz.f59 b59 (rmF p) 4 (I4 p) ⟨⟨m,s⟩,i⟩):=by
 refine⟨?_⟩;rw[Ub];simp only[oC];have f:=n;obtain⟨⟨t,⟨k,w⟩,u,d⟩,y,v,z⟩:=f;replace t:i≤p.length:=t;replace k:m.length=p.length:=k;replace u:s.length≤i:=u;replace d:mgo p (p.length-i) i ⟨m,s⟩=bA p:=d;have j:IntKind.i64.wrap ((s.length:Int)-1)=(s.length:Int)-1:=wrap64 (by omega) (by omega)
 rw[j];refine⟨fun h=>?_,fun h=>?_⟩
 ·have h:i<p.length:=by grind
  have r1:(0:Int)≤(i:Int)∧(i:Int)<(m.length:Int):=⟨by omega,by omega⟩
  have o:p.length+(3+3*(p.length-i))<p.length+(4+3*(p.length-i)):=by omega
  refine⟨r1,r1,fun g=>?_,fun g=>?_⟩
  ·have g:(s.length:Int)>0:=qb g;have b:s≠[]:=by grind
   have c:=v _ (jI b);replace c:BOk p i m (lst s):=c;have a0:=c.a0;have al:=c.al;have li:=c.li
   rw[tn b];have r2:(0:Int)≤(s.length:Int)-1∧(s.length:Int)-1<(s.length:Int):=⟨by omega,by omega⟩
   refine⟨r2,r2,fun x=>⟨⟨by omega,by omega⟩,⟨⟨m,s⟩,i⟩,trivial,rfl,rfl,rfl, ?_, ?_,trivial,⟨h,n⟩,o,trivial⟩,fun x=>?_⟩
   ·show(lst s).l=iY s;rw[iY,if_neg b]
   ·show(at2 p (lst s).l).op=isO p s;rw[isO,if_neg b]
   grind
  ·have g:¬(s.length:Int)>0:=qc g;have b:s=[]:=List.length_eq_zero_iff.1 (by omega)
   subst b;exact⟨⟨⟨m,[]⟩,i⟩,trivial,rfl,rfl,rfl,rfl,rfl,trivial,⟨h,n⟩,o,trivial⟩
 ·have h:i=p.length:=by grind
  subst h;rw[Nat.sub_self]at d;refine⟨fun g=>?_,fun g=>?_⟩
  ·have g:(s.length:Int)=0:=eq_of_beq g;have b:s=[]:=List.length_eq_zero_iff.1 (by omega)
   subst b;have e:bA p=(m,-1):=by rw[← d,mgo,if_pos rfl]
   refine⟨?_,by rw[e],trivial⟩
   rw[rmL,e];rfl
  ·have g:¬(s.length:Int)=0:=ne_of_beq_false g;have b:s≠[]:=by grind
   have c:=v _ (jI b);replace c:BOk p p.length m (lst s):=c;have a0:=c.a0;have al:=c.al;have li:=c.li
   have e:bA p=([],(lst s).a):=by rw[← d,mgo,if_neg b]
   rw[tn b];have r2:(0:Int)≤(s.length:Int)-1∧(s.length:Int)-1<(s.length:Int):=⟨by omega,by omega⟩
   refine⟨r2,r2,⟨by omega,by omega⟩,fun q=>⟨⟨m,lst s,0⟩,rfl,rfl,rfl,⟨k,c, ?_,li,a0,by rw[e]⟩,by grind,trivial⟩,fun q=>?_⟩
   ·have q:(at2 p (lst s).l).op=19:=eq_of_beq q;intro e2;have:=c.op;grind
   ·have q:¬(at2 p (lst s).l).op=19:=ne_of_beq_false q;have e2:(lst s).l=(lst s).a:=Decidable.byContradiction fun h=>q (c.els h).2.1
    exact⟨uN (by grind),by grind,trivial⟩
theorem Fi(h9:p.length≤100000)(m:List Int)(s:List Blk)(i:Nat)(K:i<p.length)(H:jOk p ⟨⟨m,s⟩,i⟩):b7 (bV F (bf []) 300 Tryz.f59 b59 (rmF p) 14 (Av p) ⟨⟨m,s⟩,i⟩):=by
 refine⟨?_⟩;rw[PM];simp only[rBn,ifQ,Bf,PP,Om,KF,rLv,rTp,rOp,rBi,rNo,yg,rQ,Gp,rTk,rM1,rM2,rW];simp only[oC,qu,qm,List.length_nil];obtain⟨⟨k1,⟨O,aa⟩,Z,k4⟩,k5,k6,k7⟩:=id H;replace O:m.length=p.length:=O;replace Z:s.length≤i:=Z;have Q:IntKind.i64.wrap ((s.length:Int)-1)=(s.length:Int)-1:=wrap64 (by omega) (by omega)
 have hw:IntKind.i64.wrap ((i:Int)+1)=((i+1:Nat):Int):=d6 (by omega)
 rw[Q,hw,O];have C:p.length+(4+3*(p.length-(i+1)))<p.length+(3+3*(p.length-i)):=by omega
 have R:(0:Int)≤(i:Int)∧(i:Int)<(p.length:Int):=⟨by omega,by omega⟩
 have sz:(s.length+1)*8≤140737488355328:=by omega
 have zz:(0:Int)≤0:=Int.le_refl _;have W:((s.length:Int)-1).toNat=s.length-1:=by omega
 have U:(i:Int).toNat=i:=by omega
 -- the last one that is open
 have last:isO p s≠0→s≠[]∧isO p s=(at2 p (lst s).l).op∧iY s=(lst s).l∧BOk p i m (lst s):=fun h=>by
  have y:s≠[]:=by rintro rfl;exact h rfl
  exact⟨y,by rw[isO,if_neg y],by rw[iY,if_neg y],k6 _ (jI y)⟩
 have B:isO p s≠0→0≤iY s∧iY s<(p.length:Int):=fun h=>by
  obtain⟨_,_,e,A⟩:=last h;have a0:=A.a0;have al:=A.al;have li:=A.li
  rw[e];omega
 have z:isO p s≠0→0≤(s.length:Int)-1∧(s.length:Int)-1<(s.length:Int):=fun h=>by
  have:=List.length_pos_iff.2 (last h).1;omega
 have o:∀h:opener (at2 p i).op≠0,dX p i s→[]=rmL p∧(i:Int)=(bA p).2:=fun h A=>by
  have:=vu K H.1 (uU h A);exact⟨uN (by rw[← this.2.1];omega),this.2.1⟩
 have opn:∀k v:Int,(at2 p i).op=k→opener k=v→v≠0→opener (at2 p i).op≠0:=fun k v h1 J h3=>by rw[h1,J];exact h3
 have n:((at2 p i).op=19∧isO p s≠18)∨((at2 p i).op=20∧isO p s≠18∧isO p s≠19)∨((at2 p i).op=22∧isO p s≠21)∨((at2 p i).op=14∧isO p s≠13)→[]=rmL p∧(i:Int)=(bA p).2:=fun h=>by
  have D:opener (at2 p i).op≠0:=by
   rcases h with h|h|h|h
   ·exact opn 19 18 h.1 rfl (by decide)
   ·exact opn 20 18 h.1 rfl (by decide)
   ·exact opn 22 21 h.1 rfl (by decide)
   ·exact opn 14 13 h.1 rfl (by decide)
  refine o D ?_
  by_cases y:s=[]
  ·exact .inl y
  ·have A:=k6 _ (jI y);replace A:BOk p i m (lst s):=A;have e:isO p s=(at2 p (lst s).l).op:=by rw[isO,if_neg y]
   rw[e]at h;have o1:=A.op
   by_cases hl:(lst s).l=(lst s).a
   ·rw[hl]at h;refine .inr (.inl ?_);rcases h with h|h|h|h<;>rw[h.1]<;>(show(at2 p (lst s).a).op≠_;simp only[opener];omega)
   ·have X:=A.els hl;rcases h with h|h|h|h
    ·exact .inr (.inr ⟨h.1,hl⟩)
    ·omega
    ·refine .inr (.inl ?_);rw[h.1,X.1];decide
    ·refine .inr (.inl ?_);rw[h.1,X.1];decide
 have d:(at2 p i).op=18∨(at2 p i).op=21∨(at2 p i).op=13→∃(w:MtS),m.set i (-1)=w.q.m∧opens s++[(i:Int)]=opens w.q.s∧((i+1:Nat):Int)=(w.i:Int)∧jOk p w∧p.length+(4+3*(p.length-w.i))<p.length+(3+3*(p.length-i)):=fun h=>
  ⟨⟨⟨m.set i (-1),s++[⟨i,i⟩]⟩,i+1⟩,rfl,by simp[opens],rfl,Lg H K h,C⟩
 have c:¬((at2 p i).op=18∨(at2 p i).op=21∨(at2 p i).op=13)→opener (at2 p i).op=0→∃(w:MtS),m.set i (-1)=w.q.m∧opens s=opens w.q.s∧((i+1:Nat):Int)=(w.i:Int)∧jOk p w∧p.length+(4+3*(p.length-w.i))<p.length+(3+3*(p.length-i)):=fun h J=>
  ⟨⟨⟨m.set i (-1),s⟩,i+1⟩,rfl,rfl,rfl,JA H K h J,C⟩
 have E:∀t:Nat,(lst s).l=t→t<i→∀j:Nat,at0 ((m.set i (-1)).set t i) j=if i=j then-1 else if(lst s).l=(j:Int)then(i:Int)else at0 m j:=fun t h1 J j=>by
  rw[mJ,mJ,qu,O,h1]
  by_cases e:i=j
  ·rw[if_pos e,if_neg (by omega),if_pos (by omega)]
  ·rw[if_neg e]
   by_cases e2:t=j
   ·rw[if_pos (by omega),if_pos (by omega)]
   ·rw[if_neg (by omega),if_neg (by omega),if_neg (by omega)]
 have f:(at2 p i).op=19→isO p s=18→∃(w:MtS),(m.set i (-1)).set (iY s).toNat (i:Int)=w.q.m∧(opens s).set ((s.length:Int)-1).toNat (i:Int)=opens w.q.s∧((i+1:Nat):Int)=(w.i:Int)∧jOk p w∧p.length+(4+3*(p.length-w.i))<p.length+(3+3*(p.length-i)):=fun h J=>by
  clear d c n o B z;obtain⟨y,e1,e2,A⟩:=last (by omega)
  have a0:=A.a0;have al:=A.al;have li:=A.li
  have D:=opn 19 18 h rfl (by decide)
  have hl:(lst s).l=(lst s).a:=Decidable.byContradiction fun x=>by have:=(A.els x).2.1;omega
  have P:(at2 p (lst s).a).op=18:=by rw[← hl];omega
  have I:¬dX p i s:=by
   rintro(x|x|⟨_,x⟩)
   ·exact y x
   ·exact x (by rw[P,h];rfl)
   ·exact x hl
  obtain⟨t,G⟩:=Int.eq_ofNat_of_zero_le (show 0≤(lst s).l by omega)
  have hc:s.set (s.length-1) ⟨(lst s).a,i⟩=s.take (s.length-1)++[⟨(lst s).a,(i:Int)⟩]:=by
   have e:s=s.take (s.length-1)++[lst s]:=rP y;have L:(s.take (s.length-1)).length=s.length-1:=by rw[List.length_take];omega
   conv=>lhs;arg 1;rw[e]
   rw[List.set_append_right _ _ (by omega),L,Nat.sub_self]
   rfl
  refine⟨⟨⟨(m.set i (-1)).set t i,s.set (s.length-1) ⟨(lst s).a,i⟩⟩,i+1⟩,by rw[e2,G];rfl, ?_,rfl,vg H K y (by simp) (E t G (by omega)) (.inl rfl) ?_ (.inr ⟨hc,rfl,h,hl,P⟩),C⟩
  ·rw[W];show(s.map (·.l)).set (s.length-1) (i:Int)=(s.set (s.length-1) ⟨(lst s).a,(i:Int)⟩).map (·.l);rw[List.map_set]
  ·have:=nE (m:=m) D I h;rw[G]at this;exact this
 have Y:List.take (((s.length:Int)-1).toNat-0) (List.drop 0 (opens s))=opens (s.take (s.length-1)):=by
  rw[W];show(s.map (·.l)).take (s.length-1-0)=(s.take (s.length-1)).map (·.l);rw[List.map_take];rfl
 have u:(at2 p i).op=20→(isO p s=18∨isO p s=19)→∃(w:MtS),(m.set i (-1)).set (iY s).toNat (i:Int)=w.q.m∧List.take (((s.length:Int)-1).toNat-0) (List.drop 0 (opens s))=opens w.q.s∧((i+1:Nat):Int)=(w.i:Int)∧jOk p w∧p.length+(4+3*(p.length-w.i))<p.length+(3+3*(p.length-i)):=fun h J=>by
  clear d c f n o B z;obtain⟨y,e1,e2,A⟩:=last (by omega)
  have a0:=A.a0;have al:=A.al;have li:=A.li
  have D:=opn 20 18 h rfl (by decide)
  have P:(at2 p (lst s).a).op=18:=by
   by_cases hl:(lst s).l=(lst s).a
   ·have:=A.op;rw[hl]at e1;omega
   ·exact(A.els hl).1
  have I:¬dX p i s:=by
   rintro(x|x|⟨x,_⟩)
   ·exact y x
   ·exact x (by rw[P,h];rfl)
   ·omega
  obtain⟨t,G⟩:=Int.eq_ofNat_of_zero_le (show 0≤(lst s).l by omega)
  refine⟨⟨⟨(m.set i (-1)).set t i,s.take (s.length-1)⟩,i+1⟩,by rw[e2,G];rfl,Y,rfl,vg H K y (by simp) (E t G (by omega)) (.inl rfl) ?_ (.inl rfl),C⟩
  have:=sd (m:=m) D I (by rw[h];decide) (by rw[h];decide)
  rw[G]at this;exact this
 have g:((at2 p i).op=22∧isO p s=21)∨((at2 p i).op=14∧isO p s=13)→∃(w:MtS),((m.set i (-1)).set (iY s).toNat (i:Int)).set i (iY s)=w.q.m∧List.take (((s.length:Int)-1).toNat-0) (List.drop 0 (opens s))=opens w.q.s∧((i+1:Nat):Int)=(w.i:Int)∧jOk p w∧p.length+(4+3*(p.length-w.i))<p.length+(3+3*(p.length-i)):=fun h=>by
  clear d c f u n o B z;obtain⟨y,e1,e2,A⟩:=last (by omega)
  have a0:=A.a0;have al:=A.al;have li:=A.li
  have D:opener (at2 p i).op≠0:=by
   rcases h with h|h
   ·exact opn 22 21 h.1 rfl (by decide)
   ·exact opn 14 13 h.1 rfl (by decide)
  have hl:(lst s).l=(lst s).a:=Decidable.byContradiction fun x=>by have:=(A.els x).2.1;omega
  have I:¬dX p i s:=by
   rintro(x|x|⟨x,_⟩)
   ·exact y x
   ·apply x;rw[← hl,← e1];rcases h with h|h<;>rw[h.1,h.2]<;>rfl
   ·omega
  obtain⟨t,G⟩:=Int.eq_ofNat_of_zero_le (show 0≤(lst s).l by omega)
  have M:∀j:Nat,at0 (((m.set i (-1)).set t i).set i (lst s).a) j=if i=j then(lst s).a else if(lst s).l=(j:Int)then(i:Int)else at0 m j:=fun j=>by
   rw[mJ,qu,qu,O,E t G (by omega)]
   by_cases e:i=j
   ·rw[if_pos (by omega),if_pos e]
   ·rw[if_neg (by omega),if_neg e,if_neg e]
  refine⟨⟨⟨((m.set i (-1)).set t i).set i (lst s).a,s.take (s.length-1)⟩,i+1⟩,by rw[e2,hl,← hl,G];rfl,Y,rfl,vg H K y (by simp) M (.inr rfl) ?_ (.inl rfl),C⟩
  have:=lw (m:=m) D I (h.imp (·.1) (·.1));rw[G]at this;exact this
 have I:∀{b:Bool},(!b)=true→b=false:=fun {b} h=>by cases b<;>simp at h ⊢
 have yb:∀{b:Bool},(!b)=false→b=true:=fun {b} h=>by cases b<;>simp at h ⊢
 rw[U];refine⟨R, ?_⟩;simp only[Bool.not_eq_true',Bool.not_eq_false',beq_iff_eq,beq_eq_false_iff_ne,ne_eq,Bool.false_eq_true,Bool.true_eq_false,false_implies,true_implies,forall_const,and_true,true_and,not_true_eq_false,not_false_eq_true];have N:(at2 p i).op≠19→(at2 p i).op≠20→(at2 p i).op≠22→(at2 p i).op≠14→opener (at2 p i).op=0:=fun q1 q2 q3 q4=>by
  clear d c f u g n o B z last;rw[opener,if_neg (by omega),if_neg (by omega),if_neg (by omega)]
 repeat' (first|apply And.intro|intro _)
 all_goals first
  |exact R.1
  |exact R.2
  |exact zz
  |exact sz
  |exact(B (by clear d c f u g n o B z last;omega)).1
  |exact(B (by clear d c f u g n o B z last;omega)).2
  |exact(z (by clear d c f u g n o B z last;omega)).1
  |exact(z (by clear d c f u g n o B z last;omega)).2
  |exact Int.le_of_lt (z (by clear d c f u g n o B z last;omega)).2
  |exact d (by clear d c f u g n o B z last;omega)
  |exact f (by clear d c f u g n o B z last;omega) (by clear d c f u g n o B z last;omega)
  |exact u (by clear d c f u g n o B z last;omega) (by clear d c f u g n o B z last;omega)
  |exact g (by clear d c f u g n o B z last;omega)
  |exact c (by clear d c f u g n o B z last;omega) (N (by clear d c f u g n o B z last;omega) (by clear d c f u g n o B z last;omega) (by clear d c f u g n o B z last;omega) (by clear d c f u g n o B z last;omega))
  |exact(n (by clear d c f u g n o B z last;omega)).1
  |exact(n (by clear d c f u g n o B z last;omega)).2
  |(exfalso;clear d c f u g n o B z last;omega)
end
theorem Rw:bi F.S 59 (bB rmD):=
 bv (fn:=Tryz.f59) (body:=b59) (ctr:=bf []) bE noExt bC cd Tryz.func59 rfl rfl rfl rmD 300 (fun(x:List Instr×Unit)=>[(4,I4 x.1),(14,Av x.1),(42,Au x.1)]) (show 1≤Tryz.f59.ntmps by decide) (show Tryz.f59.ntmps≤512 by decide) (by kernel_rfl) (fun _ _=>⟨rfl,rfl⟩)
  (fun(x:List Instr×Unit) c=>IM c) (fun(x:List Instr×Unit) c p d s a=>by
   simp only[List.mem_cons,List.not_mem_nil,or_false]at d;rcases d with rfl|rfl|rfl
   ·exact JN c s.q.m s.q.s s.i a
   ·exact Fi c s.q.m s.q.s s.i a.1 a.2
   ·exact Hw s.m s.b s.j a.1 a.2.1 a.2.2.1 a.2.2.2.1 a.2.2.2.2.1 a.2.2.2.2.2 c)
end Go.Proofs.Y
namespace Go.Proofs.Y
open Go.RowKit Go.Am Go.Sy
def hT(a b:List Int):Bool:=decide (a=b)
def smD:eC cod where
 pats:=[.tl 0,.tl 0]
 pre:=fun(x:List Int×List Int×Unit)=>x.1.length≤100000
 res:=fun(x:List Int×List Int×Unit)=>.b (hT x.1 x.2.1)
 objs:=fun x=>[]
def smC(a b:List Int):dN cod:=⟨Nat,fun k=>k≤a.length∧a.length=b.length∧a.take k=b.take k,fun k=>a.length-k,fun k=>[(0,.tl (T:=T) 0 a),(1,.tl (T:=T) 0 b),(5,.i .i64 (k:Int))],fun _=>[]⟩
noncomputable def b66:Code:=Tryz.f66.body.getD .skip
noncomputable def b67:Code:=Tryz.f67.body.getD .skip
def smN(a b:List Int)(k:Int)(m:Nat):Prop:=∃s:Nat,a=a∧b=b∧k=s∧(s≤a.length∧a.length=b.length∧a.take s=b.take s)∧a.length-s<m∧True
def smE(a b:List Int):Prop:=(((a.length:Int) !=b.length)=true→false=hT a b∧True)∧(((a.length:Int) !=b.length)=false→∃s:Nat,a=a∧b=b∧(0:Int)=s∧(s≤a.length∧a.length=b.length∧a.take s=b.take s)∧True)
def smS(a b:List Int)(k:Nat):Prop:=(decide ((k:Int)<a.length)=true→((0:Int)≤k∧(k:Int)<a.length)∧((0:Int)≤k∧(k:Int)<b.length)∧((at0 a k !=at0 b k)=true→false=hT a b∧True)∧((at0 a k !=at0 b k)=false→smN a b (IntKind.i64.wrap ((k:Int)+1)) (a.length-k)))∧
 (decide ((k:Int)<a.length)=false→true=hT a b∧True)
theorem Fh(a b:List Int):smE a b:=by
 refine⟨fun e=>⟨?_,trivial⟩,fun e=>⟨0,rfl,rfl,rfl,⟨Nat.zero_le _, ?_,rfl⟩,trivial⟩⟩
 ·have e:(a.length:Int)≠b.length:=by simpa using e
  exact(decide_eq_false fun h=>e (by rw[h])).symm
 grind
theorem FB{a b:List Int}{k:Nat}(f:a.length≤100000)(g:k≤a.length)(hl:a.length=b.length)(d:a.take k=b.take k):smS a b k:=by
 refine⟨fun e=>?_,fun e=>⟨?_,trivial⟩⟩
 ·have e:=qb e;have h1:k<a.length:=by omega
  have c:k<b.length:=by omega
  rw[gv h1,gv c];refine⟨⟨by omega,e⟩,⟨by omega,by omega⟩,fun e2=>⟨?_,trivial⟩,fun e2=>⟨k+1,rfl,rfl,d6 (by omega),⟨h1,hl, ?_⟩,by omega,trivial⟩⟩
  ·have e2:a[k]≠b[k]:=by grind
   refine(decide_eq_false fun h=>e2 ?_).symm
   subst h;rfl
  ·have e2:a[k]=b[k]:=by grind
   rw[List.take_succ_eq_append_getElem h1,List.take_succ_eq_append_getElem c,d,e2]
 ·have e:=qc e;have h1:a.take k=a:=List.take_of_length_le (by omega)
  have c:b.take k=b:=List.take_of_length_le (by omega)
  rw[h1,c]at d;exact(decide_eq_true d).symm
theorem Nl(a b:List Int):Go.Sy.Tree.holds (bt F (bf []) 300 Tryz.f66 b66 ⟨[(4,smC a b)],.b (hT a b),[]⟩ [.tl (T:=T) 0 a,.tl (T:=T) 0 b])=smE a b:=by kernel_rfl
theorem LY(a b:List Int)(k:Nat):Go.Sy.Tree.holds (bV F (bf []) 300 Tryz.f66 b66 ⟨[(4,smC a b)],.b (hT a b),[]⟩ 4 (smC a b) k)=smS a b k:=by kernel_rfl
theorem K2(a b:List Int):b7 (bt F (bf []) 300 Tryz.f66 b66 ⟨[(4,smC a b)],.b (hT a b),[]⟩ [.tl (T:=T) 0 a,.tl (T:=T) 0 b]):=by
 refine⟨?_⟩;rw[Nl];exact Fh a b
theorem L1(a b:List Int)(k:Nat)(c:a.length≤100000)(h:(smC a b).I k):b7 (bV F (bf []) 300 Tryz.f66 b66 ⟨[(4,smC a b)],.b (hT a b),[]⟩ 4 (smC a b) k):=by
 refine⟨?_⟩;rw[LY];exact FB c h.1 h.2.1 h.2.2
theorem M3:bi F.S 66 (bB smD):=
 bv (fn:=Tryz.f66) (body:=b66) (ctr:=bf []) bE noExt bC cd Tryz.func66 rfl rfl rfl smD 300 (fun(x:List Int×List Int×Unit)=>[(4,smC x.1 x.2.1)]) (show 2≤Tryz.f66.ntmps by decide) (show Tryz.f66.ntmps≤512 by decide) (by kernel_rfl) (fun _ _=>⟨rfl,rfl⟩)
  (fun(x:List Int×List Int×Unit) a=>K2 x.1 x.2.1) (fun(x:List Int×List Int×Unit) a p b s c=>by
   rw[qt]at b;subst b;exact L1 x.1 x.2.1 s a c)
theorem LB(a b:List Int):Go.Sy.Tree.holds (bt F (bf []) 300 Tryz.f67 b67 ⟨[(4,smC a b)],.b (hT a b),[]⟩ [.tl (T:=T) 0 a,.tl (T:=T) 0 b])=smE a b:=by kernel_rfl
theorem LC(a b:List Int)(k:Nat):Go.Sy.Tree.holds (bV F (bf []) 300 Tryz.f67 b67 ⟨[(4,smC a b)],.b (hT a b),[]⟩ 4 (smC a b) k)=smS a b k:=by kernel_rfl
theorem M9(a b:List Int):b7 (bt F (bf []) 300 Tryz.f67 b67 ⟨[(4,smC a b)],.b (hT a b),[]⟩ [.tl (T:=T) 0 a,.tl (T:=T) 0 b]):=by
 refine⟨?_⟩;rw[LB];exact Fh a b
theorem MM(a b:List Int)(k:Nat)(c:a.length≤100000)(h:(smC a b).I k):b7 (bV F (bf []) 300 Tryz.f67 b67 ⟨[(4,smC a b)],.b (hT a b),[]⟩ 4 (smC a b) k):=by
 refine⟨?_⟩;rw[LC];exact FB c h.1 h.2.1 h.2.2
theorem LE:bi F.S 67 (bB smD):=
 bv (fn:=Tryz.f67) (body:=b67) (ctr:=bf []) bE noExt bC cd Tryz.func67 rfl rfl rfl smD 300 (fun(x:List Int×List Int×Unit)=>[(4,smC x.1 x.2.1)]) (show 2≤Tryz.f67.ntmps by decide) (show Tryz.f67.ntmps≤512 by decide) (by kernel_rfl) (fun _ _=>⟨rfl,rfl⟩)
  (fun(x:List Int×List Int×Unit) a=>M9 x.1 x.2.1) (fun(x:List Int×List Int×Unit) a p b s c=>by
   rw[qt]at b;subst b;exact MM x.1 x.2.1 s a c)
end Go.Proofs.Y
namespace Go.Proofs.Y
open Go.RowKit Go.Am Go.Sy
def fk5(x:Int)(K:Nat→Go.Sy.Tree):Go.Sy.Tree:=.need (-1≤x∧x≤3) (.fork (x==0) (K 1) (.fork (x==1) (K 2) (.fork (x==2) (K 3) (.fork (x==3) (K 4) (K 0)))))
def liJ(j:Nat):V:=li ((j:Int)-1)
noncomputable def BR(f:FuncId)(l:List (FuncId×Ctr cod)):Ctr cod:=fun a args h K=>nJ F (bf l) (mD F (bf l) 600) a f args h K
theorem nF(f:FuncId){l:List (FuncId×Ctr cod)}(hl:cv F.S (bf l)):bi F.S f (BR f l):=fun E lo a args h H K av b d e=>ji bE hl (eN bE noExt bC hl 600) E lo a f args h H K av b d e
noncomputable def Em:List (FuncId×Ctr cod):=[(18,zk (.bool false) (bB caD))]
noncomputable def Hg:List (FuncId×Ctr cod):=[(27,zk (.bool false) (bB rcD))]
noncomputable def ox(n:Nat)(c:Nat→Ctr cod)(o:Ctr cod):Ctr cod:=fun a args h K=>match args with
 | [p,.i .i64 x]=>fk5 x fun j=>bif Nat.ble 1 j && Nat.ble j n then c (j-1) a [p,li ((j-1:Nat):Int)] h K else o a [p,liJ j] h K
 |_=>.stuck "who"
variable {x:Int}
theorem M5{K:Nat→Go.Sy.Tree}(h:(fk5 x K).holds):∃j:Nat,j≤4∧x=(j:Int)-1∧(K j).holds:=by
 obtain⟨⟨h1,g⟩,k,a⟩:=h
 by_cases e:x=0
 ·grind
 obtain⟨a,b⟩:=a (by grind)
 by_cases e1:x=1
 ·grind
 obtain⟨b,d⟩:=b (by grind)
 by_cases e2:x=2
 ·grind
 obtain⟨d,l⟩:=d (by grind)
 grind
theorem xH{E:Env}{m:Int}{p:V}{av:List bc}(e:x=m)(h:Ers E [p,.i .i64 x] av):Ers E [p,li m] av:=by
 obtain⟨a,t,rfl,h1,d⟩:=h.inv_cons;obtain⟨b,u,rfl,g,j⟩:=d.inv_cons;subst e;cases g;exact .cons h1 (.cons (.a _) j)
variable {c:Nat→Ctr cod}{f:FuncId}
theorem kU{n:Nat}{o:Ctr cod}(hc:∀t,t<n→bi F.S f (c t))(k:bi F.S f o):bi F.S f (ox n c o):=by
 intro E lo b args h H K av a d e;unfold ox at a;split at a
 ·obtain⟨j,l,g,a⟩:=M5 a;cases hb:(Nat.ble 1 j && Nat.ble j n)with
  |true=>
   rw[hb]at a;simp at hb;exact hc (j-1) (by omega) E lo b _ h H K av a d (xH (by omega) e)
  |false=>
   rw[hb]at a;exact k E lo b _ h H K av a d (xH g e)
 ·exact qw a
def rAt(c:bg)(n B:Nat)(S:RM):List Ob:=
 [.cells (enc4 c++[.sl 11 (B+3) 0 n n false,.R (B+1),.R (B+2),.sl 1 (B+4) 0 3 3 false]),.rows 0 S.w false (B+1),.rows 0 S.o false (B+2),.cells (Mk S.th (B+8) n),.cells [.R (B+5),.R (B+6),.R (B+7)],
  .rows 0 (S.q 0) false (B+5),.rows 0 (S.q 1) false (B+6),.rows 0 (S.q 2) false (B+7)]++Fc S.th (B+8) n
structure LS where
 l:List Int
 K:MK
 S:MT
 R:RM
 k:Nat
structure LI(n:Nat)(s:LS):Prop where
 l:s.l.length≤200
 k:s.k≤s.l.length
 run:PH n s.K s.S
 both:Both s.K n s.S s.R
def Kb(n:Nat)(s:LS):List Ob:=jR s.K n 5 s.S++iR n s.S++rAt s.K.c n (8+2*n) s.R
def l8(n:Nat):dN cod:=⟨LS,LI n,fun s=>2*(200-s.k)+1,fun s=>[(2,.tl (T:=T) 0 s.l),(8,.ptr 0 0),(9,.ptr (8+2*n) 0),(10,.i .i64 (s.k:Int))],Kb n⟩
def l20(n:Nat):dN cod:=⟨LS,fun s=>LI n s∧s.k<s.l.length,fun s=>2*(200-s.k),fun s=>[(2,.tl (T:=T) 0 s.l),(8,.ptr 0 0),(9,.ptr (8+2*n) 0),(10,.i .i64 (s.k:Int))],Kb n⟩
def CC(i:Nat)(p:V)(h:SH cod):Nat:=match p with
 | .ptr id _=>match bF h id with
  |some (.cells cs)=>match (cs[i]?:Option V)with
   |some (.sl _ _ _ n _ _)=>n
   |_=>0
  |_=>0
 |_=>0
def byN(i:Nat)(c:Nat→Ctr cod):Ctr cod:=fun b args h K=>match args with
 |p::a=>bif Nat.beq (CC i p h) 1 then c 1 b (p::a) h K else bif Nat.beq (CC i p h) 2 then c 2 b (p::a) h K else bif Nat.beq (CC i p h) 3 then c 3 b (p::a) h K else .stuck "by"
 |_=>.stuck "by"
theorem n9{i:Nat}(hc:∀n,1≤n→n≤3→bi F.S f (c n)):bi F.S f (byN i c):=by
 intro E lo d args h H K av b e g;unfold byN at b;split at b
 ·rename_i p a;generalize CC i p h=n at b;cases h1:Nat.beq n 1 with
  |true=>rw[h1]at b;exact hc 1 (by decide) (by decide) E lo d _ h H K av b e g
  |false=>
   rw[h1]at b;cases h2:Nat.beq n 2 with
   |true=>rw[h2]at b;exact hc 2 (by decide) (by decide) E lo d _ h H K av b e g
   |false=>
    rw[h2]at b;cases h3:Nat.beq n 3 with
    |true=>rw[h3]at b;exact hc 3 (by decide) (by decide) E lo d _ h H K av b e g
    |false=>rw[h3]at b;exact qw b
 ·exact qw b
noncomputable def He:Ctr cod:=fun _ args h K=>match args with
 | []=>K (.a (.bool true)) h
 |_=>.stuck "told"
theorem Uo:F.S.hook 10=some (mm tY 10):=by kernel_rfl
theorem Fk:bi F.S 10 He:=by
 intro E lo d args h H K av b e g;unfold He at b;split at b
 ·obtain rfl:=g.inv_nil;exact⟨.bool true,H,_,h,E,⟨0,by rfl⟩,LeN.refl _ _,qe _,e,qe _,.a _,b⟩
 ·exact qw b
noncomputable def d20(n:Nat):Ctr cod:=ox n (fun t=>scZ (PH n) n t) (BR 20 [])
noncomputable def d23(n:Nat):Ctr cod:=ox n (fun t=>qcZ (PR n) n t) (BR 23 [])
noncomputable def d17(n:Nat):Ctr cod:=ox n (fun t=>xZ n t) (BR 17 Em)
noncomputable def d26(n:Nat):Ctr cod:=ox n (fun t=>rpZ n t) (BR 26 Hg)
noncomputable def d24(n:Nat):Ctr cod:=DR (PH n) n
noncomputable def d25(n:Nat):Ctr cod:=rrZ (PR n) n
noncomputable def Kj:List (FuncId×Ctr cod):=[(10,He),(20,byN 15 d20),(23,byN 12 d23),(24,byN 15 d24),(25,byN 12 d25),(17,byN 15 d17),(26,byN 12 d26),
 (18,bB caD),(27,bB rcD),(51,l9 51 (bB clD)),(52,l9 52 (bB clD)),(66,bB smD),(67,bB smD)]
theorem FF:cv F.S (bf Em):=bW fun p h=>by
 simp only[Em,qt]at h;subst h;exact tW _ Dj
theorem F8:cv F.S (bf Hg):=bW fun p h=>by
 simp only[Hg,qt]at h;subst h;exact tW _ Js
theorem k20(n:Nat)(a:1≤n)(b:n≤3):bi F.S 20 (d20 n):=kU (c:=fun t=>scZ (PH n) n t) (fun t d=>LD (sm n) a b d) (nF 20 cd)
theorem k23(n:Nat)(a:1≤n)(b:n≤3):bi F.S 23 (d23 n):=kU (c:=fun t=>qcZ (PR n) n t) (fun t d=>Li (Mg n) a b d) (nF 23 cd)
theorem k17(n:Nat)(a:1≤n)(b:n≤3):bi F.S 17 (d17 n):=kU (c:=fun t=>xZ n t) (fun t d=>vM n t a b d) (nF 17 FF)
theorem k26(n:Nat)(a:1≤n)(b:n≤3):bi F.S 26 (d26 n):=kU (c:=fun t=>rpZ n t) (fun t d=>GE n t a b d) (nF 26 F8)
theorem k24(n:Nat)(a:1≤n)(b:n≤3):bi F.S 24 (d24 n):=Dp (sm n).toB6 a b
theorem k25(n:Nat)(a:1≤n)(b:n≤3):bi F.S 25 (d25 n):=Lf (Mg n).toJj a b
def J5:List (Nat×dN cod):=[(8,l8 1),(8,l8 2),(8,l8 3),(20,l20 1),(20,l20 2),(20,l20 3)]
noncomputable def Tw(a:Nat)(r:SR cod)(h:SH cod):Option Nat:=let n:=CC 15 (r.get 8) h
 bif Nat.beq n 0 then none else bif Nat.beq a 8 then some (n-1)else bif Nat.beq a 20 then some (n+2)else none
noncomputable def b8:Code:=Tryz.f8.body.getD .skip
end Go.Proofs.Y
namespace Go.Proofs.Y
open Go.RowKit Go.Am Go.Sy
structure C4 where
 l:List Int
 k:K8
 ps:Nat→List Instr
def psV(ps:Nat→List Instr):Nat→List V
 |0=>[]
 |k+1=>psV ps k++[.tl (T:=T) 2 (ps k)]
structure C4I(n:Nat)(s:C4):Prop where
 l:s.l.length≤200
 ps:∀t,t<n→s.ps t=[]∨∃x:List Int,s.ps t=fz x
 ne:2≤n→∀t,t<n→s.ps t≠[]
def SW(k:K8)(n:Nat):List V:=(enc4 (fy k [])).take 8++[.sl 1 1 0 9 9 false,.sl 3 2 0 3 3 false,.sl 1 3 0 3 3 false,.sl 1 4 0 n n false]
def lkV(k:K8):List V:=[iv (oneOf k),li 0,li 3,iv (IntKind.i64.wrap (3-oneOf k)),li 3,li 3,li 3,li 6,li 3]
def l4(n:Nat):dN cod:=⟨C4,C4I n,fun _=>1000,fun s=>[(2,.tl (T:=T) 0 s.l),(7,.ptr 0 0)],fun s=>[.cells (SW s.k n),.cells [li 0,li 1,li 2,li 3,li 0,li 1,li 2,li 3,li 0],.cells (lkV s.k),.cells [li 0,li 1,li 2],.cells (psV s.ps n)]⟩
def N4:V→Bool
 | .a (.int _ m)=>m==1
 |_=>false
def D2(w:Nat):Nat→List V→Bool
 |0,_=>false
 |f+1,cs=>match cs[2]? with
  |some v=>N4 v||D2 w f (cs.drop w)
  |none=>false
def Ny:Option Ob→Bool
 |some (.cells cs)=>(Nat.beq (cs.length%10) 0 && D2 10 4 cs)||(Nat.beq (cs.length%11) 0 && D2 11 4 cs)
 |_=>false
def Gs(h:SH cod):Bool:=(match bF h 4 with
 |some (.cells cs)=>Nat.ble cs.length 1
 |_=>true)||!h.any Ny
def nK(c:Ctr cod):Ctr cod:=fun a args h K=>bif Gs h then c a args h K else .stuck "done"
theorem lW{f:FuncId}{c:Ctr cod}(hc:bi F.S f c):bi F.S f (nK c):=by
 intro E l b args h H K av a d e;unfold nK at a;cases hb:Gs h with
 |false=>rw[hb]at a;exact qw a
 |true=>rw[hb]at a;exact hc E l b args h H K av a d e
noncomputable def Fm:List (FuncId×Ctr cod):=[(59,nK (bB rmD))]
noncomputable def gn:List (FuncId×Ctr cod):=[(9,bB fwD),(31,oL (C:=cod) pgP (fun(x:List Int×Unit)=>rf x.1) 2 (fun(x:List Int×Unit)=>fz x.1)),(87,bB prD),(53,nK Ma),(54,PD),(22,nK (BR 22 Fm))]++Kj
def hN:List (Nat×dN cod):=J5++[(4,l4 1),(4,l4 2),(4,l4 3)]
noncomputable def nL(a:Nat)(r:SR cod)(h:SH cod):Option Nat:=bif Nat.beq a 4 then(let n:=CC 11 (r.get 7) h;bif Nat.beq n 0 then none else some (n+5))else bif Gs h then Tw a r h else none
end Go.Proofs.Y

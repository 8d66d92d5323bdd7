import Derived.Test.YtcholkmididfmaaGreatDoorDw
import Derived.Test.YtcholkmididfmaaGreatDoorEw
import Derived.Test.YtcholkmididfmaaGreatDoorLib6
set_option linter.unusedVariables false
set_option linter.unusedSimpArgs false
namespace Go.Proofs.Y
open Go.RowKit Go.Am Go.Sy
theorem sK(K:MK)(n:Nat)(S:MT):(BL K n S).length=8+2*n:=by
 have:=pI K n S (List.replicate (8+2*n) none) (by grind)
 rw[mIn,List.drop_of_length_le (by grind),List.append_nil,List.length_replicate]at this
 exact this
theorem Q7(n t:Nat):ou (pzD n t) where
 len:=fun s h _=>sK s.K n s.S
 ahead:=fun s h j _ _ a=>by cases a
 behind:=fun B b s h j _ _ a=>by cases a
theorem L0(n t:Nat)(s:PkS)(d:PkI n t s):pzP n t s:=by
 refine Hl _ ⟨s,oA n s.K s.S rfl ⟨d,fun y c=>?_,fun y c=>?_,trivial⟩⟩ _
 ·obtain⟨h1,a,b⟩:=c;exact F5 ⟨h1,a,b⟩
 ·obtain⟨h1,a,b,_⟩:=c;exact F5 ⟨h1,a,b⟩
theorem tu(n t:Nat)(h1:1≤n)(c:n≤3)(e:t<n)(d:∀s h,Go.Sy.Tree.holds (vcC (nD n t) (pzD n t) s h)=pzP n t s):bi F.S 17 (xZ n t):=
 cR bE _ _ (c7 bE _ _ (Q7 n t) fun s b h hl a=>⟨nD n t,cR bE _ _ (KT n t h1 c (by omega)),⟨by
  show Go.Sy.Tree.holds (vcC (nD n t) (pzD n t) s h);rw[d];exact L0 n t s b⟩⟩)
theorem vM:∀n t,1≤n→n≤3→t<n→bi F.S 17 (xZ n t)
 |1,0,a,b,c=>tu 1 0 a b c Ow
 |2,0,a,b,c=>tu 2 0 a b c Ou
 |2,1,a,b,c=>tu 2 1 a b c OF
 |3,0,a,b,c=>tu 3 0 a b c PV
 |3,1,a,b,c=>tu 3 1 a b c PF
 |3,2,a,b,c=>tu 3 2 a b c NG
theorem xw{n:Nat}(h1:1≤n)(e:n≤3):bi F.S 17 (AI n):=by
 intro E lo b args h H K av a c d;unfold AI at a;split at a
 ·rename_i p t;cases hb:Nat.blt t n with
  |false=>rw[hb]at a;exact qw a
  |true=>
   rw[hb]at a;rw[Nat.blt_eq]at hb;exact vM n t h1 e hb E lo b _ h H K av a c d
 ·exact qw a
theorem T0{n:Nat}(h1:1≤n)(a:n≤3):cv F.S (bf (w5 n)):=bW fun p h=>by
 simp only[w5,List.mem_cons,List.not_mem_nil,or_false]at h;rcases h with rfl|rfl|rfl
 ·exact Dj
 ·exact MC
 ·exact xw h1 a
structure B6(P:MK→MT→Prop)(n:Nat):Prop where
 can:∀{K S},P K S→ua (bw K n S)
 pk:∀{K S t},P K S→t<n→PkI n t ⟨K,S⟩
 next:∀{K S t},P K S→t<n→P K (bZ K n t S)
 less:∀{K S t},P K S→t<n→cj (bw K n S) t=true→mF ((bZ K n t S).th t)<mF (S.th t)
 most:∀{K S t},P K S→t<n→mF (S.th t)≤2002
theorem Hf{P:MK→MT→Prop}{n:Nat}(hP:B6 P n){K:MK}{S:MT}(h:P K S){t:Nat}(j:t<n)(hc:cj (bw K n S) t=true):enD.pre (bw K n S,(t:Int),()):=by
 have d:=hP.can h;have a:(bw K n S).all.length=n:=eu _ _;obtain⟨_,b,f,g⟩:=yB n ⟨K,S⟩ d hc;have b:t<K.c.progs.length:=b;have e:bN (bw K n S).all (t:Int)=S.th t:=lb j;show(0≤(t:Int)∧(t:Int)<(bw K n S).all.length)∧(t:Int)<(bw K n S).progs.length∧0≤(bN (bw K n S).all (t:Int)).at_∧(bN (bw K n S).all (t:Int)).at_<(at3 (bw K n S).progs (t:Int)).length;rw[a,e];exact⟨⟨by omega,by omega⟩,by show(t:Int)<K.c.progs.length;omega,f,g⟩
section
variable {P:MK→MT→Prop}{n:Nat}(hP:B6 P n)(s:RsS)
include hP
theorem BO{t:Nat}{y:RtS}(c:t<n)(h:P s.K y.S)(a:y.S=lM s.K n (t+1) s.S):nQ P n s t y:=by
 unfold nQ;cases hb:Nat.blt (t+1) n with
 |true=>
  rw[Nat.blt_eq]at hb;refine qO P n s 2005 ⟨⟨h, ?_, ?_⟩, ?_,trivial⟩
  ·rw[a];rfl
  ·have:=hP.most h hb;grind
  ·show 3000*(n-(t+1))+2005<3000*(n-t)+y.r;omega
 |false=>
  have b:t+1=n:=by
   have:¬t+1<n:=fun x=>by rw[← Nat.blt_eq,hb]at x;cases x
   omega
  exact Mz ⟨rfl,by rw[a,b]⟩
theorem LU{t:Nat}(d:t<n):rsV P n s t:=by
 rintro⟨S,r⟩ ⟨h,e,g⟩;have g:mF (S.th t)<r:=g;obtain⟨r,rfl⟩:∃m,r=m+1:=⟨r-1,by omega⟩
 have out:rgB s.K n S t=false→nQ P n s t ⟨S,r+1⟩:=fun o=>BO hP s d h (by
  rw[lG,if_neg (by grind)]at e
  exact e)
 refine⟨hP.can h,fun hc=>⟨fun k=>⟨Hf hP h d hc,fun f=>?_,fun f=>?_⟩,fun k=>?_⟩,fun hc=>?_⟩
 ·have j:rgB s.K n S t=true:=by
   show(_ && (_ && _))=true;grind
  refine⟨⟨s.K,S⟩,oA n s.K S rfl ⟨hP.pk h d,fun y l=>?_,trivial⟩⟩
  obtain⟨a,b,c⟩:=y;obtain⟨rfl,rfl,_⟩:=l;have hl:mF ((bZ s.K n t S).th t)<mF (S.th t):=hP.less h d hc;refine qO P n s r ⟨⟨hP.next h d, ?_, ?_⟩, ?_,trivial⟩
  ·rw[lG,if_pos j]at e;exact e
  ·grind
  ·show 3000*(n-t)+r<3000*(n-t)+(r+1);omega
 ·exact out (by show(_ && (_ && _))=false;grind)
 ·exact out (by show(_ && (_ && _))=false;grind)
 ·exact out (by show(_ && _)=false;grind)
theorem AK(h:P s.K s.S)(h1:1≤n):∀k t,k+t=n→CB P n s k t
 |0,t,_=>qO P n s 2005 ⟨⟨h,rfl,by have:=hP.most h h1;grind⟩,trivial⟩
 |k+1,t,e=>⟨LU hP s (by omega),AK h h1 k (t+1) (by omega)⟩
end
noncomputable def DR(P:MK→MT→Prop)(n:Nat):Ctr cod:=dD Jl (fun _ _=>none) (pb (rsD P n))
theorem Ti(P:MK→MT→Prop)(n:Nat):ou (rsD P n) where
 len:=fun s h _=>sK s.K n s.S
 ahead:=fun s h j _ _ a=>by cases a
 behind:=fun B b s h j _ _ a=>by cases a
theorem Hj{P:MK→MT→Prop}{n:Nat}(hP:B6 P n)(h1:1≤n)(c:n≤3)(d:∀s h,Go.Sy.Tree.holds (vcC (rsC P n s) (rsD P n) s h)=CB P n s n 0):bi F.S 24 (DR P n):=
 cR bE _ _ (c7 bE _ _ (Ti P n) fun s b h hl a=>⟨rsC P n s,dc (body:=b24) bE noExt bC (T0 h1 c) Tryz.func24 rfl (by kernel_rfl) (by kernel_rfl) 2000 _ Bx (by kernel_rfl),⟨by
  exact(d s h).mpr (AK hP s b h1 n 0 rfl)⟩⟩)
theorem Dp{P:MK→MT→Prop}:∀{n:Nat},B6 P n→1≤n→n≤3→bi F.S 24 (DR P n)
 |1,hP,a,b=>Hj hP a b (RO P)
 |2,hP,a,b=>Hj hP a b (Rq P)
 |3,hP,a,b=>Hj hP a b (TO P)
end Go.Proofs.Y
namespace Go.Proofs.Y
open Go.RowKit Go.Am Go.Sy
noncomputable def b73:Code:=Tryz.f73.body.getD .skip
def SY(l:List Held):Prop:=(l=[]→[]=l∧True)∧(([]:List Held).length+l.length)*16≤140737488355328∧[]++l=l∧True
theorem QG(l:List Held):Go.Sy.Tree.holds (bt F (bf []) 400 Tryz.f73 b73 ⟨[],.R 0,[.rows 6 l true 0]⟩ [.tl (T:=T) 6 l])=SY l:=by kernel_rfl
def Il:eC cod where
 pats:=[.tl 6]
 pre:=fun(x:List Held×Unit)=>x.1.length≤100000
 res:=fun(x:List Held×Unit)=>.R 0
 objs:=fun(x:List Held×Unit)=>[.rows 6 x.1 true 0]
theorem OS:bi F.S 73 (bB Il):=
 bv (fn:=Tryz.f73) (body:=b73) (ctr:=bf []) bE noExt bC cd Tryz.func73 rfl rfl rfl Il 400 (fun _=>[]) (show 1≤Tryz.f73.ntmps by decide) (show Tryz.f73.ntmps≤512 by decide) (by kernel_rfl) (fun _ _=>⟨rfl,rfl⟩)
  (fun(x:List Held×Unit) a=>⟨by
   show Go.Sy.Tree.holds (bt F (bf []) 400 Tryz.f73 b73 ⟨[],.R 0,[.rows 6 x.1 true 0]⟩ [.tl (T:=T) 6 x.1]);rw[QG];have a:x.1.length≤100000:=a;exact⟨fun h=>⟨h.symm,trivial⟩,by grind,rfl,trivial⟩⟩) (fun x a p b=>by cases b)
def vA(K:MK)(n t:Nat):Nat→Bool→MT→Option MT
 |0,_,_=>none
 |r+1,b,S=>if cj (bw K n S) t=true then
  (if(b||(decide ((S.th t).awake≥0)||fi (bw K n S) t))=true∧(((bZ K n t S).th t).opn.length=0∨((bZ K n t S).th t).status≠0)then some (bZ K n t S)
   else vA K n t r (b||(decide ((S.th t).awake≥0)||fi (bw K n S) t)) (bZ K n t S))
  else none
def kb(K:MK)(n t:Nat)(S:MT):Option MT:=if(S.th t).opn.length>0 then none else vA K n t 2010 false S
structure ScS where
 S:MT
 r:Nat
 b:Bool
def Km(K:MK)(n B:Nat)(S:MT):List (Option Ob):=
 [some (.cells (enc4 K.c++[.tl (T:=T) 5 K.m,.R (B+1),.R (B+2),.sl 10 (B+4) 0 n n false,.sl 1 (B+6) 0 3 3 false])),some (.rows 0 S.w false (B+1)),some (.rows 0 S.o false (B+2)),none,some (.cells (M6 S.th (B+7) n)),none,
  some (.cells [.R (B+7+2*n),.R (B+8+2*n),.R (B+9+2*n)])]++((GV S.th (B+7) n).map some++[some (.rows 0 (S.q 0) false (B+7+2*n)),some (.rows 0 (S.q 1) false (B+8+2*n)),some (.rows 0 (S.q 2) false (B+9+2*n))])
def TP(K:MK)(n B:Nat)(S:MT):SH cod:=
 [some (.cells (enc4 K.c++[.tl (T:=T) 5 K.m,.R (B+1),.R (B+2),.sl 10 (B+4) 0 n n false,.sl 1 (B+6) 0 3 3 false]))]++List.replicate (7+2*n) none++none::(Km K n B S).tail
section
variable (P:MK→MT→Prop)(n t:Nat)
def scL(s:RsS):LpD cod:=⟨8+2*n,ScS,fun z=>P s.K z.S∧vA s.K n t z.r z.b z.S=kb s.K n t s.S∧mF (z.S.th t)<z.r,fun z=>z.r,fun z=>[(0,.ptr 0 0),(1,li t),(5,.ptr (8+2*n) 0),(6,.b z.b)],fun z=>BL s.K n s.S++Km s.K n (8+2*n) z.S⟩
def Qj(sv:V)(h:SH cod):Nat:=match sv with
 | .a (.bool true)=>1
 |_=>0
def scD:FrD cod:=⟨8+2*n,fun _=>true,RsS,fun s=>P s.K s.S,fun s=>[.ptr 0 0,li t],fun s _=>BL s.K n s.S,
 [⟨MK×MT,fun s r=>r.1=s.K∧r.2=s.S∧kb s.K n t s.S=none,fun r=>.a (.bool false),fun r _=>BL r.1 n r.2⟩,⟨MK×MT,fun s r=>r.1=s.K∧kb s.K n t s.S=some r.2,fun r=>.a (.bool true),fun r _=>TP r.1 n (8+2*n) r.2⟩],Qj⟩
noncomputable def b20:Code:=Tryz.f20.body.getD .skip
noncomputable def w6:List (FuncId×Ctr cod):=[(18,bB caD),(58,bB enD),(17,AI n),(51,l9 51 (bB clD)),(52,l9 52 (bB clD)),(73,l9 73 (bB Il))]
noncomputable def scC(s:RsS):Ctr cod:=iy F (bf (w6 n)) 2000 Tryz.f20 b20 (fun _ _=>[(5,scL P n t s)]) (fun _ _=>0)
end
end Go.Proofs.Y
namespace Go.Proofs.Y
open Go.RowKit Go.Am Go.Sy
set_option maxRecDepth 100000
section
variable (P:MK→MT→Prop)(n t:Nat)(s:RsS)
def wV(K:MK)(S:MT)(b:Bool)(Q:ScS→Prop):Prop:=∃z:ScS,s.S.w=s.S.w∧s.S.o=s.S.o∧s.S.q 0=s.S.q 0∧s.S.q 1=s.S.q 1∧s.S.q 2=s.S.q 2∧lsE s.S.th s.S.th n (ai t=ai t∧kE K s.K (S.w=z.S.w∧S.o=z.S.o∧sL S.th z.S.th n (S.q 0=z.S.q 0∧S.q 1=z.S.q 1∧S.q 2=z.S.q 2∧
 b=z.b∧sP s.S.th s.S.th n (kE s.K s.K ((scL P n t s).I z∧Q z)))))
theorem sY(K:MK){P:Prop}(h:P):kE K K P:=⟨rfl,rfl,rfl,rfl,rfl,rfl,rfl,rfl,rfl,rfl,rfl,rfl,rfl,h⟩
theorem vN{S:MT}{b:Bool}{Q:ScS→Prop}(r:Nat)(h:(scL P n t s).I ⟨S,r,b⟩∧Q ⟨S,r,b⟩):wV P n t s s.K S b Q:=
 ⟨⟨S,r,b⟩,rfl,rfl,rfl,rfl,rfl,j9 _ ⟨rfl,sY _ ⟨rfl,rfl,gA _ ⟨rfl,rfl,rfl,rfl,iw _ (sY _ h) _⟩ _⟩⟩ _⟩
def scT(K:MK)(S:MT):Prop:=∃r:MK×MT,bc.bool true=bc.bool true∧kE K r.1 (S.w=r.2.w∧S.o=r.2.o∧sL S.th r.2.th n (S.q 0=r.2.q 0∧S.q 1=r.2.q 1∧S.q 2=r.2.q 2∧(r.1=s.K∧kb s.K n t s.S=some r.2)∧True))
theorem ME{S:MT}(h:kb s.K n t s.S=some S):scT n t s s.K S:=⟨(s.K,S),rfl,sY _ ⟨rfl,rfl,gA _ ⟨rfl,rfl,rfl,⟨rfl,h⟩,trivial⟩ _⟩⟩
def scF:Prop:=∃r:MK×MT,s.S.w=r.2.w∧s.S.o=r.2.o∧s.S.q 0=r.2.q 0∧s.S.q 1=r.2.q 1∧s.S.q 2=r.2.q 2∧lsE s.S.th r.2.th n (bc.bool false=bc.bool false∧sP s.S.th r.2.th n (kE s.K r.1 ((r.1=s.K∧r.2=s.S∧kb s.K n t s.S=none)∧True)))
theorem Ga(h:kb s.K n t s.S=none):scF n t s:=⟨(s.K,s.S),rfl,rfl,rfl,rfl,rfl,j9 _ ⟨rfl,iw _ (sY _ ⟨⟨rfl,rfl,h⟩,trivial⟩) _⟩ _⟩
def u9(S:MT)(a:MK×MT×Bool→Prop):Prop:=∃z:PkS,toE n s.K z.K S z.S (ai t=ai t) (PkI n t z∧(∀r:MK×MT×Bool,r.1=z.K∧r.2.1=bZ z.K n t z.S∧r.2.2=cj (bw z.K n z.S) t→a r)∧True)
theorem nW{S:MT}{a:MK×MT×Bool→Prop}(b:PkI n t ⟨s.K,S⟩)(h:a (s.K,bZ s.K n t S,cj (bw s.K n S) t)):u9 n t s S a:=⟨⟨s.K,S⟩,oA n s.K S rfl ⟨b,fun y c=>by
 grind,trivial⟩⟩
def scE(m:Nat)(b:Bool)(r:MK×MT×Bool):Prop:=((((r.2.1.th t).opn.length:Int)==0)=true→scT n t s r.1 r.2.1)∧((((r.2.1.th t).opn.length:Int)==0)=false→(((r.2.1.th t).status !=0)=true→scT n t s r.1 r.2.1)∧(((r.2.1.th t).status !=0)=false→wV P n t s r.1 r.2.1 b fun z=>(scL P n t s).m z<m∧True))
def scV:Prop:=∀y:ScS,(scL P n t s).I y→caD.pre (bw s.K n y.S,(t:Int),())∧(cj (bw s.K n y.S) t=true→(y.b=true→u9 n t s y.S (scE P n t s ((scL P n t s).m y) true))∧(y.b=false→
 (decide ((y.S.th t).awake≥0)=true→u9 n t s y.S (scE P n t s ((scL P n t s).m y) true))∧(decide ((y.S.th t).awake≥0)=false→enD.pre (bw s.K n y.S,(t:Int),())∧u9 n t s y.S fun r=>(fi (bw s.K n y.S) t=true→scE P n t s ((scL P n t s).m y) (fi (bw s.K n y.S) t) r)∧
  (fi (bw s.K n y.S) t=false→wV P n t s r.1 r.2.1 (fi (bw s.K n y.S) t) fun z=>(scL P n t s).m z<(scL P n t s).m y∧True))))∧(cj (bw s.K n y.S) t=false→scF n t s)
def KV(f:Nat→One):Nat→Prop→Prop
 |0,P=>P
 |k+1,P=>KV f k (Il.pre ((f k).opn,())∧clD.pre ((f k).log,())∧P)
theorem AF{f:Nat→One}{P:Prop}(h:P):∀n,(∀k,k<n→(f k).opn.length≤1000∧(f k).log.length≤1000)→KV f n P
 |0,_=>h
 |n+1,hl=>by
  have:=hl n (by omega)
  exact AF ⟨by show(f n).opn.length≤100000;omega,by show(f n).log.length≤100000;omega,h⟩ n fun k a=>hl k (by omega)
def scP:Prop:=scV P n t s∧(decide (((s.S.th t).opn.length:Int)>0)=true→scF n t s)∧(decide (((s.S.th t).opn.length:Int)>0)=false→clD.pre (s.S.w,())∧clD.pre (s.S.o,())∧KV s.S.th n (clD.pre (s.S.q 0,())∧clD.pre (s.S.q 1,())∧clD.pre (s.S.q 2,())∧wV P n t s s.K s.S false fun _=>True))
end
theorem P3(P:MK→MT→Prop)(s:RsS)(h:SH cod):Go.Sy.Tree.holds (vcC (scC P 1 0 s) (scD P 1 0) s h)=scP P 1 0 s:=by kernel_rfl
theorem Ol(P:MK→MT→Prop)(s:RsS)(h:SH cod):Go.Sy.Tree.holds (vcC (scC P 2 0 s) (scD P 2 0) s h)=scP P 2 0 s:=by kernel_rfl
theorem Ox(P:MK→MT→Prop)(s:RsS)(h:SH cod):Go.Sy.Tree.holds (vcC (scC P 2 1 s) (scD P 2 1) s h)=scP P 2 1 s:=by kernel_rfl
theorem PX(P:MK→MT→Prop)(s:RsS)(h:SH cod):Go.Sy.Tree.holds (vcC (scC P 3 0 s) (scD P 3 0) s h)=scP P 3 0 s:=by kernel_rfl
theorem NA(P:MK→MT→Prop)(s:RsS)(h:SH cod):Go.Sy.Tree.holds (vcC (scC P 3 1 s) (scD P 3 1) s h)=scP P 3 1 s:=by kernel_rfl
theorem NX(P:MK→MT→Prop)(s:RsS)(h:SH cod):Go.Sy.Tree.holds (vcC (scC P 3 2 s) (scD P 3 2) s h)=scP P 3 2 s:=by kernel_rfl
theorem Ri{n:Nat}(h1:1≤n)(a:n≤3):cv F.S (bf (w6 n)):=bW fun p h=>by
 simp only[w6,List.mem_cons,List.not_mem_nil,or_false]at h;rcases h with rfl|rfl|rfl|rfl|rfl|rfl
 ·exact Dj
 ·exact MC
 ·exact xw h1 a
 ·exact mQ Ku
 ·exact mQ Kw
 ·exact mQ OS
structure H4(P:MK→MT→Prop)(n:Nat):Prop extends B6 P n where
 wl:∀{K S},P K S→S.w.length≤1000∧S.o.length≤1000
 ql:∀{K S c},P K S→c<3→(S.q c).length≤1000
 tl:∀{K S t},P K S→t<n→(S.th t).opn.length≤1000∧(S.th t).log.length≤1000
section
variable {P:MK→MT→Prop}{n:Nat}(hP:H4 P n)(s:RsS){t:Nat}
include hP
theorem Mp(d:t<n):scV P n t s:=by
 rintro⟨S,r,b⟩ ⟨h,l,j⟩;have j:mF (S.th t)<r:=j;obtain⟨r,rfl⟩:∃u,r=u+1:=⟨r-1,by omega⟩
 rw[vA]at l;refine⟨hP.can h,fun hc=>?_,fun hc=>Ga n t s (by grind)⟩
 have hl:mF ((bZ s.K n t S).th t)<mF (S.th t):=hP.less h d hc;have k:=hP.next h d;have cut:∀c,vA s.K n t r c (bZ s.K n t S)=kb s.K n t s.S→wV P n t s s.K (bZ s.K n t S) c fun z=>(scL P n t s).m z<r+1∧True:=fun c e=>vN P n t s r ⟨⟨k,e,by grind⟩,by show r<r+1;omega,trivial⟩
 have a:∀c,c=true→(b||(decide ((S.th t).awake≥0)||fi (bw s.K n S) t))=true→scE P n t s (r+1) c (s.K,bZ s.K n t S,cj (bw s.K n S) t):=fun c o v=>by
  have g:(((bZ s.K n t S).th t).opn.length=0∨((bZ s.K n t S).th t).status≠0)→scT n t s s.K (bZ s.K n t S):=fun g=>ME n t s (by grind)
  refine⟨fun e=>g (.inl ?_),fun e=>⟨fun e2=>g (.inr ?_),fun e2=>cut c ?_⟩⟩
  all_goals grind
 refine⟨fun p=>nW n t s (hP.pk h d) (a true rfl (by grind)),fun p=>⟨fun q=>nW n t s (hP.pk h d) (a true rfl ?_),fun q=>⟨Hf hP.toB6 h d hc,nW n t s (hP.pk h d) ⟨fun f=>a _ f ?_,fun f=>cut _ ?_⟩⟩⟩⟩
 all_goals grind
theorem Ld(b:t<n)(h:P s.K s.S):scP P n t s:=by
 obtain⟨g,j⟩:=hP.wl h;have a:∀c,c<3→clD.pre (s.S.q c,()):=fun c hc=>by
  have:=hP.ql h hc;show(s.S.q c).length≤100000;omega
 have f:=hP.most h b;refine⟨Mp hP s b,fun e=>Ga n t s ?_,fun e=>⟨by show s.S.w.length≤100000;omega,by show s.S.o.length≤100000;omega,AF ⟨a 0 (by decide),a 1 (by decide),a 2 (by decide),vN P n t s 2010 ⟨⟨h, ?_, ?_⟩,trivial⟩⟩ n fun k d=>hP.tl h d⟩⟩
 ·have e:=qb e;rw[kb,if_pos (by omega)]
 ·have e:=qc e;rw[kb,if_neg (by omega)]
 grind
end
noncomputable def scZ(P:MK→MT→Prop)(n t:Nat):Ctr cod:=dD Jl (fun _ _=>none) (pb (scD P n t))
theorem RN(P:MK→MT→Prop)(n t:Nat):ou (scD P n t) where
 len:=fun s h _=>sK s.K n s.S
 ahead:=fun s h j _ _ a=>by cases a
 behind:=fun B b s h j _ _ a=>by cases a
theorem tN{P:MK→MT→Prop}{n t:Nat}(hP:H4 P n)(h1:1≤n)(c:n≤3)(d:t<n)(e:∀s h,Go.Sy.Tree.holds (vcC (scC P n t s) (scD P n t) s h)=scP P n t s):bi F.S 20 (scZ P n t):=
 cR bE _ _ (c7 bE _ _ (RN P n t) fun s b h hl a=>⟨scC P n t s,dc (body:=b20) bE noExt bC (Ri h1 c) Tryz.func20 rfl (by kernel_rfl) (by kernel_rfl) 2000 _ _ (by kernel_rfl),⟨by
  exact(e s h).mpr (Ld hP s d b)⟩⟩)
theorem LD{P:MK→MT→Prop}:∀{n t:Nat},H4 P n→1≤n→n≤3→t<n→bi F.S 20 (scZ P n t)
 |1,0,hP,a,b,c=>tN hP a b c (P3 P)
 |2,0,hP,a,b,c=>tN hP a b c (Ol P)
 |2,1,hP,a,b,c=>tN hP a b c (Ox P)
 |3,0,hP,a,b,c=>tN hP a b c (PX P)
 |3,1,hP,a,b,c=>tN hP a b c (NA P)
 |3,2,hP,a,b,c=>tN hP a b c (NX P)
end Go.Proofs.Y
namespace Go.Proofs.Y
open Go.RowKit Go.Am Go.Sy
def fdD:eC cod where
 pats:=[.int .i64]
 pre:=fun x=>True
 res:=fun(x:Int×Unit)=>.tup [.i .i64 (shA x.1),.i .i64 (shB x.1),.i .i64 (shC x.1),.b (shN x.1==5)]
 objs:=fun x=>[]
def fkD:eC cod where
 pats:=[.int .i64,.int .i64]
 pre:=fun(x:Int×Int×Unit)=>0≤x.1∧x.1<5
 res:=fun(x:Int×Int×Unit)=>.b (cU x.1 x.2.1)
 objs:=fun x=>[]
def trD:eC cod where
 pats:=[.bool]
 pre:=fun x=>True
 res:=fun(x:Bool×Unit)=>.i .i64 (vB x.1)
 objs:=fun x=>[]
def haD:eC cod where
 pats:=[.frow 16]
 pre:=fun(x:Man×Unit)=>x.1.has.length≤1000
 res:=fun(x:Man×Unit)=>.b (x.1.has.any fun h=>h !=0)
 objs:=fun x=>[]
def haC(l:List Int):dN cod:=⟨Nat,fun k=>k≤l.length∧∀y∈l.take k,(y !=0)=false,fun k=>l.length-k,
 fun k=>[(0,.fp [.any,.any,.any,.any,.any,.any,.any,.any,.tl (T:=T) 0 l,.any,.any]),(3,.i .i64 (k:Int))],fun _=>[]⟩
def dp(lock:Int)(a:Bool)(x:Man):Bool:=!(at0 x.has lock==1||(at0 x.has lock==2 && !a))
def rfD:eC cod where
 pats:=[.frow 17,.int .i64,.bool]
 pre:=fun(x:gi×Int×Bool×Unit)=>x.1.man.length≤1000∧∀y∈x.1.man,0≤x.2.1∧x.2.1<y.has.length
 res:=fun(x:gi×Int×Bool×Unit)=>.b (x.1.man.all (dp x.2.1 x.2.2.1))
 objs:=fun x=>[]
def rfC(l:List Man)(lock:Int)(a:Bool):dN cod:=⟨Nat,fun k=>k≤l.length∧∀y∈l.take k,dp lock a y=true,fun k=>l.length-k,
 fun k=>[(0,.fp [.any,.any,.any,.any,.any,.any,.any,.any,.any,.any,.any,.any,.tl (T:=T) 16 l,.any,.any,.any]),(1,.i .i64 lock),(2,.b a),(7,.i .i64 (k:Int))],fun _=>[]⟩
noncomputable def KQ:Code:=Tryz.f129.body.getD .skip
noncomputable def M2:Code:=Tryz.f130.body.getD .skip
noncomputable def b92:Code:=Tryz.f92.body.getD .skip
noncomputable def b93:Code:=Tryz.f93.body.getD .skip
noncomputable def b62:Code:=Tryz.f62.body.getD .skip
noncomputable def b60:Code:=Tryz.f60.body.getD .skip
noncomputable def b65:Code:=Tryz.f65.body.getD .skip
noncomputable def KX:Code:=Tryz.f131.body.getD .skip
noncomputable def Eh:Code:=Tryz.f132.body.getD .skip
noncomputable def b63:Code:=Tryz.f63.body.getD .skip
def yS(ls:List eT)(d:Int):dN cod:=⟨Nat×bg,fun s=>s.2.locks=ls∧s.1≤ls.length∧∀y∈ls.take s.1,dP y d=false,fun s=>ls.length-s.1,
 fun s=>[(1,.i .i64 d),(2,.ptr 0 0),(5,.i .i64 (s.1:Int))],fun s=>[.cells (enc4 s.2)]⟩
noncomputable def e2:List (FuncId×Ctr cod):=[(129,bB fdD),(130,bB fkD)]
noncomputable def e3:List (FuncId×Ctr cod):=[(92,bB sR),(62,bB pA),(93,bB trD)]
def nxJ(x:Instr)(r:R4):Bool:=x.op==19||(x.op==22||((x.op==18||x.op==21) && dt r x.a==0))
def nxK(p:List Instr)(a:Int):Prop:=(0≤a∧a<p.length)∧bX (at2 p a)=true∧bG (at2 p a).op=true
def nxG(p:List Instr)(ms:List Int)(a:Int)(j:Bool):Prop:=(j=true∨(at2 p a).op=18∨(at2 p a).op=21)→a<ms.length∧0≤at0 ms a∧at0 ms a<p.length
def nx5(p:List Instr)(ms:List Int)(a:Int)(r:R4):dN cod:=⟨Bool,fun j=>nxK p a∧j=nxJ (at2 p a) r,fun _=>2,
 fun j=>[(0,.tl (T:=T) 2 p),(1,.tl (T:=T) 0 ms),(2,.i .i64 a),(7,.ptr 0 0),(9,.ptr 1 0),(11,.ptr 2 0),(12,.b j)],fun _=>[.cells (gL r),.cells [.any,.any,.any,.any],.cells (enc2 (at2 p a))]⟩
def nx8(p:List Instr)(ms:List Int)(a:Int)(r:R4):dN cod:=⟨Bool,fun j=>nxK p a∧j=nxJ (at2 p a) r∧nxG p ms a j,fun _=>1,
 fun j=>[(0,.tl (T:=T) 2 p),(1,.tl (T:=T) 0 ms),(2,.i .i64 a),(7,.ptr 0 0),(9,.ptr 1 0),(11,.ptr 2 0),(12,.b j)],fun _=>[.cells (gL r),.cells [.any,.any,.any,.any],.cells (enc2 (at2 p a))]⟩
def kz(p:List Instr)(ms:List Int)(a:Int)(r:R4):List (Nat×dN cod):=[(5,nx5 p ms a r),(8,nx8 p ms a r)]
end Go.Proofs.Y
namespace Go.Proofs.Y
open Go.RowKit Go.Am Go.Sy
def fdL(op a b c:Int)(n:Bool):Prop:=a=shA op∧b=shB op∧c=shC op∧n=(shN op==5)∧True
def fdG(op:Int):List (Int×Int×Int×Int×Bool)→Prop
 | []=>fdL op 0 0 0 false
 |(k,a,b,c,n)::l=>ifB op k (fdL op a b c n) (fdG op l)
def fdT:List (Int×Int×Int×Int×Bool):=[(1,1,0,0,true),(2,1,1,1,false),(3,1,1,1,false),(4,1,1,1,false),(5,1,1,1,false),(6,1,1,1,false),(7,1,1,1,false),(8,1,1,0,true),(9,1,1,0,true),(10,0,1,0,true),(11,0,1,0,true),
 (12,1,0,0,false),(18,1,0,0,false),(21,1,0,0,false),(13,2,4,0,false),(15,3,0,0,false),(16,3,0,0,false),(17,3,0,0,false)]
theorem RZ(op:Int):Go.Sy.Tree.holds (bt F (bf []) 200 Tryz.f129 KQ ⟨[],.tup [.i .i64 (shA op),.i .i64 (shB op),.i .i64 (shC op),.b (shN op==5)],[]⟩ [.i .i64 op])=fdG op fdT:=by kernel_rfl
theorem DH(op a b c:Int)(n:Bool)(h:a=shA op∧b=shB op∧c=shC op∧n=(shN op==5)):fdL op a b c n:=⟨h.1,h.2.1,h.2.2.1,h.2.2.2,trivial⟩
theorem F9(op:Int):∀l:List (Int×Int×Int×Int×Bool),(∀x∈l,x.2.1=shA x.1∧x.2.2.1=shB x.1∧x.2.2.2.1=shC x.1∧x.2.2.2.2=(shN x.1==5))→((∀x∈l,op≠x.1)→0=shA op∧0=shB op∧0=shC op∧false=(shN op==5))→fdG op l
 | [],_,h=>DH op 0 0 0 false (h fun x d=>by cases d)
 |(k,a,b,c,n)::l,d,h=>by
  refine⟨fun e=>?_,fun e=>F9 op l (fun x f=>d x (.tail _ f)) fun g=>h fun x f=>?_⟩
  ·have e:op=k:=eq_of_beq e;subst e;exact DH _ _ _ _ _ (d _ (.head _))
  grind
theorem Oo(op:Int):fdG op fdT:=F9 op fdT (by decide) fun h=>by
 have a:∀k:Int,k∈fdT.map (·.1)→op≠k:=fun k b=>by
  grind
 have e:∀k:Int,k∈fdT.map (·.1)→(op=k)=False:=fun k b=>eq_false (a k b)
 have c:shA op=0:=by
  unfold shA;rw[if_neg (by rw[e 13 (by decide)];simp),if_neg (by rw[e 15 (by decide),e 16 (by decide),e 17 (by decide)];simp),if_neg]
  have:=a 1 (by decide);have:=a 2 (by decide);have:=a 3 (by decide);have:=a 4 (by decide);have:=a 5 (by decide);have:=a 6 (by decide);have:=a 7 (by decide);have:=a 8 (by decide);have:=a 9 (by decide);have:=a 12 (by decide);have:=a 18 (by decide);have:=a 21 (by decide)
  omega
 have d:shB op=0:=by
  unfold shB;rw[if_neg (by rw[e 13 (by decide)];simp),if_neg]
  have:=a 2 (by decide);have:=a 3 (by decide);have:=a 4 (by decide);have:=a 5 (by decide);have:=a 6 (by decide);have:=a 7 (by decide);have:=a 8 (by decide);have:=a 9 (by decide);have:=a 10 (by decide);have:=a 11 (by decide)
  omega
 have f:shC op=0:=by
  unfold shC;have:=a 2 (by decide);have:=a 3 (by decide);have:=a 4 (by decide);have:=a 5 (by decide);have:=a 6 (by decide);have:=a 7 (by decide)
  omega
 have g:shN op=0:=by
  unfold shN;have:=a 1 (by decide);have:=a 8 (by decide);have:=a 9 (by decide);have:=a 10 (by decide);have:=a 11 (by decide)
  omega
 grind
theorem RW(op:Int):b7 (bt F (bf []) 200 Tryz.f129 KQ ⟨[],.tup [.i .i64 (shA op),.i .i64 (shB op),.i .i64 (shC op),.b (shN op==5)],[]⟩ [.i .i64 op]):=by
 refine⟨?_⟩;rw[RZ];exact Oo op
theorem RP:bi F.S 129 (bB fdD):=
 bv (fn:=Tryz.f129) (body:=KQ) (ctr:=bf []) bE noExt bC cd Tryz.func129 rfl rfl rfl fdD 200 (fun _=>[]) (show 1≤Tryz.f129.ntmps by decide) (show Tryz.f129.ntmps≤512 by decide) (by kernel_rfl) (fun _ _=>⟨rfl,rfl⟩)
  (fun(x:Int×Unit) a=>RW x.1) (fun x a p b=>by cases b)
def fkL(k v n:Int):Prop:=decide (v≤n)=cU k v∧True
theorem TI(k v:Int):Go.Sy.Tree.holds (bt F (bf []) 200 Tryz.f130 M2 ⟨[],.b (cU k v),[]⟩ [.i .i64 k,.i .i64 v])=(
 (decide (v≥0)=true→((0:Int)≤k∧k<5)∧ifB k 4 (fkL k v 1) (ifB k 3 (fkL k v 3) (ifB k 2 (fkL k v 3) (ifB k 1 (fkL k v 3) (fkL k v 0)))))∧(decide (v≥0)=false→false=cU k v∧True)):=by kernel_rfl
theorem NY(k v:Int)(h:0≤k∧k<5):(decide (v≥0)=true→((0:Int)≤k∧k<5)∧ifB k 4 (fkL k v 1) (ifB k 3 (fkL k v 3) (ifB k 2 (fkL k v 3) (ifB k 1 (fkL k v 3) (fkL k v 0)))))∧(decide (v≥0)=false→false=cU k v∧True):=by
 refine⟨fun e=>⟨h, ?_⟩,fun e=>⟨by rw[cU,e];rfl,trivial⟩⟩
 have a:∀n,ko k=n→fkL k v n:=fun n b=>⟨by rw[cU,e,b];rfl,trivial⟩
 refine⟨fun e=>a _ ?_,fun e4=>⟨fun e=>a _ ?_,fun e3=>⟨fun e=>a _ ?_,fun e2=>⟨fun e=>a _ ?_,fun e1=>a _ ?_⟩⟩⟩⟩
 ·rw[eq_of_beq e];rfl
 ·rw[eq_of_beq e];rfl
 ·rw[eq_of_beq e];rfl
 ·rw[eq_of_beq e];rfl
 ·have:=ne_of_beq_false e1;have:=ne_of_beq_false e2;have:=ne_of_beq_false e3;have:=ne_of_beq_false e4;obtain rfl:k=0:=by omega
  rfl
theorem RU(k v:Int)(h:0≤k∧k<5):b7 (bt F (bf []) 200 Tryz.f130 M2 ⟨[],.b (cU k v),[]⟩ [.i .i64 k,.i .i64 v]):=by
 refine⟨?_⟩;rw[TI];exact NY k v h
theorem SC:bi F.S 130 (bB fkD):=
 bv (fn:=Tryz.f130) (body:=M2) (ctr:=bf []) bE noExt bC cd Tryz.func130 rfl rfl rfl fkD 200 (fun _=>[]) (show 2≤Tryz.f130.ntmps by decide) (show Tryz.f130.ntmps≤512 by decide) (by kernel_rfl) (fun _ _=>⟨rfl,rfl⟩)
  (fun(x:Int×Int×Unit) a=>RU x.1 x.2.1 a) (fun x a p b=>by cases b)
theorem Sg:cv F.S (bf e2):=bW fun p h=>by
 simp only[e2,List.mem_cons,List.not_mem_nil,or_false]at h;rcases h with rfl|rfl
 ·exact RP
 ·exact SC
def myF(x:Instr):Prop:=false=bX x∧True
theorem PQ(x:Instr):Go.Sy.Tree.holds (bt F (bf e2) 200 Tryz.f92 b92 ⟨[],.b (bX x),[]⟩ [.agg (enc2 x)])=(
 fdD.pre (x.op,())∧(decide (x.op≥1)=true→(decide (x.op≤22)=true→fkD.pre (shA x.op,x.a,())∧(cU (shA x.op) x.a=true→fkD.pre (shB x.op,x.b,())∧(cU (shB x.op) x.b=true→fkD.pre (shC x.op,x.c,())∧
  (cU (shC x.op) x.c=true→((shN x.op==5)=true→true=bX x∧True)∧((shN x.op==5)=false→(x.n==0)=bX x∧True))∧(cU (shC x.op) x.c=false→myF x))∧(cU (shB x.op) x.b=false→myF x))∧
  (cU (shA x.op) x.a=false→myF x))∧(decide (x.op≤22)=false→myF x))∧(decide (x.op≥1)=false→myF x)):=by kernel_rfl
theorem QD(op:Int):(0≤shA op∧shA op<5)∧(0≤shB op∧shB op<5)∧0≤shC op∧shC op<5:=by
 unfold shA shB shC;omega
theorem O6(x:Instr):b7 (bt F (bf e2) 200 Tryz.f92 b92 ⟨[],.b (bX x),[]⟩ [.agg (enc2 x)]):=by
 refine⟨?_⟩;rw[PQ];obtain⟨g,h,j⟩:=QD x.op;exact⟨trivial,fun h1=>⟨fun a=>⟨g,fun c=>⟨h,fun d=>⟨j,fun e=>⟨fun f=>⟨by rw[bX,h1,a,c,d,e,f];rfl,trivial⟩,fun f=>⟨by rw[bX,h1,a,c,d,e,f];rfl,trivial⟩⟩,
  fun e=>⟨by rw[bX,h1,a,c,d,e];rfl,trivial⟩⟩,fun d=>⟨by rw[bX,h1,a,c,d];rfl,trivial⟩⟩,fun c=>⟨by rw[bX,h1,a,c];rfl,trivial⟩⟩,fun a=>⟨by rw[bX,h1,a];rfl,trivial⟩⟩,fun h1=>⟨by rw[bX,h1];rfl,trivial⟩⟩
theorem Mn:bi F.S 92 (bB sR):=
 bv (fn:=Tryz.f92) (body:=b92) (ctr:=bf e2) bE noExt bC Sg Tryz.func92 rfl rfl rfl sR 200 (fun _=>[]) (show 1≤Tryz.f92.ntmps by decide) (show Tryz.f92.ntmps≤512 by decide) (by kernel_rfl) (fun _ _=>⟨rfl,rfl⟩)
  (fun(x:Instr×Unit) a=>O6 x.1) (fun x a p b=>by cases b)
theorem OV(op:Int):Go.Sy.Tree.holds (bt F (bf []) 200 Tryz.f62 b62 ⟨[],.b (bG op),[]⟩ [.i .i64 op])=(
 (decide (op≥1)=true→(decide (op≤7)=true→true=bG op∧True)∧(decide (op≤7)=false→(decide (op≥18)=true→decide (op≤22)=bG op∧True)∧(decide (op≥18)=false→false=bG op∧True)))∧
 (decide (op≥1)=false→(decide (op≥18)=true→decide (op≤22)=bG op∧True)∧(decide (op≥18)=false→false=bG op∧True))):=by kernel_rfl
theorem OT(op:Int):b7 (bt F (bf []) 200 Tryz.f62 b62 ⟨[],.b (bG op),[]⟩ [.i .i64 op]):=by
 refine⟨?_⟩;rw[OV];refine⟨fun h1=>⟨fun c=>⟨?_,trivial⟩,fun c=>⟨fun a=>⟨?_,trivial⟩,fun a=>⟨?_,trivial⟩⟩⟩,fun h1=>⟨fun a=>⟨?_,trivial⟩,fun a=>⟨?_,trivial⟩⟩⟩<;>simp_all[bG]<;>omega
theorem Gv:bi F.S 62 (bB pA):=
 bv (fn:=Tryz.f62) (body:=b62) (ctr:=bf []) bE noExt bC cd Tryz.func62 rfl rfl rfl pA 200 (fun _=>[]) (show 1≤Tryz.f62.ntmps by decide) (show Tryz.f62.ntmps≤512 by decide) (by kernel_rfl) (fun _ _=>⟨rfl,rfl⟩)
  (fun(x:Int×Unit) a=>OT x.1) (fun x a p b=>by cases b)
theorem Us(b:Bool):Go.Sy.Tree.holds (bt F (bf []) 200 Tryz.f93 b93 ⟨[],.i .i64 (vB b),[]⟩ [.b b])=((b=true→1=vB b∧True)∧(b=false→0=vB b∧True)):=by kernel_rfl
theorem RH(b:Bool):b7 (bt F (bf []) 200 Tryz.f93 b93 ⟨[],.i .i64 (vB b),[]⟩ [.b b]):=by
 refine⟨?_⟩;exact⟨fun e=>⟨by rw[e];rfl,trivial⟩,fun e=>⟨by rw[e];rfl,trivial⟩⟩
theorem QR:bi F.S 93 (bB trD):=
 bv (fn:=Tryz.f93) (body:=b93) (ctr:=bf []) bE noExt bC cd Tryz.func93 rfl rfl rfl trD 200 (fun _=>[]) (show 1≤Tryz.f93.ntmps by decide) (show Tryz.f93.ntmps≤512 by decide) (by kernel_rfl) (fun _ _=>⟨rfl,rfl⟩)
  (fun(x:Bool×Unit) a=>RH x.1) (fun x a p b=>by cases b)
def adL(x:Instr)(r:R4)(v:Int):Prop:=v=IntKind.i64.wrap (dt r x.b+x.n)∧True
theorem PT(x:Instr)(r:R4):Go.Sy.Tree.holds (bt F (bf []) 400 Tryz.f131 KX ⟨[],.i .i64 (IntKind.i64.wrap (dt r x.b+x.n)),[]⟩ [.agg (enc2 x),.agg (gL r)])=(
 (decide (x.b<0)=true→adL x r (-1))∧(decide (x.b<0)=false→(decide (x.b≥4)=true→adL x r (-1))∧(decide (x.b≥4)=false→fE r x.b fun v=>adL x r (IntKind.i64.wrap (v+x.n))))):=by kernel_rfl
theorem Qg(x:Instr)(r:R4)(a:0≤x.b∧x.b<4):b7 (bt F (bf []) 400 Tryz.f131 KX ⟨[],.i .i64 (IntKind.i64.wrap (dt r x.b+x.n)),[]⟩ [.agg (enc2 x),.agg (gL r)]):=by
 refine⟨?_⟩;rw[PT];exact⟨fun e=>absurd (qb e) (by omega),fun _=>⟨fun e=>absurd (qb e) (by omega),fun _=>bP a ⟨rfl,trivial⟩⟩⟩
theorem OC:bi F.S 131 (bB adD):=
 bv (fn:=Tryz.f131) (body:=KX) (ctr:=bf []) bE noExt bC cd Tryz.func131 rfl rfl rfl adD 400 (fun _=>[]) (show 2≤Tryz.f131.ntmps by decide) (show Tryz.f131.ntmps≤512 by decide) (by kernel_rfl) (fun _ _=>⟨rfl,rfl⟩)
  (fun(x:Instr×R4×Unit) a=>Qg x.1 x.2.1 a) (fun x a p b=>by cases b)
end Go.Proofs.Y
namespace Go.Proofs.Y
open Go.RowKit Go.Am Go.Sy
def haN(l:List Int)(m:Nat)(i:Int):Prop:=∃s:Nat,l=l∧i=s∧(s≤l.length∧∀y∈l.take s,(y !=0)=false)∧l.length-s<m∧True
theorem TG(x:Man):Go.Sy.Tree.holds (bt F (bf []) 300 Tryz.f60 b60 ⟨[(2,haC x.has)],.b (x.has.any fun h=>h !=0),[]⟩ [.fp (AQ x)])=(
 ∃s:Nat,x.has=x.has∧(0:Int)=s∧(s≤x.has.length∧∀y∈x.has.take s,(y !=0)=false)∧True):=by kernel_rfl
theorem RB(l:List Int)(k:Nat):Go.Sy.Tree.holds (bV F (bf []) 300 Tryz.f60 b60 ⟨[(2,haC l)],.b (l.any fun h=>h !=0),[]⟩ 2 (haC l) k)=(
 (decide ((k:Int)<l.length)=true→((0:Int)≤k∧(k:Int)<l.length)∧((at0 l k !=0)=true→(true=l.any fun h=>h !=0)∧True)∧((at0 l k !=0)=false→haN l (l.length-k) (IntKind.i64.wrap ((k:Int)+1))))∧
 (decide ((k:Int)<l.length)=false→(false=l.any fun h=>h !=0)∧True)):=by kernel_rfl
theorem R2(x:Man):b7 (bt F (bf []) 300 Tryz.f60 b60 ⟨[(2,haC x.has)],.b (x.has.any fun h=>h !=0),[]⟩ [.fp (AQ x)]):=by
 refine⟨?_⟩;rw[TG];exact⟨0,rfl,rfl,⟨Nat.zero_le _,fun y c=>by simp at c⟩,trivial⟩
theorem Pd(l:List Int)(k:Nat)(f:l.length≤1000)(g:k≤l.length)(d:∀y∈l.take k,(y !=0)=false):b7 (bV F (bf []) 300 Tryz.f60 b60 ⟨[(2,haC l)],.b (l.any fun h=>h !=0),[]⟩ 2 (haC l) k):=by
 refine⟨?_⟩;rw[RB];refine⟨fun h=>?_,fun h=>?_⟩
 ·have h:=qb h;have c:k<l.length:=by omega
  rw[gv c];refine⟨⟨by omega,h⟩,fun e=>⟨?_,trivial⟩,fun e=>⟨k+1,rfl,d6 (by omega),⟨c,ft d c e⟩,by omega,trivial⟩⟩
  rw[eq_comm,List.any_eq_true];exact⟨l[k],List.getElem_mem c,e⟩
 grind
theorem LR:bi F.S 60 (bB haD):=
 bv (fn:=Tryz.f60) (body:=b60) (ctr:=bf []) bE noExt bC cd Tryz.func60 rfl rfl rfl haD 300 (fun(x:Man×Unit)=>[(2,haC x.1.has)]) (show 1≤Tryz.f60.ntmps by decide) (show Tryz.f60.ntmps≤512 by decide) (by kernel_rfl) (fun _ _=>⟨rfl,rfl⟩)
  (fun(x:Man×Unit) b=>R2 x.1) (fun(x:Man×Unit) b p c s d=>by
   rw[qt]at c;subst c;exact Pd x.1.has s b d.1 d.2)
def rfN(l:List Man)(lock:Int)(b:Bool)(k:Nat):Prop:=∃s:Nat,l=l∧lock=lock∧b=b∧IntKind.i64.wrap ((k:Int)+1)=s∧(s≤l.length∧∀y∈l.take s,dp lock b y=true)∧l.length-s<l.length-k∧True
def rfF(l:List Man)(lock:Int)(b:Bool):Prop:=false=l.all (dp lock b)∧True
theorem Q3(x:gi)(lock:Int)(c:Bool):Go.Sy.Tree.holds (bt F (bf []) 300 Tryz.f65 b65 ⟨[(2,rfC x.man lock c)],.b (x.man.all (dp lock c)),[]⟩ [.fp (uc x),.i .i64 lock,.b c])=(
 ∃s:Nat,x.man=x.man∧lock=lock∧c=c∧(0:Int)=s∧(s≤x.man.length∧∀y∈x.man.take s,dp lock c y=true)∧True):=by kernel_rfl
theorem Q0(l:List Man)(lock:Int)(c:Bool)(k:Nat):Go.Sy.Tree.holds (bV F (bf []) 300 Tryz.f65 b65 ⟨[(2,rfC l lock c)],.b (l.all (dp lock c)),[]⟩ 2 (rfC l lock c) k)=(
 (decide ((k:Int)<l.length)=true→((0:Int)≤k∧(k:Int)<l.length)∧((0:Int)≤lock∧lock<((dl l k).has.length:Int))∧((at0 (dl l k).has lock==1)=true→rfF l lock c)∧((at0 (dl l k).has lock==1)=false→
  ((at0 (dl l k).has lock==2)=true→((!c)=true→rfF l lock c)∧((!c)=false→rfN l lock c k))∧((at0 (dl l k).has lock==2)=false→rfN l lock c k)))∧
 (decide ((k:Int)<l.length)=false→true=l.all (dp lock c)∧True)):=by kernel_rfl
theorem Uj(x:gi)(lock:Int)(c:Bool):b7 (bt F (bf []) 300 Tryz.f65 b65 ⟨[(2,rfC x.man lock c)],.b (x.man.all (dp lock c)),[]⟩ [.fp (uc x),.i .i64 lock,.b c]):=by
 refine⟨?_⟩;rw[Q3];exact⟨0,rfl,rfl,rfl,rfl,⟨Nat.zero_le _,fun y d=>by simp at d⟩,trivial⟩
theorem OH(l:List Man)(lock:Int)(d:Bool)(k:Nat)(m:l.length≤1000)(g:∀y∈l,0≤lock∧lock<(y.has.length:Int))(n:k≤l.length)(j:∀y∈l.take k,dp lock d y=true):b7 (bV F (bf []) 300 Tryz.f65 b65 ⟨[(2,rfC l lock d)],.b (l.all (dp lock d)),[]⟩ 2 (rfC l lock d) k):=by
 refine⟨?_⟩;rw[Q0];refine⟨fun h=>?_,fun h=>?_⟩
 ·have h:=qb h;have c:k<l.length:=by omega
  rw[vK c];have no:dp lock d l[k]=false→rfF l lock d:=fun e=>⟨by
   grind,trivial⟩
  have f:dp lock d l[k]=true→rfN l lock d k:=fun e=>⟨k+1,rfl,rfl,rfl,d6 (by omega),⟨c,ft j c e⟩,by omega,trivial⟩
  refine⟨⟨by omega,h⟩,g _ (List.getElem_mem c),fun e1=>no (by rw[dp,e1];rfl),fun e1=>⟨fun e2=>⟨fun e3=>no (by rw[dp,e1,e2,e3];rfl),fun e3=>f (by rw[dp,e1,e2,e3];rfl)⟩,fun e2=>f (by rw[dp,e1,e2];rfl)⟩⟩
 grind
theorem Q5:bi F.S 65 (bB rfD):=
 bv (fn:=Tryz.f65) (body:=b65) (ctr:=bf []) bE noExt bC cd Tryz.func65 rfl rfl rfl rfD 300 (fun(x:gi×Int×Bool×Unit)=>[(2,rfC x.1.man x.2.1 x.2.2.1)]) (show 3≤Tryz.f65.ntmps by decide) (show Tryz.f65.ntmps≤512 by decide) (by kernel_rfl) (fun _ _=>⟨rfl,rfl⟩)
  (fun(x:gi×Int×Bool×Unit) b=>Uj x.1 x.2.1 x.2.2.1) (fun(x:gi×Int×Bool×Unit) b p c s d=>by
   rw[qt]at c;subst c;exact OH x.1.man x.2.1 x.2.2.1 s b.1 b.2 d.1 d.2)
def su(ls:List eT):Prop:=ls.length≤1000∧∀y∈ls,(0≤y.fr∧y.fr≤1000)∧0<y.len∧y.len≤1000
def JF:eC cod where
 pats:=[.row 4,.int .i64]
 pre:=fun(x:bg×Int×Unit)=>su x.1.locks∧0≤x.2.1∧x.2.1≤1000
 res:=fun(x:bg×Int×Unit)=>.i .i64 (dm x.1.locks x.2.1)
 objs:=fun x=>[]
def cE(c c':bg)(P:Prop):Prop:=c.engine=c'.engine∧c.clock=c'.clock∧c.stripes=c'.stripes∧c.reads=c'.reads∧c.writes=c'.writes∧c.retry=c'.retry∧c.fuel=c'.fuel∧c.most=c'.most∧
 c.init=c'.init∧c.locks=c'.locks∧c.conds=c'.conds∧c.progs=c'.progs∧P
theorem fY(c:bg){P:Prop}(h:P):cE c c P:=⟨rfl,rfl,rfl,rfl,rfl,rfl,rfl,rfl,rfl,rfl,rfl,rfl,h⟩
def K3(ls:List eT)(d:Int)(c:bg)(k:Nat):Prop:=∃s:Nat×bg,d=d∧cE c s.2 (IntKind.i64.wrap ((k:Int)+1)=s.1∧(s.2.locks=ls∧s.1≤ls.length∧∀y∈ls.take s.1,dP y d=false)∧ls.length-s.1<ls.length-k∧True)
theorem PB(c:bg)(d:Int):Go.Sy.Tree.holds (bt F (bf []) 300 Tryz.f132 Eh ⟨[(2,yS c.locks d)],.i .i64 (dm c.locks d),[]⟩ [.agg (enc4 c),.i .i64 d])=(
 ∃s:Nat×bg,d=d∧cE c s.2 ((0:Int)=s.1∧(s.2.locks=c.locks∧s.1≤c.locks.length∧∀y∈c.locks.take s.1,dP y d=false)∧True)):=by kernel_rfl
theorem OG(ls:List eT)(d:Int)(k:Nat)(c:bg):Go.Sy.Tree.holds (bV F (bf []) 300 Tryz.f132 Eh ⟨[(2,yS ls d)],.i .i64 (dm ls d),[]⟩ 2 (yS ls d) (k,c))=(
 (decide ((k:Int)<c.locks.length)=true→((0:Int)≤k∧(k:Int)<c.locks.length)∧(decide (d≥(at1 c.locks k).fr)=true→((0:Int)≤k∧(k:Int)<c.locks.length)∧((0:Int)≤k∧(k:Int)<c.locks.length)∧
  (decide (IntKind.i64.wrap (d-(at1 c.locks k).fr)<(at1 c.locks k).len)=true→(k:Int)=dm ls d∧True)∧(decide (IntKind.i64.wrap (d-(at1 c.locks k).fr)<(at1 c.locks k).len)=false→K3 ls d c k))∧
  (decide (d≥(at1 c.locks k).fr)=false→K3 ls d c k))∧
 (decide ((k:Int)<c.locks.length)=false→(-1:Int)=dm ls d∧True)):=by kernel_rfl
theorem EN{y:eT}{d:Int}(h:(0≤y.fr∧y.fr≤1000)∧0<y.len∧y.len≤1000)(b:0≤d∧d≤1000):dP y d=(decide (d≥y.fr) && decide (IntKind.i64.wrap (d-y.fr)<y.len)):=by
 rw[dP,decide_eq_true (show y.len>0 by omega),Bool.true_and]
 by_cases e:d≥y.fr
 ·rw[decide_eq_true e,Bool.true_and,Bool.true_and,ry (n:=d) (by omega) (by omega),ry (n:=y.fr) (by omega) (by omega),ry (n:=d-y.fr) (by omega) (by omega),ry (n:=y.len) (by omega) (by omega),wrap64 (by omega) (by omega)]
 grind
theorem Oj(c:bg)(d:Int):b7 (bt F (bf []) 300 Tryz.f132 Eh ⟨[(2,yS c.locks d)],.i .i64 (dm c.locks d),[]⟩ [.agg (enc4 c),.i .i64 d]):=by
 refine⟨?_⟩;rw[PB];exact⟨(0,c),rfl,fY c ⟨rfl,⟨rfl,Nat.zero_le _,fun y b=>by simp at b⟩,trivial⟩⟩
theorem Ni(ls:List eT)(d:Int)(k:Nat)(c:bg)(hl:su ls)(o:0≤d∧d≤1000)(hc:c.locks=ls)(n:k≤ls.length)(m:∀y∈ls.take k,dP y d=false):b7 (bV F (bf []) 300 Tryz.f132 Eh ⟨[(2,yS ls d)],.i .i64 (dm ls d),[]⟩ 2 (yS ls d) (k,c)):=by
 refine⟨?_⟩;rw[OG,hc];have q:=hl.1;refine⟨fun h=>?_,fun h=>?_⟩
 ·have h:=qb h;have b:k<ls.length:=by omega
  rw[A9 b];have s:=EN (hl.2 _ (List.getElem_mem b)) o;have f:(0:Int)≤k∧(k:Int)<ls.length:=⟨by omega,h⟩
  have l:dP ls[k] d=false→K3 ls d c k:=fun e=>⟨(k+1,c),rfl,fY c ⟨d6 (by omega),⟨hc,b,ft m b e⟩,by grind,trivial⟩⟩
  refine⟨f,fun e1=>⟨f,f,fun e2=>⟨?_,trivial⟩,fun e2=>l (by grind)⟩,fun e1=>l (by grind)⟩
  have g:ls.findIdx? (fun x=>dP x d)=some k:=by
   rw[List.findIdx?_eq_some_iff_getElem];refine⟨b,by grind,fun j t=>?_⟩
   rw[m ls[j] (by rw[List.mem_take_iff_getElem];grind)]
   simp
  rw[dm,g]
 ·have h:=qc h;have n:k=ls.length:=by omega
  have g:ls.findIdx? (fun x=>dP x d)=none:=by
   grind
  rw[dm,g];grind
theorem PZ:bi F.S 132 (bB JF):=
 bv (fn:=Tryz.f132) (body:=Eh) (ctr:=bf []) bE noExt bC cd Tryz.func132 rfl rfl rfl JF 300 (fun(x:bg×Int×Unit)=>[(2,yS x.1.locks x.2.1)]) (show 2≤Tryz.f132.ntmps by decide) (show Tryz.f132.ntmps≤512 by decide) (by kernel_rfl) (fun _ _=>⟨rfl,rfl⟩)
  (fun(x:bg×Int×Unit) b=>Oj x.1 x.2.1) (fun(x:bg×Int×Unit) b p d s c=>by
   rw[qt]at d;subst d;exact Ni x.1.locks x.2.1 s.1 s.2 b.1 b.2 c.1 c.2.1 c.2.2)
section
variable (p:List Instr)(ms:List Int)(a:Int)(r:R4)
def c5(b:Bool):Prop:=∃s:Bool,p=p∧ms=ms∧a=a∧r.a=r.a∧r.b=r.b∧r.c=r.c∧r.d=r.d∧(at2 p a).op=(at2 p a).op∧(at2 p a).a=(at2 p a).a∧(at2 p a).b=(at2 p a).b∧(at2 p a).c=(at2 p a).c∧(at2 p a).n=(at2 p a).n∧b=s∧(nxK p a∧s=nxJ (at2 p a) r)∧True
def c8(b:Bool):Prop:=∃s:Bool,p=p∧ms=ms∧a=a∧r.a=r.a∧r.b=r.b∧r.c=r.c∧r.d=r.d∧(at2 p a).op=(at2 p a).op∧(at2 p a).a=(at2 p a).a∧(at2 p a).b=(at2 p a).b∧(at2 p a).c=(at2 p a).c∧(at2 p a).n=(at2 p a).n∧b=s∧(nxK p a∧s=nxJ (at2 p a) r∧nxG p ms a s)∧1<2∧True
theorem PS:Go.Sy.Tree.holds (bt F (bf e3) 400 Tryz.f63 b63 ⟨kz p ms a r,nxR (bS p ms a r),[]⟩ [.tl (T:=T) 2 p,.tl (T:=T) 0 ms,.i .i64 a,.agg (gL r)])=(
 (decide (a<0)=true→nxL p ms a r a r false)∧(decide (a<0)=false→
 (decide (a≥(p.length:Int))=true→nxL p ms a r a r false)∧(decide (a≥(p.length:Int))=false→
 ((0:Int)≤a∧a<(p.length:Int))∧sR.pre (at2 p a,())∧((!bX (at2 p a))=true→nxL p ms a r a r false)∧((!bX (at2 p a))=false→
 ((0:Int)≤a∧a<(p.length:Int))∧pA.pre ((at2 p a).op,())∧((!bG (at2 p a).op)=true→nxL p ms a r a r false)∧((!bG (at2 p a).op)=false→
 ((0:Int)≤a∧a<(p.length:Int))∧ifB (at2 p a).op 19 (c5 p ms a r true) (ifB (at2 p a).op 22 (c5 p ms a r true) (ifB (at2 p a).op 18 (fE r (at2 p a).a fun u=>c5 p ms a r (u==0)) (ifB (at2 p a).op 21 (fE r (at2 p a).a fun u=>c5 p ms a r (u==0)) (c5 p ms a r false))))))))):=by kernel_rfl
def ck5(j:Bool):Prop:=(decide (a≥(ms.length:Int))=true→nxL p ms a r a r false)∧(decide (a≥(ms.length:Int))=false→((0:Int)≤a∧a<(ms.length:Int))∧
 (decide (at0 ms a<0)=true→nxL p ms a r a r false)∧(decide (at0 ms a<0)=false→((0:Int)≤a∧a<(ms.length:Int))∧
 (decide (at0 ms a≥(p.length:Int))=true→nxL p ms a r a r false)∧(decide (at0 ms a≥(p.length:Int))=false→c8 p ms a r j)))
theorem OJ(j:Bool):Go.Sy.Tree.holds (bV F (bf e3) 400 Tryz.f63 b63 ⟨kz p ms a r,nxR (bS p ms a r),[]⟩ 5 (nx5 p ms a r) j)=(
 (j=true→ck5 p ms a r j)∧(j=false→ifB (at2 p a).op 18 (ck5 p ms a r j) (ifB (at2 p a).op 21 (ck5 p ms a r j) (c8 p ms a r j)))):=by kernel_rfl
def opQ(k:Int)(f:Int→Int→Int)(R:Prop):Prop:=ifB (at2 p a).op k (fE r (at2 p a).b fun u=>fE r (at2 p a).c fun v=>wY r (at2 p a).a (f u v) fun d=>nxL p ms a r (IntKind.i64.wrap (a+1)) d true) R
def opB(k:Int)(f:Int→Int→Bool)(R:Prop):Prop:=ifB (at2 p a).op k (fE r (at2 p a).b fun u=>fE r (at2 p a).c fun v=>trD.pre (f u v,())∧wY r (at2 p a).a (vB (f u v)) fun d=>nxL p ms a r (IntKind.i64.wrap (a+1)) d true) R
def swQ:Prop:=ifB (at2 p a).op 1 (wY r (at2 p a).a (at2 p a).n fun b=>nxL p ms a r (IntKind.i64.wrap (a+1)) b true) (opQ p ms a r 2 (fun u v=>IntKind.i64.wrap (u+v)) (opQ p ms a r 3 (fun u v=>IntKind.i64.wrap (u-v)) (opQ p ms a r 4 (fun u v=>IntKind.i64.wrap (u*v)) (opQ p ms a r 5 Nk
 (opB p ms a r 6 (fun u v=>decide (u<v)) (opB p ms a r 7 (fun u v=>u==v) (nxL p ms a r (IntKind.i64.wrap (a+1)) r true)))))))
def jmQ(j:Bool):Prop:=(j=true→((0:Int)≤a∧a<(ms.length:Int))∧nxL p ms a r (IntKind.i64.wrap (at0 ms a+1)) r true)∧(j=false→swQ p ms a r)
theorem P7(j:Bool):Go.Sy.Tree.holds (bV F (bf e3) 400 Tryz.f63 b63 ⟨kz p ms a r,nxR (bS p ms a r),[]⟩ 8 (nx8 p ms a r) j)=(
 (j=true→ifB (at2 p a).op 22 (((0:Int)≤a∧a<(ms.length:Int))∧nxL p ms a r (at0 ms a) r true) (jmQ p ms a r j))∧(j=false→jmQ p ms a r j)):=by kernel_rfl
variable {p ms a r}
theorem Et(h:nxK p a):¬(a<0∨a≥p.length∨bX (at2 p a)=false∨bG (at2 p a).op=false):=by
 obtain⟨h1,b,c⟩:=h;grind
theorem HC{x:Instr}:nxJ x r=true↔x.op=19∨x.op=22∨((x.op=18∨x.op=21)∧dt r x.a=0):=by simp[nxJ]
theorem xc{b:Bool}(h:nxK p a)(c:b=nxJ (at2 p a) r):c5 p ms a r b:=⟨b,rfl,rfl,rfl,rfl,rfl,rfl,rfl,rfl,rfl,rfl,rfl,rfl,rfl,⟨h,c⟩,trivial⟩
theorem J0{b:Bool}(h:nxK p a)(c:b=nxJ (at2 p a) r)(d:nxG p ms a b):c8 p ms a r b:=⟨b,rfl,rfl,rfl,rfl,rfl,rfl,rfl,rfl,rfl,rfl,rfl,rfl,rfl,⟨h,c,d⟩,by decide,trivial⟩
theorem PL(p:List Instr)(ms:List Int)(a:Int)(r:R4):b7 (bt F (bf e3) 400 Tryz.f63 b63 ⟨kz p ms a r,nxR (bS p ms a r),[]⟩ [.tl (T:=T) 2 p,.tl (T:=T) 0 ms,.i .i64 a,.agg (gL r)]):=by
 refine⟨?_⟩;rw[PS];have b:(a<0∨a≥p.length∨bX (at2 p a)=false∨bG (at2 p a).op=false)→nxL p ms a r a r false:=fun h=>eR _ _ _ _ (by rw[bS,if_pos h])
 refine⟨fun e=>b (.inl (qb e)),fun e1=>⟨fun e=>b (.inr (.inl (qb e))),fun e2=>?_⟩⟩
 have e1:=qc e1;have e2:=qc e2;have j:0≤a∧a<(p.length:Int):=⟨by omega,by omega⟩
 refine⟨j,trivial,fun e=>b (.inr (.inr (.inl (by simpa using e)))),fun e3=>⟨j,trivial,fun e=>b (.inr (.inr (.inr (by simpa using e)))),fun e4=>?_⟩⟩
 have e3:bX (at2 p a)=true:=by grind
 have e4:bG (at2 p a).op=true:=by grind
 have f:nxK p a:=⟨j,e3,e4⟩;refine⟨j,fun e=>xc f ?_,fun c=>⟨fun e=>xc f ?_,fun d=>⟨fun e=>bP (sV e3 (by rw[eq_of_beq e];rfl)) (xc f ?_),fun g=>⟨fun e=>bP (sV e3 (by rw[eq_of_beq e];rfl)) (xc f ?_),fun k=>xc f ?_⟩⟩⟩⟩
 ·rw[nxJ,e];rfl
 ·rw[nxJ,c,e];rfl
 ·rw[nxJ,c,d,e];rfl
 ·rw[nxJ,c,d,g,e];rfl
 ·rw[nxJ,c,d,g,k];rfl
theorem MJ(j:Bool)(m:nxK p a)(n:j=nxJ (at2 p a) r):b7 (bV F (bf e3) 400 Tryz.f63 b63 ⟨kz p ms a r,nxR (bS p ms a r),[]⟩ 5 (nx5 p ms a r) j):=by
 refine⟨?_⟩;rw[OJ];have o:=Et m;obtain⟨⟨c,d⟩,l,hl⟩:=m;have q:=HC (x:=at2 p a) (r:=r);have f:(j=true∨(at2 p a).op=18∨(at2 p a).op=21)→ck5 p ms a r j:=fun h=>by
  have g:(at2 p a).op≥18∧(at2 p a).op≠20:=by
   grind
  have b:(a≥ms.length∨at0 ms a<0∨at0 ms a≥p.length)→nxL p ms a r a r false:=fun h=>eR _ _ _ _ (by rw[bS,if_neg o,if_pos g,if_pos h])
  refine⟨fun e=>b (.inl (qb e)),fun e1=>?_⟩
  have e1:=qc e1;have k:0≤a∧a<(ms.length:Int):=⟨c,by omega⟩
  refine⟨k,fun e=>b (.inr (.inl (qb e))),fun e2=>⟨k,fun e=>b (.inr (.inr (qb e))),fun e3=>?_⟩⟩
  have e2:=qc e2;have e3:=qc e3;exact J0 ⟨⟨c,d⟩,l,hl⟩ n fun _=>⟨k.2,by omega,by omega⟩
 refine⟨fun e=>f (.inl e),fun e=>⟨fun e1=>f (.inr (.inl (eq_of_beq e1))),fun e1=>⟨fun e2=>f (.inr (.inr (eq_of_beq e2))),fun e2=>J0 ⟨⟨c,d⟩,l,hl⟩ n ?_⟩⟩⟩
 rintro(h|h|h)
 all_goals grind
theorem M8(j:Bool)(u:nxK p a)(D:j=nxJ (at2 p a) r)(E:nxG p ms a j):b7 (bV F (bf e3) 400 Tryz.f63 b63 ⟨kz p ms a r,nxR (bS p ms a r),[]⟩ 8 (nx8 p ms a r) j):=by
 refine⟨?_⟩;rw[P7];have d:=Et u;obtain⟨⟨y,z⟩,q,hl⟩:=u;have k:=HC (x:=at2 p a) (r:=r);rw[← D]at k;have c3:(j=true∨(at2 p a).op=18∨(at2 p a).op=21)→(0≤a∧a<(ms.length:Int))∧¬(a≥ms.length∨at0 ms a<0∨at0 ms a≥p.length):=fun h=>by
  obtain⟨g1,H,I⟩:=E h;grind
 have t:((at2 p a).op==22)=false∨j=false→jmQ p ms a r j:=fun o=>by
  refine⟨fun e=>?_,fun e=>?_⟩
  ·obtain⟨s,c3⟩:=c3 (.inl e);refine⟨s,eR _ _ _ _ ?_⟩;rcases k.1 e with e|e|⟨e,J⟩
   ·rw[bS,if_neg d,if_pos ⟨by omega,by omega⟩,if_neg c3,if_neg (by omega),if_pos e]
   ·grind
   ·rw[bS,if_neg d,if_pos ⟨by grind,by grind⟩,if_neg c3,if_pos e,if_neg (by omega)]
  ·have G:¬((at2 p a).op=19∨(at2 p a).op=22∨(((at2 p a).op=18∨(at2 p a).op=21)∧dt r (at2 p a).a=0)):=fun h=>by grind
   generalize hx:at2 p a=x at*;have last:¬(x.op≥1∧x.op≤7)→nxL p ms a r (IntKind.i64.wrap (a+1)) r true:=fun A=>by
    simp only[bG,Bool.or_eq_true,qi,decide_eq_true_eq]at hl
    by_cases l:x.op=20
    ·exact eR _ _ _ _ (by rw[bS,hx,if_neg d,if_neg (by omega),if_pos l])
    ·have m:x.op=18∨x.op=21:=by omega
     obtain⟨_,c3⟩:=c3 (.inr m);exact eR _ _ _ _ (by rw[bS,hx,if_neg d,if_pos ⟨by omega,l⟩,if_neg c3,if_pos m,if_pos (by omega)])
   have w:x.op≥1∧x.op≤7→0≤x.a∧x.a<4:=fun h=>sV q (by unfold shA;grind)
   have f:x.op≥2∧x.op≤7→0≤x.b∧x.b<4:=fun h=>J1 q (by unfold shB;grind)
   have g:x.op≥2∧x.op≤7→0≤x.c∧x.c<4:=fun h=>Kv q (by unfold shC;grind)
   have val:∀v,x.op≥1∧x.op≤7→il x r=v→wY r x.a v fun B=>nxL p ms a r (IntKind.i64.wrap (a+1)) B true:=fun v h C=>pU (w h) (eR _ _ _ _ (by rw[bS,hx,if_neg d,if_neg (by omega),if_neg (by omega),C]))
   unfold swQ opQ opB;rw[hx];refine⟨fun e=>?_,fun K=>⟨fun e=>?_,fun L=>⟨fun e=>?_,fun n3=>⟨fun e=>?_,fun M=>⟨fun e=>?_,fun N=>⟨fun e=>?_,fun O=>⟨fun e=>?_,fun P=>last ?_⟩⟩⟩⟩⟩⟩⟩
   ·have e:=eq_of_beq e;exact val _ (by omega) (by rw[il,if_pos e])
   ·have e:=eq_of_beq e;exact bP (f (by omega)) (bP (g (by omega)) (val _ (by omega) (by rw[il,if_neg (by omega),if_pos e])))
   ·have e:=eq_of_beq e;exact bP (f (by omega)) (bP (g (by omega)) (val _ (by omega) (by rw[il,if_neg (by omega),if_neg (by omega),if_pos e])))
   ·have e:=eq_of_beq e;exact bP (f (by omega)) (bP (g (by omega)) (val _ (by omega) (by rw[il,if_neg (by omega),if_neg (by omega),if_neg (by omega),if_pos e])))
   ·have e:=eq_of_beq e;exact bP (f (by omega)) (bP (g (by omega)) (val _ (by omega) (by rw[il,if_neg (by omega),if_neg (by omega),if_neg (by omega),if_neg (by omega),if_pos e])))
   ·have e:=eq_of_beq e;exact bP (f (by omega)) (bP (g (by omega)) ⟨trivial,val _ (by omega) (by rw[il,if_neg (by omega),if_neg (by omega),if_neg (by omega),if_neg (by omega),if_neg (by omega),if_pos e])⟩)
   ·have e:=eq_of_beq e;exact bP (f (by omega)) (bP (g (by omega)) ⟨trivial,val _ (by omega) (by rw[il,if_neg (by omega),if_neg (by omega),if_neg (by omega),if_neg (by omega),if_neg (by omega),if_neg (by omega)])⟩)
   grind
 refine⟨fun e=>⟨fun n=>?_,fun o=>t (.inl o)⟩,fun e=>t (.inr e)⟩
 have n:=eq_of_beq n;obtain⟨s,c3⟩:=c3 (.inl e);exact⟨s,eR _ _ _ _ (by rw[bS,if_neg d,if_pos ⟨by omega,by omega⟩,if_neg c3,if_neg (by omega),if_neg (by omega)])⟩
end
theorem Uh:cv F.S (bf e3):=bW fun p h=>by
 simp only[e3,List.mem_cons,List.not_mem_nil,or_false]at h;rcases h with rfl|rfl|rfl
 ·exact Mn
 ·exact Gv
 ·exact QR
theorem NU:bi F.S 63 (bB nxD):=
 bv (fn:=Tryz.f63) (body:=b63) (ctr:=bf e3) bE noExt bC Uh Tryz.func63 rfl rfl rfl nxD 400 (fun(x:List Instr×List Int×Int×R4×Unit)=>kz x.1 x.2.1 x.2.2.1 x.2.2.2.1) (show 4≤Tryz.f63.ntmps by decide) (show Tryz.f63.ntmps≤512 by decide) (by kernel_rfl) (fun _ _=>⟨rfl,rfl⟩)
  (fun(x:List Instr×List Int×Int×R4×Unit) d=>PL x.1 x.2.1 x.2.2.1 x.2.2.2.1) (fun(x:List Instr×List Int×Int×R4×Unit) d p c s b=>by
   simp only[kz,List.mem_cons,List.not_mem_nil,or_false]at c;rcases c with rfl|rfl
   ·exact MJ s b.1 b.2
   ·exact M8 s b.1 b.2.1 b.2.2)
end Go.Proofs.Y
namespace Go.Proofs.Y
open Go.RowKit Go.Am Go.Sy
def ig(M:gi)(t i:Int):Instr:=at2 (at3 M.progs t) i
def ik(M:gi)(t:Int):Bool:=
 if t<0∨t≥M.man.length∨(dl M.man t).status≠0 then false
 else if(dl M.man t).wants=true then M.man.all (dp (at0 M.conds (ig M t ((dl M.man t).at_-1)).a) false)
 else(dl M.man t).fuel==0||((ig M t (dl M.man t).at_).op !=13||M.man.all (dp (ig M t (dl M.man t).at_).a ((ig M t (dl M.man t).at_).b==1)))
structure FP(M:gi)(t:Int):Prop where
 small:M.man.length≤1000
 pl:0≤t→t<M.man.length→t<M.progs.length
 at_:0≤t→t<M.man.length→(dl M.man t).status=0→(0≤(dl M.man t).at_∧(dl M.man t).at_<(at3 M.progs t).length)∧(at3 M.progs t).length≤1000
 wait:0≤t→t<M.man.length→(dl M.man t).status=0→(dl M.man t).wants=true→1≤(dl M.man t).at_∧(0≤(ig M t ((dl M.man t).at_-1)).a∧(ig M t ((dl M.man t).at_-1)).a<M.conds.length)∧∀y∈M.man,0≤at0 M.conds (ig M t ((dl M.man t).at_-1)).a∧at0 M.conds (ig M t ((dl M.man t).at_-1)).a<y.has.length
 ent:0≤t→t<M.man.length→(dl M.man t).status=0→(ig M t (dl M.man t).at_).op=13→∀y∈M.man,0≤(ig M t (dl M.man t).at_).a∧(ig M t (dl M.man t).at_).a<y.has.length
def rcD:eC cod where
 pats:=[.frow 17,.int .i64]
 pre:=fun(x:gi×Int×Unit)=>FP x.1 x.2.1
 res:=fun(x:gi×Int×Unit)=>.b (ik x.1 x.2.1)
 objs:=fun x=>[]
noncomputable def b27:Code:=Tryz.f27.body.getD .skip
noncomputable def e4:List (FuncId×Ctr cod):=[(65,bB rfD)]
def rcL(M:gi)(t:Int)(b:Bool):Prop:=b=ik M t∧True
theorem QM(M:gi)(t:Int):Go.Sy.Tree.holds (bt F (bf e4) 400 Tryz.f27 b27 ⟨[],.b (ik M t),[]⟩ [.fp (uc M),.i .i64 t])=(
 (decide (t<0)=true→rcL M t false)∧(decide (t<0)=false→(decide (t≥(M.man.length:Int))=true→rcL M t false)∧(decide (t≥(M.man.length:Int))=false→
 ((0:Int)≤t∧t<(M.man.length:Int))∧(((dl M.man t).status !=0)=true→rcL M t false)∧(((dl M.man t).status !=0)=false→
 ((0:Int)≤t∧t<(M.man.length:Int))∧
 ((dl M.man t).wants=true→((0:Int)≤t∧t<(M.progs.length:Int))∧(let i:=IntKind.i64.wrap ((dl M.man t).at_-1);((0:Int)≤i∧i<((at3 M.progs t).length:Int))∧((0:Int)≤(ig M t i).a∧(ig M t i).a<(M.conds.length:Int))∧
   rfD.pre (M,at0 M.conds (ig M t i).a,false,())∧rcL M t (M.man.all (dp (at0 M.conds (ig M t i).a) false))))∧
 ((dl M.man t).wants=false→((0:Int)≤t∧t<(M.progs.length:Int))∧(let i:=(dl M.man t).at_;((0:Int)≤i∧i<((at3 M.progs t).length:Int))∧
   (((dl M.man t).fuel==0)=true→rcL M t true)∧(((dl M.man t).fuel==0)=false→(((ig M t i).op !=13)=true→rcL M t true)∧(((ig M t i).op !=13)=false→
     rfD.pre (M,(ig M t i).a,(ig M t i).b==1,())∧rcL M t (M.man.all (dp (ig M t i).a ((ig M t i).b==1)))))))))) ):=by kernel_rfl
theorem Tg(M:gi)(t:Int)(h:FP M t):b7 (bt F (bf e4) 400 Tryz.f27 b27 ⟨[],.b (ik M t),[]⟩ [.fp (uc M),.i .i64 t]):=by
 refine⟨?_⟩;rw[QM];have no:(t<0∨t≥M.man.length∨(dl M.man t).status≠0)→rcL M t false:=fun h=>⟨by rw[ik,if_pos h],trivial⟩
 refine⟨fun e=>no (.inl (qb e)),fun e1=>⟨fun e=>no (.inr (.inl (qb e))),fun e2=>?_⟩⟩
 have e1:=qc e1;have e2:=qc e2;have a:0≤t∧t<(M.man.length:Int):=⟨by omega,by omega⟩
 refine⟨a,fun e=>no (.inr (.inr (by simpa using e))),fun e3=>?_⟩
 have e3:(dl M.man t).status=0:=by grind
 have d:¬(t<0∨t≥M.man.length∨(dl M.man t).status≠0):=by grind
 have j:=h.pl a.1 a.2;obtain⟨l,hl⟩:=h.at_ a.1 a.2 e3;refine⟨a,fun e4=>?_,fun e4=>?_⟩
 ·obtain⟨w1,w2,w3⟩:=h.wait a.1 a.2 e3 e4;have k:IntKind.i64.wrap ((dl M.man t).at_-1)=(dl M.man t).at_-1:=wrap64 (by omega) (by omega)
  rw[k];exact⟨⟨a.1,j⟩,⟨by omega,by omega⟩,w2,⟨h.small,w3⟩,by rw[ik,if_neg d,if_pos e4],trivial⟩
 ·have c:¬(dl M.man t).wants=true:=by grind
  refine⟨⟨a.1,j⟩,l,fun f=>⟨by rw[ik,if_neg d,if_neg c,f];rfl,trivial⟩,fun f=>⟨fun g=>⟨?_,trivial⟩,fun g=>⟨⟨h.small, ?_⟩, ?_,trivial⟩⟩⟩
  ·rw[ik,if_neg d,if_neg c,f,g];rfl
  ·exact h.ent a.1 a.2 e3 (by grind)
  ·rw[ik,if_neg d,if_neg c,f,g];rfl
theorem SQ:cv F.S (bf e4):=bW fun p h=>by
 simp only[e4,qt]at h;subst h;exact Q5
theorem Js:bi F.S 27 (bB rcD):=
 bv (fn:=Tryz.f27) (body:=b27) (ctr:=bf e4) bE noExt bC SQ Tryz.func27 rfl rfl rfl rcD 400 (fun _=>[]) (show 2≤Tryz.f27.ntmps by decide) (show Tryz.f27.ntmps≤512 by decide) (by kernel_rfl) (fun _ _=>⟨rfl,rfl⟩)
  (fun(x:gi×Int×Unit) a=>Tg x.1 x.2.1 a) (fun x a p b=>by cases b)
end Go.Proofs.Y
namespace Go.Proofs.Y
open Go.RowKit Go.Am Go.Sy
def rmC(x:Man)(k:Nat):List V:=[iv x.at_,iv x.fuel,iv x.status,iv x.r0,iv x.r1,iv x.r2,iv x.r3,.tl (T:=T) 0 x.told,.R k,.b x.wants,.tl (T:=T) 0 x.mate]
def Mk(f:Nat→Man)(b:Nat):Nat→List V
 |0=>[]
 |k+1=>Mk f b k++rmC (f k) (b+k)
def Fc(f:Nat→Man)(r:Nat):Nat→List Ob
 |0=>[]
 |k+1=>Fc f r k++[.rows 0 (f k).has false (r+k)]
def AE(c:bg)(n b:Nat)(S:RM):List Ob:=
 [.cells (enc4 c++[.sl 11 3 0 n n false,.R 1,.R 2,.sl 1 4 0 3 3 false]),.rows 0 S.w false 1,.rows 0 S.o false 2,.cells (Mk S.th (b+3) n),.cells [.R b,.R (b+1),.R (b+2)]]
def uY(n:Nat)(S:RM):List Ob:=[.rows 0 (S.q 0) false 5,.rows 0 (S.q 1) false 6,.rows 0 (S.q 2) false 7]++Fc S.th 8 n
def qG(c:bg)(n:Nat)(S:RM):SH cod:=(AE c n 5 S++uY n S).map some
def vQ(c:bg)(n N:Nat)(S:RM):SH cod:=(AE c n N S).map some++List.replicate (3+n) none++(uY n S).map some
def vr(args:List V)(h:SH cod):Option (List Nat):=match args with
 | .ptr id _::_=>match bF h id with
  |some (.cells cs)=>match (cs.drop 12:List V)with
   | [.sl _ T _ _ _ _,.R w,.R o,.sl _ Q _ _ _ _]=>match bF h T,bF h Q with
    |some (.cells a),some (.cells qs)=>some ([id,w,o,T,Q]++(gX qs++gX a))
    |_,_=>none
   |_=>none
  |_=>none
 |_=>none
def M7(h:SH cod)(r:Nat):Option Nat:=match bF h 3,bF h 4 with
 |some (.cells a),some (.cells qs)=>xG h r (gX qs++gX a) 5
 |_,_=>none
def nR(f:Nat→Man):Nat→List Man
 |0=>[]
 |k+1=>nR f k++[f k]
def de(c:bg)(n:Nat)(S:RM):gi:=⟨c.engine,c.clock,c.stripes,c.reads,c.writes,c.retry,c.fuel,c.most,c.init,c.locks,c.conds,c.progs,nR S.th n,S.w,S.o,[S.q 0,S.q 1,S.q 2]⟩
structure WdS where
 K:MK
 S:RM
 x:Instr
structure WdI(n t:Nat)(s:WdS):Prop where
 b:0≤s.x.b∧s.x.b<4
 a:s.x.op=8∨s.x.op=9→0≤s.x.a∧s.x.a<4
 ops:s.x.op=8∨s.x.op=9∨s.x.op=10∨s.x.op=11
 own:s.S.o.length=s.S.w.length
 lk:su s.K.c.locks∧s.K.c.locks.length≤3
 wl:s.S.w.length≤1000
 has:(s.S.th t).has.length=3
def wdD(n t:Nat):FrD cod:=⟨8+n,fun _=>true,WdS,WdI n t,fun s=>[.ptr 0 0,li t,.agg (enc2 s.x)],fun s _=>qG s.K.c n s.S,
 [⟨bg×RM×Bool,fun s r=>r.1=s.K.c∧r.2.1=hY s.K s.S t s.x∧r.2.2=!ck s.K s.S t s.x,fun r=>.b r.2.2,fun r _=>qG r.1 n r.2.1⟩],fun _ _=>0⟩
noncomputable def b94:Code:=Tryz.f94.body.getD .skip
noncomputable def x1:List (FuncId×Ctr cod):=[(131,bB adD),(132,bB JF),(60,bB haD)]
def mlE(f g:Nat→Man):Nat→Prop→Prop
 |0,P=>P
 |k+1,P=>mlE f g k ((f k).has=(g k).has∧P)
def RC(x y:Man)(P:Prop):Prop:=x.at_=y.at_∧x.fuel=y.fuel∧x.status=y.status∧x.r0=y.r0∧x.r1=y.r1∧x.r2=y.r2∧x.r3=y.r3∧x.told=y.told∧x.wants=y.wants∧x.mate=y.mate∧P
def mcE(f g:Nat→Man):Nat→Prop→Prop
 |0,P=>P
 |k+1,P=>mcE f g k (RC (f k) (g k) P)
theorem jD(f:Nat→Man){P:Prop}(h:P):∀n,mlE f f n P
 |0=>h
 |n+1=>by
  exact jD f ⟨rfl,h⟩ n
theorem jy(f:Nat→Man){P:Prop}(h:P):∀n,mcE f f n P
 |0=>h
 |n+1=>by
  exact jy f ⟨rfl,rfl,rfl,rfl,rfl,rfl,rfl,rfl,rfl,rfl,h⟩ n
def rL(n:Nat)(c:bg)(S:RM)(b:Bool)(Q:bg×RM×Bool→Prop):Prop:=
 ∃r:bg×RM×Bool,S.w=r.2.1.w∧S.o=r.2.1.o∧S.q 0=r.2.1.q 0∧S.q 1=r.2.1.q 1∧S.q 2=r.2.1.q 2∧mlE S.th r.2.1.th n (b=r.2.2∧mcE S.th r.2.1.th n (cE c r.1 (Q r∧True)))
theorem KA{n:Nat}{c:bg}{S:RM}{b:Bool}{Q:bg×RM×Bool→Prop}(h:Q (c,S,b)):rL n c S b Q:=
 ⟨(c,S,b),rfl,rfl,rfl,rfl,rfl,jD _ ⟨rfl,jy _ (fY c ⟨h,trivial⟩) _⟩ _⟩
section
variable (n t:Nat)(s:WdS)
def wdL(S:RM)(b:Bool):Prop:=rL n s.K.c S b fun r=>r.1=s.K.c∧r.2.1=hY s.K s.S t s.x∧r.2.2=!ck s.K s.S t s.x
def wdW(d:Int):Prop:=ifB s.x.op 8 (bn d s.S.w (wY (cP (s.S.th t)) s.x.a (at0 s.S.w d) fun r=>wdL n t s (b6 s.S t (rgR (s.S.th t) r)) true))
 (ifB s.x.op 9 (fE (cP (s.S.th t)) s.x.a fun v=>bn d s.S.w (wdL n t s { s.S with w:=s.S.w.set d.toNat v } true))
 (ifB s.x.op 10 (bn d s.S.o (wdL n t s { s.S with o:=s.S.o.set d.toNat t } true))
 (bn d s.S.o (((at0 s.S.o d !=(t:Int))=true→wdL n t s s.S false)∧((at0 s.S.o d !=(t:Int))=false→bn d s.S.o (wdL n t s { s.S with o:=s.S.o.set d.toNat (-1) } true))))))
def wdO(d:Int):Prop:=bn d s.S.o ((decide (at0 s.S.o d≥0)=true→bn d s.S.o (((at0 s.S.o d !=(t:Int))=true→wdL n t s s.S false)∧((at0 s.S.o d !=(t:Int))=false→wdW n t s d)))∧(decide (at0 s.S.o d≥0)=false→wdW n t s d))
def wdK(d k:Int):Prop:=(decide (k<0)=true→wdL n t s s.S false)∧(decide (k<0)=false→bn k (s.S.th t).has (ifB (at0 (s.S.th t).has k) 0 (wdL n t s s.S false) (bn k (s.S.th t).has
 (ifB (at0 (s.S.th t).has k) 2 (((s.x.op !=8)=true→wdL n t s s.S false)∧((s.x.op !=8)=false→wdO n t s d)) (wdO n t s d)))))
def wdP(d:Int):Prop:=adD.pre (s.x,cP (s.S.th t),())∧(decide (d<0)=true→wdL n t s s.S false)∧(decide (d<0)=false→(decide (d≥(s.S.w.length:Int))=true→wdL n t s s.S false)∧(decide (d≥(s.S.w.length:Int))=false→
 haD.pre (s.S.th t,())∧(cA (s.S.th t).has=true→JF.pre (s.K.c,d,())∧wdK n t s d (dm s.K.c.locks d))∧
 (cA (s.S.th t).has=false→bn d s.S.o (((at0 s.S.o d !=(t:Int))=true→wdL n t s s.S false)∧((at0 s.S.o d !=(t:Int))=false→ifB s.x.op 10 (wdL n t s s.S false) (ifB s.x.op 11 (wdL n t s s.S false) (wdW n t s d)))))))
end
def wdA(s:WdS)(t:Nat):Int:=IntKind.i64.wrap (dt (cP (s.S.th t)) s.x.b+s.x.n)
end Go.Proofs.Y
namespace Go.Proofs.Y
open Go.RowKit Go.Am Go.Sy
set_option maxRecDepth 100000
theorem OQ(s:WdS)(h:SH cod):Go.Sy.Tree.holds (vcC (goC x1 Tryz.f94 b94) (wdD 1 0) s h)=wdP 1 0 s (wdA s 0):=by kernel_rfl
theorem Oz(s:WdS)(h:SH cod):Go.Sy.Tree.holds (vcC (goC x1 Tryz.f94 b94) (wdD 2 0) s h)=wdP 2 0 s (wdA s 0):=by kernel_rfl
theorem PO(s:WdS)(h:SH cod):Go.Sy.Tree.holds (vcC (goC x1 Tryz.f94 b94) (wdD 2 1) s h)=wdP 2 1 s (wdA s 1):=by kernel_rfl
theorem OM(s:WdS)(h:SH cod):Go.Sy.Tree.holds (vcC (goC x1 Tryz.f94 b94) (wdD 3 0) s h)=wdP 3 0 s (wdA s 0):=by kernel_rfl
theorem QC(s:WdS)(h:SH cod):Go.Sy.Tree.holds (vcC (goC x1 Tryz.f94 b94) (wdD 3 1) s h)=wdP 3 1 s (wdA s 1):=by kernel_rfl
theorem On(s:WdS)(h:SH cod):Go.Sy.Tree.holds (vcC (goC x1 Tryz.f94 b94) (wdD 3 2) s h)=wdP 3 2 s (wdA s 2):=by kernel_rfl
end Go.Proofs.Y
namespace Go.Proofs.Y
open Go.RowKit Go.Am Go.Sy
theorem wj(f:Nat→Man)(r:Nat):∀n,(Fc f r n).length=n
 |0=>rfl
 |n+1=>by simp only[Fc,qn,wj f r n,qm,List.length_nil]
theorem ke(c:bg)(n:Nat)(S:RM):(qG c n S).length=8+n:=by
 simp only[qG,AE,uY,List.length_map,qn,wj,qm,List.length_nil];omega
theorem HZ{ls:List eT}{d:Int}:dm ls d<ls.length∧ -1≤dm ls d:=by
 unfold dm;cases h:ls.findIdx? fun x=>dP x d with
 |none=>grind
 |some i=>
  rw[List.findIdx?_eq_some_iff_getElem]at h;grind
section
variable (n t:Nat)(s:WdS)
theorem L7(l:WdI n t s):wdP n t s (wdA s t):=by
 generalize hd:wdA s t=d;have no:ck s.K s.S t s.x=true→wdL n t s s.S false:=fun h=>KA ⟨rfl,by rw[hY,if_pos h],by rw[h];rfl⟩
 have p:∀A,ck s.K s.S t s.x=false→hY s.K s.S t s.x=A→wdL n t s A true:=fun A h e=>KA ⟨rfl,e.symm,by rw[h];rfl⟩
 have g:IntKind.i64.wrap (dt (cP (s.S.th t)) s.x.b+s.x.n)=d:=hd;have B:=l.has
 -- the switch
 have j:decide (d<0)=false→decide (d≥(s.S.w.length:Int))=false→
  (if cA (s.S.th t).has=true then decide (dm s.K.c.locks d<0)||(at0 (s.S.th t).has (dm s.K.c.locks d)==0||((at0 (s.S.th t).has (dm s.K.c.locks d)==2 && s.x.op !=8)||(decide (at0 s.S.o d≥0) && at0 s.S.o d !=t)))else at0 s.S.o d !=t||(s.x.op==10||s.x.op==11))=false→wdW n t s d:=by
  intro h1 v z;have e1:=qc h1;have e2:=qc v;have u:0≤d∧d<(s.S.w.length:Int):=⟨by omega,by omega⟩
  have f:0≤d∧d<(s.S.o.length:Int):=by rw[l.own];exact u
  have J:ck s.K s.S t s.x=(s.x.op !=8 && (s.x.op !=9 && (s.x.op !=10 && at0 s.S.o d !=t))):=by
   simp only[ck,g,h1,v,z,Bool.false_or]
  have L:ck s.K s.S t s.x=false→hY s.K s.S t s.x=(if s.x.op=8 then b6 s.S t (rgR (s.S.th t) (xM (cP (s.S.th t)) s.x.a (at0 s.S.w d)))else if s.x.op=9 then { s.S with w:=s.S.w.set d.toNat (dt (cP (s.S.th t)) s.x.a) }
   else if s.x.op=10 then { s.S with o:=s.S.o.set d.toNat t }else { s.S with o:=s.S.o.set d.toNat (-1) }):=by
   intro h;simp only[hY,g,h,Bool.false_eq_true,if_false]
  refine⟨fun e=>?_,fun O=>⟨fun e=>?_,fun P=>⟨fun e=>?_,fun H=>⟨f,f,fun e=>?_,fun e=>⟨f,f, ?_⟩⟩⟩⟩⟩
  ·have e:=eq_of_beq e;have h:ck s.K s.S t s.x=false:=by grind
   exact⟨u,u,pU (l.a (.inl e)) (p _ h (by grind))⟩
  ·have C:=eq_of_beq e;have h:ck s.K s.S t s.x=false:=by grind
   exact bP (l.a (.inr C)) ⟨u,u,p _ h (by grind)⟩
  ·have h:ck s.K s.S t s.x=false:=by grind
   exact⟨f,f,p _ h (by grind)⟩
  all_goals grind
 have out:∀b:Bool,decide (d<0)=false→decide (d≥(s.S.w.length:Int))=false→(if cA (s.S.th t).has=true then decide (dm s.K.c.locks d<0)||(at0 (s.S.th t).has (dm s.K.c.locks d)==0||((at0 (s.S.th t).has (dm s.K.c.locks d)==2 && s.x.op !=8)||(decide (at0 s.S.o d≥0) && at0 s.S.o d !=t)))else at0 s.S.o d !=t||(s.x.op==10||s.x.op==11))=true→wdL n t s s.S false:=fun _ h1 v z=>no (by
  simp only[ck,g,h1,v,z,Bool.false_or,Bool.true_or])
 refine⟨l.b,fun e=>no ?_,fun e1=>⟨fun e=>no ?_,fun e2=>⟨by show(s.S.th t).has.length≤1000;grind,fun e3=>?_,fun e3=>?_⟩⟩⟩
 ·simp only[ck,g,e,Bool.true_or]
 ·simp only[ck,g,e,Bool.true_or,Bool.or_true]
 all_goals
  have M:=qc e1;have N:=qc e2;have f:0≤d∧d<(s.S.o.length:Int):=by rw[l.own];grind
 ·have j:=j e1 e2;have out:=out true e1 e2;rw[if_pos e3]at j out;have D:=l.lk.2;have E:=l.wl;obtain⟨r1,r2⟩:=HZ (ls:=s.K.c.locks) (d:=d);refine⟨⟨l.lk.1,f.1,by grind⟩,fun e4=>out (by rw[e4];rfl),fun e4=>?_⟩
  generalize dm s.K.c.locks d=k at*;have G:=qc e4;have y:0≤k∧k<((s.S.th t).has.length:Int):=⟨by omega,by omega⟩
  have own:at0 (s.S.th t).has k≠0→(at0 (s.S.th t).has k==2 && s.x.op !=8)=false→wdO n t s d:=fun Q v=>by
   refine⟨f,f,fun m=>⟨f,f,fun q=>out ?_,fun q=>j ?_⟩,fun m=>j ?_⟩
   all_goals grind
  refine⟨y,y,fun m=>out (by grind),fun m=>⟨y,y,fun q=>⟨fun I=>out ?_,fun I=>own (ne_of_beq_false m) ?_⟩,fun q=>own (ne_of_beq_false m) ?_⟩⟩
  all_goals grind
 ·have j:=j e1 e2;have out:=out true e1 e2;rw[if_neg (by grind)]at j out
  refine⟨f,f,fun e4=>out (by rw[e4];rfl),fun e4=>⟨fun m=>out (by rw[m];simp),fun m=>⟨fun q=>out (by rw[q];simp),fun q=>j ?_⟩⟩⟩
  grind
end
theorem RV(n t:Nat):ou (wdD n t) where
 len:=fun s h _=>ke s.K.c n s.S
 ahead:=fun s h j _ _ a=>by cases a
 behind:=fun B b s h j _ _ a=>by cases a
theorem SG:cv F.S (bf x1):=bW fun p h=>by
 simp only[x1,List.mem_cons,List.not_mem_nil,or_false]at h;rcases h with rfl|rfl|rfl
 ·exact OC
 ·exact PZ
 ·exact LR
noncomputable def EE(n t:Nat):Ctr cod:=dD vr (fun _ _=>none) (pb (wdD n t))
theorem Rl:bi F.S 94 (goC x1 Tryz.f94 b94):=dc (body:=b94) bE noExt bC SG Tryz.func94 rfl (by kernel_rfl) (by kernel_rfl) 2000 (fun _ _=>[]) (fun _ _=>0) (by kernel_rfl)
theorem tH(n t:Nat)(c:∀s h,Go.Sy.Tree.holds (vcC (goC x1 Tryz.f94 b94) (wdD n t) s h)=wdP n t s (wdA s t)):bi F.S 94 (EE n t):=
 cR bE _ _ (c7 bE _ _ (RV n t) fun s b h hl a=>⟨goC x1 Tryz.f94 b94,Rl,⟨by
  show Go.Sy.Tree.holds (vcC (goC x1 Tryz.f94 b94) (wdD n t) s h);rw[c];exact L7 n t s b⟩⟩)
theorem Gh:∀n t,1≤n→n≤3→t<n→bi F.S 94 (EE n t)
 |1,0,a,b,c=>tH 1 0 OQ
 |2,0,a,b,c=>tH 2 0 Oz
 |2,1,a,b,c=>tH 2 1 PO
 |3,0,a,b,c=>tH 3 0 OM
 |3,1,a,b,c=>tH 3 1 QC
 |3,2,a,b,c=>tH 3 2 On
end Go.Proofs.Y

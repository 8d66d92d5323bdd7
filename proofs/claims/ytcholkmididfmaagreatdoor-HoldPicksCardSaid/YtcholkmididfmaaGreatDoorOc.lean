import Derived.Test.YtcholkmididfmaaGreatDoorOb
import Derived.Test.YtcholkmididfmaaGreatDoorCp
set_option linter.unusedVariables false
set_option linter.unusedSimpArgs false
namespace Go.Proofs.Y
open Go.RowKit Go.Am Go.Sy
set_option maxRecDepth 100000
theorem v7(K:MK)(n t:Nat):∀(r:Nat) (S:MT),(lG K n t r S).w.length=S.w.length
 |0,S=>rfl
 |r+1,S=>by
  rw[lG]
  by_cases h:rgB K n S t=true
  ·rw[if_pos h,v7,jd]
  grind
theorem wm(K:MK)(n:Nat)(S:MT):∀k,(lM K n k S).w.length=S.w.length
 |0=>rfl
 |k+1=>by rw[lM,v7,wm]
theorem A8(K:MK)(n t:Nat):∀(r:Nat) (b:Bool) {S c:MT},vA K n t r b S=some c→c.w.length=S.w.length
 |0,b,S,c,h=>by cases h
 |r+1,b,S,c,h=>by
  rw[vA]at h;split at h
  ·split at h
   ·cases h;exact jd ..
   ·rw[A8 K n t r _ h,jd]
  ·cases h
variable {K:MK}{S:MT}
theorem HI{n t:Nat}{b:MT}(h:kb K n t S=some b):b.w.length=S.w.length:=by
 rw[kb]at h;split at h
 ·cases h
 ·exact A8 K n t _ _ h
variable {u:Int}
theorem wk{n:Nat}(h:u<0∨u≥n):cj (bw K n S) u=false:=by
 have hl:(bw K n S).all.length=n:=eu _ _;unfold cj;grind
variable {R:RM}
theorem xD{c:bg}{n:Nat}(h:u<0∨u≥n):ik (de c n R) u=false:=by
 have hl:(de c n R).man.length=n:=eG _ _;unfold ik;grind
theorem F4{n:Nat}(h:PH n K S)(e:Both K n S R)(u:Int):cj (bw K n S) u=ik (de K.c n R) u:=by
 by_cases hu:0≤u∧u<n
 ·obtain⟨t,rfl⟩:=Int.eq_ofNat_of_zero_le hu.1;obtain⟨⟨b,_⟩,_,a,d⟩:=h;rw[uC (K:=K) (by omega)]
  exact j0 b d e t
 ·rw[wk (by omega),xD (by omega)]
theorem qK{n:Nat}{l:List Int}{Q:LS→Prop}(k:Nat)(h:Q ⟨l,K,S,R,k⟩):A5 n l K K.c S R Q:=
 ⟨⟨l,K,S,R,k⟩,rfl,sY _ ⟨rfl,rfl,gA _ ⟨rfl,rfl,rfl,fY _ (j1 _ ⟨rfl,rfl,rfl,rfl,rfl,h⟩ _)⟩ _⟩⟩
variable {a:List Int}
theorem mh{b:List Int}{P:Prop}(e:a=b)(hl:a.length≤1000)(h:P):smW a b P:=by
 subst e;refine⟨by show a.length≤100000;omega,fun e=>?_,fun _=>h⟩
 rw[show hT a a=true from decide_eq_true rfl]at e
 cases e
theorem AA{f:Nat→One}{g:Nat→Man}{P:Prop}(h:P):∀n,(∀k,k<n→(f k).log=(g k).told∧(f k).log.length≤1000)→MP f g n P
 |0,_=>h
 |n+1,hl=>by
  exact AA (mh (hl n (by omega)).1 (hl n (by omega)).2 h) n fun k b=>hl k (by omega)
theorem Ax{f:Nat→One}{P:Prop}(h:P):∀n,(∀k,k<n→(f k).log.length≤1000)→Lj f n P
 |0,_=>h
 |n+1,hl=>by
  have:=hl n (by omega)
  exact Ax ⟨by show(f n).log.length≤100000;omega,h⟩ n fun k b=>hl k (by omega)
theorem gk(h:a.length≤1000):lnP a:=by unfold lnP;omega
theorem AO{g:Nat→Man}{P:Prop}(h:P):∀n,(∀k,k<n→(g k).told.length≤1000)→L6 g n P
 |0,_=>h
 |n+1,hl=>by
  exact AO ⟨gk (hl n (by omega)),h⟩ n fun k b=>hl k (by omega)
theorem xP{g:Nat→Man}{P:Prop}(h:P):∀n,(∀k,k<n→(g k).has.length≤1000)→E7 g n P
 |0,_=>h
 |n+1,hl=>by
  exact xP ⟨gk (hl n (by omega)),h⟩ n fun k b=>hl k (by omega)
theorem BA{f:Nat→One}{g:Nat→Man}:∀n,(∀k,k<n→(g k).status=(f k).status)→B1 f n=IR g n
 |0,_=>rfl
 |n+1,h=>by rw[B1,IR,BA n fun k b=>h k (by omega),h n (by omega)]
theorem wH(f:Nat→One):∀n,(B1 f n).length=n
 |0=>rfl
 |n+1=>by rw[B1,qn,wH];rfl
variable {x:Int}
theorem Iu{K:Nat→Prop}(b:(-1:Int)≤x∧x≤3)(h:∀j:Nat,j≤4→x=(j:Int)-1→K j):Ov x K:=by
 refine⟨b,fun e=>h 1 (by decide) ?_,fun c=>⟨fun e=>h 2 (by decide) ?_,fun e1=>⟨fun e=>h 3 (by decide) ?_,fun e2=>⟨fun e=>h 4 (by decide) ?_,fun e3=>h 0 (by decide) ?_⟩⟩⟩⟩
 all_goals grind
theorem kZ{n:Nat}{c o:Nat→Prop}(f:(-1:Int)≤x∧x≤3)(hc:∀t:Nat,t<n→x=t→c t)(g:∀j:Nat,(j:Int)-1<0∨(j:Int)-1≥n→x=(j:Int)-1→o j):BX n x c o:=by
 refine Iu f fun j h b=>?_
 cases d:inB n j with
 |true=>
  simp only[inB,qi,Nat.ble_eq]at d;grind
 |false=>
  refine g j ?_ b;have d:¬(1≤j∧j≤n):=fun e=>by
   have:inB n j=true:=by simp only[inB,qi,Nat.ble_eq];exact e
   grind
  omega
theorem nS(s:LS):(-1:Int)≤lwX s∧lwX s≤3:=by
 have b:0≤IntKind.u64.wrap (at0 s.l (s.k:Int)):=by
  simp only[IntKind.wrap,IntKind.signed];simp;omega
 have h1:=Int.tmod_nonneg 5 b;have c:=Int.tmod_lt_of_pos (IntKind.u64.wrap (at0 s.l (s.k:Int))) (show(0:Int)<5 by decide)
 unfold lwX;rw[wrap64 (n:=(IntKind.u64.wrap (at0 s.l (s.k:Int))).tmod 5) (by omega) (by omega),wrap64 (by omega) (by omega)]
 omega
section
variable {n:Nat}{s:LS}(hs:LI n s)
include hs
theorem M4:PH n s.K s.S∧PR n s.K s.R:=⟨hs.run,s.S,hs.run,hs.both⟩
theorem GU:(s.S.w.length≤1000∧s.S.o.length≤1000)∧(∀c,c<3→(s.S.q c).length≤1000)∧∀t,t<n→(s.S.th t).opn.length≤1000∧(s.S.th t).log.length≤1000:=
 ⟨(sm n).wl hs.run,fun c hc=>(sm n).ql hs.run hc,fun t b=>(sm n).tl hs.run b⟩
theorem Gk{P:Prop}(h:P):Kc n s P:=by
 obtain⟨⟨h1,e⟩,d,f⟩:=GU hs;have b:=hs.both;have q0:=d 0 (by decide)
 have q1:=d 1 (by decide)
 have q2:=d 2 (by decide)
 have g:=b.q 0 (by decide)
 have e1:=b.q 1 (by decide)
 have e2:=b.q 2 (by decide)
 have j:=hs.run.1.1.n3;refine Ax ⟨by show _≤100000;grind,by show _≤100000;grind,by show _≤100000;grind,by show _≤100000;grind,by show _≤100000;grind,
  gk (by rw[b.w];exact h1),gk (by rw[b.o];exact e),AO ⟨gk (by grind),gk (by grind),gk (by grind), ?_⟩ n fun k c=>by rw[(b.th k c).told];grind⟩ n fun k c=>(f k c).2
 exact mh b.w.symm h1 (mh b.o.symm e (mh (BA n fun k c=>(b.th k c).status) (by rw[wH];omega) (AA (mh g.symm q0 (mh e1.symm q1 (mh e2.symm q2 h))) n fun k c=>⟨(b.th k c).told.symm,(f k c).2⟩)))
theorem nu(u:Int){P:Prop}(h:P):Cv n s u P:=by
 obtain⟨⟨b,d⟩,f,a,c⟩:=hs.run;refine⟨(sm n).can hs.run,pQ b c hs.both u,fun e=>?_,fun _=>h⟩
 rw[F4 hs.run hs.both u,bne_self_eq_false]at e;cases e
theorem uK(b:s.k<s.l.length):IB n s:=by
 have:=hs.l;refine nu hs _ (nu hs _ (nu hs _ (nu hs _ (nu hs _ (Gk hs (qK (s.k+1) ⟨d6 (by omega),⟨hs.l,by grind,hs.run,hs.both⟩, ?_,trivial⟩))))))
 grind
theorem pJ(b:s.k<s.l.length){S:MT}{R:RM}(d:S.w.length=s.S.w.length)(e:∃a,bY s.K n a S)(f:Both s.K n S R):rK n s s.K s.K.c S R:=by
 refine qK s.k ⟨rfl,⟨⟨hs.l,hs.k,⟨hs.run.1,by rw[d];exact hs.run.2.1,e⟩,f⟩,b⟩, ?_,trivial⟩
 grind
theorem oq(b:s.k<s.l.length):rK n s s.K s.K.c s.S s.R:=pJ hs b rfl hs.run.2.2 hs.both
theorem wB(g:s.k<s.l.length){t:Nat}(v:t<n)(A:lwX s=t){b:Bool}{f:MT}(h:kb s.K n t s.S=bif b then some f else none)(w:b=false→f=s.S):Ba n s b s.K f:=by
 refine kZ (nS s) (fun q _ e=>?_) (fun j z e=>by grind)
 have:q=t:=by omega
 subst this;obtain⟨⟨m,o⟩,y,a,p⟩:=hs.run;have d:=Dd m p hs.both v;rw[h]at d;refine⟨⟨s.K,s.R⟩,rfl,rfl,rfl,rfl,rfl,jD _ ⟨rfl,jy _ (fY _ ⟨(M4 hs).2, ?_, ?_,trivial⟩) _⟩ _⟩
 ·rintro⟨c,R⟩ ⟨e1,e2,e3⟩;subst e1 e2;rw[e3]at d;cases b with
  |true=>exact d.elim
  |false=>
   rw[w rfl];exact oq hs g
 ·rintro⟨c,R⟩ ⟨e1,e3⟩;subst e1;rw[e3]at d;cases b with
  |true=>exact pJ hs g (HI h) d.1 d.2
  |false=>exact d.elim
theorem D9{P:Prop}(h:P):KC n s P:=by
 obtain⟨⟨h1,c⟩,e,f⟩:=GU hs;have b:=hs.both;exact⟨gk (by rw[b.w];exact h1),gk (by rw[b.o];exact c),xP ⟨gk (by rw[b.q 0 (by decide)];grind),gk (by rw[b.q 1 (by decide)];grind),gk (by rw[b.q 2 (by decide)];grind),h⟩ n
  fun k d=>by rw[(b.th k d).hl];decide⟩
theorem I9(d:s.k<s.l.length):NW n s:=by
 refine kZ (nS s) (fun t b c=>?_) (fun j f c=>?_)
 ·refine⟨⟨s.K,s.S⟩,oA n s.K s.S rfl ⟨hs.run, ?_, ?_,trivial⟩⟩
  ·rintro⟨K,S⟩ ⟨e1,e2,e3⟩;subst e1 e2;exact wB hs d b c e3 fun _=>rfl
  ·rintro⟨K,S⟩ ⟨e1,e3⟩;subst e1;exact wB hs d b c e3 nofun
 ·refine kZ (nS s) (fun t b e=>by grind) (fun g _ _=>D9 hs (oq hs d))
theorem Mr(j:s.k<s.l.length):OL n s fun K S=>Pg n s fun c R=>rK n s K c S R:=by
 obtain⟨⟨d,e⟩,m,a,f⟩:=hs.run;have b:=rz d f hs.both n (qe _);refine⟨⟨s.K,s.S⟩,rfl,rfl,rfl,rfl,rfl,j9 _ (iw _ (sY _ ⟨hs.run, ?_,trivial⟩) _) _⟩;rintro⟨K,S⟩ ⟨e1,e2⟩;subst e1 e2;refine⟨⟨s.K,s.R⟩,rfl,rfl,rfl,rfl,rfl,jD _ (jy _ (fY _ ⟨(M4 hs).2, ?_,trivial⟩) _) _⟩;rintro⟨c,R⟩ ⟨e1,e2⟩;subst e1 e2;obtain⟨g,h1,h⟩:=b;exact pJ hs j (wm ..) ⟨g,h1⟩ h
theorem MZ(p:s.k<s.l.length):lPk n s:=by
 obtain⟨⟨d,q⟩,z,a,f⟩:=hs.run;refine kZ (nS s) (fun t g y=>?_) (fun j o y=>?_)
 ·refine⟨⟨s.K,s.S⟩,oA n s.K s.S rfl ⟨(sm n).pk hs.run g, ?_,trivial⟩⟩;rintro⟨K,S,b⟩ ⟨e1,e2,e3⟩;subst e1 e2 e3;refine kZ (nS s) (fun h _ c=>?_) (fun j o c=>by grind)
  have:h=t:=by omega
  subst this;refine oy n s.K ((Mg n).pk (M4 hs).2 g) ⟨fun e=>?_,fun _=>?_⟩
  ·rw[j0 d f hs.both h,bne_self_eq_false]at e;cases e
  ·obtain⟨v,h1,w⟩:=gE d f hs.both h;exact pJ hs p (jd ..) ⟨v,h1⟩ w
 ·refine⟨(sm n).can hs.run,by rw[wk o],kZ (nS s) (fun t g c=>by grind) (fun A m _=>?_)⟩
  exact⟨pQ d f hs.both _,by rw[xD m],oq hs p⟩
theorem zd:lC8 n s:=by
 refine⟨fun e=>?_,fun _=>⟨rfl,trivial⟩⟩
 have e:=qb e;have b:s.k<s.l.length:=by omega
 exact⟨⟨by omega,e⟩,⟨by omega,e⟩,fun _=>I9 hs b,fun _=>⟨fun _=>Mr hs b,fun _=>MZ hs b⟩⟩
end
theorem od{n:Nat}(h1:1≤n)(c:n≤3)(s:LS)(h:LI n s∧s.k<s.l.length):b7 (mf F (bf gn) 3000 Tryz.f8 b8 ⟨hN,.b true,[]⟩ nL 20 (l20 n) s):=by
 refine⟨?_⟩;have:n=1∨n=2∨n=3:=by omega
 rcases this with rfl|rfl|rfl
 ·rw[KO];exact uK h.1 h.2
 ·rw[LL];exact uK h.1 h.2
 ·rw[ML];exact uK h.1 h.2
theorem sj{n:Nat}(h1:1≤n)(c:n≤3)(s:LS)(h:LI n s):b7 (mf F (bf gn) 3000 Tryz.f8 b8 ⟨hN,.b true,[]⟩ nL 8 (l8 n) s):=by
 refine⟨?_⟩;have:n=1∨n=2∨n=3:=by omega
 rcases this with rfl|rfl|rfl
 ·rw[Qz];exact zd h
 ·rw[O9];exact zd h
 ·rw[OX];exact zd h
end Go.Proofs.Y
namespace Go.Proofs.Y
open Go.RowKit Go.Am Go.Sy
set_option maxRecDepth 100000
theorem IV{rows:List (List Int)}(h:iI rows 12=true):∀i:Nat,i<3→i<rows.length→(at5 rows i).length≤12:=by
 have step:∀(r i:Nat),oX rows 12 (r+1) i=true→i<rows.length→(at5 rows i).length≤12∧oX rows 12 r (i+1)=true:=by
  intro r i h a;rw[iZ (show(i:Int)<rows.length by omega)]at h
  grind
 have b:=fun a=>step 4 0 h a
 grind
theorem tM(l:List Int):∀(r i:Nat) (p:List Instr),p≠[]→fM l r i p≠[]
 |0,_,p,h=>h
 |r+1,i,p,h=>by
  rw[fM];split
  ·exact tM l r (i+1) _ fun e=>h (List.append_eq_nil_iff.1 e).1
  ·exact h
theorem GX(l:List Int):fz l≠[]:=tM l _ _ _ (by simp)
def psE(f g:Nat→List Instr):Nat→Prop→Prop
 |0,P=>P
 |k+1,P=>psE f g k (f k=g k∧P)
theorem Fv(f:Nat→List Instr){P:Prop}(h:P):∀n,psE f f n P
 |0=>h
 |n+1=>by
  exact Fv f ⟨rfl,h⟩ n
section
variable (k:K8)(rows:List (List Int))(l:List Int)
def vW(w m:Int)(n:Nat)(ps:Nat→List Instr):Prop:=∃s:C4,l=s.l∧IntKind.i64.wrap (1+pk k.a 2)=(fy s.k []).engine∧IntKind.i64.wrap (1+pk k.b 2)=(fy s.k []).clock∧IntKind.i64.wrap (1+pk k.c 7)=(fy s.k []).stripes∧
 IntKind.i64.wrap (32-IntKind.i64.wrap (pk k.d 4*9))=(fy s.k []).reads∧w=(fy s.k []).writes∧pk k.f 4=(fy s.k []).retry∧IntKind.i64.wrap (20+pk k.g 60)=(fy s.k []).fuel∧m=(fy s.k []).most∧
 ai 0=ai 0∧ai 1=ai 1∧ai 2=ai 2∧ai 3=ai 3∧ai 0=ai 0∧ai 1=ai 1∧ai 2=ai 2∧ai 3=ai 3∧ai 0=ai 0∧
 oneOf k=oneOf s.k∧ai 0=ai 0∧ai 3=ai 3∧IntKind.i64.wrap (3-oneOf k)=IntKind.i64.wrap (3-oneOf s.k)∧ai 3=ai 3∧ai 3=ai 3∧ai 3=ai 3∧ai 6=ai 6∧ai 3=ai 3∧ai 0=ai 0∧ai 1=ai 1∧ai 2=ai 2∧psE ps s.ps n (C4I n s∧True)
theorem v6{w m:Int}{n:Nat}{ps:Nat→List Instr}(a:w=ge k)(b:m=jP k)(h:C4I n ⟨l,k,ps⟩):vW k l w m n ps:=
 ⟨⟨l,k,ps⟩,rfl,rfl,rfl,rfl,rfl,a,rfl,rfl,b,rfl,rfl,rfl,rfl,rfl,rfl,rfl,rfl,rfl,rfl,rfl,rfl,rfl,rfl,rfl,rfl,rfl,rfl,rfl,rfl,rfl,Fv _ ⟨h,trivial⟩ _⟩
def Cr(w m:Int)(n:Nat):Prop:=(((rows.length:Int)==0)=true→vW k l w m 1 fun _=>[])∧(((rows.length:Int)==0)=false→bif Nat.beq n 0 then False else vW k l w m n fun t=>fz (at5 rows (t:Int)))
def bnR(i:Int):Prop:=(0:Int)≤i∧i<(rows.length:Int)
def GR(w m:Int):Prop:=(decide ((0:Int)<(rows.length:Int))=true→bnR rows 0∧rf (at5 rows 0)∧(decide ((1:Int)<(rows.length:Int))=true→bnR rows 1∧rf (at5 rows 1)∧
 (decide ((2:Int)<(rows.length:Int))=true→bnR rows 2∧rf (at5 rows 2)∧(decide ((3:Int)<(rows.length:Int))=true→Cr k rows l w m 3)∧(decide ((3:Int)<(rows.length:Int))=false→Cr k rows l w m 3))∧
 (decide ((2:Int)<(rows.length:Int))=false→Cr k rows l w m 2))∧(decide ((1:Int)<(rows.length:Int))=false→Cr k rows l w m 1))∧(decide ((0:Int)<(rows.length:Int))=false→Cr k rows l w m 0)
def eWr(m:Int):Prop:=(decide (pk k.e 5>0)=true→GR k rows l 32 m)∧(decide (pk k.e 5>0)=false→GR k rows l (IntKind.i64.wrap (1+pk k.e 12)) m)
def eE:Prop:=fwD.pre (rows,(12:Int),())∧((!iI rows 12)=true→true=true∧True)∧((!iI rows 12)=false→(decide ((l.length:Int)>200)=true→true=true∧True)∧(decide ((l.length:Int)>200)=false→
 ((pk k.h 4==1)=true→eWr k rows l (pk (IntKind.i64.wrap (k.h.tdiv 4)) 12))∧((pk k.h 4==1)=false→eWr k rows l 1073741824)))
end
theorem T8(k:K8)(rows:List (List Int))(l:List Int):Go.Sy.Tree.holds (zl F (bf gn) 3000 Tryz.f8 b8 ⟨hN,.b true,[]⟩ nL [.agg (B8 k),.tl (T:=T) 5 rows,.tl (T:=T) 0 l])=eE k rows l:=by kernel_rfl
section
variable (k:K8)(rows:List (List Int))(l:List Int)
theorem wZ(j:iI rows 12=true)(hl:l.length≤200){w m:Int}(e:w=ge k)(f:m=jP k):GR k rows l w m:=by
 have lens:∀i:Nat,i<3→(i:Int)<rows.length→rf (at5 rows i):=fun i g o=>by
  have:=IV j i g (by omega)
  show(at5 rows i).length≤1000;omega
 have c:∀n,vW k l w m n fun t=>fz (at5 rows (t:Int)):=fun n=>v6 k l e f ⟨hl,fun t _=>.inr ⟨_,rfl⟩,fun _ t _=>GX _⟩
 have nil:vW k l w m 1 fun _=>[]:=v6 k l e f ⟨hl,fun t _=>.inl rfl,fun h=>absurd h (by decide)⟩
 have a:∀n,1≤n→Cr k rows l w m n:=fun n p=>⟨fun _=>nil,fun _=>by
  cases n with
  |zero=>omega
  |succ n=>simp_all⟩
 have e1:∀{i:Int},decide (i<(rows.length:Int))=true→i<(rows.length:Int):=fun h=>qb h
 refine⟨fun b=>⟨⟨by decide,e1 b⟩,lens 0 (by decide) (e1 b),fun h1=>⟨⟨by decide,e1 h1⟩,lens 1 (by decide) (e1 h1),fun d=>⟨⟨by decide,e1 d⟩,lens 2 (by decide) (e1 d),fun _=>a 3 (by decide),fun _=>a 3 (by decide)⟩,fun _=>a 2 (by decide)⟩,fun _=>a 1 (by decide)⟩,fun b=>⟨fun _=>nil,fun h=>?_⟩⟩
 grind
theorem PI:eE k rows l:=by
 refine⟨trivial,fun _=>⟨rfl,trivial⟩,fun a=>⟨fun _=>⟨rfl,trivial⟩,fun hl=>?_⟩⟩
 have a:iI rows 12=true:=by
  grind
 have hl:l.length≤200:=by grind
 have b:∀m,m=jP k→eWr k rows l m:=fun m c=>⟨fun h=>wZ k rows l a hl (by rw[ge,if_pos (qb h)]) c,fun h=>wZ k rows l a hl (by rw[ge,if_neg (qc h)]) c⟩
 exact⟨fun h=>b _ (by rw[jP,if_pos (eq_of_beq h)]),fun h=>b _ (by rw[jP,if_neg (by grind)])⟩
end
end Go.Proofs.Y
namespace Go.Proofs.Y
open Go.RowKit Go.Am Go.Sy
set_option maxRecDepth 100000
def okP(b:Bool)(P:Prop):Prop:=(b=true→P)∧(b=false→False)
def nkP(b:Bool)(P:Prop):Prop:=((!b)=true→False)∧((!b)=false→P)
def psQ(ps:Nat→List Instr):Nat→List (List Instr)
 |0=>[]
 |k+1=>psQ ps k++[ps k]
def mtQ(ps:Nat→List Instr):Nat→List (List Int)
 |0=>[]
 |k+1=>mtQ ps k++[(bA (ps k)).1]
def s4(st:Nat→Int)(t:Nat)(v:Int):Nat→Int:=fun k=>bif Nat.beq k t then v else st k
def w0Q:List Int:=[0,1,2,3,0,1,2,3,0]
def o0Q:List Int:=[-1,-1,-1,-1,-1,-1,-1,-1,-1]
section
variable (s:C4)(n:Nat)
def c0Q:bg:=fy s.k (psQ s.ps n)
def h0Q(st:Nat→Int):MT:=⟨w0Q,o0Q,fun t=>⟨0,(c0Q s n).fuel,st t,0,0,0,0,-1,[],[]⟩,fun _=>[]⟩
def r0Q(st:Nat→Int):RM:={ w:=w0Q,o:=o0Q,q:=fun _=>[],th:=fun t=>{ at_:=0,fuel:=(c0Q s n).fuel,status:=st t,r0:=0,r1:=0,r2:=0,r3:=0,told:=[],has:=[0,0,0],wants:=false,mate:=rmL (s.ps t) } }
def H6:Nat→Prop→Prop
 |0,P=>P
 |k+1,P=>H6 k (prD.pre (c0Q s n,(k:Int),())∧P)
def F2(st a:Nat→Int):Prop:=A5 n s.l ⟨c0Q s n,mtQ s.ps n⟩ (c0Q s n) (h0Q s n st) (r0Q s n a) fun z=>(0:Int)=z.k∧LI n z∧2*(200-z.k)+1<1000∧True
def IY(st:Nat→Int):Nat→(Nat→Int)→Prop
 |0,a=>F2 s n st a
 |r+1,a=>rmD.pre (s.ps (n-(r+1)),())∧((((s.ps (n-(r+1))).length:Int)==0)=true→IY st r (s4 a (n-(r+1)) 1))∧((((s.ps (n-(r+1))).length:Int)==0)=false→IY st r (s4 a (n-(r+1)) 0))
def Ie:Nat→(Nat→Int)→Prop
 |0,st=>IY s n st n fun _=>0
 |r+1,st=>(s.ps (n-(r+1))).length≤100000∧(s.ps (n-(r+1))).length≤100000∧((((s.ps (n-(r+1))).length:Int)==0)=true→Ie r (s4 st (n-(r+1)) 1))∧((((s.ps (n-(r+1))).length:Int)==0)=false→Ie r (s4 st (n-(r+1)) 0))
def LO:Nat→Prop
 |0=>F2 s n (fun _=>0) fun _=>0
 |r+1=>rmD.pre (s.ps (n-(r+1)),())∧((((s.ps (n-(r+1))).length:Int)==0)=true→False)∧((((s.ps (n-(r+1))).length:Int)==0)=false→LO r)
def MG:Nat→Prop
 |0=>LO s n n
 |r+1=>(s.ps (n-(r+1))).length≤100000∧(s.ps (n-(r+1))).length≤100000∧((((s.ps (n-(r+1))).length:Int)==0)=true→False)∧((((s.ps (n-(r+1))).length:Int)==0)=false→MG r)
def KE(P:Prop):Prop:=
 let b:=fy s.k []
 okP (decide (b.engine≥1)) (okP (decide (b.engine≤2)) (okP (decide (b.clock≥1)) (okP (decide (b.clock≤2)) (okP (decide (b.stripes≥1)) (okP (decide (b.stripes≤16)) (okP (decide (b.reads≥1)) (okP (decide (b.reads≤32)) (okP (decide (b.writes≥1)) (okP (decide (b.writes≤32))
  (okP (decide (b.retry≥0)) (okP (decide (b.retry≤8)) (okP (decide (b.fuel≥0)) (okP (decide (b.fuel≤400)) (okP (decide (b.most≥0)) (okP (decide (b.most≤1099511627776))
  (okP (decide (oneOf s.k≥1)) (nkP (decide (oneOf s.k≤3)) (okP (decide (IntKind.i64.wrap (3-oneOf s.k)≥1)) (nkP (decide (IntKind.i64.wrap (3-oneOf s.k)≤3)) P)))))))))))))))))))
def e4Q:Prop:=KE s (H6 s n n (Ie s n n fun _=>0))
def e4L:Prop:=KE s (H6 s n n (MG s n n))
end
end Go.Proofs.Y
namespace Go.Proofs.Y
open Go.RowKit Go.Am Go.Sy
set_option maxRecDepth 100000
variable {p:Prop}
theorem d8 [Decidable p]{P:Prop}(h:p)(a:P):okP (decide p) P:=⟨fun _=>a,fun e=>qc e h⟩
theorem D0 [Decidable p]{P:Prop}(h:p)(a:P):nkP (decide p) P:=⟨fun e=>(by grind),fun _=>a⟩
theorem wrQ(x m c:Int)(a:0<m)(b:m≤1000)(d:0≤c)(h1:c≤1000):IntKind.i64.wrap (c+pk x m)=c+pk x m∧0≤pk x m∧pk x m<m:=by
 have h:=nz x m a (by omega)
 exact⟨wrap64 (by omega) (by omega),h⟩
theorem Bg(s:C4){P:Prop}(o:P):KE s P:=by
 have a:=wrQ s.k.a 2 1 (by decide) (by decide) (by decide) (by decide)
 have b:=wrQ s.k.b 2 1 (by decide) (by decide) (by decide) (by decide)
 have c:=wrQ s.k.c 7 1 (by decide) (by decide) (by decide) (by decide)
 have g:=wrQ s.k.g 60 20 (by decide) (by decide) (by decide) (by decide)
 have f:=nz s.k.f 4 (by decide) (by decide)
 have q:(fy s.k []).engine=1+pk s.k.a 2:=a.1;have t:(fy s.k []).clock=1+pk s.k.b 2:=b.1;have u:(fy s.k []).stripes=1+pk s.k.c 7:=c.1;have v:(fy s.k []).fuel=20+pk s.k.g 60:=g.1;have w:(fy s.k []).retry=pk s.k.f 4:=rfl;have er:1≤(fy s.k []).reads∧(fy s.k []).reads≤32:=by
  show 1≤IntKind.i64.wrap (32-IntKind.i64.wrap (pk s.k.d 4*9))∧IntKind.i64.wrap (32-IntKind.i64.wrap (pk s.k.d 4*9))≤32;rcases pk4 s.k.d with h|h|h|h<;>rw[h]<;>decide
 have l:1≤(fy s.k []).writes∧(fy s.k []).writes≤32:=by
  show 1≤ge s.k∧ge s.k≤32;unfold ge;have e:=wrQ s.k.e 12 1 (by decide) (by decide) (by decide) (by decide)
  grind
 have m:0≤(fy s.k []).most∧(fy s.k []).most≤1099511627776:=by
  show 0≤jP s.k∧jP s.k≤1099511627776;unfold jP;have e:=nz (IntKind.i64.wrap (s.k.h.tdiv 4)) 12 (by decide) (by decide)
  grind
 have j:(1≤oneOf s.k∧oneOf s.k≤3)∧1≤IntKind.i64.wrap (3-oneOf s.k)∧IntKind.i64.wrap (3-oneOf s.k)≤3:=by
  rcases KM (k:=s.k)with h|h<;>rw[h]<;>decide
 exact d8 (by omega) (d8 (by omega) (d8 (by omega) (d8 (by omega) (d8 (by omega) (d8 (by omega) (d8 er.1 (d8 er.2 (d8 l.1 (d8 l.2
  (d8 (by omega) (d8 (by omega) (d8 (by omega) (d8 (by omega) (d8 m.1 (d8 m.2 (d8 j.1.1 (D0 j.1.2 (d8 j.2.1 (D0 j.2.2 o)))))))))))))))))))
theorem ir(ps:Nat→List Instr):∀n,(psQ ps n).length=n
 |0=>rfl
 |n+1=>by rw[psQ,qn,ir ps n];rfl
theorem kX(ps:Nat→List Instr):∀n,(mtQ ps n).length=n
 |0=>rfl
 |n+1=>by rw[mtQ,qn,kX ps n];rfl
theorem Ae(ps:Nat→List Instr):∀(n k:Nat),k<n→(psQ ps n)[k]?=some (ps k)
 |n+1,k,h=>by
  rw[psQ];rcases qk k n with a|a
  ·rw[qf (by rw[ir];exact a),Ae ps n k a]
  ·have:k=n:=by omega
   subst this;rw[qj (by rw[ir];exact a),ir,Nat.sub_self]
   rfl
theorem Bn(ps:Nat→List Instr):∀(n k:Nat),k<n→(mtQ ps n)[k]?=some (bA (ps k)).1
 |n+1,k,h=>by
  rw[mtQ];rcases qk k n with a|a
  ·rw[qf (by rw[kX];exact a),Bn ps n k a]
  ·have:k=n:=by omega
   subst this;rw[qj (by rw[kX];exact a),kX,Nat.sub_self]
   rfl
variable {k:Nat}{ps:Nat→List Instr}
theorem uV{n:Nat}(h:k<n):at3 (psQ ps n) (k:Int)=ps k:=by
 have hl:k<(psQ ps n).length:=by rw[ir];exact h
 rw[I2 hl];have:=Ae ps n k h;grind
theorem Gw{n:Nat}(h:k<n):at5 (mtQ ps n) (k:Int)=(bA (ps k)).1:=by
 have hl:k<(mtQ ps n).length:=by rw[kX];exact h
 rw[Ih hl];have:=Bn ps n k h;grind
theorem SS(a b c:eT)(d:Int):dm [a,b,c] d= -1∨dm [a,b,c] d=0∨dm [a,b,c] d=1∨dm [a,b,c] d=2:=by
 unfold dm;grind
section
variable {s:C4}{n:Nat}(hI:C4I n s)(hn:n≤3)
include hI
theorem Bi{t:Nat}(a:t<n)(j:Nat):iB (c0Q s n) j (s.ps t)=(0,0,0):=by
 rcases hI.ps t a with h|⟨x,h⟩
 ·rw[h];exact Dn j
 ·rw[h];exact y4 j x
theorem HX{t:Nat}(a:t<n):(s.ps t).length≤48:=(Ap (Bi hI a 0)).len
theorem rmQ{t:Nat}(a:t<n):rmL (s.ps t)=(bA (s.ps t)).1:=by
 have h:=Bi hI a 0;unfold iB at h
 by_cases h1:((s.ps t).length:Int)>48
 ·grind
 ·by_cases b:eX (s.ps t) (s.ps t).length 0≥0
  ·grind
  ·by_cases c:(bA (s.ps t)).2≥0
   ·grind
   ·unfold rmL;grind
include hn
theorem Nv:KOk ⟨c0Q s n,mtQ s.ps n⟩ n where
 conf:=⟨rfl,rfl,fun d=>SS _ _ _ d⟩
 n3:=hn
 pl:=ir _ _
 ml:=kX _ _
 gd:=fun t a=>by
  show Good (c0Q s n) (at3 (psQ s.ps n) t);rw[uV a];exact Ap (Bi hI a 0)
 mt:=fun t a=>by
  show at5 (mtQ s.ps n) t=(bA (at3 (psQ s.ps n) t)).1;rw[Gw a,uV a]
def stQ(s:C4)(t:Nat):Int:=if(s.ps t).length=0 then 1 else 0
theorem Ll{st:Nat→Int}(a:∀t,t<n→st t=stQ s t):bY ⟨c0Q s n,mtQ s.ps n⟩ n (fun _=>0) (h0Q s n st) where
 th:=fun t b=>by
  have z1:=hI;clear z1;have z2:=hn;clear z2;show u3 (at3 (psQ s.ps n) t) 0 _;rw[uV b];have g:=wrQ s.k.g 60 20 (by decide) (by decide) (by decide) (by decide)
  have d:(c0Q s n).fuel=20+pk s.k.g 60:=g.1;refine⟨rfl,Nat.zero_le _,fun h=>?_, ?_,fun h=>absurd h (show ¬(-1:Int)≥0 by decide),fun h=>?_, ?_, ?_, ?_⟩
  ·have h:st t=0:=h;rw[a t b,stQ]at h
   grind
  ·have:dK (s.ps t) 0=[]:=rfl;split<;>rfl
  ·rcases h with h|h
   ·exact absurd h (show ¬(-1:Int)≥0 by decide)
   ·have h:st t=4:=h;rw[a t b,stQ]at h
    grind
  ·show st t=0∨st t=1∨_;rw[a t b,stQ]
   grind
  ·show 0≤(c0Q s n).fuel∧(c0Q s n).fuel≤1000;omega
  ·show((0:Nat):Int)+(c0Q s n).fuel≤1000;omega
 own:=rfl
 ow:=show ∀v∈o0Q,-1≤v by decide
 q:=fun c hc u hu=>by cases hu
 nod:=fun c hc=>List.nodup_nil
theorem PY{st a:Nat→Int}(e:∀t,t<n→st t=stQ s t)(b:∀t,t<n→a t=stQ s t):Both ⟨c0Q s n,mtQ s.ps n⟩ n (h0Q s n st) (r0Q s n a) where
 w:=rfl
 o:=rfl
 q:=fun c _=>by have z:=hn;rfl
 th:=fun t d=>⟨rfl,rfl,(b t d).trans (e t d).symm,rfl,rfl,rfl,rfl,rfl,(rmQ hI d).trans (Gw d).symm,rfl,fun k f=>by
  have:k=0∨k=1∨k=2:=by omega
  rcases this with rfl|rfl|rfl<;>rfl,rfl⟩
theorem xB{st a:Nat→Int}(b:∀t,t<n→st t=stQ s t)(c:∀t,t<n→a t=stQ s t):F2 s n st a:=
 qK 0 ⟨rfl,⟨hI.l,Nat.zero_le _,⟨⟨Nv hI hn,⟨by show 3≤1000;decide,fun y d=>by
  have d:y∈[(⟨oneOf s.k,0,3⟩:eT),⟨IntKind.i64.wrap (3-oneOf s.k),3,3⟩,⟨3,6,3⟩]:=d;grind⟩⟩,by show 9≤1000;decide,_,Ll hI hn b⟩,PY hI hn b c⟩,by grind,trivial⟩
theorem pB{st:Nat→Int}{r:Nat}{v:Int}(b:v=stQ s (n-(r+1)))(h:∀t,t<n-(r+1)→st t=stQ s t)(c:r+1≤n):∀t,t<n-r→s4 st (n-(r+1)) v t=stQ s t:=fun t a=>by
 have z1:=hI;clear z1;have z2:=hn;clear z2;unfold s4;cases hb:Nat.beq t (n-(r+1))with
 |true=>simp_all
 |false=>
  have:t≠n-(r+1):=fun e=>by simp_all
  grind
theorem ux{st:Nat→Int}(b:∀t,t<n→st t=stQ s t):∀(r:Nat) (a:Nat→Int),r≤n→(∀t,t<n-r→a t=stQ s t)→IY s n st r a
 |0,a,_,h=>xB hI hn b fun t d=>h t (by omega)
 |r+1,a,c,h=>by
  have hl:=HX hI (t:=n-(r+1)) (by omega)
  refine⟨by show(s.ps (n-(r+1))).length≤100000;omega,fun e=>ux b r _ (by omega) (pB hI hn ?_ h c),fun e=>ux b r _ (by omega) (pB hI hn ?_ h c)⟩
  ·have e:=eq_of_beq e;rw[stQ,if_pos (by omega)]
  ·rw[beq_eq_false_iff_ne]at e;rw[stQ,if_neg (by omega)]
theorem u5:∀(r:Nat) (st:Nat→Int),r≤n→(∀t,t<n-r→st t=stQ s t)→Ie s n r st
 |0,st,_,h=>ux hI hn (fun t b=>h t (by omega)) n _ (qe _) fun t b=>by omega
 |r+1,st,a,h=>by
  have hl:=HX hI (t:=n-(r+1)) (by omega)
  refine⟨by omega,by omega,fun e=>u5 r _ (by omega) (pB hI hn ?_ h a),fun e=>u5 r _ (by omega) (pB hI hn ?_ h a)⟩
  ·have e:=eq_of_beq e;rw[stQ,if_pos (by omega)]
  ·rw[beq_eq_false_iff_ne]at e;rw[stQ,if_neg (by omega)]
theorem un{P:Prop}(a:P):∀k,k≤n→H6 s n k P
 |0,_=>a
 |k+1,b=>by
  refine un (P:=prD.pre (c0Q s n,(k:Int),())∧P) ⟨⟨⟨(show 9≤1000 by decide),(show 3≤1000 by decide),(show 3≤1000 by decide),by show(psQ s.ps n).length≤1000;rw[ir];omega⟩,Int.natCast_nonneg k,by show(k:Int)<((psQ s.ps n).length:Int);rw[ir];omega, ?_⟩,a⟩ k (by omega)
  show iB (c0Q s n) ((k:Int).toNat) (at3 (psQ s.ps n) ((k:Int).toNat:Int))=(0,0,0);rw[Int.toNat_natCast,uV (show k<n by omega)]
  exact Bi hI (by omega) _
theorem JC(a:2≤n){t:Nat}(b:t<n):((s.ps t).length:Int)≠0∧stQ s t=0:=by
 have z:=hn;clear z;have:=hI.ne a t b;have:(s.ps t).length≠0:=fun e=>this (qp e)
 exact⟨by omega,by rw[stQ,if_neg this]⟩
theorem AL(a:2≤n):∀r,r≤n→LO s n r
 |0,_=>xB hI hn (fun t b=>(JC hI hn a b).2.symm) fun t b=>(JC hI hn a b).2.symm
 |r+1,c=>by
  have hl:=HX hI (t:=n-(r+1)) (by omega)
  exact⟨by show(s.ps (n-(r+1))).length≤100000;omega,fun e=>(JC hI hn a (by omega)).1 (eq_of_beq e),fun _=>AL a r (by omega)⟩
theorem BE(a:2≤n):∀r,r≤n→MG s n r
 |0,_=>AL hI hn a n (qe _)
 |r+1,b=>by
  have hl:=HX hI (t:=n-(r+1)) (by omega)
  exact⟨by omega,by omega,fun e=>(JC hI hn a (by omega)).1 (eq_of_beq e),fun _=>BE a r (by omega)⟩
theorem MN:e4Q s n:=Bg s (un hI hn (u5 hI hn n _ (qe _) fun t a=>by omega) n (qe _))
theorem FC(a:2≤n):e4L s n:=Bg s (un hI hn (BE hI hn a n (qe _)) n (qe _))
end
end Go.Proofs.Y

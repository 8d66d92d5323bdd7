import Derived.Test.YtcholkmididfmaaGreatDoorLib4
set_option linter.unusedVariables false
set_option linter.unusedSimpArgs false
namespace Go.Sy
open Go.Am
variable {C:bK}{E:Env}
variable {H H':bd}{S:bh}{lo:Nat}
theorem zF{a:ic}{f:FuncId}{args:List bc}{r:bc}(c:(S.hook f).isNone=true)(b:S.pol f= .pure)(h:co S a lo f args H=some (r,H')):H'=H:=by
 unfold co at h;split at h
 ·grind
 ·split at h
  ·cases h
  ·split at h
   ·cases h
   ·split at h
    ·cases h
    ·cases h
    ·split at h
     ·cases h
     ·rw[b]at h;simp only[finish,qd]at h;grind
variable {ρ:List bc}
theorem yI(l:dk S){ev:Operand→SV C.T}(k:∀x,Er E (ev x) (bj S ρ x)){op:Op}{v:bc}{n:Nat}(a:pK S ev op=true)(h:ek S (co S (cB S n)) lo ρ H op=some (v,H')):
 ∀b,b<H.length→H'[b]?=H[b]?:=by
 unfold pK at a;split at a
 ·rename_i c;obtain⟨callee,args,m⟩:=c;simp only at a;split at a
  ·rename_i f;have key:∀g x y,bj S ρ f= .fn (.func g) x y→((S.hook g).isNone && (S.pol g== .pure||S.pol g== .fresh))=true→∀b,b<H.length→H'[b]?=H[b]?:=by
    intro g x y e hc;rw[qi,Bool.or_eq_true,beq_iff_eq,beq_iff_eq]at hc;simp only[ek,e]at h;split at h
    ·grind
    ·rcases hc.2 with j|j
     ·rw[zF hc.1 j h];grind
     ·exact(jY (kK l n) hc.1 j h).2
   have d:=k f;split at a
   ·rename_i g x y e;rw[e]at d;generalize hv:bj S ρ f=w at d;cases d;grind
   ·rename_i g x y e;rw[e]at d;generalize hv:bj S ρ f=w at d;cases d;grind
   ·cases a
  ·cases a
 ·cases a
theorem ew{F:Cf C}(hC:bo C)(hX:fB F.S F.noExt)(hL:dk F.S){call:gq C}(y:gB F.S call){lo ak f:Nat}(ac:lo≤f){ops:Array Oper}{B:List Nat}{K:SR C→SH C→Tree}:
 ∀{l:List Oper} {k:Nat} {E:Env} {r:SR C} {ρ:List bc} {h:SH C} {H:bd} {d:List (Nat×Nat)} {rd:RdS} {tc:TcS} {rA:List (Nat×Nat)} {tA:List (Nat×Option (List Nat))},l=ops.toList.drop k→cO E r ρ→bu E lo ak h H→f≤H.length→Pos E f ops k d h H→zr E rA rd→zy E tA tc→
 (gC F call ak ops B l k r h d rd tc K).holds→
 ∃n x E' Y M,cy F.S (co F.S (cB F.S n)) lo f ops B l k ρ H=some x∧(∀p,p∈rA∨p∈x.reads→∀q,q∈tA∨q∈x.touches→pX B p q=true)∧LeN h.length f E E'∧h.length≤M.length∧cO E' Y x.ρ∧bu E' lo ak M x.H∧H.length≤x.H.length∧(K Y M).holds
 | [],k,E,r,ρ,h,H,d,rd,tc,rA,tA,hl,hR,Z,al,G,O,P,hh=>by
  unfold gC at hh;have key:(K r h).holds∧∀x,x∈rd→∀t,t∈tc→my B x t:=by
   cases ha:zH B rd tc with
   |false=>
    rw[ha]at hh;obtain⟨h1,J⟩:=ov hh;exact⟨h1,fun x hx t ht=>J (x,t) (zi hx ht)⟩
   |true=>
    rw[ha]at hh;exact⟨hh,wI ha⟩
  refine⟨0,⟨[],[],ρ,H⟩,E,r,h,rfl, ?_,LeN.refl _ _,qe _,hR,Z,qe _,key.1⟩;intro p hp q hq;simp at hp hq;exact C7 Z O P key.2 p hp q hq
 |o::l,k,E,r,ρ,h,H,d,rd,tc,rA,tA,hl,hR,Z,al,G,O,P,hh=>by
  have aC:ops[k]?=some o:=by
   have:(ops.toList.drop k)[0]?=some o:=by grind
   grind
  have aa:l=ops.toList.drop (k+1):=by rw[← List.drop_drop,← hl];rfl
  have U:∀{E':Env} {M:SH C} {H':bd},LeN h.length f E E'→(∀b cs,E'.Fr b cs→E.Fr b cs∨H.length≤b)→h.length≤M.length→H.length≤H'.length→(∀j,newAt ops j=true→E.ω (f+j)=none→E'.ω (f+j)=none)→(∀j,k+1≤j→newAt ops j=true→H'[f+j]?=some none)→Pos E' f ops (k+1) d M H':=by
   intro E' M H' aj ay aP aI hω hw;refine⟨fun j z=>qr (G.len j z) aI,fun j z=>?_,fun j hk z=>⟨hw j hk z,hω j z (G.will j (by omega) z).2⟩,fun j id hm=>?_,fun j z cs hf=>(ay _ _ hf).elim (G.fr j z cs) fun x=>by have:=G.len j z;omega⟩
   ·rcases G.was j z with⟨id,h1,J⟩|h1
    ·exact .inl ⟨id,h1,aj.le.β _ _ J⟩
    grind
   ·obtain⟨h1,J,h3⟩:=G.ids j id hm;exact⟨aj.le.β _ _ h1,by omega,h3⟩
  unfold gC at hh;rcases ue hR hh with⟨hg,r1,D,h1⟩|⟨hg,r1,D,h1⟩
  ·cases hn:cz o.op with
   |true=>
    rw[hn]at h1;simp at h1;have av:newAt ops k=true:=by simp only[newAt,aC,hn]
    obtain⟨ar,aK⟩:=G.will k (qe _) av;obtain⟨blk,az,ob,mk,e1,e2,e3⟩:=Bs hC D.ev h1;have aw:∀b,b≠f+k→(H.set (f+k) (some blk))[b]?=H[b]?:=fun b w=>by grind
    have am:(H.set (f+k) (some blk))[f+k]?=some (some blk):=by grind
    have hp:=Z.push f (H':=H.set (f+k) (some blk)) (ob h.length) (az (f+k)) (f+k) (by grind) (by omega) (by omega) (.inr ⟨ar,aK⟩) (by simp) (fun b _ w=>aw b w)
     (fun aj=>(e3 _ _ h.length (f+k) aj.le (by simp[Env.put]) (by simp[Env.put]) (by simp[Env.put]) am).1)
    have aD:=(e3 _ _ h.length (f+k) hp.1.le (by simp[Env.put]) (by simp[Env.put]) (by simp[Env.put]) am).2
    have I:Pos (E.put h.length (some (f+k)) (az (f+k)) h.length) f ops (k+1) ((k,h.length)::d) (h++[some (ob h.length)]) (H.set (f+k) (some blk)):=by
     refine⟨fun j z=>by simpa using G.len j z,fun j z=>?_,fun j hk z=>?_,fun j id hm=>?_,G.fr⟩
     ·by_cases aE:j=k
      ·subst aE;exact .inl ⟨h.length,by simp,by simp[Env.put]⟩
      ·rcases G.was j z with⟨id,h1,J⟩|h1
       ·exact .inl ⟨id,by simp[h1],hp.1.le.β _ _ J⟩
       ·simp only[Env.put];grind
     ·obtain⟨h1,J⟩:=G.will j (by omega) z
      simp only[Env.put];grind
     ·rcases List.mem_cons.1 hm with e|hm
      ·cases e;exact⟨by simp[Env.put],by simp,av⟩
      ·obtain⟨h1,J,h3⟩:=G.ids j id hm;exact⟨hp.1.le.β _ _ h1,by simp;omega,h3⟩
    obtain⟨n,x,E',Y,M,k1,k2,k3,k4,k5,k6,k7,k8⟩:=ew hC hX hL y ac aa ((D.mono hp.1.le).put aD) hp.2 (by grind) I (O.mono hp.1.le) (P.mono hp.1.le) e2
    refine⟨n,x,E',Y,M, ?_,k2,hp.1.trans (by simp) (qe _) k3,by grind,k5,k6,by grind,k8⟩
    unfold cy;grind
   |false=>
    rw[hn]at h1;cases he:dw o.op with
    |false=>
     rw[he]at h1;simp at h1;obtain⟨v,H1,sv,ab,E1,⟨e1,rfl⟩,e2,e3,e4,e5,e6,e7⟩:=s9 hC D.ev Z h1;have L:LeN h.length f E E1:=⟨e2.le,e2.old,fun b cs w=>(e2.fr b cs w).imp_right fun h=>by omega,fun b r w=>(e2.own b r w).imp_right fun h=>by omega⟩
     have hω:∀j,newAt ops j=true→E.ω (f+j)=none→E1.ω (f+j)=none:=by
      intro j z h0;cases hw:E1.ω (f+j)with
      |none=>rfl
      |some q=>
       rcases e2.own _ _ hw with J|J
       ·grind
       ·have:=G.len j z;omega
     have I:Pos E1 f ops (k+1) d ab H1:=U L e2.fr e3 e5 hω (fun j hk z=>(G.will j (by omega) z).1)
     have ao:=fun b w=>G5 (S:=F.S) D.ev Z h1 (b:=b) w
     cases hra:eQ F.S ρ o.op with
     |none=>
      have ad:zr E1 rA (match rv h (eg F.S r1.get) o.op with|some q=>(k,q)::rd|none=>rd):=by
       intro i b w;obtain⟨q,g1,N⟩:=(O.mono e2.le) i b w;grind
      obtain⟨n,x,E',Y,M,k1,k2,k3,k4,k5,k6,k7,k8⟩:=ew hC hX hL y ac aa ((D.mono e2.le).put e6) e4 al I ad (P.mono e2.le) e7;refine⟨n,x,E',Y,M, ?_,k2,L.trans e3 (qe _) k3,Nat.le_trans e3 k4,k5,k6,k7,k8⟩;unfold cy;grind
     |some b=>
      obtain⟨q,g1,N⟩:=ao b hra;have ad:zr E1 ((k,b)::rA) (match rv h (eg F.S r1.get) o.op with|some q=>(k,q)::rd|none=>rd):=by
       rw[g1];intro i b' w;rcases List.mem_cons.1 w with e|w
       ·cases e;exact⟨q,by simp,N.mono e2.le⟩
       ·obtain⟨q',g4,g5⟩:=(O.mono e2.le) i b' w;grind
      obtain⟨n,x,E',Y,M,k1,k2,k3,k4,k5,k6,k7,k8⟩:=ew hC hX hL y ac aa ((D.mono e2.le).put e6) e4 al I ad (P.mono e2.le) e7;refine⟨n,{ x with reads:=(k,b)::x.reads },E',Y,M, ?_, ?_,L.trans e3 (qe _) k3,Nat.le_trans e3 k4,k5,k6,k7,k8⟩
      ·unfold cy;grind
      grind
    |true=>
     rw[he]at h1;have W:∀(op:Op),o.op=op→∀{hx:SH C} {K':SV C.T→SH C→Tree},(uk F.S F.noExt call ak (eg F.S r1.get) hx op K').holds→(∀id ob,bF hx id=some ob→bF h id=some ob)→∀ids A,mu F.S h (eg F.S r1.get) op=some (ids,A)→∃l,dJ F.S ρ op=some l∧∀b,b∈l→(∃root,root∈ids∧E.ω b=some root)∨(A=true∧∃cs,E.Fr b cs):=by
      intro op aQ hx K' hK ah ids A ht;refine Cq D.ev Z ht ?_ ?_ ?_
      ·rintro t x v rfl;simp only[uk]at hK;obtain⟨id,g⟩:=xA hK;refine⟨id, ?_⟩;rcases g with⟨off,g1,cs,N⟩|⟨i,off,g1,n,ll,full,root,N,g3⟩
       ·exact .inl ⟨off,g1,cs,ah _ _ N⟩
       ·exact .inr ⟨i,off,g1,n,ll,full,root,ah _ _ N,g3⟩
      ·rintro t m x v rfl;simp only[uk]at hK;obtain⟨id,es,g1,N⟩:=ul hK;exact⟨id,es,g1,ah _ _ N⟩
      ·rintro c x sz id off len cap ex rfl hc h0 aR;simp only[uk,hc]at hK;split at hK
       ·rename_i s x' t u q1 q2;have hs:s= .sl sz id off len cap ex:=by
         cases hargs:c.args.toList with
         |nil=>grind
         |cons a0 rest=>
          rw[hargs]at q1;have:c.args[0]?=some a0:=by
           have:c.args.toList[0]?=some a0:=by grind
           grind
          grind
        rw[hs]at hK;obtain⟨cs,g⟩:=u4 hK;grind
       ·exact qw hK
     cases R:wK ops B k||(JZ o.op && zt ops B k)with
     |true=>
      rw[R]at h1;obtain⟨v,H1,sv,ab,E1,⟨n1,e1⟩,e2,e3,e4,e5,e6,e7⟩:=uT hC hX y D.ev Z h1;have L:LeN h.length f E E1:=⟨e2.le,e2.old,fun b cs w=>(e2.fr b cs w).imp_right fun h=>by omega,fun b r w=>(e2.own b r w).imp_right fun h=>by omega⟩
      have hω:∀j,newAt ops j=true→E.ω (f+j)=none→E1.ω (f+j)=none:=by
       intro j z h0;cases hw:E1.ω (f+j)with
       |none=>rfl
       |some q=>
        rcases e2.own _ _ hw with J|J
        ·grind
        ·have:=G.len j z;omega
      have ae:(∀b,b∈hidden ops B f k→H[b]?=some none∧H1[b]?=some none)∧∀j,k+1≤j→newAt ops j=true→H1[f+j]?=some none:=by
       simp at R;rcases R with R|⟨aA,aB⟩
       ·exact⟨fun b w=>by rw[zK R]at w;simp at w,fun j hk z=>by have:=DX R z;omega⟩
       ·exact⟨fun b w=>⟨nC G aB b w,xO e1 aA b (nC G aB b w)⟩,fun j hk z=>xO e1 aA _ (G.will j (by omega) z).1⟩
      have ap:=BS fun b w=>(ae.1 b w).1
      have af:=wo ae.1;have I:Pos E1 f ops (k+1) d ab H1:=U L e2.fr e3 e5 hω ae.2;have ag:zy E1 ((k,dG F.S ρ o.op H H1)::tA) ((k,tkX F.S h ab (eg F.S r1.get) o.op)::tc):=by
       intro i oo ho;rcases List.mem_cons.1 ho with e|ho
       ·cases e;refine⟨_,List.mem_cons_self,K9 Z e4 e2 fun ids A e=>?_⟩
        obtain⟨ll,g1,N⟩:=W o.op rfl h1 (fun _ _ h=>h) ids A e
        exact⟨ll,g1,fun b w=>(N b w).imp (fun⟨root,p,q⟩=>⟨root,p,e2.le.ω _ _ q⟩) (fun⟨p,cs,q⟩=>⟨p,cs,e2.le.Fr _ _ q⟩)⟩
       ·obtain⟨s,g1,N⟩:=(P.mono e2.le) i oo ho;grind
      obtain⟨n,x,E',Y,M,k1,k2,k3,k4,k5,k6,k7,k8⟩:=ew hC hX hL y ac aa ((D.mono e2.le).put e6) e4 (by omega) I (O.mono e2.le) ag e7
      refine⟨max n1 n,{ x with touches:=(k,dG F.S ρ o.op H H1)::x.touches },E',Y,M, ?_, ?_,L.trans e3 (qe _) k3,Nat.le_trans e3 k4,k5,k6,Nat.le_trans e5 k7,k8⟩
      ·unfold cy;simp only[hg,hn,Bool.false_eq_true,if_false,he,if_true,ap];rw[kT (dz (cT (Nat.le_max_left n1 n))) e1];simp only[af];rw[if_pos e5,en (dz (cT (Nat.le_max_right n1 n))) k1]
      grind
     |false=>
      rw[R]at h1;cases hf:pK F.S (eg F.S r1.get) o.op && ((gl B k d).all fun id=>(bF h id).isSome)with
      |false=>rw[hf]at h1;exact qw h1
      |true=>
       rw[hf]at h1;rw[qi]at hf;obtain⟨aL,au⟩:=hf
       -- what is hidden
       have an:∀b,b∈hidden ops B f k→b<H.length∧∀cs,¬E.Fr b cs:=by
        intro b w;obtain⟨j,rfl,J,h3⟩:=dx.1 w;exact⟨G.len j J,fun cs aN=>G.fr j J cs aN⟩
       have X:∀i,i∈gl B k d→∃o:Obj C.T,h[i]?=some (some o):=by
        intro i hi;have:=List.all_eq_true.1 au i hi;obtain⟨o,ho⟩:=Option.isSome_iff_exists.1 this;exact⟨o,bm ho⟩
       have aq:∀i,i∈gl B k d→∃j,(j,i)∈d∧(B.getD k 0).testBit j=false:=by
        intro i hi;simp only[gl,List.mem_filter,Bool.not_eq_true']at hi;grind
       have ax:∀i,i∈gl B k d→(∃o:Obj C.T,h[i]?=some (some o))∧∃b,E.β i=some b∧b∈hidden ops B f k:=by
        intro i hi;obtain⟨j,J,h3⟩:=aq i hi;obtain⟨h4,h5,h6⟩:=G.ids j i J;exact⟨X i hi,_,h4,dx.2 ⟨j,rfl,h6,h3⟩⟩
       have aF:=Z.hide (gl B k d) (hidden ops B f k) (by
        intro b w;refine⟨(an b w).2,fun i o aO hβ=>?_⟩
        obtain⟨j,rfl,J,h3⟩:=dx.1 w;rcases G.was j J with⟨id,g1,N⟩|g1
        ·have hm:id∈gl B k d:=by
          simp only[gl,List.mem_map,List.mem_filter];grind
         obtain⟨o',aM⟩:=X id hm;have:=Z.inj i id o o' _ aO aM hβ N;grind
        ·obtain⟨rr,N⟩:=Z.βω i _ hβ;grind)
       obtain⟨v,H1,sv,ab,E1,⟨n1,e1⟩,e2,e3,e4,e5,e6,e7⟩:=uT hC hX y D.ev aF h1;have Q:=yI hL D.ev aL e1;rw[jf,jg]at e2;rw[jf]at e3;rw[jg]at e5 Q;have aG:=Z.unhide e4 e2 e3 e5 Q ax an;have L:LeN h.length f E E1:=⟨e2.le,e2.old,fun b cs w=>(e2.fr b cs w).imp_right fun h=>by omega,fun b r w=>(e2.own b r w).imp_right fun h=>by omega⟩
       have hω:∀j,newAt ops j=true→E.ω (f+j)=none→E1.ω (f+j)=none:=by
        intro j z h0;cases hw:E1.ω (f+j)with
        |none=>rfl
        |some q=>
         rcases e2.own _ _ hw with J|J
         ·grind
         ·have:=G.len j z;omega
       have I:Pos E1 f ops (k+1) d (fQ h ab (gl B k d)) (Am.unhide H H1 (hidden ops B f k)):=U L e2.fr (by rw[f6];exact e3) (by rw[eS];exact e5) hω (fun j hk z=>by
        have hw:=(G.will j (by omega) z).1
        have aH:=G.len j z;rw[cS];split
        ·grind
        ·rename_i aJ;rw[Q _ aH,ei,if_neg aJ];exact hw)
       have ag:zy E1 ((k,dG F.S ρ o.op (Am.hide H (hidden ops B f k)) H1)::tA) ((k,tk0 (mu F.S h (eg F.S r1.get) o.op))::tc):=by
        intro i oo ho;rcases List.mem_cons.1 ho with e|ho
        ·cases e;refine⟨_,List.mem_cons_self,DW fun ids A e=>?_⟩
         obtain⟨ll,g1,N⟩:=W o.op rfl h1 (fun id ob hg=>by
          have:=bm hg;rw[oz]at this;split at this
          ·grind
          ·simp only[bF,this]) ids A e
         exact⟨ll,g1,fun b w=>(N b w).imp (fun⟨root,p,q⟩=>⟨root,p,e2.le.ω _ _ q⟩) (fun⟨p,cs,q⟩=>⟨p,cs,e2.le.Fr _ _ q⟩)⟩
        ·obtain⟨s,g1,N⟩:=(P.mono e2.le) i oo ho;grind
       obtain⟨n,x,E',Y,M,k1,k2,k3,k4,k5,k6,k7,k8⟩:=ew hC hX hL y ac aa ((D.mono e2.le).put e6) aG (by rw[eS];omega) I (O.mono e2.le) ag e7
       rw[f6]at k3 k4;rw[eS]at k7;refine⟨max n1 n,{ x with touches:=(k,dG F.S ρ o.op (Am.hide H (hidden ops B f k)) H1)::x.touches },E',Y,M, ?_, ?_,L.trans e3 (qe _) k3,Nat.le_trans e3 k4,k5,k6,Nat.le_trans e5 k7,k8⟩
       ·unfold cy;simp only[hg,hn,Bool.false_eq_true,if_false,he,if_true];rw[kT (dz (cT (Nat.le_max_left n1 n))) e1];simp only;rw[if_pos e5,en (dz (cT (Nat.le_max_right n1 n))) k1]
       grind
  ·have I:Pos E f ops (k+1) d h H:=U (LeN.refl _ _) (fun _ _ x=>.inl x) (qe _) (qe _) (fun _ _ h=>h) (fun j hk z=>(G.will j (by omega) z).1)
   obtain⟨n,x,E',Y,M,k1,k2,k3,k4,k5,k6,k7,k8⟩:=ew hC hX hL y ac aa (D.put (.a bz)) Z al I O P h1;refine⟨n,x,E',Y,M, ?_,k2,k3,k4,k5,k6,k7,k8⟩;unfold cy;grind
theorem FS{F:Cf C}(O:bo C)(P:fB F.S F.noExt)(Q:dk F.S){call:gq C}(e:gB F.S call){f:Nat}{ops:Array Oper}{K:SR C→SH C→Tree}{r:SR C}{h:SH C}(R:cO E r ρ)(a:bu E lo f h H)
 (w:(ET F call f ops r h K).holds):Go2 E lo f h H (fun X H'=>∃n,jV F.S (co F.S (cB F.S n)) lo ops ρ H=some (X,H')) K:=by
 unfold ET at w;cases hreg:jq ops (mz ops.toList [])with
 |false=>rw[hreg]at w;exact qw w
 |true=>
  rw[hreg]at w;have t:∀b cs,E.Fr b cs→b<H.length:=fun b cs u=>lt_of_some (a.fr b cs u).1
  have d:∀j,newAt ops j=true→ops.any (fun o=>cz o.op)=true∧j<ops.size:=by
   intro j g;unfold newAt at g;grind
  have ext:bu E lo f h (H++List.replicate ops.size none):=by
   refine⟨fun i o Y=>(a.obj i o Y).heap fun b v=>qf (a.bnd i b v),a.inj,fun b cs u=>⟨by rw[qf (t b cs u)];exact(a.fr b cs u).1,(a.fr b cs u).2⟩,a.fresh,a.low,fun i b v=>?_,fun b r Z=>?_,a.βω,a.wl, ?_⟩
   ·have:=a.bnd i b v;simp;omega
   ·have:=a.own b r Z;grind
   ·have:=a.ll;simp;omega
  have N:∀j,E.ω (H.length+j)=none:=by
   intro j;cases hw:E.ω (H.length+j)with
   |none=>rfl
   |some r=>have:=(a.own _ _ hw).1;omega
  obtain⟨n,x,E',s,m,y,z,A,B,D,G,J,I⟩:∃n x E' s m,cy F.S (co F.S (cB F.S n)) lo H.length ops (mz ops.toList []) ops.toList 0 ρ (if ops.any (fun o=>cz o.op)then H++List.replicate ops.size none else H)=some x∧(∀p,p∈([]:List (Nat×Nat))∨p∈x.reads→∀q,q∈([]:List (Nat×Option (List Nat)))∨q∈x.touches→pX (mz ops.toList []) p q=true)∧LeN h.length H.length E E'∧h.length≤m.length∧cO E' s x.ρ∧bu E' lo f m x.H∧H.length≤x.H.length∧(K s m).holds:=by
   by_cases c:ops.any (fun o=>cz o.op)=true
   ·rw[if_pos c];obtain⟨n,x,E',s,m,y,z,A,B,D,G,J,I⟩:=ew (rA:=[]) (tA:=[]) O P Q e a.ll (l:=ops.toList) (k:=0) (by simp) R ext (by simp) (by
     refine⟨fun j g=>?_,fun j g=>.inr (N j),fun j _ g=>⟨?_,N j⟩,fun j id L=>by simp at L,fun j _ cs u=>by grind⟩
     all_goals grind) (fun i b v=>by simp at v) (fun i o M=>by simp at M) w
    exact⟨n,x,E',s,m,y,z,A,B,D,G,by grind,I⟩
   ·rw[if_neg c];obtain⟨n,x,E',s,m,y,z,A,B,D,G,J,I⟩:=ew (rA:=[]) (tA:=[]) O P Q e a.ll (l:=ops.toList) (k:=0) (by simp) R a (qe _) (by
     refine⟨fun j g=>(c (d j g).1).elim,fun j g=>(c (d j g).1).elim,fun j _ g=>(c (d j g).1).elim,fun j id L=>by simp at L,fun j _ cs u=>by grind⟩) (fun i b v=>by simp at v) (fun i o M=>by simp at M) w
    exact⟨n,x,E',s,m,y,z,A,B,D,G,J,I⟩
  refine⟨x.ρ,x.H,s,m,E',⟨n, ?_⟩,A,B,D,G,J,I⟩;unfold jV;simp only[hreg,Bool.true_and,decide_eq_true_eq];rw[if_pos a.ll,y];simp only;rw[if_pos];unfold apartB;rw[List.all_eq_true];intro p U;rw[List.all_eq_true];intro q W;exact z p (.inr U) q (.inr W)
end Go.Sy
namespace Go.Sy
open Go.Am
variable {C:bK}{E:Env}
inductive cQ(S:bh)(lo:Nat):List Kt→List bc→bd→(bT×List bc×bd)→Prop
 |nil {ρ:List bc} {H:bd}:cQ S lo [] ρ H (.normal,ρ,H)
 |blk {id:Nat} {k:List Kt} {ρ:List bc} {H:bd} {r:bT×List bc×bd}:cQ S lo k ρ H r→cQ S lo (.blk id::k) ρ H r
 |lp {b:Code} {k:List Kt} {ρ:List bc} {H:bd} {r:bT×List bc×bd}:cQ S lo (.c (.loop b)::k) ρ H r→cQ S lo (.lp b::k) ρ H r
 |c {x:Code} {k:List Kt} {ρ ρ':List bc} {H H':bd} {r:bT×List bc×bd}:cG S lo x ρ H (.normal,ρ',H')→cQ S lo k ρ' H' r→cQ S lo (.c x::k) ρ H r
 |ret {x:Code} {k:List Kt} {ρ ρ':List bc} {H H':bd}:cG S lo x ρ H (.ret,ρ',H')→cQ S lo (.c x::k) ρ H (.ret,ρ',H')
 |exit {x:Code} {k k':List Kt} {i:Nat} {ρ ρ':List bc} {H H':bd} {r:bT×List bc×bd}:cG S lo x ρ H (.exit i,ρ',H')→unwind i k=some k'→cQ S lo k' ρ' H' r→cQ S lo (.c x::k) ρ H r
section
variable {S:bh}{lo:Nat}
theorem cQ.seq{a b:Code}{k:List Kt}{ρ:List bc}{H:bd}{r:bT×List bc×bd}(h:cQ S lo (.c a:: .c b::k) ρ H r):cQ S lo (.c (.seq a b)::k) ρ H r:=by
 cases h with
 |c h1 e=>
  cases e with
  |c d f=>exact .c (h1.seq d) f
  |ret d=>exact .ret (h1.seq d)
  |exit d f g=>exact .exit (h1.seq d) f g
 |ret h1=>exact .ret (cG.seq_out (by simp) h1)
 |exit h1 e d=>exact .exit (cG.seq_out (by simp) h1) e d
theorem cQ.cond{x:Operand}{a b:Code}{k:List Kt}{ρ:List bc}{H:bd}{r:bT×List bc×bd}{t:Bool}(d:bj S ρ x= .bool t)(h:cQ S lo (.c (if t then a else b)::k) ρ H r):cQ S lo (.c (.cond x a b)::k) ρ H r:=by
 cases h with
 |c h1 e=>exact .c (cG.cond d h1) e
 |ret h1=>exact .ret (cG.cond d h1)
 |exit h1 e f=>exact .exit (cG.cond d h1) e f
theorem cQ.block{id:Nat}{b:Code}{k:List Kt}{ρ:List bc}{H:bd}{r:bT×List bc×bd}(h:cQ S lo (.c b:: .blk id::k) ρ H r):cQ S lo (.c (.block id b)::k) ρ H r:=by
 cases h with
 |c h1 a=>
  cases a with
  |blk d=>exact .c (cG.block h1) d
 |ret h1=>exact .ret (cG.block h1)
 |exit h1 a d=>
  rename_i g i j H';simp only[unwind]at a
  by_cases e:i=id
  ·subst e;have:Nat.beq i i=true:=by simp_all
   rw[this]at a;simp only[cond_true,qa]at a;subst a;have:=cG.block (id:=i) h1;simp only[if_true]at this;exact .c this d
  ·have f:Nat.beq i id=false:=by rw[Bool.eq_false_iff];simp_all
   rw[f]at a;have:=cG.block (id:=id) h1;simp only[if_neg e]at this;exact .exit this a d
theorem cQ.loop{b:Code}{k:List Kt}{ρ:List bc}{H:bd}{r:bT×List bc×bd}(h:cQ S lo (.c b:: .lp b::k) ρ H r):cQ S lo (.c (.loop b)::k) ρ H r:=by
 cases h with
 |c h1 d=>
  cases d with
  |lp e=>
   cases e with
   |c a f=>exact .c (cG.loop_next h1 a) f
   |ret a=>exact .ret (cG.loop_next h1 a)
   |exit a f g=>exact .exit (cG.loop_next h1 a) f g
 |ret h1=>exact .ret (cG.loop_out (by simp) h1)
 |exit h1 d e=>exact .exit (cG.loop_out (by simp) h1) d e
theorem cG.mk(n:Nat){c:Code}{ρ:List bc}{H:bd}{r:bT×List bc×bd}(h:dT S (cB S n) lo c ρ H=some r):cG S lo c ρ H r:=⟨n+1,h⟩
theorem cQ.out{b:Code}{ρ:List bc}{H:bd}{r:bT×List bc×bd}(h:cQ S lo [.c b] ρ H r):cG S lo b ρ H r∧∀i,r.1≠ .exit i:=by
 cases h with
 |c h1 a=>
  cases a;grind
 |ret h1=>grind
 |exit h1 a=>simp[unwind]at a
end
def dO:Code→List Kt→List (Nat×List Kt)
 | .region id ops d,k=>[(id,.c (.region id ops d)::k)]
 | .seq a b,k=>dO a (.c b::k)++dO b k
 | .cond _ a b,k=>dO a k++dO b k
 | .block id b,k=>dO b (.blk id::k)
 | .loop b,k=>dO b (.lp b::k)
 |_,_=>[]
def jK(all:List (Nat×List Kt)):List Kt→Prop
 | []=>True
 | .c x::k=>(∀y,y∈dO x k→y∈all)∧jK all k
 | .lp b::k=>(∀y,y∈dO b (.lp b::k)→y∈all)∧jK all k
 | .blk _::k=>jK all k
theorem jK.unwind{all:List (Nat×List Kt)}{i:Nat}:∀{k d:List Kt},jK all k→unwind i k=some d→jK all d
 | [],_,_,h=>by cases h
 | .blk id::k,d,a,h=>by
  simp only[Go.Sy.unwind]at h;cases hb:Nat.beq i id with
  |true=>rw[hb]at h;simp only[cond_true,qa]at h;subst h;exact a
  |false=>rw[hb]at h;exact jK.unwind (k:=k) a h
 | .c x::k,d,a,h=>jK.unwind (k:=k) a.2 h
 | .lp b::k,d,a,h=>jK.unwind (k:=k) a.2 h
abbrev FI(C:bK):=Nat→Option (SR C→SH C→Tree)
abbrev CK(C:bK):=bT→SR C→SH C→Tree
abbrev zw(C:bK):=FI C→Nat→List Kt→SR C→SH C→CK C→Tree
abbrev Ctr(C:bK):=Nat→List (SV C.T)→SH C→(SV C.T→SH C→Tree)→Tree
noncomputable def lx(F:Cf C)(call:gq C)(wlo:Nat)(ops:Array Oper)(a:Bool)(r:SR C)(h:SH C)(K:SR C→SH C→Tree):Tree:=
 bif a then(ET F call wlo ops r h K)else I6 F call wlo ops.toList ops.toList r h K
noncomputable def MX(r:SR C)(x:Operand)(b:Bool):SR C:=match x with
 | .tmp d=>r.set d (.a (.bool b))
 |_=>r
variable {r:SR C}{ρ:List bc}
theorem By{S:bh}(c:cO E r ρ){x:Operand}{b:Bool}(e:bj S ρ x= .bool b):cO E (MX r x b) ρ:=by
 cases x with
 |tmp d=>
  refine c.self ?_;have e:ρ.getD d bz= .bool b:=e;rw[e];exact .a _
 |const v=>exact c
 |global g=>exact c
 |func f=>exact c
noncomputable def Dr(F:Cf C)(call:gq C)(d:zw C):zw C:=fun cut wlo k r h fin=>
 match k with
 | []=>fin .normal r h
 | .blk _::k=>d cut wlo k r h fin
 | .lp b::k=>d cut wlo (.c (.loop b)::k) r h fin
 | .c e::k=>
  match e with
  | .skip=>d cut wlo k r h fin
  | .label _=>d cut wlo k r h fin
  | .ret=>fin .ret r h
  | .exit id=>match unwind id k with
   |some l=>d cut wlo l r h fin
   |none=>.stuck "exit"
  | .seq a b=>d cut wlo (.c a:: .c b::k) r h fin
  | .cond x a b=>match eg F.S r.get x with
   | .a (.bool true)=>d cut wlo (.c a::k) r h fin
   | .a (.bool false)=>d cut wlo (.c b::k) r h fin
   | .b t=>.fork t (d cut wlo (.c a::k) (MX r x true) h fin) (d cut wlo (.c b::k) (MX r x false) h fin)
   |_=>.stuck "cond"
  | .block id b=>d cut wlo (.c b:: .blk id::k) r h fin
  | .loop b=>d cut wlo (.c b:: .lp b::k) r h fin
  | .region id ops f=>match cut id with
   |some chk=>chk r h
   |none=>lx F call wlo ops f r h fun g j=>d cut wlo k g j fin
  |_=>.stuck "e"
noncomputable def dU(P:Program)(r:SR C)(h:SH C):List ResultVar→(List (SV C.T)→Tree)→Tree
 | [],K=>K []
 | .tmp t::l,K=>dU P r h l fun vs=>K (r.get t::vs)
 | .cell a t::l,K=>xe P t h (r.get a) fun v=>dU P r h l fun vs=>K (v::vs)
def fv{T:Nat→Type}:List (SV T)→SV T
 | [v]=>v
 |vs=>.tup vs
noncomputable def uG(F:Cf C)(b:zw C):gq C:=fun wlo f args h K=>
 match F.S.hook f,F.S.P.funcs[f]? with
 |none,some fn=>match fn.body with
  |some body=>bif Nat.ble args.length fn.ntmps && Nat.ble fn.ntmps 512 then
   match F.S.pol f with
   | .keep=>b (fun _=>none) wlo [.c body] (SR.frame args fn.ntmps) h fun _ r a=>dU F.S.P r a fn.results.toList fun vs=>K (fv vs) a
   | .fresh=>b (fun _=>none) h.length [.c body] (SR.frame args fn.ntmps) h fun _ r a=>dU F.S.P r a fn.results.toList fun vs=>K (fv vs) a
   | .pure=>.stuck "pure"
   else .stuck "frame"
  |none=>.stuck "no body"
 |_,_=>.stuck "hook"
noncomputable def nJ(F:Cf C)(ctr:FuncId→Option (Ctr C))(a:zw C):gq C:=fun wlo f args h K=>
 match ctr f with
 |some c=>c wlo args h K
 |none=>uG F a wlo f args h K
noncomputable def mD(F:Cf C)(ctr:FuncId→Option (Ctr C))(n:Nat):zw C:=Nat.rec (fun _ _ _ _ _ _=>.stuck "fuel") (fun _ a=>Dr F (nJ F ctr a) a) n
def bi(S:bh)(f:FuncId)(c:Ctr C):Prop:=∀(E:Env) (lo wlo:Nat) (args:List (SV C.T)) (h:SH C) (H:bd) (K:SV C.T→SH C→Tree) (av:List bc),(c wlo args h K).holds→bu E lo wlo h H→Ers E args av→
 Out E lo wlo h H (fun v H'=>∃n,co S (cB S n) lo f av H=some (v,H')) K
def cv(S:bh)(ctr:FuncId→Option (Ctr C)):Prop:=∀f c,ctr f=some c→bi S f c
variable {F:Cf C}{H:bd}{h:SH C}{wlo:Nat}
theorem jx(k:bo C)(l:fB F.S F.noExt)(p:dk F.S){call:gq C}(a:gB F.S call){lo:Nat}{id:Nat}{ops:Array Oper}{b:Bool}{K:SR C→SH C→Tree}(m:cO E r ρ)(o:bu E lo wlo h H)
 (d:(lx F call wlo ops b r h K).holds):Go2 E lo wlo h H (fun c H'=>cG F.S lo (.region id ops b) ρ H (.normal,c,H')) K:=by
 unfold lx at d;cases b with
 |true=>
  simp only[cond_true]at d;obtain⟨c,H',e,f,E',⟨n,g⟩,j⟩:=FS k l p a m o d;exact⟨c,H',e,f,E',cG.mk n (by simp only[dT,if_true,g,Option.map_some]),j⟩
 |false=>
  obtain⟨c,H',e,f,E',⟨n,g⟩,j⟩:=vl k l a m o d;exact⟨c,H',e,f,E',cG.mk n (by simp only[dT,Bool.false_eq_true,if_false,g,Option.map_some]),j⟩
theorem xW:∀{as:List (SV C.T)} {av ρ:List bc} {i:Nat} {r:SR C},Ers E as av→cO E r ρ→i+av.length≤ρ.length→cO E (SR.fill as i r) (ρ.take i++av++ρ.drop (i+av.length))
 | [],av,ρ,i,r,c,e,hl=>by
  rw[c.inv_nil]
  simpa[SR.fill]using e
 |x::as,av,ρ,i,r,c,e,hl=>by
  obtain⟨a,b,rfl,h1,f⟩:=c.inv_cons;simp only[qm]at hl;have:=xW f (e.set (d:=i) h1) (by grind) (i:=i+1)
  simp only[SR.fill];have e1:(ρ.set i a).take (i+1)=ρ.take i++[a]:=by
   rw[List.take_set,List.take_succ_eq_append_getElem (by omega),List.set_append_right _ _ (by simp;omega)]
   simp;rw[show i-min i ρ.length=0 by omega]
   rfl
  have e2:(ρ.set i a).drop (i+1+b.length)=ρ.drop (i+(b.length+1)):=by
   rw[List.drop_set_of_lt (by omega)]
   congr 1;omega
  grind
variable {n:Nat}
theorem kN{as:List (SV C.T)}{av:List bc}(c:Ers E as av)(e:av.length≤n)(d:n≤512):cO E (SR.frame as n) (av++List.replicate (n-av.length) bz):=by
 have b:cO E (⟨Bt.full (.a bz) 9,n⟩:SR C) (List.replicate n bz):=by
  refine⟨e9 _ _,d,by simp,fun j=>?_⟩
  have e1:(SR.mk (Bt.full (.a bz) 9) n:SR C).get j= .a bz:=by
   simp only[SR.get,kg,Option.getD_some];grind
  have e2:(List.replicate n bz).getD j bz=bz:=by
   grind
  rw[e1,e2];exact .a _
 have:=xW c b (i:=0) (by grind)
 simpa[SR.frame]using this
theorem eZ{S:bh}{lo wlo:Nat}(f:bo C){r:SR C}{ρ:List bc}{h:SH C}{H:bd}(c:cO E r ρ)(g:bu E lo wlo h H):∀{l:List ResultVar} {K:List (SV C.T)→Tree},(dU S.P r h l K).holds→∃vs as,dv S ρ H l=some as∧Ers E vs as∧(K vs).holds
 | [],K,b=>⟨[],[],rfl,Ers.nil,b⟩
 | .tmp t::l,K,b=>by
  obtain⟨vs,as,h1,d,e⟩:=eZ f c g (l:=l) b;exact⟨_,_,by simp only[dv,gt,h1],d.cons (c.val t),e⟩
 | .cell a t::l,K,b=>by
  simp only[dU]at b;obtain⟨v,sv,e1,e2,e3⟩:=vR f g (c.val a) b;obtain⟨vs,as,h1,d,e⟩:=eZ f c g (l:=l) e3;exact⟨_,_,by simp only[dv,gt,e1,h1],d.cons e2,e⟩
theorem lc{vs:List (SV C.T)}{as:List bc}(h:Ers E vs as):Er E (fv vs) (hB as):=by
 cases vs with
 |nil=>rw[h.inv_nil];exact .tup rfl (fun i x a h=>by simp at h)
 |cons v vs=>
  obtain⟨a,d,rfl,h1,c⟩:=h.inv_cons;cases vs with
  |nil=>rw[c.inv_nil];exact h1
  |cons w j=>
   obtain⟨b,e,rfl,f,g⟩:=c.inv_cons;exact .tup h.1 h.2
theorem bu.raise{lo:Nat}(a:bu E lo wlo h H):bu E (max lo H.length) h.length h H:=
 ⟨a.obj,a.inj,a.fr,a.fresh,(fun id b d c=>by rw[(a.fresh id d).1]at c;cases c),a.bnd,a.own,a.βω,qe _,by have:=a.ll;omega⟩
theorem bu.lower{lo N:Nat}{d:SH C}{H':bd}{E':Env}(e:bu E lo wlo h H)(a:bu E' (max lo H.length) h.length d H')(f:LeN h.length N E E')(j:h.length≤d.length)(k:H.length≤H'.length):bu E' lo wlo d H':=
 ⟨a.obj,a.inj,a.fr,a.fresh,(fun id b g c=>by
  rcases qk id h.length with h1|h1
  ·rw[(f.old id h1).1]at c;exact e.low id b g c
  ·have:=a.low id b h1 c;omega),a.bnd,a.own,a.βω,by have:=e.wl;omega,by have:=e.ll;omega⟩
def F0(S:bh)(n:Nat)(sx:zw C):Prop:=∀(cut:FI C) (wlo:Nat) (k:List Kt) (r:SR C) (h:SH C) (fin:CK C) (E:Env) (lo:Nat) (ρ:List bc) (H:bd) (all:List (Nat×List Kt)) (Q:bT→List bc→bd→Prop),
 (sx cut wlo k r h fin).holds→cO E r ρ→bu E lo wlo h H→jK all k→
 (∀x c b E' a H',(fin x c b).holds→cO E' c a→bu E' lo wlo b H'→LeN h.length H.length E E'→h.length≤b.length→H.length≤H'.length→Q x a H')→
 (∀id chk f c b E' a H',cut id=some chk→(id,f)∈all→jK all f→(chk c b).holds→cO E' c a→bu E' lo wlo b H'→LeN h.length H.length E E'→h.length≤b.length→H.length≤H'.length→∃x d e,cQ S lo f a H' (x,d,e)∧Q x d e)→
 ∃x a H',cQ S lo k ρ H (x,a,H')∧Q x a H'
variable {sx:zw C}
theorem yF(hC:bo C)(w:F0 F.S n sx):gB F.S (uG F sx):=by
 intro E lo wlo f args h H K av d s z;unfold uG at d;split at d
 case h_2=>exact qw d
 rename_i fn L M;split at d
 case h_2=>exact qw d
 rename_i body N;cases hfr:(Nat.ble args.length fn.ntmps && Nat.ble fn.ntmps 512)with
 |false=>rw[hfr]at d;exact qw d
 |true=>
  rw[hfr]at d;simp only[cond_true]at d;rw[qi,Nat.ble_eq,Nat.ble_eq]at hfr;have J:=kN z (n:=fn.ntmps) (by rw[← z.1];exact hfr.1) hfr.2
  have j:∀(e a:Nat),bu E e a h H→(F.S.pol f).lo lo H=e→(∀v H',finish (F.S.pol f) H v H'=some (v,H'))→(∀(E':Env) (b:SH C) (H':bd),bu E' e a b H'→LeN h.length H.length E E'→h.length≤b.length→H.length≤H'.length→bu E' lo wlo b H')→
   (sx (fun _=>none) a [.c body] (SR.frame args fn.ntmps) h fun _ r b=>dU F.S.P r b fn.results.toList fun vs=>K (fv vs) b).holds→Out E lo wlo h H (fun v H'=>∃n,co F.S (cB F.S n) lo f av H=some (v,H')) K:=by
   intro e a t u A k O;obtain⟨x,p,H',g,l,b,E',Q,R,B,D,G,I⟩:=w _ _ _ _ _ _ _ e _ _ (dO body []) (fun _ p H'=>∃l b E',(dU F.S.P l b fn.results.toList fun vs=>K (fv vs) b).holds∧cO E' l p∧bu E' e a b H'∧LeN h.length H.length E E'∧h.length≤b.length∧H.length≤H'.length) O J t
    ⟨fun y W=>W,trivial⟩ (fun x l b E' p H' q1 q2 X Y q5 Z=>⟨l,b,E',q1,q2,X,Y,q5,Z⟩) (fun id chk k' l b E' p H' q=>by cases q)
   obtain⟨g,U⟩:=g.out;obtain⟨vs,as,e1,e2,e3⟩:=eZ (S:=F.S) hC R B Q;obtain⟨m,hm⟩:=g;refine⟨hB as,H',fv vs,b,E',⟨m, ?_⟩,D,G,k _ _ _ B D G I,I,lc e2,e3⟩;simp only[co,L,M,N,u];grind
  split at d
  ·rename_i o;exact j lo wlo s (by rw[o];rfl) (by rw[o];exact fun _ _=>rfl) (fun _ _ _ h _ _ _=>h) d
  ·rename_i o;exact j (max lo H.length) h.length s.raise (by rw[o];rfl) (by rw[o];exact fun _ _=>rfl) (fun E' b H' h1 h2 h3 h4=>s.lower h1 h2 h3 h4) d
  ·exact qw d
theorem ji(j:bo C){ctr:FuncId→Option (Ctr C)}(a:cv F.S ctr)(d:F0 F.S n sx):gB F.S (nJ F ctr sx):=by
 intro E lo wlo f args h H K av b e g;unfold nJ at b;split at b
 ·rename_i c hc;exact a f c hc E lo wlo args h H K av b e g
 ·exact yF j d E lo wlo f args h H K av b e g
theorem eN{F:Cf C}(R:bo C)(hX:fB F.S F.noExt)(hL:dk F.S){ctr:FuncId→Option (Ctr C)}(w:cv F.S ctr):∀n,F0 F.S n (mD F ctr n)
 |0=>fun _ _ _ _ _ _ _ _ _ _ _ _ f=>(cf f).elim
 |n+1=>by
  have B:=eN R hX hL w n;have z:=ji R w B;intro cut wlo k r h fin E lo ρ H all Q f u A l j m;replace f:(Dr F (nJ F ctr (mD F ctr n)) (mD F ctr n) cut wlo k r h fin).holds:=f
  -- the same state, another stack
  have p:∀{s:List Kt},(mD F ctr n cut wlo s r h fin).holds→jK all s→∃x d H',cQ F.S lo s ρ H (x,d,H')∧Q x d H':=fun h1 g=>B _ _ _ _ _ _ _ _ _ _ _ _ h1 u A g j m
  have nil:=j .normal r h E ρ H;unfold Dr at f;split at f
  ·exact⟨_,_,_,.nil,j _ _ _ E _ _ f u A (LeN.refl _ _) (qe _) (qe _)⟩
  ·obtain⟨x,d,H',h1,g⟩:=p f l;exact⟨x,d,H',.blk h1,g⟩
  ·rename_i b s;obtain⟨x,d,H',h1,g⟩:=p f ⟨fun y o=>l.1 y o,l.2⟩
   exact⟨x,d,H',.lp h1,g⟩
  ·rename_i X s;split at f
   ·obtain⟨x,d,H',h1,g⟩:=p f l.2;exact⟨x,d,H',.c (cG.mk 0 rfl) h1,g⟩
   ·obtain⟨x,d,H',h1,g⟩:=p f l.2;exact⟨x,d,H',.c (cG.mk 0 rfl) h1,g⟩
   ·exact⟨_,_,_,.ret (cG.mk 0 rfl),j _ _ _ E _ _ f u A (LeN.refl _ _) (qe _) (qe _)⟩
   ·rename_i id;split at f
    ·rename_i G hu;obtain⟨x,d,H',h1,g⟩:=p f (l.2.unwind hu);exact⟨x,d,H',.exit (cG.mk 0 rfl) hu h1,g⟩
    ·exact qw f
   ·rename_i a b;obtain⟨x,d,H',h1,g⟩:=p f ⟨fun y o=>l.1 y (by simp only[dO,List.mem_append];exact .inl o),fun y o=>l.1 y (by simp only[dO,List.mem_append];exact .inr o),l.2⟩
    exact⟨x,d,H',h1.seq,g⟩
   ·rename_i x a b;have q:=u.ev (S:=F.S) x;have U:jK all (.c a::s):=⟨fun y o=>l.1 y (by simp only[dO,List.mem_append];exact .inl o),l.2⟩
    have W:jK all (.c b::s):=⟨fun y o=>l.1 y (by simp only[dO,List.mem_append];exact .inr o),l.2⟩
    split at f
    ·rename_i e;rw[e]at q;generalize hv:bj F.S ρ x=v at q;cases q;obtain⟨x,d,H',h1,g⟩:=p f U;exact⟨x,d,H',cQ.cond hv h1,g⟩
    ·rename_i e;rw[e]at q;generalize hv:bj F.S ρ x=v at q;cases q;obtain⟨x,d,H',h1,g⟩:=p f W;exact⟨x,d,H',cQ.cond hv h1,g⟩
    ·rename_i t e;rw[e]at q;generalize hv:bj F.S ρ x=v at q;cases q;rcases eP f with⟨rfl,I⟩|⟨rfl,I⟩
     ·obtain⟨x,d,H',h1,g⟩:=B _ _ _ _ _ _ _ _ _ _ _ _ I (By u hv) A U j m;exact⟨x,d,H',cQ.cond hv h1,g⟩
     ·obtain⟨x,d,H',h1,g⟩:=B _ _ _ _ _ _ _ _ _ _ _ _ I (By u hv) A W j m;exact⟨x,d,H',cQ.cond hv h1,g⟩
    ·exact qw f
   ·rename_i id b;obtain⟨x,d,H',h1,g⟩:=p f ⟨fun y o=>l.1 y o,l.2⟩
    exact⟨x,d,H',h1.block,g⟩
   ·rename_i b;obtain⟨x,d,H',h1,g⟩:=p f ⟨fun y o=>l.1 y o,fun y o=>l.1 y o,l.2⟩
    exact⟨x,d,H',h1.loop,g⟩
   ·rename_i id ops Y;split at f
    ·rename_i chk hc;exact m id chk _ r h E ρ H hc (l.1 _ (by simp[dO])) l f u A (LeN.refl _ _) (qe _) (qe _)
    ·obtain⟨ρ1,H1,r1,h1,E1,k1,G,Z,k4,k5,k6,k7⟩:=jx (id:=id) R hX hL z u A f;obtain⟨x,d,H',q1,q2⟩:=B _ _ _ _ _ _ _ _ _ _ all Q k7 k4 k5 l.2
      (fun x J K E' d H' L M N O p5 p6=>j x J K E' d H' L M N (G.trans Z k6 O) (by omega) (by omega))
      (fun id chk s J K E' d H' p0 P D L M N O p5 p6=>m id chk s J K E' d H' p0 P D L M N (G.trans Z k6 O) (by omega) (by omega))
     exact⟨x,d,H',.c k1 q1,q2⟩
   ·exact qw f
end Go.Sy
namespace Go.Sy
open Go.Am
variable {C:bK}{E:Env}
abbrev Ren:=List (Option Nat)
def uw:List Int→Bool
 | []=>true
 |n::l=>(l.all fun m=>!(n==m)) && uw l
theorem om:∀{l:List Int},uw l=true→l.Nodup
 | [],_=>List.nodup_nil
 |n::l,h=>by
  simp only[uw,qi,List.all_eq_true,Bool.not_eq_true',beq_eq_false_iff_ne]at h;exact List.nodup_cons.2 ⟨fun a=>h.1 n a rfl,om h.2⟩
noncomputable def Env.via(E:Env)(τ:Ren)(Sl:Nat→List bc→Prop):Env where
 β:=fun j=>((τ[j]?).join).bind E.β
 γ:=fun j=>((τ[j]?).join).bind E.γ
 ω:=fun b=>open Classical in if h:∃j,((τ[j]?).join).bind E.β=some b then some (Classical.choose h)else none
 Fr:=fun b cs=>E.Fr b cs∨Sl b cs
def qB(es b:List (Int×SV C.T)):List (SV C.T×SV C.T):=b.map fun q=>(match es.find? fun p=>p.1==q.1 with
 |some p=>p.2
 |none=>.a .nils,q.2)
def gV(es a:List (Int×SV C.T)):Bool:=(es.all fun p=>a.any fun q=>q.1==p.1) && uw (a.map (·.1))
def K0(a:List (Int×SV C.T)):Bool:=match a with
 | []=>false
 |_=>a.all fun p=>(intOf p.2).isSome
def J3(es a:List (Int×SV C.T)):Bool:=K0 a && Nat.beq es.length a.length
def yw:List (Int×SV C.T)→List (Int×SV C.T)→Tree→Tree
 |(n,_)::es,(m,_)::b,t=>.need (n=m) (yw es b t)
 | [],[],t=>t
 |_,_,_=>.stuck "a map of another length"
def lJ(k:List (Obj C.T))(h:SH C)(τ:Ren)(j id:Nat)(K:Ren→List (SV C.T×SV C.T)→Tree):Tree:=
 match τ[j]? with
 |some (some g)=>bif Nat.beq g id then K τ []else .stuck "two objects for one"
 |some none=>
  bif τ.contains (some id)then .stuck "one object for two" else
  match bF h id,k[j]? with
  |some (.cells cs),some (.cells f)=>bif Nat.beq cs.length f.length then K (τ.set j (some id)) (cs.zip f)else .stuck "cells of another number"
  |some (.mp es),some (.mp b)=>bif J3 es b then yw es b (K (τ.set j (some id)) ((es.map (·.2)).zip (b.map (·.2))))else
   bif gV es b then K (τ.set j (some id)) (qB es b)else .stuck "a map of other numbers"
  |some (.rows n l full _),some (.rows m o c d)=>if e:n=m then bif Nat.beq d j && (!c||full)then .need (kn e l=o) (K (τ.set j (some id)) [])else .stuck "rows: room" else .stuck "rows of another kind"
  |_,_=>.stuck "an object of another kind"
 |none=>.stuck "no such object"
def leW(c:List (Obj C.T)):Nat→List (SV C.T×SV C.T)→SH C→Ren→(Ren→SH C→Tree)→Tree
 |0,_,_,_,_=>.stuck "le: fuel"
 |n+1,[],h,τ,K=>K τ h
 |n+1,(x,L)::W,h,τ,K=>
  match L with
  | .any=>leW c n W h τ K
  | .a v=>match yi x with
   |some M=>.need (M=v) (leW c n W h τ K)
   |none=>match v with
    | .int k m=>match intOf x with
     |some (D,q)=>if D=k then .need (q=m) (leW c n W h τ K)else .stuck "le: a"
     |none=>.stuck "le: a"
    | .str s=>match strOf x with
     |some N=>.need (N=s) (leW c n W h τ K)
     |none=>.stuck "le: a"
    |_=>.stuck "le: a"
  | .i k m=>match intOf x with
   |some (D,q)=>if D=k then .need (q=m) (leW c n W h τ K)else .stuck "le: kind"
   |none=>.stuck "le: i"
  | .b t=>match iP x with
   |some u=>.need (u=t) (leW c n W h τ K)
   |none=>.stuck "le: b"
  | .s t=>match strOf x with
   |some u=>.need (u=t) (leW c n W h τ K)
   |none=>.stuck "le: s"
  | .agg d=>match x with
   | .agg cs=>bif Nat.beq cs.length d.length then leW c n (cs.zip d++W) h τ K else .stuck "le: agg"
   | .a (.agg as)=>bif Nat.beq as.length d.length then leW c n ((as.map .a).zip d++W) h τ K else .stuck "le: agg"
   |_=>.stuck "le: agg"
  | .tup d=>match x with
   | .tup cs=>bif Nat.beq cs.length d.length then leW c n (cs.zip d++W) h τ K else .stuck "le: tup"
   | .a (.tup as)=>bif Nat.beq as.length d.length then leW c n ((as.map .a).zip d++W) h τ K else .stuck "le: tup"
   |_=>.stuck "le: tup"
  | .iface t v=>match x with
   | .iface u O=>if u=t then leW c n ((O,v)::W) h τ K else .stuck "le: iface"
   | .a (.iface u P)=>if u=t then leW c n ((.a P,v)::W) h τ K else .stuck "le: iface"
   |_=>.stuck "le: iface"
  | .fp d=>match x with
   | .fp cs=>bif Nat.beq cs.length d.length then leW c n (cs.zip d++W) h τ K else .stuck "le: fp"
   | .a (.ipt as)=>bif Nat.beq as.length d.length then leW c n ((as.map .a).zip d++W) h τ K else .stuck "le: fp"
   |_=>.stuck "le: fp"
  | .tl m l=>match x with
   | .tl q G=>if e:q=m then .need (kn e G=l) (leW c n W h τ K)else .stuck "le: tl"
   | .a .nils=>.need ([]=l) (leW c n W h τ K)
   | .sl sz id off len cap ex=>match bF h id with
    |some (.cells cs)=>if sz=C.sz m∧len≤cap∧off+len*sz≤cs.length∧!τ.contains (some id)then
     match jA m (gN sz len (cs.drop off))with
     |some xs=>.need (xs=l) (leW c n W (h.set id none) τ K)
     |none=>.stuck "le: a row"
     else .stuck "le: tl sl"
    |_=>.stuck "le: tl sl"
   | .R id=>match bF h id with
    |some (.rows q G full root)=>if e:q=m then(bif τ.contains (some id)then .stuck "le: tl R" else .need (kn e G=l) (leW c n W (h.set id none) τ K))else .stuck "le: tl R"
    |_=>.stuck "le: tl R"
   |_=>.stuck "le: tl"
  | .fn f as J=>match x with
   | .fn Q z bs'=>if Q=f then bif Nat.beq z.length as.length && Nat.beq bs'.length J.length then leW c n (z.zip as++(bs'.zip J++W)) h τ K else .stuck "le: fn" else .stuck "le: fn"
   |_=>.stuck "le: fn"
  | .ptr j off=>match x with
   | .ptr id g=>bif Nat.beq g off then lJ c h τ j id fun o p=>leW c n (p++W) h o K else .stuck "le: ptr"
   |_=>.stuck "le: ptr"
  | .sl sz j off len cap ex=>match x with
   | .sl H id g A B I=>bif Nat.beq H sz && Nat.beq g off && Nat.beq A len && Nat.beq B cap && (I==ex)then lJ c h τ j id fun o p=>leW c n (p++W) h o K else .stuck "le: sl"
   |_=>.stuck "le: sl"
  | .ep j i off=>match x with
   | .ep id U g=>bif Nat.beq g off then .need (U=i) (lJ c h τ j id fun o p=>leW c n (p++W) h o K)else .stuck "le: ep"
   |_=>.stuck "le: ep"
  | .R j=>match x with
   | .R id=>lJ c h τ j id fun o p=>leW c n (p++W) h o K
   | .a .nils=>match c[j]? with
    |some (.rows m X w y)=>lJ c (h++[some (.rows m [] true h.length)]) τ j h.length fun o p=>leW c n (p++W) (h++[some (.rows m [] true h.length)]) o K
    |_=>.stuck "le: R"
   | .sl sz id off len cap ex=>match c[j]?,bF h id with
    |some (.rows m X w y),some (.cells cs)=>
     if sz=C.sz m∧sz≠0∧len≤cap∧off+cap*sz≤cs.length∧(ex=true∨off+cap*sz=cs.length)∧!τ.contains (some id)then
      match jA m (gN sz len (cs.drop off))with
      |some xs=>lJ c (h.set id none++[some (.rows m xs (ex||Nat.beq cap len) id)]) τ j h.length fun o p=>leW c n (p++W) (h.set id none++[some (.rows m xs (ex||Nat.beq cap len) id)]) o K
      |none=>.stuck "le: a row"
     else .stuck "le: R sl"
    |_,_=>.stuck "le: R sl"
   |_=>.stuck "le: R"
  | .mapr j=>match x with
   | .mapr id=>lJ c h τ j id fun o p=>leW c n (p++W) h o K
   |_=>.stuck "le: mapr"
def gY(τ:Ren):Prop:=∀(j a id:Nat),τ[j]?=some (some id)→τ[a]?=some (some id)→j=a
def fA(τ a:Ren):Prop:=a.length=τ.length∧∀(j id:Nat),τ[j]?=some (some id)→a[j]?=some (some id)
theorem fA.refl(τ:Ren):fA τ τ:=⟨rfl,fun _ _ h=>h⟩
theorem fA.trans{a b c:Ren}(h:fA a b)(k:fA b c):fA a c:=⟨k.1.trans h.1,fun j id x=>k.2 j id (h.2 j id x)⟩
variable {Sl:Nat→List bc→Prop}{id j:Nat}{τ:Ren}
theorem rE(h:τ[j]?=some (some id)):(E.via τ Sl).β j=E.β id:=by simp[Env.via,h]
theorem tT(h:τ[j]?=some (some id)):(E.via τ Sl).γ j=E.γ id:=by simp[Env.via,h]
theorem dj(m:bo C){E E':Env}(o:∀b cs,E.Fr b cs→E'.Fr b cs){x:SV C.T}{a:bc}(h:Er E x a):lB x=true→Er E' x a:=by
 have c:∀{n:Nat} {y:C.T n} {j:Nat} {z:SV C.T},(C.enc n y)[j]?=some z→lB z=true:=fun {n y j z} d=>List.all_eq_true.1 (m.ids n y) z (qo d)
 induction h with
 |a v=>exact fun _=>.a v
 |i k n=>exact fun _=>.i k n
 |b x=>exact fun _=>.b x
 |s x=>exact fun _=>.s x
 |tlN=>exact fun _=>.tlN
 |tlL d hl p _ g=>exact fun _=>.tlL d hl p fun i y r j x a h1 e f l=>g i y r j x a h1 e f l (c f)
 |tlS d hl q t hc _ g=>exact fun _=>.tlS d hl (o _ _ q) t hc fun i y j x a h1 e f=>g i y j x a h1 e f (c e)
 |_=>intro h;cases h
def Good(E:Env)(τ:Ren)(Sl:Nat→List bc→Prop)(p:SV C.T×SV C.T):Prop:=∀a,Er E p.1 a→Er (E.via τ Sl) p.2 a
theorem eF{cs b:List (SV C.T)}(hl:cs.length=b.length)(h:∀p,p∈cs.zip b→Good E τ Sl p){as:List bc}(c:Ers E cs as):Ers (E.via τ Sl) b as:=by
 refine⟨by rw[← hl];exact c.1,fun i g a h1 k=>?_⟩
 have d:i<cs.length:=by grind
 have e:cs[i]?=some cs[i]:=qq d;have f:(cs.zip b)[i]?=some (cs[i],g):=by grind
 exact h _ (qo f) a (c.2 i _ a e k)
def uD(E:Env)(h:SH C)(d:List (Obj C.T))(τ:Ren)(Sl:Nat→List bc→Prop)(j id:Nat):Prop:=
 (∃es a,h[id]?=some (some (.mp es))∧d[j]?=some (.mp a)∧((gV es a=true∧∀p,p∈qB es a→Good E τ Sl p)∨(es.map (·.1)=a.map (·.1)∧∀p,p∈(es.map (·.2)).zip (a.map (·.2))→Good E τ Sl p)))∨
 (∃cs c,h[id]?=some (some (.cells cs))∧d[j]?=some (.cells c)∧cs.length=c.length∧∀p,p∈cs.zip c→Good E τ Sl p)∨
 (∃n l full b root,h[id]?=some (some (.rows n l full root))∧d[j]?=some (.rows n l b j)∧(b=true→full=true))
end Go.Sy
namespace Go.Sy
open Go.Am
variable {C:bK}{E:Env}
def qE(h:SH C)(fh:List (Obj C.T))(W1:List (SV C.T×SV C.T))(j id:Nat):Prop:=
 (∃es es0,h[id]?=some (some (.mp es))∧fh[j]?=some (.mp es0)∧((gV es es0=true∧W1=qB es es0)∨(es.map (·.1)=es0.map (·.1)∧W1=(es.map (·.2)).zip (es0.map (·.2)))))∨
 (∃cs b,h[id]?=some (some (.cells cs))∧fh[j]?=some (.cells b)∧cs.length=b.length∧W1=cs.zip b)∨
 (∃n l full a root,h[id]?=some (some (.rows n l full root))∧fh[j]?=some (.rows n l a j)∧(a=true→full=true))
theorem s5{t:Tree}:∀{es es0:List (Int×SV C.T)},(yw es es0 t).holds→es.map (·.1)=es0.map (·.1)∧t.holds
 | [],[],h=>⟨rfl,h⟩
 | [],_::_,h=>(cf h).elim
 |_::_,[],h=>(cf h).elim
 |(n,x)::es,(m,y)::es0,h=>by
  obtain⟨e,h⟩:=h;obtain⟨h1,a⟩:=s5 h;grind
variable {fh:List (Obj C.T)}{h:SH C}{id j:Nat}{τ:Ren}
theorem ru{K:Ren→List (SV C.T×SV C.T)→Tree}(f:(lJ fh h τ j id K).holds)(y:gY τ):
 ∃v W1,(K v W1).holds∧fA τ v∧v[j]?=some (some id)∧gY v∧∀(g d:Nat),v[g]?=some (some d)→τ[g]?=some (some d)∨(g=j∧d=id∧qE h fh W1 j id):=by
 unfold lJ at f;split at f
 ·rename_i d e;cases o:Nat.beq d id with
  |false=>rw[o]at f;exact qw f
  |true=>
   rw[o]at f;rw[Nat.beq_eq]at o;subst o;exact⟨τ,[],f,fA.refl τ,e,y,fun g d h=>.inl h⟩
 ·rename_i e;cases hc:τ.contains (some id)with
  |true=>rw[hc]at f;exact qw f
  |false=>
   rw[hc]at f;have get:∀g:Nat,(τ.set j (some id))[g]?=if j=g then some (some id)else τ[g]?:=by
    grind
   have c:fA τ (τ.set j (some id))∧(τ.set j (some id))[j]?=some (some id)∧gY (τ.set j (some id))∧∀(g d:Nat),(τ.set j (some id))[g]?=some (some d)→τ[g]?=some (some d)∨(g=j∧d=id):=by
    refine⟨⟨by simp,fun g d h=>?_⟩,by grind, ?_, ?_⟩
    ·grind
    ·intro a b i w o;rw[get]at w o;split at w<;>split at o
     ·omega
     ·grind
     ·grind
     ·exact y a b i w o
    grind
   split at f
   ·rename_i cs u h1 t;cases hl:Nat.beq cs.length u.length with
    |false=>rw[hl]at f;exact qw f
    |true=>
     rw[hl]at f;rw[Nat.beq_eq]at hl;exact⟨_,_,f,c.1,c.2.1,c.2.2.1,fun g d h=>(c.2.2.2 g d h).imp_right fun⟨p,q⟩=>⟨p,q,.inr (.inl ⟨cs,u,bm h1,t,hl,rfl⟩)⟩⟩
   ·rename_i es es0 h1 t;cases hq:J3 es es0 with
    |true=>
     rw[hq]at f;obtain⟨hl,f⟩:=s5 f;exact⟨_,_,f,c.1,c.2.1,c.2.2.1,fun g d h=>(c.2.2.2 g d h).imp_right fun⟨p,q⟩=>⟨p,q,.inl ⟨es,es0,bm h1,t,.inr ⟨hl,rfl⟩⟩⟩⟩
    |false=>
    rw[hq]at f;cases hl:gV es es0 with
    |false=>rw[hl]at f;exact qw f
    |true=>
     rw[hl]at f;exact⟨_,_,f,c.1,c.2.1,c.2.2.1,fun g d h=>(c.2.2.2 g d h).imp_right fun⟨p,q⟩=>⟨p,q,.inl ⟨es,es0,bm h1,t,.inl ⟨hl,rfl⟩⟩⟩⟩
   ·rename_i n l full root m D k s h1 t;split at f
    ·rename_i z;subst z;cases hl:(Nat.beq s j && (!k||full))with
     |false=>rw[hl]at f;exact qw f
     |true=>
      rw[hl]at f;obtain⟨A,B⟩:=f;simp at hl;obtain⟨rfl,x⟩:=hl;subst A;exact⟨_,_,B,c.1,c.2.1,c.2.2.1,fun g d h=>(c.2.2.2 g d h).imp_right fun⟨p,q⟩=>⟨p,q,.inr (.inr ⟨n,l,full,k,root,bm h1,t,fun G=>by
       grind⟩)⟩⟩
    ·exact qw f
   ·exact qw f
 ·exact qw f
def y6(E:Env)(h:SH C)(H:bd)(Sl:Nat→List bc→Prop):Prop:=∀b cs,Sl b cs→H[b]?=some (some (.cells cs))∧∀(id:Nat) (o:Obj C.T),h[id]?=some (some o)→E.β id≠some b
variable {E':Env}{Sl:Nat→List bc→Prop}{W1:List (SV C.T×SV C.T)}{h':SH C}{τ':Ren}
theorem qE.good(f:qE h fh W1 j id)(g:h'[id]?=h[id]?)(e:∀p,p∈W1→Good E' τ' Sl p):uD E' h' fh τ' Sl j id:=by
 rcases f with⟨es,es0,h1,c,⟨a,rfl⟩|⟨a,rfl⟩⟩|⟨cs,d,h1,c,a,rfl⟩|⟨n,l,full,b,root,h1,c,a⟩
 ·exact .inl ⟨es,es0,by grind,c,.inl ⟨a,e⟩⟩
 ·exact .inl ⟨es,es0,by grind,c,.inr ⟨a,e⟩⟩
 ·exact .inr (.inl ⟨cs,d,by grind,c,a,e⟩)
 ·exact .inr (.inr ⟨n,l,full,b,root,by grind,c,a⟩)
def jh(fh:List (Obj C.T))(W:List (SV C.T×SV C.T))(E:Env)(lo:Nat)(h:SH C)(H:bd)(τ:Ren)(Sl:Nat→List bc→Prop)(K:Ren→SH C→Tree):Prop:=
 ∃E' τ' h' a,LeN h.length H.length E E'∧h.length≤h'.length∧bu E' lo 0 h' H∧gY τ'∧fA τ τ'∧(K τ' h').holds∧(∀p,p∈W→Good E' τ' a p)∧(∀(j id:Nat),τ'[j]?=some (some id)→τ[j]?=some (some id)∨uD E' h' fh τ' a j id)∧(∀(j id:Nat),τ[j]?=some (some id)→h'[id]?=h[id]?)∧y6 E' h' H a∧(∀b cs,Sl b cs→a b cs)
variable {H:bd}{K:Ren→SH C→Tree}{W:List (SV C.T×SV C.T)}{lo:Nat}{p:SV C.T×SV C.T}
theorem jh.cons(h1:jh fh W E lo h H τ Sl K)(s:∀E' τ' a,E.le E'→fA τ τ'→(∀q,q∈W→Good E' τ' a q)→Good E' τ' a p):jh fh (p::W) E lo h H τ Sl K:=by
 obtain⟨E',τ',h',a,b,e,f,g,c,k,l,m,n,o⟩:=h1;refine⟨E',τ',h',a,b,e,f,g,c,k,fun q d=>?_,m,n,o⟩
 rcases List.mem_cons.1 d with rfl|d
 ·exact s E' τ' a b.le c l
 grind
theorem jh.sub(h1:jh fh (W1++W) E lo h H τ Sl K)(s:∀E' τ' a,E.le E'→fA τ τ'→(∀q,q∈W1→Good E' τ' a q)→Good E' τ' a p):jh fh (p::W) E lo h H τ Sl K:=by
 obtain⟨E',τ',h',a,c,e,f,g,d,k,l,m,n,o⟩:=h1;refine⟨E',τ',h',a,c,e,f,g,d,k,fun q b=>?_,m,n,o⟩
 rcases List.mem_cons.1 b with rfl|b
 ·exact s E' τ' a c.le d fun q b=>l q (List.mem_append_left _ b)
 grind
theorem jh.bind{g:Ren}(h1:jh fh (W1++W) E lo h H g Sl K)(d:fA τ g)(A:g[j]?=some (some id))
 (e:∀(c a:Nat),g[c]?=some (some a)→τ[c]?=some (some a)∨(c=j∧a=id∧qE h fh W1 j id)) (B:∀E' τ' b,E.le E'→τ'[j]?=some (some id)→Good E' τ' b p):jh fh (p::W) E lo h H τ Sl K:=by
 obtain⟨E',τ',h',b,n,t,u,v,o,w,x,y,s,z⟩:=h1;refine⟨E',τ',h',b,n,t,u,v,d.trans o,w,fun q f=>?_,fun c a m=>?_,fun c a m=>s c a (d.2 c a m),z⟩
 ·rcases List.mem_cons.1 f with rfl|f
  ·exact B E' τ' b n.le (o.2 j id A)
  grind
 ·rcases y c a m with k|k
  ·rcases e c a k with l|⟨rfl,rfl,l⟩
   ·exact .inl l
   ·exact .inr (l.good (s _ _ k) fun q f=>x q (List.mem_append_left _ f))
  grind
theorem y6.put{d:Env}{a:SH C}(g:y6 E h H Sl)(hold:∀i,i<h.length→d.β i=E.β i)(l:∀(i:Nat) (o:Obj C.T),a[i]?=some (some o)→(i<h.length∧∃o',h[i]?=some (some o'))∨d.β i=none∨∃(c:Nat) (o':Obj C.T),h[c]?=some (some o')∧d.β i=E.β c):y6 d a H Sl:=by
 intro b cs f;refine⟨(g b cs f).1,fun i o k e=>?_⟩
 rcases l i o k with⟨h1,o',a⟩|h1|⟨c,o',h1,a⟩
 ·rw[hold i h1]at e;exact(g b cs f).2 i o' a e
 ·grind
 ·rw[a]at e;exact(g b cs f).2 c o' h1 e
theorem bu.drop{d:Nat}(a:bu E lo d h H)(id:Nat):bu E lo d (h.set id none) H:=by
 have hold:∀{i:Nat} {o:Obj C.T},(h.set id none)[i]?=some (some o)→h[i]?=some (some o):=by
  grind
 exact⟨fun i o c=>a.obj i o (hold c),fun i g o o' b c e=>a.inj i g o o' b (hold c) (hold e),fun b cs f=>⟨(a.fr b cs f).1,fun i o c=>(a.fr b cs f).2 i o (hold c)⟩,fun i c=>a.fresh i (by grind),a.low,a.bnd,a.own,a.βω,by simpa using a.wl,a.ll⟩
variable {as:List (bc×bc)}{es es0:List (Int×SV C.T)}
theorem LK(g:gV es es0=true)(h:∀p,p∈qB es es0→Good E τ Sl p)(c:lC E es as):lC (E.via τ Sl) es0 as:=by
 simp only[gV,qi,List.any_eq_true,beq_iff_eq]at g;refine⟨c.keys,om g.2,fun n x o=>?_,fun n v e=>?_⟩
 ·have b:=h _ (List.mem_map.2 ⟨(n,x),o,rfl⟩);cases hf:es.find? fun p=>p.1==n with
  |some p=>
   rw[hf]at b;have k:=List.mem_of_find?_eq_some hf;have f:=List.find?_some hf;simp at f;obtain⟨m,y⟩:=p;subst f;rcases c.val m y k with⟨v,h1,d⟩|⟨h1,d⟩
   ·exact .inl ⟨v,h1,b v d⟩
   ·exact .inr ⟨h1,b _ d⟩
  |none=>
   rw[hf]at b;refine .inr ⟨?_,b _ (.a _)⟩;cases e:gM n as with
   |none=>rfl
   |some v=>
    obtain⟨y,l⟩:=c.dom n v e;grind
 ·obtain⟨y,l⟩:=c.dom n v e;grind
theorem Nj(d:es.map (·.1)=es0.map (·.1))(h:∀p,p∈(es.map (·.2)).zip (es0.map (·.2))→Good E τ Sl p)(a:lC E es as):lC (E.via τ Sl) es0 as:=by
 refine⟨a.keys,by rw[← d];exact a.nodup,fun n x f=>?_,fun n v g=>?_⟩
 ·obtain⟨i,k⟩:=List.mem_iff_getElem?.1 f;have h1:(es0.map (·.1))[i]?=some n:=by grind
  rw[← d,List.getElem?_map]at h1;cases hq:es[i]? with
  |none=>grind
  |some q=>
   rw[hq]at h1;obtain⟨m,y⟩:=q;simp at h1;subst h1;have c:=h (y,x) (by
    refine qo (i:=i) ?_;grind)
   rcases a.val m y (qo hq)with⟨v,h1,b⟩|⟨h1,b⟩
   ·exact .inl ⟨v,h1,c v b⟩
   ·exact .inr ⟨h1,c _ b⟩
 ·obtain⟨y,e⟩:=a.dom n v g;have:n∈es.map (·.1):=List.mem_map.2 ⟨_,e,rfl⟩;grind
theorem yW(hC:bo C){fh:List (Obj C.T)}{lo:Nat}{H:bd}{K:Ren→SH C→Tree}:∀{n:Nat} {W:List (SV C.T×SV C.T)} {E:Env} {h:SH C} {τ:Ren} {Sl:Nat→List bc→Prop},(leW fh n W h τ K).holds→bu E lo 0 h H→gY τ→(∀(j id:Nat),τ[j]?=some (some id)→id<h.length)→y6 E h H Sl→jh fh W E lo h H τ Sl K
 |0,W,E,h,τ,Sl,c,A,I,M,D=>(cf c).elim
 |n+1,[],E,h,τ,Sl,c,A,I,M,D=>⟨E,τ,h,Sl,LeN.refl _ _,qe _,A,I,fA.refl _,c,fun p hp=>by simp at hp,fun j id h=>.inl h,fun j id h=>rfl,D,fun _ _ h=>h⟩
 |n+1,(x,v0)::W,E,h,τ,Sl,c,A,I,M,D=>by
  simp only[leW]at c;have L:=fun {W:List (SV C.T×SV C.T)} {E:Env} {h:SH C} {τ:Ren} {Sl:Nat→List bc→Prop} (h1:(leW fh n W h τ K).holds) (h2:bu E lo 0 h H) (h3:gY τ) (h4:∀(j id:Nat),τ[j]?=some (some id)→id<h.length) (h5:y6 E h H Sl)=>yW hC (n:=n) h1 h2 h3 h4 h5
  have pre:∀{h:SH C} {τ1:Ren} {j id:Nat} {W1:List (SV C.T×SV C.T)},(∀(j id:Nat),τ[j]?=some (some id)→id<h.length)→(∀(j' O:Nat),τ1[j']?=some (some O)→τ[j']?=some (some O)∨(j'=j∧O=id∧qE h fh W1 j id))→∀(j id:Nat),τ1[j]?=some (some id)→id<h.length:=by
   intro h τ1 j id W1 M h5 j' O U;rcases h5 j' O U with h6|⟨rfl,rfl,h6⟩
   ·grind
   ·rcases h6 with⟨es,es0,h7,_⟩|⟨cs,X,h7,_⟩|⟨n,l,full,ah,root,h7,_⟩<;>exact lt_of_some h7
  have bind:∀{j id:Nat},(lJ fh h τ j id fun τ' W'=>leW fh n (W'++W) h τ' K).holds→(∀E' τ' d,E.le E'→τ'[j]?=some (some id)→Good E' τ' d (x,v0))→jh fh ((x,v0)::W) E lo h H τ Sl K:=by
   intro j id g P;obtain⟨τ1,W1,h1,h2,h3,h4,h5⟩:=ru g I;exact(L h1 A h4 (pre M h5) D).bind h2 h3 h5 P
  split at c
  ·exact(L c A I M D).cons fun E' τ' d _ _ _ a _=>.any
  ·split at c
   ·rename_i v' hl;obtain⟨rfl,J⟩:=c;refine(L J A I M D).cons fun E' τ' d _ _ _ a u=>?_
    rw[ng u hl];exact .a _
   ·split at c
    ·split at c
     ·rename_i k' m' w;split at c
      ·rename_i J;subst J;obtain⟨rfl,J⟩:=c;refine(L J A I M D).cons fun E' τ' d _ _ _ a u=>?_
       rw[cr u w];exact .a _
      ·exact qw c
     ·exact qw c
    ·split at c
     ·rename_i s' w;obtain⟨rfl,J⟩:=c;refine(L J A I M D).cons fun E' τ' d _ _ _ a u=>?_
      rw[ed u w];exact .a _
     ·exact qw c
    ·exact qw c
  ·split at c
   ·rename_i k' m' w;split at c
    ·rename_i J;subst J;obtain⟨rfl,J⟩:=c;refine(L J A I M D).cons fun E' τ' d _ _ _ a u=>?_
     rw[cr u w];exact .i _ _
    ·exact qw c
   ·exact qw c
  ·split at c
   ·rename_i t' w;obtain⟨rfl,J⟩:=c;refine(L J A I M D).cons fun E' τ' d _ _ _ a u=>?_
    rw[gK u w];exact .b _
   ·exact qw c
  ·split at c
   ·rename_i t' w;obtain⟨rfl,J⟩:=c;refine(L J A I M D).cons fun E' τ' d _ _ _ a u=>?_
    rw[ed u w];exact .s _
   ·exact qw c
  ·rename_i X;split at c
   ·rename_i cs;cases g:Nat.beq cs.length X.length with
    |false=>rw[g]at c;exact qw c
    |true=>
     rw[g]at c;rw[Nat.beq_eq]at g;refine(L c A I M D).sub fun E' τ' d _ _ P a u=>?_
     cases u with
     |agg hl hr=>
      have:=eF g P ⟨hl,hr⟩;exact .agg this.1 this.2
   ·rename_i as;cases g:Nat.beq as.length X.length with
    |false=>rw[g]at c;exact qw c
    |true=>
     rw[g]at c;rw[Nat.beq_eq]at g;refine(L c A I M D).sub fun E' τ' d _ _ P a u=>?_
     cases u;have:=eF (by grind) P (Ers.mapA as)
     exact .agg this.1 this.2
   ·exact qw c
  ·rename_i X;split at c
   ·rename_i cs;cases g:Nat.beq cs.length X.length with
    |false=>rw[g]at c;exact qw c
    |true=>
     rw[g]at c;rw[Nat.beq_eq]at g;refine(L c A I M D).sub fun E' τ' d _ _ P a u=>?_
     cases u with
     |tup hl hr=>
      have:=eF g P ⟨hl,hr⟩;exact .tup this.1 this.2
   ·rename_i as;cases g:Nat.beq as.length X.length with
    |false=>rw[g]at c;exact qw c
    |true=>
     rw[g]at c;rw[Nat.beq_eq]at g;refine(L c A I M D).sub fun E' τ' d _ _ P a u=>?_
     cases u;have:=eF (by grind) P (Ers.mapA as)
     exact .tup this.1 this.2
   ·exact qw c
  ·rename_i t v;split at c
   ·rename_i t' x';split at c
    ·rename_i ht;subst ht;refine jh.sub (W1:=[(x',v)]) (L c A I M D) fun E' τ' d _ _ P a u=>?_
     cases u with
     |iface w=>exact .iface (P (x',v) (by simp) _ w)
    ·exact qw c
   ·rename_i t' a';split at c
    ·rename_i ht;subst ht;refine jh.sub (W1:=[(.a a',v)]) (L c A I M D) fun E' τ' d _ _ P a u=>?_
     cases u;exact .iface (P (.a a',v) (by simp) _ (.a _))
    ·exact qw c
   ·exact qw c
  ·rename_i X;split at c
   ·rename_i cs;cases g:Nat.beq cs.length X.length with
    |false=>rw[g]at c;exact qw c
    |true=>
     rw[g]at c;rw[Nat.beq_eq]at g;refine(L c A I M D).sub fun E' τ' d _ _ P a u=>?_
     cases u with
     |fpI e hl hr=>
      have:=eF g P ⟨hl,hr⟩;exact .fpI e this.1 this.2
     |fpP hf e hl hr=>
      have:=eF g P ⟨hl,hr⟩;exact .fpP (.inl hf) e this.1 this.2
   ·rename_i as;cases g:Nat.beq as.length X.length with
    |false=>rw[g]at c;exact qw c
    |true=>
     rw[g]at c;rw[Nat.beq_eq]at g;refine(L c A I M D).sub fun E' τ' d _ _ P a u=>?_
     cases u;have:=eF (by grind) P (Ers.mapA as)
     exact .fpI (List.append_nil _).symm this.1 this.2
   ·exact qw c
  ·rename_i m l;split at c
   ·rename_i m' l';split at c
    ·rename_i em;subst em;obtain⟨he,J⟩:=c;subst he;refine(L J A I M D).cons fun E' τ' d _ _ _ a u=>?_
     cases u with
     |tlN=>exact .tlN
     |tlL h1 h2 h3 h4=>exact dj hC (E:=E') (E':=E'.via τ' d) (fun _ _ h=>.inl h) (.tlL h1 h2 h3 h4) rfl
     |tlS h1 h2 h3 h4 h5 h6=>exact dj hC (E:=E') (E':=E'.via τ' d) (fun _ _ h=>.inl h) (.tlS h1 h2 h3 h4 h5 h6) rfl
    ·exact qw c
   ·obtain⟨rfl,J⟩:=c;refine(L J A I M D).cons fun E' τ' d _ _ _ a u=>?_
    cases u;exact .tlN
   ·rename_i sz id off len cap ex;split at c
    ·rename_i cs ho;split at c
     ·rename_i hc;obtain⟨ae,av,aC,aD⟩:=hc;split at c
      ·rename_i xs an;obtain⟨he,J⟩:=c;subst he;have N:=bm ho;obtain⟨b,as,g1,gw,g2,g3⟩:=A.obj id _ N;have hl:=g3.1;have ac:=gG hC (fP (n:=len) (z:=sz) (g3.drop off) (by simp;omega)) an
       rw[ae]at ac;have al:xs.length=len:=by
        have:=ac.1;rw[d3]at this
        grind
       have ad:cI E m xs as off:=by
        intro i y jj xx aa q1 q2 q3;have w:i<len:=by grind
        have ag:=ac.2 i (C.enc m y) ((as.drop off|>.drop (i*sz)).take sz) (by simp[q1]) (by rw[← ae];exact e8 w)
        have aw:jj<sz:=by have:=lt_of_some q2;rw[hC.len]at this;omega
        refine ag.1.2 jj xx aa q2 ?_;grind
       have hL:=L (Sl:=fun Q cs'=>Sl Q cs'∨(Q=b∧cs'=as)) J (A.drop id) I (fun j i U=>by grind) (by
        intro Q cs' B;have old:∀(i:Nat) (o:Obj C.T),(h.set id none)[i]?=some (some o)→i≠id∧h[i]?=some (some o):=by
         grind
        rcases B with B|⟨rfl,rfl⟩
        ·exact⟨(D Q cs' B).1,fun i o w=>(D Q cs' B).2 i o (old i o w).2⟩
        ·exact⟨g2,fun i o w e=>(old i o w).1 (A.inj i id o _ Q (old i o w).2 N e g1)⟩)
       obtain⟨E',τ',h',d,Y,k2,k3,k4,k5,k6,k7,k8,k9,aj,af⟩:=hL;simp at Y k2;refine⟨E',τ',h',d,Y,k2,k3,k4,k5,k6,fun q hq=>?_,k8,fun j' O ak=>?_,aj,fun Q cs' B=>af Q cs' (.inl B)⟩
       ·rcases List.mem_cons.1 hq with rfl|hq
        ·intro a u;cases u with
         |sl hβ=>
          have e1:=Y.le.β _ _ g1;rw[e1]at hβ;cases hβ;exact .tlS ae al.symm (.inr (af b as (.inr ⟨rfl,rfl⟩))) (by grind) (by omega) fun i y jj xx aa q1 q2 q3=>
           dj hC (E:=E) (E':=E'.via τ' d) (fun b cs hf=>.inl (Y.le.Fr b cs hf)) (ad i y jj xx aa q1 q2 q3) (List.all_eq_true.1 (hC.ids m y) xx (qo q2))
        grind
       grind
      ·exact qw c
     ·exact qw c
    ·exact qw c
   ·rename_i id;split at c
    ·rename_i m' l' full root ho;split at c
     ·rename_i em;subst em;cases hc:τ.contains (some id)with
      |true=>rw[hc]at c;exact qw c
      |false=>
      rw[hc]at c;obtain⟨he,J⟩:=c;have he:l'=l:=he;subst he;have N:=bm ho;have old:∀(i:Nat) (o:Obj C.T),(h.set id none)[i]?=some (some o)→i≠id∧h[i]?=some (some o):=by
       grind
      rcases A.obj id _ N with⟨rfl,g1,a0,g2,g3⟩|⟨b,off,cap,ex,as,g1,g2,gw,g3,g4,g5,g6,g7,g8⟩
      ·have hL:=L (Sl:=Sl) J (A.drop id) I (fun j i U=>by grind) (fun Q cs' B=>⟨(D Q cs' B).1,fun i o w=>(D Q cs' B).2 i o (old i o w).2⟩)
       obtain⟨E',τ',h',d,Y,k2,k3,k4,k5,k6,k7,k8,k9,aj,af⟩:=hL;simp at Y k2;refine⟨E',τ',h',d,Y,k2,k3,k4,k5,k6,fun q hq=>?_,k8,fun j' O ak=>?_,aj,af⟩
       ·rcases List.mem_cons.1 hq with rfl|hq
        ·intro a u;cases u with
         |R hγ _=>
          have e1:=Y.le.γ _ _ g2;rw[e1]at hγ;cases hγ;rcases g3 with rfl|rfl
          ·exact .tlN
          ·exact .tlL rfl rfl (fun i r w=>by simp at w) (fun i y r j x a q1=>by simp at q1)
        grind
       grind
      ·have hL:=L (Sl:=fun Q cs'=>Sl Q cs'∨(Q=b∧cs'=as)) J (A.drop id) I (fun j i U=>by grind) (by
        intro Q cs' B;rcases B with B|⟨rfl,rfl⟩
        ·exact⟨(D Q cs' B).1,fun i o w=>(D Q cs' B).2 i o (old i o w).2⟩
        ·exact⟨g3,fun i o w e=>(old i o w).1 (A.inj i id o _ Q (old i o w).2 N e g2)⟩)
       obtain⟨E',τ',h',d,Y,k2,k3,k4,k5,k6,k7,k8,k9,aj,af⟩:=hL;simp at Y k2;refine⟨E',τ',h',d,Y,k2,k3,k4,k5,k6,fun q hq=>?_,k8,fun j' O ak=>?_,aj,fun Q cs' B=>af Q cs' (.inl B)⟩
       ·rcases List.mem_cons.1 hq with rfl|hq
        ·intro a u;cases u with
         |R hγ _=>
          have e1:=Y.le.γ _ _ g1;rw[e1]at hγ;cases hγ;have Z:l'.length*C.sz m'≤cap*C.sz m':=Nat.mul_le_mul_right _ g4;exact .tlS rfl rfl (.inr (af b as (.inr ⟨rfl,rfl⟩))) (by omega) g4 fun i y jj xx aa q1 q2 q3=>
           dj hC (E:=E) (E':=E'.via τ' d) (fun b cs hf=>.inl (Y.le.Fr b cs hf)) (g8 i y jj xx aa q1 q2 q3) (List.all_eq_true.1 (hC.ids m' y) xx (qo q2))
        grind
       grind
     ·exact qw c
    ·exact qw c
   ·exact qw c
  ·rename_i f as bs;split at c
   ·rename_i f' ay bs';split at c
    ·rename_i hf;subst hf;cases g:(Nat.beq ay.length as.length && Nat.beq bs'.length bs.length)with
     |false=>rw[g]at c;exact qw c
     |true=>
      rw[g]at c;simp at g;rw[← List.append_assoc]at c;refine(L c A I M D).sub fun E' τ' d _ _ P a u=>?_
      cases u with
      |fn q1 q2 q3 q4=>
       have g1:=eF g.1 (fun p hp=>P p (List.mem_append_left _ hp)) ⟨q1,q2⟩
       have g2:=eF g.2 (fun p hp=>P p (List.mem_append_right _ hp)) ⟨q3,q4⟩
       exact .fn g1.1 g1.2 g2.1 g2.2
    ·exact qw c
   ·exact qw c
  ·rename_i j off;split at c
   ·rename_i id ab;cases g:Nat.beq ab off with
    |false=>rw[g]at c;exact qw c
    |true=>
     rw[g]at c;rw[Nat.beq_eq]at g;subst g;refine bind c fun E' τ' d _ U a u=>?_
     cases u with
     |ptr hβ=>exact .ptr (by rw[rE U];exact hβ)
   ·exact qw c
  ·rename_i sz j off len cap ex;split at c
   ·rename_i az id ab ar au aA;cases g:(Nat.beq az sz && Nat.beq ab off && Nat.beq ar len && Nat.beq au cap && (aA==ex))with
    |false=>rw[g]at c;exact qw c
    |true=>
     rw[g]at c;simp at g;obtain⟨⟨⟨⟨rfl,rfl⟩,rfl⟩,rfl⟩,rfl⟩:=g;refine bind c fun E' τ' d _ U a u=>?_
     cases u with
     |sl hβ=>exact .sl (by rw[rE U];exact hβ)
   ·exact qw c
  ·rename_i j i off;split at c
   ·rename_i id i' ab;cases g:Nat.beq ab off with
    |false=>rw[g]at c;exact qw c
    |true=>
     rw[g]at c;rw[Nat.beq_eq]at g;subst g;obtain⟨rfl,J⟩:=c;refine bind J fun E' τ' d _ U a u=>?_
     cases u with
     |ep hγ=>exact .ep (by rw[tT U];exact hγ)
   ·exact qw c
  ·rename_i j;split at c
   ·refine bind c fun E' τ' d _ U a u=>?_
    cases u with
    |R hγ D=>exact .R (by rw[tT U];exact hγ) D
   ·split at c
    ·rename_i m l0 ah ao aB;have ax:h.set h.length none=h:=by
      apply List.ext_getElem?;grind
     have G:=A.put (H':=H) h.length (.rows m [] true h.length) none .nils h.length (qe _) (fun b _ ap=>(ap rfl).elim) (fun b g=>by cases g) (fun Z=>.inl ⟨rfl,by simp[Env.put],.nils,by simp[Env.put],.inl rfl⟩)
     rw[ax]at G;obtain⟨τ1,W1,h1,h2,h3,h4,h5⟩:=ru c I;have am:∀(j id:Nat),τ[j]?=some (some id)→id<(h++[some (Obj.rows m [] true h.length)]).length:=fun j id U=>by grind
     have hL:=(L h1 G.2 h4 (pre am h5) (D.put (fun i w=>(G.1.old i w).1) fun i o w=>by
      rcases qk i h.length with k|k
      ·grind
      ·have:i=h.length:=by grind
       subst this;exact .inr (.inl (by simp[Env.put])))).bind (τ:=τ) (p:=(.a .nils,.R j)) h2 h3 h5 (fun E' τ' d Z U a u=>by
      cases u;exact .R (by rw[tT U];exact Z.γ _ _ (by simp[Env.put])) rfl)
     obtain⟨E',τ',h',d,Y,k2,k3,k4,k5,k6,k7,k8,k9,ks⟩:=hL;simp at Y k2;refine⟨E',τ',h',d,G.1.trans (by omega) (qe _) Y,by omega,k3,k4,k5,k6,k7,k8,fun j' O ak=>?_,ks⟩
     grind
    ·exact qw c
   ·rename_i sz id off len cap ex;split at c
    ·rename_i m l0 ah ao cs aB ho;split at c
     ·rename_i hc;obtain⟨ae,aJ,av,aC,aE,aD⟩:=hc;split at c
      ·rename_i xs an;have N:=bm ho;obtain⟨b,as,g1,gw,g2,g3⟩:=A.obj id _ N;have hl:=g3.1;have aq:=lt_of_some g2;have aI:=Nat.mul_le_mul_right sz av;have ac:=gG hC (fP (n:=len) (z:=sz) (g3.drop off) (by simp;omega)) an
       rw[ae]at ac;have al:xs.length=len:=by
        have:=ac.1;rw[d3]at this
        grind
       have ad:cI E m xs as off:=by
        intro i y jj xx aa q1 q2 q3;have w:i<len:=by grind
        have ag:=ac.2 i (C.enc m y) ((as.drop off|>.drop (i*sz)).take sz) (by simp[q1]) (by rw[← ae];exact e8 w)
        have aw:jj<sz:=by have:=lt_of_some q2;rw[hC.len]at this;omega
        refine ag.1.2 jj xx aa q2 ?_;grind
       have G:=A.put (H':=H) id (.rows m xs (ex||Nat.beq cap len) id) (some b) (.sl sz b off len cap ex) id (qe _) (fun b _ ap=>(ap rfl).elim) (fun Q g=>by
        simp at g;subst g;exact⟨aq,A.low id b (Nat.zero_le _) g1,fun cs aF=>(A.fr _ cs aF).2 id _ N g1,fun i o w aG aH=>w (A.inj i id o _ _ aG N aH g1),.inr gw⟩)
        (fun Z=>.inr ⟨b,off,cap,ex,as,by simp only[Env.put,if_true,ae,al],by simp[Env.put],by simp[Env.put],g2,by omega,by grind,aE.imp_right fun h=>by grind,fun hf=>by
         simp_all,ad.mono Z.le⟩)
       obtain⟨τ1,W1,h1,h2,h3,h4,h5⟩:=ru c I;have am:∀(j i:Nat),τ[j]?=some (some i)→i<(h.set id none++[some (Obj.rows m xs (ex||Nat.beq cap len) id)]).length:=fun j i U=>by grind
       have hL:=(L h1 G.2 h4 (pre am h5) (D.put (fun i w=>(G.1.old i w).1) fun i o w=>by
        rcases qk i h.length with k|k
        ·grind
        ·have:i=h.length:=by grind
         subst this;exact .inr (.inr ⟨id,_,N,by simp[Env.put,g1]⟩))).bind (τ:=τ) (p:=(.sl sz id off len cap ex,.R j)) h2 h3 h5 (fun E' τ' d Z U a u=>by
        cases u with
        |sl hβ=>
         have e1:=Z.β _ _ (G.1.le.β _ _ g1);rw[e1]at hβ;cases hβ;exact .R (by rw[tT U];exact Z.γ _ _ (by simp[Env.put])) rfl)
       obtain⟨E',τ',h',d,Y,k2,k3,k4,k5,k6,k7,k8,k9,ks⟩:=hL;simp at Y k2;refine⟨E',τ',h',d,G.1.trans (by omega) (qe _) Y,by omega,k3,k4,k5,k6,k7,k8,fun j' O ak=>?_,ks⟩
       grind
      ·exact qw c
     ·exact qw c
    ·exact qw c
   ·exact qw c
  ·split at c
   ·refine bind c fun E' τ' d _ U a u=>?_
    cases u with
    |mapr hβ=>exact .mapr (by rw[rE U];exact hβ)
   ·exact qw c
theorem Ar(Y:bo C){c:Nat→List bc→Prop}(D:y6 E' h' H c)(q:bu E' lo 0 h' H)(hτ:gY τ')(hl:τ'.length=fh.length)(Z:∀(j:Nat),j<τ'.length→∃id,τ'[j]?=some (some id))(hg:∀(j id:Nat),τ'[j]?=some (some id)→uD E' h' fh τ' c j id):
 bu (E'.via τ' c) lo 0 (fh.map some) H:=by
 have g:∀(j id:Nat),τ'[j]?=some (some id)→∃o,h'[id]?=some (some o):=by
  intro j id P;rcases hg j id P with⟨es,es0,h1,_⟩|⟨cs,R,h1,_⟩|⟨n,l,full,B,root,h1,_⟩
  all_goals grind
 have v:∀(j b:Nat),(E'.via τ' c).β j=some b→∃id,τ'[j]?=some (some id)∧E'.β id=some b:=by
  intro j b d;simp only[Env.via]at d;grind
 have J:∀(j G b:Nat),(E'.via τ' c).β j=some b→(E'.via τ' c).β G=some b→j=G:=by
  intro j G b h1 u;obtain⟨id,g1,f⟩:=v j b h1;obtain⟨L,s,w⟩:=v G b u;obtain⟨o,ho⟩:=g j id g1;obtain⟨o',k⟩:=g G L s;have:=q.inj id L o o' b ho k f w;subst this;exact hτ j G id g1 s
 have O:∀(j b:Nat),(E'.via τ' c).β j=some b→(E'.via τ' c).ω b=some j:=by
  intro j b d;have t:∃j,((τ'[j]?).join).bind E'.β=some b:=⟨j,d⟩;have e:(E'.via τ' c).ω b=some (Classical.choose t):=by
   simp only[Env.via];grind
  rw[e];congr 1;exact J _ _ b (Classical.choose_spec t) d
 have look:∀(j:Nat) (o:Obj C.T),(fh.map some)[j]?=some (some o)→fh[j]?=some o∧∃id,τ'[j]?=some (some id):=by
  grind
 refine⟨?_, ?_, ?_, ?_, ?_, ?_, ?_, ?_,Nat.zero_le _,q.ll⟩
 ·intro j o P;obtain⟨h1,id,u⟩:=look j o P;rcases hg j id u with⟨es,es0,g1,f,U⟩|⟨cs,R,g1,f,s,w⟩|⟨n,l,full,B,root,g1,f,s⟩
  ·rw[h1]at f;cases f;obtain⟨b,as,z,M,A,I⟩:=q.obj id _ g1;have d:(E'.via τ' c).β j=some b:=by rw[rE u];exact z
   rcases U with⟨s,w⟩|⟨s,w⟩
   ·exact⟨b,as,d,O j b d,A,LK s w I⟩
   ·exact⟨b,as,d,O j b d,A,Nj s w I⟩
  ·rw[h1]at f;cases f;obtain⟨b,as,z,M,A,I⟩:=q.obj id _ g1;have d:(E'.via τ' c).β j=some b:=by rw[rE u];exact z
   exact⟨b,as,d,O j b d,A,eF s w I⟩
  ·rw[h1]at f;cases f;rcases q.obj id _ g1 with⟨rfl,z,a,M,A⟩|⟨b,off,cap,ex,as,z,M,A,I,k5,k6,k7,k8,k9⟩
   ·exact .inl ⟨rfl,by rw[rE u];exact z,a,by rw[tT u];exact M,A⟩
   ·have d:(E'.via τ' c).β j=some b:=by rw[rE u];exact M
    refine .inr ⟨b,off,cap,ex,as,by rw[tT u];exact z,d,O j b d,I,k5,k6,k7,fun m=>k8 (s m), ?_⟩
    intro i y jj x a q1 q2 q3;exact dj Y (E:=E') (E':=E'.via τ' c) (fun _ _ h=>.inl h) (k9 i y jj x a q1 q2 q3) (List.all_eq_true.1 (Y.ids n y) x (qo q2))
 ·grind
 ·intro b cs m;rcases m with m|m
  ·refine⟨(q.fr b cs m).1,fun j o _ d=>?_⟩
   obtain⟨id,g1,f⟩:=v j b d;obtain⟨o',k⟩:=g j id g1;exact(q.fr b cs m).2 id o' k f
  ·refine⟨(D b cs m).1,fun j o _ d=>?_⟩
   obtain⟨id,g1,f⟩:=v j b d;obtain⟨o',k⟩:=g j id g1;exact(D b cs m).2 id o' k f
 ·intro j P;have:τ'[j]?=none:=by grind
  simp[Env.via,this]
 ·intro j b _ d;obtain⟨id,_,f⟩:=v j b d;exact q.low id b (Nat.zero_le _) f
 ·intro j b d;obtain⟨id,_,f⟩:=v j b d;exact q.bnd id b f
 ·intro b r Q;have:∃j,(E'.via τ' c).β j=some b:=by
   simp only[Env.via]at Q;split at Q
   ·rename_i t;exact t
   ·cases Q
  obtain⟨j,d⟩:=this;obtain⟨id,g1,f⟩:=v j b d;obtain⟨X,N⟩:=q.βω id b f;obtain⟨o',k⟩:=g j id g1;exact⟨(q.own b X N).1,fun cs m=>m.elim ((q.own b X N).2 cs) fun m=>(D b cs m).2 id o' k f⟩
 grind
end Go.Sy
namespace Go.Sy
open Go.Am
variable {C:bK}{E:Env}
structure dN(C:bK) where
 St:Type
 I:St→Prop
 m:St→Nat
 regs:St→List (Nat×SV C.T)
 objs:St→List (Obj C.T)
structure FnD(C:bK) where
 cuts:List (Nat×dN C)
 res:SV C.T
 objs:List (Obj C.T)
noncomputable def Kq(r:SR C)(h:SH C)(regs:List (Nat×SV C.T))(objs:List (Obj C.T))(K:Tree):Tree:=
 leW objs 1000 (regs.map fun q=>(r.get q.1,q.2)) h (List.replicate objs.length none) fun τ _=>bif τ.all Option.isSome then K else .stuck "an object that nothing leads to"
noncomputable def JG(a:Option Nat)(c:dN C)(r:SR C)(h:SH C):Tree:=
 .ex c.St fun s=>Kq r h (c.regs s) (c.objs s) (.need (c.I s) (match a with
  |none=>.ok
  |some m=>.need (c.m s<m) .ok))
noncomputable def EX(a:Option Nat):List (Nat×dN C)→SR C→SH C→Tree
 | [],_,_=>.stuck "no family"
 | [p],r,h=>JG a p.2 r h
 |p::q::l,r,h=>.ex Bool fun b=>.fork b (JG a p.2 r h) (EX a (q::l) r h)
noncomputable def Iw(b:Nat)(D:FnD C)(c:Option Nat):FI C:=fun a=>match D.cuts.filter fun p=>Nat.beq p.1 a with
 | []=>none
 |p::l=>some fun r h=>bif Nat.beq r.n b then EX c (p::l) r h else .stuck "frame"
theorem wT{c:Option Nat}{r:SR C}{h:SH C}:∀{l:List (Nat×dN C)},(EX c l r h).holds→∃p,p∈l∧(JG c p.2 r h).holds
 | [],a=>(cf a).elim
 | [p],a=>⟨p,List.mem_singleton.2 rfl,a⟩
 |p::q::l,⟨b,d⟩=>by
  rcases eP d with⟨_,h1⟩|⟨_,h1⟩
  ·grind
  ·obtain⟨e,g,j⟩:=wT (l:=q::l) h1;grind
noncomputable def Co(P:Program)(rs:List ResultVar)(D:FnD C):CK C:=fun _ r h=>dU P r h rs fun vs=>
 leW D.objs 1000 [(fv vs,D.res)] h (List.replicate D.objs.length none) fun τ _=>bif τ.all Option.isSome then .ok else .stuck "an object that nothing leads to"
noncomputable def bt(F:Cf C)(ctr:FuncId→Option (Ctr C))(N:Nat)(fn:Func)(body:Code)(D:FnD C)(args:List (SV C.T)):Tree:=
 mD F ctr N (Iw fn.ntmps D none) 0 [.c body] (SR.frame args fn.ntmps) [] (Co F.S.P fn.results.toList D)
noncomputable def bV(F:Cf C)(ctr:FuncId→Option (Ctr C))(N:Nat)(fn:Func)(body:Code)(D:FnD C)(b:Nat)(c:dN C)(s:c.St):Tree:=
 match (dO body []).find? fun p=>Nat.beq p.1 b with
 |some (_,.c (.region _ ops a)::k)=>lx F (nJ F ctr (mD F ctr N)) 0 ops a (SR.only fn.ntmps (c.regs s)) ((c.objs s).map some) fun r h=>mD F ctr N (Iw fn.ntmps D (some (c.m s))) 0 k r h (Co F.S.P fn.results.toList D)
 |_=>.stuck "no such cut"
def nodupB:List Nat→Bool
 | []=>true
 |a::l=>!l.any (Nat.beq a) && nodupB l
theorem iF{α:Type}:∀{l:List (Nat×α)},nodupB (l.map (·.1))=true→∀{i:Nat} {x y:α},(i,x)∈l→(i,y)∈l→x=y
 | [],_,i,x,y,h,_=>by simp at h
 |(j,z)::l,c,i,x,y,a,b=>by
  simp only[List.map_cons,nodupB,qi]at c;have no:∀w,(j,w)∉l:=by
   intro w d;have:(l.map (·.1)).any (Nat.beq j)=true:=by
    rw[List.any_eq_true];exact⟨j,List.mem_map.2 ⟨(j,w),d,rfl⟩,by simp_all⟩
   grind
  rcases List.mem_cons.1 a with e1|a<;>rcases List.mem_cons.1 b with e2|b
  ·grind
  ·grind
  ·grind
  ·exact iF c.2 a b
theorem sE{n:Nat}{ρ:List bc}(hl:ρ.length=n)(b:n≤512):∀{regs:List (Nat×SV C.T)},(∀q,q∈regs→Er E q.2 (ρ.getD q.1 bz))→cO E (SR.only n regs) ρ
 | [],_=>by
  refine⟨e9 _ _,b,hl,fun j=>?_⟩
  simp only[SR.only,SR.get,kg];cases hb:Nat.blt j n with
  |true=>exact .any
  |false=>
   have d:¬j<n:=by intro x;rw[← Nat.blt_eq,hb]at x;cases x
   rw[qh,List.getElem?_eq_none (by omega)]
   exact .a _
 |(i,v)::regs,h=>(sE hl b fun q c=>h q (List.mem_cons_of_mem _ c)).self (h (i,v) (by simp))
theorem xt{τ:Ren}(h:τ.all Option.isSome=true):∀(j:Nat),j<τ.length→∃id,τ[j]?=some (some id):=by
 intro j a;have:=List.all_eq_true.1 h τ[j] (List.getElem_mem a);obtain⟨id,b⟩:=Option.isSome_iff_exists.1 this;grind
theorem i7{n:Nat}(j id:Nat):¬(List.replicate n (none:Option Nat))[j]?=some (some id):=by
 grind
variable {H:bd}{h:SH C}{lo:Nat}{objs:List (Obj C.T)}
theorem wh(e:bo C){r:SR C}{ρ:List bc}{regs:List (Nat×SV C.T)}{K:Tree}(d:cO E r ρ)(v:bu E lo 0 h H)(w:(Kq r h regs objs K).holds):
 K.holds∧∃E',cO E' (SR.only r.n regs) ρ∧bu E' lo 0 (objs.map some) H:=by
 obtain⟨E',b,x,c,g,y,k,l,m,a,o,p,z,s,_⟩:=yW (Sl:=fun _ _=>False) e w v (fun j A id h1 _=>(i7 j id h1).elim) (fun j id h1=>(i7 j id h1).elim) (fun _ _ h=>h.elim)
 replace a:(bif b.all Option.isSome then K else Tree.stuck "an object that nothing leads to").holds:=a
 cases ha:b.all Option.isSome with
 |false=>rw[ha]at a;exact qw a
 |true=>
  rw[ha]at a;refine⟨a,E'.via b c, ?_,Ar e s k l (by rw[m.1];simp) (xt ha) fun j id t=>(p j id t).resolve_left (i7 j id)⟩
  refine sE d.len d.small fun q u=>?_
  exact o (r.get q.1,q.2) (List.mem_map.2 ⟨q,u,rfl⟩) _ ((d.val q.1).mono g.le)
theorem xF(e:bo C){x:SV C.T}{a:bc}{res:SV C.T}(s:Er E x a)(t:bu E lo 0 h H)(u:(leW objs 1000 [(x,res)] h (List.replicate objs.length none) fun τ _=>bif τ.all Option.isSome then .ok else .stuck "an object that nothing leads to").holds):
 ∃E',Er E' res a∧bu E' lo 0 (objs.map some) H:=by
 obtain⟨E',c,v,d,g,w,k,l,m,b,n,o,y,p,_⟩:=yW (Sl:=fun _ _=>False) e u t (fun j z id h1 _=>(i7 j id h1).elim) (fun j id h1=>(i7 j id h1).elim) (fun _ _ h=>h.elim)
 replace b:(bif c.all Option.isSome then Tree.ok else Tree.stuck "an object that nothing leads to").holds:=b
 cases ha:c.all Option.isSome with
 |false=>rw[ha]at b;exact qw b
 |true=>
  exact⟨E'.via c d,n (x,res) (by simp) _ (s.mono g.le),Ar e p k l (by rw[m.1];simp) (xt ha) fun j id q=>(o j id q).resolve_left (i7 j id)⟩
theorem find_ok.{u}{α:Type u}{l:List (Nat×α)}{a:Nat}{p:Nat×α}(h:(l.find? fun p=>Nat.beq p.1 a)=some p):p∈l∧p.1=a:=by
 refine⟨List.mem_of_find?_eq_some h, ?_⟩;have:=List.find?_some h
 simp_all
variable {F:Cf C}{args:List (SV C.T)}{av:List bc}{body:Code}{ctr:FuncId→Option (Ctr C)}{f:FuncId}{fn:Func}
theorem rI(u:bo C)(hX:fB F.S F.noExt)(hL:dk F.S)(b:cv F.S ctr)(hf:F.S.P.funcs[f]?=some fn)(L:fn.body=some body)(hk:F.S.hook f=none)
 (D:FnD C) (N:Nat) (hn:args.length≤fn.ntmps) (hs:fn.ntmps≤512) (hnd:nodupB ((dO body []).map (·.1))=true)
 (o:(bt F ctr N fn body D args).holds) (K:∀p,p∈D.cuts→∀s,p.2.I s→(bV F ctr N fn body D p.1 p.2 s).holds) (hS:bu E ((F.S.pol f).lo lo H) 0 ([]:SH C) H) (hA:Ers E args av):
 ∃n v H' E',co F.S (cB F.S n) lo f av H=finish (F.S.pol f) H v H'∧bu E' ((F.S.pol f).lo lo H) 0 (D.objs.map some) H'∧Er E' D.res v:=by
 -- where a run ends
 let Q:bT→List bc→bd→Prop:=fun _ d H'=>∃j l E',(Co F.S.P fn.results.toList D .ret j l).holds∧cO E' j d∧bu E' ((F.S.pol f).lo lo H) 0 l H'
 have e:∀(m0:Option Nat) {id:Nat} {chk:SR C→SH C→Tree},Iw fn.ntmps D m0 id=some chk→∀{r:SR C} {ρ:List bc} {h:SH C} {lo:Nat} {H:bd} {E1:Env},(chk r h).holds→cO E1 r ρ→bu E1 lo 0 h H→
  r.n=fn.ntmps∧∃p,p∈D.cuts∧p.1=id∧∃s,p.2.I s∧(∀m,m0=some m→p.2.m s<m)∧∃E',cO E' (SR.only r.n (p.2.regs s)) ρ∧bu E' lo 0 ((p.2.objs s).map some) H:=by
  intro m0 id chk hc;unfold Iw at hc;split at hc
  ·cases hc
  ·rename_i p0 l0 g;simp at hc;subst hc;intro r ρ h lo H E1 O hR hS;simp only at O;cases L:Nat.beq r.n fn.ntmps with
   |false=>rw[L]at O;exact qw O
   |true=>
   rw[L]at O;rw[Nat.beq_eq]at L;obtain⟨p,hp,s,hs⟩:=wT O;rw[← g,List.mem_filter]at hp;obtain⟨⟨g1,U⟩,g3⟩:=wh u hR hS hs;refine⟨L,p,hp.1,by simp_all,s,g1,fun m hm=>?_,g3⟩
   subst hm;exact U.1
 have cut:∀(M:Nat) (p:Nat×dN C) (s:p.2.St),p∈D.cuts→p.2.I s→p.2.m s<M→∀(k:List Kt),(p.1,k)∈dO body []→jK (dO body []) k→∀(E1:Env) (ρ1:List bc) (H1:bd),cO E1 (SR.only fn.ntmps (p.2.regs s)) ρ1→bu E1 ((F.S.pol f).lo lo H) 0 ((p.2.objs s).map some) H1→
  ∃x d H',cQ F.S ((F.S.pol f).lo lo H) k ρ1 H1 (x,d,H')∧Q x d H':=by
  intro M;induction M with
  |zero=>grind
  |succ M ih=>
   intro p s ac hI hm k ad R E1 ρ1 H1 ae af;have Z:=K p ac s hI;unfold bV at Z;split at Z
   ·rename_i ak id ops aj k0 z;obtain⟨W,X⟩:=find_ok z;subst X;have aa:=iF hnd ad W;subst aa;obtain⟨ρ2,H2,r2,h2,E2,q1,q2,q3,q4,q5,q6,q7⟩:=jx (id:=id) u hX hL (ji u b (eN u hX hL b N)) ae af Z;obtain⟨x,d,H',g1,U⟩:=eN u hX hL b N _ _ _ _ _ _ _ _ _ _ (dO body []) Q q7 q4 q5 R.2
     (fun x j l E' d H' B G J p4 p5 p6=>⟨j,l,E',B,G,J⟩)
     (fun ag chk k' j l E' d H' p0 ah t B G J p4 p5 p6=>by
      obtain⟨q,p',w1,w2,s',w4,w5,A,w7,w8⟩:=e _ p0 B G J;grind)
    exact⟨x,d,H',.c q1 g1,U⟩
   ·exact qw Z
 have ab:=kN hA (n:=fn.ntmps) (by rw[← hA.1];exact hn) hs
 have w:jK (dO body []) [.c body]:=⟨fun y hy=>hy,trivial⟩
 obtain⟨x,d,H',g1,U⟩:=eN u hX hL b N _ _ _ _ _ _ _ _ _ _ (dO body []) Q o ab hS w
  (fun x j l E' d H' B G J p4 p5 p6=>⟨j,l,E',B,G,J⟩)
  (fun ag chk k' j l E' d H' p0 ah t B G J p4 p5 p6=>by
   obtain⟨q,p',w1,w2,s',w4,w5,A,w7,w8⟩:=e _ p0 B G J;rw[q]at w7;exact cut (p'.2.m s'+1) p' s' w1 w4 (by omega) k' (by grind) t A d H' w7 w8)
 obtain⟨j,l,E',w1,w2,w3⟩:=U;obtain⟨Y,al⟩:=g1.out;obtain⟨vs,as,e1,e2,e3⟩:=eZ (S:=F.S) u w2 w3 w1;obtain⟨A,e5,e6⟩:=xF u (lc e2) w3 e3;obtain⟨m,hm⟩:=Y;simp only[co,hk,hf,L];grind
theorem Jh(e:bo C)(g:fB F.S F.noExt)(j:dk F.S)(c:cv F.S ctr)(k:F.S.P.funcs[f]?=some fn)(l:fn.body=some body)(m:F.S.hook f=none)(w:F.S.pol f≠ .pure)
 (D:FnD C) (N:Nat) (o:args.length≤fn.ntmps) (q:fn.ntmps≤512) (hnd:nodupB ((dO body []).map (·.1))=true)
 (a:(bt F ctr N fn body D args).holds) (b:∀p,p∈D.cuts→∀s,p.2.I s→(bV F ctr N fn body D p.1 p.2 s).holds) (t:bu E ((F.S.pol f).lo lo H) 0 ([]:SH C) H) (u:Ers E args av):
 ∃n v H' E',co F.S (cB F.S n) lo f av H=some (v,H')∧bu E' ((F.S.pol f).lo lo H) 0 (D.objs.map some) H'∧Er E' D.res v:=by
 obtain⟨n,v,H',E',h1,d⟩:=rI e g j c k l m D N o q hnd a b t u;refine⟨n,v,H',E', ?_,d⟩;rw[h1];cases hpp:F.S.pol f with
 |keep=>rfl
 |fresh=>rfl
 |pure=>grind
end Go.Sy
namespace Go.Sy
open Go.Am
variable {C:bK}{E:Env}
inductive Pat(C:bK) where
 |int (k:IntKind)
 |bool
 |str
 |tl (n:Nat)
 |row (n:Nat)
 |frow (n:Nat)
 |fskip (k n:Nat)
 |exact
 |lit (X:Type) (f:X→bc)
def Pat.ty:Pat C→Type
 | .int _=>Int
 | .bool=>Bool
 | .str=>List UInt8
 | .tl n=>List (C.T n)
 | .row n=>C.T n
 | .frow n=>C.T n
 | .fskip _ n=>C.T n
 | .exact=>bc
 | .lit X _=>X
def Pat.sv:(p:Pat C)→p.ty→SV C.T
 | .int k,n=>.i k n
 | .bool,b=>.b b
 | .str,s=>.s s
 | .tl n,l=>.tl n l
 | .row n,x=>.agg (C.enc n x)
 | .frow n,x=>.fp (C.enc n x)
 | .fskip k n,x=>.fp (List.replicate k .any++C.enc n x)
 | .exact,v=>.a v
 | .lit _ f,y=>.a (f y)
def s8{T:Nat→Type}(v:Option Nat→SV T→Option (SV T)):List (Option Nat)→List (SV T)→Option (List (SV T))
 | [],[]=>some []
 |s::ss,x::xs=>match v s x with
  |some y=>match s8 v ss xs with
   |some b=>some (y::b)
   |none=>none
  |none=>none
 |_,_=>none
def te(v:Option Nat→SV C.T→Option (SV C.T))(n:Nat):List (List (SV C.T))→Option (List (C.T n))
 | []=>some []
 |r::rs=>match s8 v (C.shape n) r with
  |some b=>match C.dec n b with
   |some y=>match te v n rs with
    |some c=>some (y::c)
    |none=>none
   |none=>none
  |none=>none
def qX(h:SH C):Nat→Option Nat→SV C.T→Option (SV C.T)
 |0,_,_=>none
 |_+1,none,x=>bif lB x then some x else none
 |f+1,some m,x=>match x with
  | .tl b l=>some (.tl b l)
  | .a .nils=>some (.tl m [])
  | .R id=>match bF h id with
   |some (.rows b l _ _)=>some (.tl b l)
   |_=>none
  | .sl sz id off len cap _=>match bF h id with
   |some (.cells cs)=>if sz=C.sz m∧off+len*sz≤cs.length∧len≤cap then(match te (qX h f) m (gN sz len (cs.drop off))with|some l=>some (.tl m l)|none=>none)else none
   |_=>none
  | .a (.list sz rows _)=>if sz=C.sz m∧(rows.all fun r=>r.length==sz)then(match te (qX h f) m (rows.map (List.map .a))with|some l=>some (.tl m l)|none=>none)else none
  |_=>none
def zu(h:SH C)(n:Nat)(x:SV C.T)(K:List (C.T n)→Tree):Tree:=
 match qX h 4 (some n) x with
 |some (.tl m l)=>if e:m=n then K (kn e l)else .stuck "take: rows of another kind"
 |_=>.stuck "take: tl"
def takeRow(h:SH C)(n:Nat)(cs:List (SV C.T))(K:C.T n→Tree):Tree:=
 match s8 (qX h 4) (C.shape n) cs with
 |some cs'=>opt (C.dec n cs') "take: row" K
 |none=>.stuck "take: row"
def sn(h:SH C)(n:Nat)(x:SV C.T)(K:C.T n→Tree):Tree:=
 match x with
 | .fp cs=>if C.sz n≤cs.length then takeRow h n (cs.take (C.sz n)) K else .stuck "take: frow"
 | .a (.ipt as)=>if C.sz n≤as.length then takeRow h n ((as.take (C.sz n)).map .a) K else .stuck "take: frow"
 | .ptr id off=>match bF h id with
  |some (.cells cs)=>if off+C.sz n≤cs.length then takeRow h n ((cs.drop off).take (C.sz n)) K else .stuck "take: frow"
  |_=>.stuck "take: gone"
 |_=>.stuck "take: frow"
def sF(h:SH C)(k n:Nat)(x:SV C.T)(K:C.T n→Tree):Tree:=
 match x with
 | .ptr id off=>match bF h id with
  |some (.cells cs)=>if off+k+C.sz n≤cs.length then takeRow h n ((cs.drop (off+k)).take (C.sz n)) K else .stuck "take: fskip"
  |_=>.stuck "take: gone"
 |_=>.stuck "take: fskip"
def Pat.take(h:SH C):(p:Pat C)→SV C.T→(p.ty→Tree)→Tree
 | .int k,x,K=>match intOf x with
  |some (c,n)=>if c=k then K n else .stuck "take: kind"
  |none=>.stuck "take: int"
 | .bool,x,K=>match iP x with
  |some b=>K b
  |none=>.stuck "take: bool"
 | .str,x,K=>match strOf x with
  |some s=>K s
  |none=>.stuck "take: str"
 | .tl n,x,K=>zu h n x K
 | .row n,x,K=>match x with
  | .agg cs=>takeRow h n cs K
  | .a (.agg as)=>takeRow h n (as.map .a) K
  |_=>.stuck "take: row"
 | .frow n,x,K=>sn h n x K
 | .fskip k n,x,K=>sF h k n x K
 | .exact,x,K=>match yi x with
  |some v=>K v
  |none=>.stuck "take: exact"
 | .lit X f,x,K=>match yi x with
  |some v=>.ex X fun y=>.need (v=f y) (K y)
  |none=>.stuck "take: lit"
def tys:List (Pat C)→Type
 | []=>Unit
 |p::ps=>p.ty×tys ps
def jS:(ps:List (Pat C))→tys ps→List (SV C.T)
 | [],_=>[]
 |p::ps,x=>p.sv x.1::jS ps x.2
def nc(h:SH C):(ps:List (Pat C))→List (SV C.T)→(tys ps→Tree)→Tree
 | [],[],K=>K ()
 |p::ps,x::xs,K=>p.take h x fun y=>nc h ps xs fun b=>K (y,b)
 |_,_,_=>.stuck "take: how many"
mutual
def jW{T:Nat→Type}(d:Nat):SV T→SV T
 | .agg cs=>.agg (kA d cs)
 | .tup cs=>.tup (kA d cs)
 | .iface t v=>.iface t (jW d v)
 | .ptr id off=>.ptr (id+d) off
 | .sl sz id off len cap ex=>.sl sz (id+d) off len cap ex
 | .R id=>.R (id+d)
 | .a v=>.a v
 | .i k n=>.i k n
 | .b x=>.b x
 | .s x=>.s x
 |_=>.any
def kA{T:Nat→Type}(d:Nat):List (SV T)→List (SV T)
 | []=>[]
 |x::xs=>jW d x::kA d xs
end
mutual
def lT{T:Nat→Type}:SV T→Bool
 | .agg cs=>lP cs
 | .tup cs=>lP cs
 | .iface _ v=>lT v
 | .ptr _ _=>true
 | .sl _ _ _ _ _ _=>true
 | .R _=>true
 | .a _=>true
 | .i _ _=>true
 | .b _=>true
 | .s _=>true
 |_=>false
def lP{T:Nat→Type}:List (SV T)→Bool
 | []=>true
 |x::xs=>lT x && lP xs
end
def uv(d:Nat):Obj C.T→Obj C.T
 | .cells cs=>.cells (kA d cs)
 | .rows n l full root=>.rows n l full (root+d)
 | .mp es=>.mp es
 | .it s b=>.it s b
def wx:Obj C.T→Bool
 | .cells cs=>lP cs
 | .rows n _ _ _=>C.flat n
 | .mp _=>false
 | .it _ _=>false
structure eC(C:bK) where
 pats:List (Pat C)
 pre:tys pats→Prop
 res:tys pats→SV C.T
 objs:tys pats→List (Obj C.T)
def bB(D:eC C):Ctr C:=fun wlo args h K=>nc h D.pats args fun x=>.need (D.pre x) (K (jW h.length (D.res x)) (h++(D.objs x).map fun o=>some (uv h.length o)))
def gg(H:bd):Env:=⟨fun _=>none,fun _=>none,fun _=>none,fun b cs=>H[b]?=some (some (.cells cs))⟩
variable {H:bd}{lo:Nat}
theorem mV(hl:lo≤H.length):bu (gg H) lo 0 ([]:SH C) H where
 obj:=fun id o h=>by simp at h
 inj:=fun id c o o' b h=>by simp at h
 fr:=fun b cs d=>⟨d,fun id o h=>by simp at h⟩
 fresh:=fun id _=>⟨rfl,rfl⟩
 low:=fun id b _ h=>by cases h
 bnd:=fun id b h=>by cases h
 own:=fun b r h=>by cases h
 βω:=fun id b h=>by cases h
 wl:=Nat.zero_le _
 ll:=hl
variable {a:bc}{h:SH C}{wlo:Nat}{x:SV C.T}
theorem uS(d:bo C)(e:bu E lo wlo h H)(f:Er E x a)(g:lB x=true):Er (gg H) x a:=dj d (fun b cs c=>(e.fr b cs c).1) f g
variable {as:List bc}{n:Nat}
theorem JB(e:bo C){E1:Env}{b off len cap:Nat}{ex:Bool}{l:List (C.T n)}(f:E1.Fr b as)(hl:len=l.length)(g:off+len*C.sz n≤as.length)(hc:len≤cap)(k:b5 E1 (C.sz n) (l.map (C.enc n)) (cq (C.sz n) len (as.drop off))):Er E1 (.tl n l) (.sl (C.sz n) b off len cap ex):=by
 subst hl;refine .tlS rfl rfl f g hc ?_;intro i y j x a h1 c o;have d:=lt_of_some h1;have m:j<C.sz n:=by have:=lt_of_some c;rw[e.len]at this;exact this
 have:=k.2 i (C.enc n y) _ (by simp[h1]) (e8 d)
 refine this.1.2 j x a c ?_;grind
theorem pW{E1:Env}{v:Option Nat→SV C.T→Option (SV C.T)}(e:∀s x y a,v s x=some y→Er E x a→Er E1 y a):∀{ss:List (Option Nat)} {xs b:List (SV C.T)} {as:List bc},s8 v ss xs=some b→Ers E xs as→Ers E1 b as
 | [],[],b,as,h,c=>by
  simp only[s8,qa]at h;subst h;rw[c.inv_nil];exact Ers.nil
 | [],_::_,b,as,h,c=>by cases h
 |_::_,[],b,as,h,c=>by cases h
 |s::ss,x::xs,b,as,h,c=>by
  obtain⟨a,j,rfl,h1,k⟩:=c.inv_cons;simp only[s8]at h;split at h
  ·rename_i y f;split at h
   ·rename_i g d;simp at h;subst h;exact(pW e d k).cons (e _ _ _ _ f h1)
   ·cases h
  ·cases h
theorem rg(k:bo C){E1:Env}{v:Option Nat→SV C.T→Option (SV C.T)}(l:∀s x y a,v s x=some y→Er E x a→Er E1 y a){n z:Nat}:∀{rows:List (List (SV C.T))} {rA:List (List bc)} {xs:List (C.T n)},b5 E z rows rA→te v n rows=some xs→b5 E1 z (xs.map (C.enc n)) rA
 | [],rA,xs,h,b=>by
  simp only[te,qa]at b;subst b;exact⟨h.1,fun i r j h=>by simp at h⟩
 |r::rows,[],xs,h,b=>by simp[b5]at h
 |r::rows,j::rA,xs,h,b=>by
  simp only[te]at b;split at b
  ·rename_i m c;split at b
   ·rename_i y o;split at b
    ·rename_i w d;simp at b;subst b;obtain⟨h1,t,u⟩:=h.tail;have g:=rg k l u d;refine⟨by simp[g.1],fun i p q e f=>?_⟩
     cases i with
     |zero=>
      simp at e f;subst e f;exact⟨k.dec n m y o E1 j (pW l c h1),t⟩
     |succ i=>
      exact g.2 i p q e f
    ·cases b
   ·cases b
  ·cases b
theorem rh(d:bo C){lo wlo:Nat}{h:SH C}{H:bd}(k:bu E lo wlo h H):∀(f:Nat) (s:Option Nat) (x y:SV C.T) (a:bc),qX h f s x=some y→Er E x a→Er (gg H) y a
 |0,s,x,y,a,c,e=>by cases c
 |f+1,none,x,y,a,c,e=>by
  simp only[qX]at c;cases hn:lB x with
  |false=>grind
  |true=>
   rw[hn]at c;simp at c;subst c;exact uS d k e hn
 |f+1,some n,x,y,a,c,e=>by
  have A:=rh d k f;simp only[qX]at c;split at c
  ·simp at c;subst c;exact uS d k e rfl
  ·simp at c;subst c;cases e;exact .tlN
  ·rename_i id;split at c
   ·rename_i m l full root v;simp at c;subst c;cases e with
    |R D hs=>
     rcases k.obj id _ (bm v)with⟨rfl,_,U,g1,p⟩|⟨b,off,cap,ex,as,g1,p,W,q,B,X,Y,Z,M⟩
     ·rw[D]at g1;simp at g1;subst g1;rcases p with rfl|rfl
      ·exact .tlN
      ·exact .tlL rfl rfl (fun i r h=>by simp at h) (fun i y r j x a h=>by simp at h)
     ·rw[D]at g1;simp at g1;subst g1;have Q:=Nat.mul_le_mul_right (C.sz m) B;refine .tlS rfl rfl q (by omega) B ?_
      intro i y j x a h1 o G;exact uS d k (M i y j x a h1 o G) (List.all_eq_true.1 (d.ids m y) x (qo o))
   ·cases c
  ·rename_i sz id off len cap ex;split at c
   ·rename_i cs v;split at c
    ·rename_i hc;split at c
     ·rename_i xs h1;simp at c;subst c;cases e with
      |sl P=>
       obtain⟨b,as,g1,_,p,q⟩:=k.obj id _ (bm v);rw[P]at g1;simp at g1;subst g1;have hl:=q.1;obtain⟨rfl,L,w⟩:=hc;have g:=rg d A (fP (n:=len) (z:=C.sz n) (q.drop off) (by simp;omega)) h1
       have t:len=xs.length:=by
        have:=g.1;rw[d3]at this
        grind
       exact JB d (E1:=gg H) p t (by omega) w g
     ·cases c
    ·cases c
   ·cases c
  ·rename_i sz rows ex;cases e;split at c
   ·rename_i hc;split at c
    ·rename_i xs h1;simp at c;subst c;have u:b5 E (C.sz n) (rows.map (List.map (SV.a (T:=C.T)))) rows:=by
      refine⟨by simp,fun i r N h1 o=>?_⟩
      rw[List.getElem?_map,o]at h1;simp at h1;subst h1;refine⟨Ers.mapA N, ?_⟩;grind
     have g:=rg d A u h1;refine .tlL hc.1 (by rw[← g.1];simp) (fun i r O=>g.lens i r O) ?_
     intro i y r j x a q1 q2 I J;exact(g.2 i (C.enc n y) r (by simp[q1]) q2).1.2 j x a I J
    ·cases c
   ·cases c
  ·cases c
theorem CF(d:bo C)(f:bu E lo wlo h H){K:List (C.T n)→Tree}(g:Er E x a)(b:(zu h n x K).holds):∃l,(K l).holds∧Er (gg H) (.tl n l) a:=by
 unfold zu at b;split at b
 ·rename_i m l c;split at b
  ·rename_i e;subst e;exact⟨l,b,rh d f _ _ _ _ _ c g⟩
  ·exact qw b
 ·exact qw b
variable {K:C.T n→Tree}
theorem fG(c:bo C)(f:bu E lo wlo h H){cs:List (SV C.T)}(g:Ers E cs as)(b:(takeRow h n cs K).holds):∃y,(K y).holds∧Ers (gg H) (C.enc n y) as:=by
 unfold takeRow at b;split at b
 ·rename_i cs' d;obtain⟨y,h1,e⟩:=bI b;exact⟨y,e,c.dec n cs' y h1 _ _ (pW (rh c f 4) d g)⟩
 ·exact qw b
theorem xd(l:bo C)(g:bu E lo wlo h H)(m:Er E x a)(c:(sn h n x K).holds):∃y,(K y).holds∧Er (gg H) (.fp (C.enc n y)) a:=by
 unfold sn at c;split at c
 ·split at c
  ·rename_i cs p;have key:∀{as rest all:List bc},all=as++rest→Ers E cs as→∃y,(K y).holds∧Ers (gg H) (C.enc n y) (as.take (C.sz n))∧all=as.take (C.sz n)++(as.drop (C.sz n)++rest):=by
    intro as rest all e q;obtain⟨y,h1,d⟩:=fG l g (q.take _) c;exact⟨y,h1,d,by rw[e,← List.append_assoc,List.take_append_drop]⟩
   cases m with
   |fpI e hl o=>
    obtain⟨y,j,f,k⟩:=key e ⟨hl,o⟩;exact⟨y,j,.fpI k f.1 f.2⟩
   |fpP v e hl o=>
    obtain⟨y,j,f,k⟩:=key e ⟨hl,o⟩;exact⟨y,j,.fpP (E:=gg H) (g.fr _ _ v).1 k f.1 f.2⟩
  ·exact qw c
 ·split at c
  ·cases m;obtain⟨y,h1,d⟩:=fG l g (Ers.mapA _) c;exact⟨y,h1,.fpI (List.take_append_drop _ _).symm d.1 d.2⟩
  ·exact qw c
 ·rename_i id off;split at c
  ·rename_i cs s;split at c
   ·cases m with
    |ptr w=>
     obtain⟨b,as,g1,_,t,u⟩:=g.obj id _ (bm s);rw[w]at g1;simp at g1;subst g1;obtain⟨y,h1,d⟩:=fG l g ((u.drop off).take (C.sz n)) c;exact⟨y,h1,.fpP (E:=gg H) t (List.take_append_drop _ _).symm d.1 d.2⟩
   ·exact qw c
  ·exact qw c
 ·exact qw c
theorem vZ(p:bo C)(g:bu E lo wlo h H){k:Nat}(q:Er E x a)(d:(sF h k n x K).holds):∃y,(K y).holds∧Er (gg H) (.fp (List.replicate k .any++C.enc n y)) a:=by
 unfold sF at d;split at d
 ·rename_i id off;split at d
  ·rename_i cs l;split at d
   ·cases q with
    |ptr s=>
     obtain⟨b,as,g1,_,m,f⟩:=g.obj id _ (bm l);rw[s]at g1;simp at g1;subst g1;have hl:=f.1;obtain⟨y,h1,o⟩:=fG p g ((f.drop (off+k)).take (C.sz n)) d;have e:Ers (C:=C) (gg H) (List.replicate k .any) ((as.drop off).take k):=by
      refine⟨by simp;omega,fun i x a q1 q2=>?_⟩
      rw[List.getElem?_replicate]at q1;split at q1
      ·cases q1;exact .any
      ·cases q1
     have c:=e.append o;refine⟨y,h1,.fpP (E:=gg H) (rest:=as.drop (off+k+C.sz n)) m ?_ c.1 c.2⟩;rw[List.append_assoc,← List.drop_drop (i:=C.sz n) (j:=off+k),List.take_append_drop,← List.drop_drop,List.take_append_drop]
   ·exact qw d
  ·exact qw d
 ·exact qw d
theorem Pat.take_ok(j:bo C)(l:bu E lo wlo h H){p:Pat C}{K:p.ty→Tree}(d:Er E x a)(c:(p.take h x K).holds):∃y,(K y).holds∧Er (gg H) (p.sv y) a:=by
 cases p with
 |int k=>
  simp only[Pat.take]at c;split at c
  ·rename_i q n e;split at c
   ·rename_i m;subst m;rw[cr d e];exact⟨n,c,.i _ _⟩
   ·exact qw c
  ·exact qw c
 |bool=>
  simp only[Pat.take]at c;split at c
  ·rename_i b e;rw[gK d e];exact⟨b,c,.b _⟩
  ·exact qw c
 |str=>
  simp only[Pat.take]at c;split at c
  ·rename_i s e;rw[ed d e];exact⟨s,c,.s _⟩
  ·exact qw c
 |tl n=>exact CF j l d c
 |row n=>
  simp only[Pat.take]at c;split at c
  ·cases d with
   |agg hl o=>
    obtain⟨y,h1,g⟩:=fG j l ⟨hl,o⟩ c;exact⟨y,h1,.agg g.1 g.2⟩
  ·cases d;obtain⟨y,h1,g⟩:=fG j l (Ers.mapA _) c;exact⟨y,h1,.agg g.1 g.2⟩
  ·exact qw c
 |frow n=>exact xd j l d c
 |fskip k n=>exact vZ j l d c
 |exact=>
  simp only[Pat.take]at c;split at c
  ·rename_i v hl;rw[ng d hl];exact⟨_,c,.a _⟩
  ·exact qw c
 |lit X f=>
  simp only[Pat.take]at c;split at c
  ·rename_i v hl;obtain⟨y,rfl,h1⟩:=c;rw[ng d hl];exact⟨y,h1,.a _⟩
  ·exact qw c
theorem jH(d:bo C){lo wlo:Nat}{h:SH C}{H:bd}(e:bu E lo wlo h H):∀{ps:List (Pat C)} {xs:List (SV C.T)} {as:List bc} {K:tys ps→Tree},Ers E xs as→(nc h ps xs K).holds→∃y,(K y).holds∧Ers (gg H) (jS ps y) as
 | [],[],as,K,c,b=>⟨(),b,by rw[c.inv_nil];exact Ers.nil⟩
 | [],_::_,as,K,c,b=>(cf b).elim
 |_::_,[],as,K,c,b=>(cf b).elim
 |p::ps,x::xs,as,K,c,b=>by
  obtain⟨a,f,rfl,h1,g⟩:=c.inv_cons;obtain⟨y,j,k⟩:=Pat.take_ok d e h1 b;obtain⟨l,m,o⟩:=jH d e g j;exact⟨(y,l),m,o.cons k⟩
theorem oG{T:Nat→Type}(d:Nat):∀(cs:List (SV T)),kA d cs=cs.map (jW d)
 | []=>rfl
 |x::xs=>by simp only[kA,List.map_cons,oG d xs]
theorem rS{T:Nat→Type}:∀(cs:List (SV T)),lP cs=cs.all lT
 | []=>rfl
 |x::xs=>by simp only[lP,List.all_cons,rS xs]
variable {E':Env}
theorem G4{E:Env}{d:Nat}(g:∀id b,E.β id=some b→E'.β (id+d)=some b)(j:∀id a,E.γ id=some a→E'.γ (id+d)=some a)(h:Er E x a):lT x=true→Er E' (jW d x) a:=by
 have list:∀{cs:List (SV C.T)} {as:List bc},lP cs=true→cs.length=as.length→(∀(i:Nat) (x:SV C.T) (a:bc),cs[i]?=some x→as[i]?=some a→lT x=true→Er E' (jW d x) a)→
  (kA d cs).length=as.length∧∀(i:Nat) (x:SV C.T) (a:bc),(kA d cs)[i]?=some x→as[i]?=some a→Er E' x a:=by
  intro cs as c hl e;rw[oG];rw[rS]at c;refine⟨by simp[hl],fun i x a h1 f=>?_⟩
  grind
 induction h with
 |a v=>exact fun _=>.a v
 |i k n=>exact fun _=>.i k n
 |b x=>exact fun _=>.b x
 |s x=>exact fun _=>.s x
 |agg hl _ e=>
  intro c;obtain⟨h1,f⟩:=list c hl e;exact .agg h1 f
 |tup hl _ e=>
  intro c;obtain⟨h1,f⟩:=list c hl e;exact .tup h1 f
 |iface _ e=>
  intro c;exact .iface (e c)
 |ptr h=>intro _;exact .ptr (g _ _ h)
 |sl h=>intro _;exact .sl (g _ _ h)
 |R h l=>intro _;exact .R (j _ _ h) l
 |_=>intro c;simp[lT]at c
theorem If{E:Env}(h:Er E x a)(b:Nm x=true):Er E' x a:=by
 cases h<;>simp[Nm]at b<;>constructor
theorem Dc(hC:bo C){E:Env}{H':bd}{objs:List (Obj C.T)}(d:bu E lo wlo h H)(e:bu E' (max lo H.length) 0 (objs.map some) H')(hp:objs.all wx=true)(hH:H.length≤H'.length)(B:∀b,b<H.length→H'[b]?=H[b]?):
 ∃g,LeN h.length H.length E g∧bu g lo wlo (h++objs.map fun o=>some (uv h.length o)) H'∧∀{x:SV C.T} {a:bc},lT x=true→Er E' x a→Er g (jW h.length x) a:=by
 let g:Env:=⟨fun i=>if i<h.length then E.β i else E'.β (i-h.length),fun i=>if i<h.length then E.γ i else E'.γ (i-h.length),fun b=>if b<H.length then E.ω b else(E'.ω b).map (· +h.length),E.Fr⟩
 have I:∀i,g.β i=if i<h.length then E.β i else E'.β (i-h.length):=fun _=>rfl
 have eγ:∀i,g.γ i=if i<h.length then E.γ i else E'.γ (i-h.length):=fun _=>rfl
 have Q:∀b,g.ω b=if b<H.length then E.ω b else(E'.ω b).map (· +h.length):=fun _=>rfl
 have m:LeN h.length H.length E g:=by
  refine⟨⟨fun i b c=>?_,fun i b c=>?_,fun b r t=>?_,fun _ _ h=>h⟩,fun i z=>⟨by grind,by grind⟩,fun _ _ h=>.inl h,fun b r t=>?_⟩
  ·have z:i<h.length:=by
    rcases qk i h.length with k|k
    ·exact k
    ·rw[(d.fresh i k).1]at c;cases c
   grind
  ·have z:i<h.length:=by
    rcases qk i h.length with k|k
    ·exact k
    ·rw[(d.fresh i k).2]at c;cases c
   grind
  ·rw[Q,if_pos (d.own b r t).1];exact t
  grind
 have R:∀id b,E'.β id=some b→g.β (id+h.length)=some b:=fun id b c=>by grind
 have U:∀id a,E'.γ id=some a→g.γ (id+h.length)=some a:=fun id a c=>by grind
 have f:∀{x:SV C.T} {a:bc},lT x=true→Er E' x a→Er g (jW h.length x) a:=fun hx he=>G4 R U he hx
 have A:∀id b,E'.β id=some b→H.length≤b:=fun id b c=>by have:=e.low id b (Nat.zero_le _) c;omega
 have Y:∀b r,H.length≤b→E'.ω b=some r→g.ω b=some (r+h.length):=fun b r c t=>by grind
 have look:∀(i:Nat) (o:Obj C.T),(h++objs.map fun o=>some (uv h.length o))[i]?=some (some o)→(i<h.length∧h[i]?=some (some o))∨∃j o',i=j+h.length∧objs[j]?=some o'∧o=uv h.length o':=by
  grind
 have u:∀(j:Nat) (o':Obj C.T),objs[j]?=some o'→(objs.map some)[j]?=some (some o'):=fun j o' hj=>by grind
 refine⟨g,m,⟨?_, ?_, ?_, ?_, ?_, ?_, ?_, ?_,by have:=d.wl;simp;omega,by have:=d.ll;omega⟩,f⟩
 ·intro i o z;rcases look i o z with⟨h1,w⟩|⟨j,o',rfl,w,rfl⟩
  ·exact((d.obj i o w).heap fun b c=>B b (d.bnd i b c)).mono m.le fun hn=>by grind
  ·have v:=List.all_eq_true.1 hp o' (qo w);have Z:=e.obj j o' (u j o' w);cases o' with
   |cells cs=>
    obtain⟨b,as,M,D,N,O⟩:=Z;refine⟨b,as,R _ _ M,Y b _ (A _ _ M) D,N, ?_⟩;have J:lP cs=true:=v;rw[rS]at J;rw[oG];refine⟨by simp[O.1],fun i x a h1 P=>?_⟩
    simp at h1;obtain⟨y,G,rfl⟩:=h1;exact f (List.all_eq_true.1 J y (qo G)) (O.2 i y a G P)
   |mp es=>simp[wx]at v
   |it s aa=>simp[wx]at v
   |rows n l full root=>
    rcases Z with⟨rfl,M,a,D,N⟩|⟨b,off,cap,ex,as,M,D,N,O,k5,k6,k7,k8,k9⟩
    ·exact .inl ⟨rfl,by grind,a,U _ _ D,N⟩
    ·refine .inr ⟨b,off,cap,ex,as,U _ _ M,R _ _ D,Y b _ (A _ _ D) N,O,k5,k6,k7,k8, ?_⟩;intro i y jj x a q1 q2 q3;exact If (k9 i y jj x a q1 q2 q3) (List.all_eq_true.1 (hC.flat n y v) x (qo q2))
 ·intro i L o o' b z W c q;rcases look i o z with⟨h1,w⟩|⟨j,p,rfl,w,rfl⟩<;>rcases look L o' W with⟨P,G⟩|⟨j',p',rfl,G,rfl⟩
  ·rw[(m.old i h1).1]at c;rw[(m.old L P).1]at q;exact d.inj i L o o' b w G c q
  ·rw[(m.old i h1).1]at c;have:=d.bnd i b c;grind
  ·rw[(m.old L P).1]at q;have:=d.bnd L b q;grind
  ·rw[I,if_neg (by omega),Nat.add_sub_cancel]at c q
   rw[e.inj j j' p p' b (u j p w) (u j' p' G) c q]
 ·intro b cs X;obtain⟨h1,w⟩:=d.fr b cs X;grind
 ·intro i z;simp at z;rw[I,eγ,if_neg (by omega),if_neg (by omega)]
  exact e.fresh (i-h.length) (by simp;omega)
 ·intro i b hw c;rw[I]at c;split at c
  ·exact d.low i b hw c
  ·have:=e.low _ b (Nat.zero_le _) c;omega
 ·intro i b c;rw[I]at c;split at c
  ·have:=d.bnd i b c;omega
  ·exact e.bnd _ b c
 ·intro b r t;rw[Q]at t;split at t
  ·exact⟨by grind,(d.own b r t).2⟩
  ·rw[qd]at t;obtain⟨r',h1,_⟩:=t;refine⟨(e.own b r' h1).1,fun cs X=>?_⟩
   have:=lt_of_some (d.fr b cs X).1;omega
 ·intro i b c;rw[I]at c;split at c
  ·obtain⟨r,t⟩:=d.βω i b c;exact⟨r,by rw[Q,if_pos (d.bnd i b c)];exact t⟩
  ·obtain⟨r,t⟩:=e.βω _ b c;grind
theorem DV{F:Cf C}(q:bo C)(R:fB F.S F.noExt)(u:dk F.S){ctr:FuncId→Option (Ctr C)}(j:cv F.S ctr){f:FuncId}{fn:Func}{body:Code}(U:F.S.P.funcs[f]?=some fn)(W:fn.body=some body)(w:F.S.hook f=none)(k:F.S.pol f= .fresh)
 (D:eC C) (N:Nat) (cuts:tys D.pats→List (Nat×dN C)) (Z:D.pats.length≤fn.ntmps) (X:fn.ntmps≤512) (hnd:nodupB ((dO body []).map (·.1))=true)
 (c:∀x,D.pre x→lT (D.res x)=true∧(D.objs x).all wx=true)
 (d:∀x,D.pre x→(bt F ctr N fn body ⟨cuts x,D.res x,D.objs x⟩ (jS D.pats x)).holds)
 (g:∀x,D.pre x→∀p,p∈cuts x→∀s,p.2.I s→(bV F ctr N fn body ⟨cuts x,D.res x,D.objs x⟩ p.1 p.2 s).holds):bi F.S f (bB D):=by
 intro E lo wlo args h H K av A m B;obtain⟨x,⟨b,G⟩,o⟩:=jH q m B A;have z:∀(ps:List (Pat C)) (y:tys ps),(jS ps y).length=ps.length:=by
  intro ps;induction ps with
  |nil=>intro y;rfl
  |cons p ps Y=>intro y;simp only[jS,qm,Y]
 have l:bu (gg H) ((F.S.pol f).lo lo H) 0 ([]:SH C) H:=mV (by rw[k];simp only[Pol.lo];have:=m.ll;omega)
 obtain⟨n,v,H',E',h1,t,J⟩:=Jh q R u j U W w (by rw[k];simp) ⟨cuts x,D.res x,D.objs x⟩ N (by grind) X hnd (d x b) (g x b) l o
 have e:=jY (kK u n) (by rw[w];rfl) k h1
 rw[k]at t;obtain⟨L,M,O,Q⟩:=Dc q m t (c x b).2 e.1 e.2;exact⟨v,H',_,_,L,⟨n,h1⟩,M,by simp,O,e.1,Q (c x b).1 J,G⟩
end Go.Sy
namespace Go.Sy
open Go.Am
variable {C:bK}
structure b7(t:Tree):Prop where
 out:t.holds
theorem bv{F:Cf C}(k:bo C)(m:fB F.S F.noExt)(o:dk F.S){ctr:FuncId→Option (Ctr C)}(e:cv F.S ctr){f:FuncId}{fn:Func}{body:Code}(q:F.S.P.funcs[f]?=some fn)(t:fn.body=some body)(u:F.S.hook f=none)(v:F.S.pol f= .fresh)
 (D:eC C) (N:Nat) (cuts:tys D.pats→List (Nat×dN C)) (w:D.pats.length≤fn.ntmps) (y:fn.ntmps≤512) (hnd:nodupB ((dO body []).map (·.1))=true)
 (c:∀x,D.pre x→lT (D.res x)=true∧(D.objs x).all wx=true)
 (b:∀x,D.pre x→b7 (bt F ctr N fn body ⟨cuts x,D.res x,D.objs x⟩ (jS D.pats x)))
 (d:∀x,D.pre x→∀p,p∈cuts x→∀s,p.2.I s→b7 (bV F ctr N fn body ⟨cuts x,D.res x,D.objs x⟩ p.1 p.2 s)):bi F.S f (bB D):=
 DV k m o e q t u v D N cuts w y hnd c (fun x h=>(b x h).out) (fun x h p g s j=>(d x h p g s j).out)
def bf:List (FuncId×Ctr C)→FuncId→Option (Ctr C)
 | [],_=>none
 |p::l,f=>bif Nat.beq p.1 f then some p.2 else bf l f
theorem bW{S:bh}:∀{l:List (FuncId×Ctr C)},(∀p,p∈l→bi S p.1 p.2)→cv S (bf l)
 | [],_,f,c,h=>by cases h
 |p::l,hl,f,c,h=>by
  simp only[bf]at h;cases hb:Nat.beq p.1 f with
  |true=>
   simp_all
  |false=>
   rw[hb]at h;exact bW (fun q b=>hl q (List.mem_cons_of_mem _ b)) f c h
def G3(C:bK)(n:Nat)(ty:Ty)(R:C.T n→Prop):Prop:=∀cs,ty.Is cs→∃x,Ers (gg []) (C.enc n x) cs∧R x
variable {a:bc}{n:Nat}
theorem n7(t:bo C){e:Ty}{R:C.T n→Prop}(d:G3 C n e R)(u:C.sz n=e.size)(h:(Ty.slice e).Is [a]):∃l:List (C.T n),Er (gg []) (.tl n l) a∧l.length≤maxLen∧∀x,x∈l→R x:=by
 simp only[Ty.Is,List.cons.injEq,and_true]at h;rcases h with rfl|⟨rows,ex,rfl,hl,b⟩
 ·exact⟨[],.tlN,Nat.zero_le _,fun x h=>by simp at h⟩
 ·have:∃l:List (C.T n),b5 (gg []) (C.sz n) (l.map (C.enc n)) rows∧∀x,x∈l→R x:=by
   clear hl;induction rows with
   |nil=>exact⟨[],⟨rfl,fun i r m h=>by simp at h⟩,fun x h=>by simp at h⟩
   |cons r rows v=>
    obtain⟨l,h1,g⟩:=v fun r d=>b r (List.mem_cons_of_mem _ d)
    obtain⟨x,k,w⟩:=d r (b r (by simp))
    refine⟨x::l,⟨by simp[h1.1],fun i p m g1 f=>?_⟩,fun y z=>?_⟩
    ·cases i with
     |zero=>
      simp at g1 f;subst g1 f;exact⟨k,by rw[← k.1,t.len]⟩
     |succ i=>
      exact h1.2 i p m g1 f
    grind
  obtain⟨l,h1,g⟩:=this;have c:rows.length=l.length:=by rw[← h1.1];simp
  refine⟨l,.tlL u.symm c (fun i r s=>h1.lens i r s) ?_,by omega,g⟩
  intro i y r j x a q1 q2 o q;exact(h1.2 i (C.enc n y) r (by simp[q1]) q2).1.2 j x a o q
theorem T5{E:Env}{v a:bc}(h:Er (C:=C) E (.a v) a):a=v:=by cases h;rfl
variable {l:List (C.T n)}
theorem Nr(i:Nat):C.at n l (i:Int)=l.getD i (C.dflt n):=rfl
variable {i:Nat}
theorem at_get(h:i<l.length):C.at n l (i:Int)=l[i]:=by
 rw[Nr,qh,qq h];rfl
theorem d6(h:i<1000000000):IntKind.wrap .i64 ((i:Int)+1)=((i+1:Nat):Int):=by
 simp only[IntKind.wrap,IntKind.bits];simp;omega
theorem ft{α:Type}{l:List α}{p:α→Prop}(h:∀x∈l.take i,p x)(c:i<l.length)(d:p l[i]):∀x∈l.take (i+1),p x:=by
 intro x b;rw[List.take_succ_eq_append_getElem c,List.mem_append]at b;grind
theorem wrap64{n:Int}(b: -9223372036854775808≤n)(h1:n≤9223372036854775807):IntKind.wrap .i64 n=n:=by
 simp only[IntKind.wrap,IntKind.signed,IntKind.bits];simp;omega
end Go.Sy
namespace Go.Sy
open Go.Am
variable {C:bK}{E:Env}
def gO{T:Nat→Type}:SV T→Bool
 | .i _ _=>true
 | .b _=>true
 | .s _=>true
 |_=>false
variable {n0:Nat}
theorem B7{x:SV C.T}{a:bc}{H:bd}{k:Nat}(b:Er E x a)(c:gO x=true):frz n0 H false (k+1) a=some a:=by
 cases b<;>first|(unfold frz;rfl)|simp[gO]at c
theorem AG{f:bc→Option bc}:∀{as:List bc},(∀a,a∈as→f a=some a)→gm f as=some as
 | [],_=>rfl
 |a::as,h=>by
  simp only[gm,h a List.mem_cons_self,AG (as:=as) fun b c=>h b (List.mem_cons_of_mem _ c)]
theorem xp{f:bc→Option bc}:∀{rs:List (List bc)},(∀r,r∈rs→∀a,a∈r→f a=some a)→lR f rs=some rs
 | [],_=>rfl
 |r::rs,h=>by
  simp only[lR,AG (h r List.mem_cons_self),xp (rs:=rs) fun b c=>h b (List.mem_cons_of_mem _ c)]
theorem s3(m:Nat)(Q:bo C){E':Env}{n0:Nat}{H':bd}{n root:Nat}{full:Bool}{l:List (C.T n)}{v:bc}(B:∀y:C.T n,(C.enc n y).all gO=true)(H:bu E' n0 0 [some (.rows n l full root)] H')(h:Er (C:=C) E' (.R 0) v):
 ∃a,frz n0 H' true (m+2) v=some a∧∀o:Env,Er (C:=C) o (.tl n l) a:=by
 cases h with
 |R I hs=>
  rcases H.obj 0 _ rfl with⟨rfl,_,X,g1,A⟩|⟨b,off,cap,ex,as,g1,A,Y,Z,N,g5,g6,g7,O⟩
  ·rw[I]at g1;simp at g1;subst g1;rcases A with rfl|rfl
   ·exact⟨.nils,by rfl,fun _=>.tlN⟩
   ·exact⟨.list _ [] true,by rfl,fun _=>.tlL rfl rfl (fun i r h=>by simp at h) (fun i y r j x a h=>by simp at h)⟩
  ·rw[I]at g1;simp at g1;have J:=H.low 0 b (Nat.zero_le _) A;have U:=Nat.mul_le_mul_right (C.sz n) N;have cell:∀(i:Nat) (y:C.T n) (j:Nat) (a:bc),l[i]?=some y→j<C.sz n→as[off+i*C.sz n+j]?=some a→∃x,(C.enc n y)[j]?=some x∧Er E' x a∧gO x=true:=by
    intro i y j a h1 t k;have d:j<(C.enc n y).length:=by rw[Q.len];exact t
    exact⟨_,qq d,O i y j _ a h1 (qq d) k,List.all_eq_true.1 (B y) _ (List.getElem_mem d)⟩
   have c:∀(i:Nat) (r:List bc),(cq (C.sz n) l.length (as.drop off))[i]?=some r→i<l.length∧r.length=C.sz n∧∀j,j<C.sz n→r[j]?=as[off+i*C.sz n+j]?:=by
    intro i r g;have q:i<l.length:=by
     have:=lt_of_some g
     rwa[d3]at this
    rw[e8 q]at g;simp at g;have K:=Nat.mul_le_mul_right (C.sz n) (show i+1≤l.length from q)
    grind
   refine⟨.list (C.sz n) (cq (C.sz n) l.length (as.drop off)) (ex && cap==l.length), ?_,fun o=>?_⟩
   ·have e:lR (frz n0 H' false (m+1)) (cq (C.sz n) l.length (as.drop off))=some (cq (C.sz n) l.length (as.drop off)):=by
     refine xp fun r g a P=>?_
     obtain⟨i,q,M⟩:=List.mem_iff_getElem.1 g;obtain⟨h1,t,k⟩:=c i r (by grind)
     obtain⟨j,d,u⟩:=List.mem_iff_getElem.1 P;have D:=k j (by omega)
     rw[qq d,u]at D;obtain⟨x,p,w,z⟩:=cell i l[i] j a (qq h1) (by omega) D.symm
     exact B7 w z
    unfold frz;grind
   ·refine .tlL rfl (by rw[d3]) (fun i r g=>(c i r g).2.1) ?_
    intro i y r j x a q1 q2 L G;obtain⟨h1,t,k⟩:=c i r q2;have d:j<C.sz n:=by grind
    rw[k j d]at G;obtain⟨W,p,w,z⟩:=cell i y j a q1 d G;rw[L]at p;simp at p;subst p;cases w<;>first|exact .i _ _|exact .b _|exact .s _|simp[gO]at z
theorem Gn(d:bo C){E':Env}{n0:Nat}{H':bd}{n root:Nat}{full:Bool}{l:List (C.T n)}{v:bc}(c:∀y:C.T n,(C.enc n y).all gO=true)(e:bu E' n0 0 [some (.rows n l full root)] H')(h:Er (C:=C) E' (.R 0) v):
 ∃a,frz n0 H' true 64 v=some a∧∀b:Env,Er (C:=C) b (.tl n l) a:=s3 62 d c e h
def oL(ps:List (Pat C))(pre:tys ps→Prop)(n:Nat)(l:tys ps→List (C.T n)):Ctr C:=fun a args h K=>nc h ps args fun x=>.need (pre x) (K (.tl n (l x)) h)
variable {F:Cf C}{body:Code}{ctr:FuncId→Option (Ctr C)}{f:FuncId}{fn:Func}
theorem ky(o:bo C)(O:fB F.S F.noExt)(Q:dk F.S)(e:cv F.S ctr)(U:F.S.P.funcs[f]?=some fn)(W:fn.body=some body)(X:F.S.hook f=none)(Y:F.S.pol f= .pure)
 (ps:List (Pat C)) (pre:tys ps→Prop) (n:Nat) (l:tys ps→List (C.T n)) (full:Bool) (root:Nat) (q:∀y:C.T n,(C.enc n y).all gO=true) (N:Nat) (cuts:tys ps→List (Nat×dN C)) (hn:ps.length≤fn.ntmps) (Z:fn.ntmps≤512) (hnd:nodupB ((dO body []).map (·.1))=true)
 (b:∀x,pre x→b7 (bt F ctr N fn body ⟨cuts x,.R 0,[.rows n (l x) full root]⟩ (jS ps x)))
 (d:∀x,pre x→∀p,p∈cuts x→∀s,p.2.I s→b7 (bV F ctr N fn body ⟨cuts x,.R 0,[.rows n (l x) full root]⟩ p.1 p.2 s)):bi F.S f (oL ps pre n l):=by
 intro E lo z args h H K av A t B;obtain⟨x,⟨c,D⟩,k⟩:=jH o t B A;have w:∀(ps:List (Pat C)) (y:tys ps),(jS ps y).length=ps.length:=by
  intro ps;induction ps with
  |nil=>intro y;rfl
  |cons p ps ih=>intro y;simp only[jS,qm,ih]
 have g:bu (gg H) ((F.S.pol f).lo lo H) 0 ([]:SH C) H:=mV (by simp only[Pol.lo];grind)
 obtain⟨m,v,H',E',h1,u,G⟩:=rI o O Q e U W X ⟨cuts x,.R 0,[.rows n (l x) full root]⟩ N (by grind) Z hnd (b x c).out (fun p L s M=>(d x c p L s M).out) g k
 rw[Y]at h1 u;obtain⟨a,j,J⟩:=Gn o q u G;have j:frz H.length H' true 64 v=some a:=j;exact⟨a,H,_,_,E,⟨m,by rw[h1];simp only[finish,j,Option.map_some]⟩,LeN.refl _ _,qe _,t,qe _,J E,D⟩
def Fu(ps:List (Pat C))(pre:tys ps→Prop)(n:Nat)(l:tys ps→List (C.T n))(k:IntKind)(w:tys ps→Int):Ctr C:=fun a args h K=>nc h ps args fun x=>.need (pre x) (K (.tup [.tl n (l x),.i k (w x)]) h)
theorem vY(z:bo C)(hX:fB F.S F.noExt)(hL:dk F.S)(j:cv F.S ctr)(hf:F.S.P.funcs[f]?=some fn)(hb:fn.body=some body)(hk:F.S.hook f=none)(hp:F.S.pol f= .pure)
 (ps:List (Pat C)) (pre:tys ps→Prop) (n:Nat) (l:tys ps→List (C.T n)) (k:IntKind) (w:tys ps→Int) (full:Bool) (root:Nat) (A:∀y:C.T n,(C.enc n y).all gO=true) (N:Nat) (cuts:tys ps→List (Nat×dN C)) (hn:ps.length≤fn.ntmps) (hs:fn.ntmps≤512) (hnd:nodupB ((dO body []).map (·.1))=true)
 (c:∀x,pre x→b7 (bt F ctr N fn body ⟨cuts x,.tup [.R 0,.i k (w x)],[.rows n (l x) full root]⟩ (jS ps x)))
 (e:∀x,pre x→∀p,p∈cuts x→∀s,p.2.I s→b7 (bV F ctr N fn body ⟨cuts x,.tup [.R 0,.i k (w x)],[.rows n (l x) full root]⟩ p.1 p.2 s)):bi F.S f (Fu ps pre n l k w):=by
 intro E lo U args h H K av W B X;obtain⟨x,⟨d,Z⟩,t⟩:=jH z B X W;have L:∀(ps:List (Pat C)) (y:tys ps),(jS ps y).length=ps.length:=by
  intro ps;induction ps with
  |nil=>intro y;rfl
  |cons p ps ih=>intro y;simp only[jS,qm,ih]
 have o:bu (gg H) ((F.S.pol f).lo lo H) 0 ([]:SH C) H:=mV (by simp only[Pol.lo];grind)
 obtain⟨m,v,H',E',h1,G,h4⟩:=rI z hX hL j hf hb hk ⟨cuts x,.tup [.R 0,.i k (w x)],[.rows n (l x) full root]⟩ N (by grind) hs hnd (c x d).out (fun p hm s hI=>(e x d p hm s hI).out) o t
 rw[hp]at h1 G;cases h4 with
 |tup hl J=>
  rename_i ls;obtain⟨a0,g,rfl⟩:∃a g,ls=a::g:=by cases ls with|nil=>cases hl|cons a g=>grind
  obtain⟨a1,l2,rfl⟩:∃a l2,g=a::l2:=by cases g with|nil=>cases hl|cons a l2=>grind
  obtain rfl:l2=[]:=by grind
  have M:=J 0 _ _ rfl rfl;have e1:=J 1 _ _ rfl rfl;obtain rfl:a1= .int k (w x):=by cases e1;rfl
  obtain⟨a,q,k2⟩:=s3 61 z A G M;have q:frz H.length H' true 63 a0=some a:=q;have O:frz H.length H' true 63 (.int k (w x))=some (.int k (w x)):=by rfl
  have Q:frz H.length H' true 64 (.tup [a0,.int k (w x)])=some (.tup [a,.int k (w x)]):=by
   unfold frz;simp only[gm,q,O,Option.map_some]
  refine⟨.tup [a,.int k (w x)],H,_,_,E,⟨m,by rw[h1];simp only[finish,Q,Option.map_some]⟩,LeN.refl _ _,qe _,B,qe _, ?_,Z⟩
  refine .tup rfl ?_;intro i u b D Y;rcases i with _|_|i
  ·grind
  ·cases D;cases Y;exact .i _ _
  ·simp at D
end Go.Sy
namespace Go.Sy
open Go.RowKit Go.Am
variable {C:bK}{E:Env}
def s1(j k m root:Nat)(h:SH C):SH C:=match h[j]? with
 |some (some (.cells cs))=>match cs[k]? with
  |some (.a .nils)=>(h++[some (Go.Sy.Obj.rows m [] true root)]).set j (some (.cells (cs.set k (.R h.length))))
  |some (.sl sz id off len cap ex)=>match bF h id with
   |some (.cells ds)=>if sz=C.sz m∧sz≠0∧len≤cap∧off+cap*sz≤ds.length∧(ex=true∨off+cap*sz=ds.length)∧id≠j then
    match jA m (gN sz len (ds.drop off))with
    |some xs=>(h.set id none++[some (Go.Sy.Obj.rows m xs (ex||Nat.beq cap len) id)]).set j (some (.cells (cs.set k (.R h.length))))
    |none=>h
    else h
   |_=>h
  |_=>h
 |_=>h
variable {H:bd}{h:SH C}{lo:Nat}
theorem bu.recell{d:Nat}(a:bu E lo d h H){j:Nat}{cs cs':List (SV C.T)}(q:h[j]?=some (some (.cells cs)))(hc:∀as,Ers E cs as→Ers E cs' as):bu E lo d (h.set j (some (.cells cs'))) H:=by
 have look:∀{id:Nat} {o:Obj C.T},(h.set j (some (.cells cs')))[id]?=some (some o)→∃o',h[id]?=some (some o'):=by
  grind
 refine⟨fun id o c=>?_,fun id g o o' b h1 n=>?_,fun b cs h1=>⟨(a.fr b cs h1).1,fun id o c=>?_⟩,fun id p=>a.fresh id (by grind),a.low,a.bnd,a.own,a.βω,by rw[qu];exact a.wl,a.ll⟩
 ·rw[qg]at c;split at c
  ·rename_i e;subst e;split at c
   ·cases c;obtain⟨b,as,q1,q2,k,l⟩:=a.obj _ _ q;exact⟨b,as,q1,q2,k,hc as l⟩
   ·cases c
  ·exact a.obj id o c
 ·obtain⟨_,f⟩:=look h1;obtain⟨_,m⟩:=look n;exact a.inj id g _ _ b f m
 ·obtain⟨_,f⟩:=look c;exact(a.fr b cs h1).2 id _ f
theorem FH(hC:bo C)(t:bu E lo 0 h H)(j k m root:Nat):∃E',LeN h.length H.length E E'∧bu E' lo 0 (s1 j k m root h) H:=by
 have c:∃E',LeN h.length H.length E E'∧bu E' lo 0 h H:=⟨E,⟨Env.le.refl E,fun _ _=>⟨rfl,rfl⟩,fun _ _ x=>.inl x,fun _ _ x=>.inl x⟩,t⟩
 unfold s1;split
 ·rename_i cs hj;split
  ·rename_i J;have d:=t.putN (N:=H.length) h.length (Go.Sy.Obj.rows m [] true root) none .nils root (qe _) (fun b _ q=>absurd rfl q) (fun b B=>by cases B) (fun _=>.inl ⟨rfl,by simp[Env.put],.nils,by simp[Env.put],.inl rfl⟩)
   have u:h.set h.length none=h:=List.set_eq_of_length_le (qe _);rw[u]at d;refine⟨_,d.1,d.2.recell (j:=j) (cs:=cs) (cs':=cs.set k (.R h.length)) (by grind) fun as s=>⟨by rw[qu];exact s.1,fun i x a h1 A=>?_⟩⟩
   rw[qg]at h1;split at h1
   ·rename_i e;subst e;split at h1
    ·cases h1;have D:=s.2 k _ a J A;cases D;exact .R (by simp[Env.put]) rfl
    ·cases h1
   ·exact s.2 i x a h1 A
  ·rename_i sz id off len cap ex J;split
   ·rename_i ds ho;split
    ·rename_i hc;obtain⟨p,ac,L,ad,M,ae⟩:=hc;split
     ·rename_i xs K;have f:=bm ho;obtain⟨b,as,g1,gw,Y,Z⟩:=t.obj id _ f;have hl:=Z.1;have v:=lt_of_some Y;have W:=Nat.mul_le_mul_right sz L;have g:=gG hC (fP (n:=len) (z:=sz) (Z.drop off) (by simp;omega)) K
      rw[p]at g;have G:xs.length=len:=by
       have:=g.1;rw[d3]at this
       grind
      have l:cI E m xs as off:=by
       intro i y X xx aa q1 q2 q3;have I:i<len:=by grind
       have w:=g.2 i (C.enc m y) ((as.drop off|>.drop (i*sz)).take sz) (by simp[q1]) (by rw[← p];exact e8 I)
       have ab:X<sz:=by have:=lt_of_some q2;rw[hC.len]at this;omega
       refine w.1.2 X xx aa q2 ?_;grind
      have d:=t.putN (N:=H.length) (H':=H) id (Go.Sy.Obj.rows m xs (ex||Nat.beq cap len) id) (some b) (.sl sz b off len cap ex) id (qe _) (fun b _ q=>(q rfl).elim) (fun b' B=>by
       simp at B;subst B;exact⟨v,t.low id b (Nat.zero_le _) g1,fun cs O=>(t.fr _ cs O).2 id _ f g1,fun i o I P Q=>I (t.inj i id o _ _ P f Q g1),.inr gw⟩)
       (fun U=>.inr ⟨b,off,cap,ex,as,by simp only[Env.put,if_true,p,G],by simp[Env.put],by simp[Env.put],Y,by omega,by grind,M.imp_right fun h=>by grind,fun hf=>by
        simp_all,l.mono U.le⟩)
      refine⟨_,d.1,d.2.recell (j:=j) (cs:=cs) (cs':=cs.set k (.R h.length)) (by grind) fun es s=>⟨by rw[qu];exact s.1,fun i x a h1 A=>?_⟩⟩
      rw[qg]at h1;split at h1
      ·rename_i e;subst e;split at h1
       ·cases h1;have D:=s.2 k _ a J A;cases D with
        |sl hβ=>
         have e1:=d.1.le.β _ _ g1;rw[e1]at hβ;cases hβ;exact .R (by simp[Env.put]) rfl
       ·cases h1
      ·exact s.2 i x a h1 A
     ·exact c
    ·exact c
   ·exact c
  ·exact c
 ·exact c
theorem Cl(j k m root:Nat)(h:SH C):h.length≤(s1 j k m root h).length:=by
 unfold s1;split
 all_goals grind
def fc(h a:SH C):Prop:=h.length≤a.length∧∀(E:Env) (lo:Nat) (H:bd),bu E lo 0 h H→∃E',LeN h.length H.length E E'∧bu E' lo 0 a H
theorem fc.refl(h:SH C):fc h h:=⟨qe _,fun E lo H a=>⟨E,⟨Env.le.refl E,fun _ _=>⟨rfl,rfl⟩,fun _ _ x=>.inl x,fun _ _ x=>.inl x⟩,a⟩⟩
theorem fc.trans{a b c:SH C}(h:fc a b)(k:fc b c):fc a c:=⟨Nat.le_trans h.1 k.1,fun E lo H j=>by
 obtain⟨E1,h1,d⟩:=h.2 E lo H j;obtain⟨e,f,g⟩:=k.2 E1 lo H d;exact⟨e,h1.trans h.1 (qe _) f,g⟩⟩
theorem Ej(b:bo C)(j k m root:Nat)(h:SH C):fc h (s1 j k m root h):=⟨Cl j k m root h,fun E lo H a=>FH b a j k m root⟩
def ze(j:Nat)(a:SH C)(k:Nat)(v:SV C.T)(h:SH C):SH C:=match v with
 | .R i=>match bF a i with
  |some (.rows m _ _ root)=>s1 j k m root h
  |_=>h
 |_=>h
def qz(j:Nat)(a:SH C):Nat→List (SV C.T)→SH C→SH C
 |_,[],h=>h
 |k,v::vs,h=>qz j a (k+1) vs (ze j a k v h)
def yz(j:Nat)(b:SH C)(h:SH C):SH C:=match bF b j with
 |some (.cells a)=>qz j b 0 a h
 |_=>h
def j7(foot:Nat→Bool)(a:SH C):Nat→SH C→SH C
 |0,h=>h
 |j+1,h=>j7 foot a j (bif foot j then yz j a h else h)
theorem CL(a:bo C)(j:Nat)(b:SH C)(k:Nat)(v:SV C.T)(h:SH C):fc h (ze j b k v h):=by
 unfold ze;split
 ·split
  ·exact Ej a _ _ _ _ _
  ·exact fc.refl h
 ·exact fc.refl h
theorem oW(b:bo C)(j:Nat)(a:SH C):∀(vs:List (SV C.T)) (k:Nat) (h:SH C),fc h (qz j a k vs h)
 | [],k,h=>by exact fc.refl h
 |v::vs,k,h=>by
  exact fc.trans (CL b j a k v h) (oW b j a vs (k+1) _)
theorem BQ(b:bo C)(j:Nat)(a h:SH C):fc h (yz j a h):=by
 unfold yz;split
 ·exact oW b j a _ 0 h
 ·exact fc.refl h
theorem oj(b:bo C)(foot:Nat→Bool)(a:SH C):∀(n:Nat) (h:SH C),fc h (j7 foot a n h)
 |0,h=>fc.refl h
 |n+1,h=>by
  refine fc.trans ?_ (oj b foot a n _);cases foot n
  ·exact fc.refl h
  ·exact BQ b n a h
end Go.Sy

import Derived.Test.YtcholkmididfmaaGreatDoorLib3
set_option linter.unusedVariables false
set_option linter.unusedSimpArgs false
namespace Go.Sy
open Go.Am
variable {C:bK}{E:Env}{P:Program}
variable {h:SH C}
theorem bm{id:Nat}{o:Obj C.T}(e:bF h id=some o):h[id]?=some (some o):=by
 unfold bF at e;grind
structure bo(C:bK):Prop where
 len:∀(n:Nat) (x:C.T n),(C.enc n x).length=C.sz n
 one:∀(n:Nat) (x:C.T n),(C.enc n x).all qN=true
 ids:∀(n:Nat) (x:C.T n),(C.enc n x).all lB=true
 flat:∀(n:Nat) (x:C.T n),C.flat n=true→(C.enc n x).all Nm=true
 dec:∀(n:Nat) (cs:List (SV C.T)) (x:C.T n),C.dec n cs=some x→∀(E:Env) (as:List bc),Ers E cs as→Ers E (C.enc n x) as
variable {as:List bc}{i n:Nat}
theorem Ers.of_at{l:List (C.T n)}{off:Nat}{y:C.T n}(c:bo C)(h:∀(i:Nat) (y:C.T n) (j:Nat) (x:SV C.T) (a:bc),l[i]?=some y→(C.enc n y)[j]?=some x→as[off+i*C.sz n+j]?=some a→Er E x a)
 (f:l[i]?=some y) (hl:off+i*C.sz n+C.sz n≤as.length):Ers E (C.enc n y) ((as.drop (off+i*C.sz n)).take (C.sz n)):=by
 refine⟨by rw[c.len];simp;omega,fun j x a h1 e=>?_⟩
 grind
variable {z:Nat}
theorem d0(h:i<n):i*z+z≤n*z:=by
 have:(i+1)*z≤n*z:=Nat.mul_le_mul_right _ h;grind
theorem py{o:Nat}:as.drop o=(as.drop o).take z++as.drop (o+z):=by
 rw[← List.drop_drop,List.take_append_drop]
variable {H:bd}{K:SV C.T→Tree}{a b:bc}{lo:Nat}{t:TypeId}{wlo:Nat}{x:SV C.T}
theorem sM(U:bo C)(hH:bu E lo wlo h H){i:SV C.T}(w:Er E x a)(y:Er E i b)
 (c:(mB P t h x i K).holds):Ret E (cu P t a b) K:=by
 unfold mB at c;split at c
 ·rename_i len e hu;split at c
  ·rename_i hc;split at c
   ·cases w with
    |ptr L=>
     obtain⟨j,h1,g,m⟩:=jM y c;refine⟨_,_, ?_,.ptr L,m⟩;simp only[cu,h1,hu,g,hc,and_self,if_true]
   ·obtain⟨j,h1,g,m⟩:=jM y c;split at m
    ·cases w with
     |fpI e1 hl A=>
      rename_i as all rest;subst e1;have B:Ers E _ _:=⟨hl,A⟩;have:=B.drop (j*bl P e);refine⟨_,_, ?_,.fpI (rest:=rest) (List.drop_append_of_le_length (by omega)) this.1 this.2,m⟩
      simp only[cu,h1,hu,g,hc,and_self,if_true]
     |fpP M e1 hl A=>
      rename_i as all rest b off;have B:Ers E _ _:=⟨hl,A⟩;have:=B.drop (j*bl P e);have e2:all.drop (off+j*bl P e)=as.drop (j*bl P e)++rest:=by rw[← List.drop_drop,e1,List.drop_append_of_le_length (by omega)]
      refine⟨.ptr b (off+j*bl P e),_, ?_,.fpP (rest:=rest) M e2 this.1 this.2,m⟩;simp only[cu,h1,hu,g,hc,and_self,if_true]
    ·exact qw m
   ·cases w;obtain⟨j,h1,g,m⟩:=jM y c;refine⟨_,_, ?_,.a _,m⟩;simp only[cu,h1,hu,g,hc,and_self,if_true]
   ·exact qw c
  ·exact qw c
 ·rename_i e hu;split at c
  ·rename_i hc;split at c
   ·rename_i n l;split at c
    ·rename_i f;split at c
     ·rename_i k j J;obtain⟨⟨G,h1⟩,g⟩:=c;rw[cr y J];have D:=bK.at_get (C:=C) G h1;have u:iJ (.int k j)=some j.toNat:=by simp[iJ,G]
      cases w with
      |tlN=>grind
      |tlL N hl W A=>
       rename_i z rows ex;have I:j.toNat<rows.length:=by omega
       have o:rows[j.toNat]?=some rows[j.toNat]:=qq I;refine⟨.ipt rows[j.toNat],_, ?_,.fpI (rest:=[]) (List.append_nil _).symm ?_ (fun p q r g1 Q=>A j.toNat _ _ p q r D o g1 Q),g⟩
       ·simp only[cu,u,hu,hc,if_true,N,f,o,Option.map_some]
       ·rw[U.len,W _ _ o]
      |tlS N hl M O X A=>
       rename_i z b off len cap as ex;have hm:=d0 (z:=C.sz n) (show j.toNat<l.length by omega)
       have B:=Ers.of_at U A D (by omega)
       refine⟨.ptr b (off+j.toNat*C.sz n),_, ?_,.fpP M py B.1 B.2,g⟩;simp only[cu,hu,hc,if_true,N,f];grind
     ·exact qw c
    ·exact qw c
   ·rename_i id;split at c
    ·rename_i n l full root O;split at c
     ·rename_i f;split at c
      ·rename_i k j J;obtain⟨⟨G,h1⟩,g⟩:=c;rw[cr y J];have u:iJ (.int k j)=some j.toNat:=by simp[iJ,G]
       cases w with
       |R Y W=>
        rcases hH.obj id _ (bm O)with⟨rfl,_⟩|⟨b,off,cap,ex,as,g1,Q,_,g3,g4,g5,g6,g7,g8⟩
        ·grind
        ·rw[Y]at g1;simp at g1;subst g1;refine⟨.ptr b (off+j.toNat*C.sz n),_, ?_,.ep (off:=0) Y,g⟩;simp only[cu,hu,hc,if_true,f];grind
      ·exact qw c
     ·exact qw c
    ·exact qw c
   ·split at c
    ·rename_i sz id off len cap ex f;cases w with
     |sl L=>
      obtain⟨j,h1,g,m⟩:=jM y c;refine⟨_,_, ?_,.ptr L,m⟩;simp only[cu,hu,hc,if_true,f];grind
    ·exact qw c
   ·split at c
    ·rename_i sz rows ex f;cases w;obtain⟨j,h1,g,m⟩:=jM y c;obtain⟨r,Z,h5⟩:=bI m;refine⟨_,_, ?_,.a _,h5⟩;simp only[cu,h1,hu,hc,if_true,f,Z,Option.map_some]
    ·exact qw c
   ·exact qw c
  ·exact qw c
 ·exact qw c
theorem Ct{i:SV C.T}(o:Er E x a)(p:Er E i b)(c:(yo P t x i K).holds):Ret E (jv P t a b) K:=by
 unfold yo at c;split at c
 ·rename_i len e hu;split at c
  ·rename_i hc;split at c
   ·cases o with
    |agg hl A=>
     obtain⟨j,h1,l,m⟩:=jM p c;obtain⟨v,g,f⟩:=bI m;obtain⟨w,u,y⟩:=oR (E:=E) ⟨hl,A⟩ g;exact⟨w,v,by simp only[jv,h1,hu,l,hc,and_self,if_true,u],y,f⟩
   ·cases o;obtain⟨j,h1,l,m⟩:=jM p c;obtain⟨v,g,f⟩:=bI m;exact⟨v,_,by simp only[jv,h1,hu,l,hc,and_self,if_true,g],.a v,f⟩
   ·exact qw c
  ·exact qw c
 ·rename_i hu;split at c
  ·cases o;cases p;split at c
   ·obtain⟨v,g,f⟩:=bI c;exact⟨_,_,by simp[jv,iJ,hu,g],.a _,f⟩
   ·exact qw c
  ·split at c
   ·rename_i s k j h1 l;rw[ed o h1,cr p l];obtain⟨⟨m,g⟩,f⟩:=c;have q:j.toNat<s.length:=by omega
    refine⟨_,_, ?_,.i _ _,f⟩;simp only[jv,iJ,if_true,hu,qq q,Option.map_some];grind
   ·exact qw c
 ·exact qw c
theorem HU(p:bu E lo wlo h H)(f:Er E x a)(c:(IW P t h x K).holds):Ret E (jJ P t H a) K:=by
 unfold IW at c;split at c
 ·rename_i hu;split at c
  ·cases f;exact⟨_,_,by simp[jJ,hu],.a _,c⟩
  ·cases f;exact⟨_,_,by simp[jJ,hu],.i _ _,c⟩
  ·exact qw c
 ·rename_i n e hu;split at c
  ·exact qw c
  ·exact qw c
  ·exact qw c
  ·rename_i h1 g u;refine⟨.int .i64 n,_, ?_,.a _,c⟩;have q:∀b,a≠ .mapr b:=by
    rintro b rfl;cases f with
    |a=>grind
    |mapr=>grind
    |any=>exact g rfl
    |R _ j=>simp[o8]at j
   unfold jJ;grind
 ·rename_i e hu;split at c
  ·cases f;exact⟨_,_,by simp[jJ,hu],.a _,c⟩
  ·cases f;exact⟨_,_,by simp[jJ,hu],.a _,c⟩
  ·cases f with
   |sl y=>exact⟨_,_,by simp[jJ,hu],.a _,c⟩
  ·cases f with
   |tlN=>exact⟨_,_,by simp[jJ,hu],.i _ _,c⟩
   |tlL h1 g=>exact⟨_,_,by simp[jJ,hu,g],.i _ _,c⟩
   |tlS h1 g=>exact⟨_,_,by simp[jJ,hu,g],.i _ _,c⟩
  ·rename_i id;split at c
   ·rename_i n l full root m;cases f with
    |R k j=>
     rcases p.obj id _ (bm m)with⟨rfl,_,w,g1,o⟩|⟨b,off,cap,ex,as,g1,_⟩
     ·rw[k]at g1;simp at g1;subst g1;rcases o with rfl|rfl
      ·exact⟨_,_,by simp[jJ,hu],.i _ _,c⟩
      ·exact⟨_,_,by simp[jJ,hu],.i _ _,c⟩
     ·rw[k]at g1;simp at g1;subst g1;exact⟨_,_,by simp[jJ,hu],.i _ _,c⟩
   ·exact qw c
  ·exact qw c
 ·exact qw c
theorem vR(Q:bo C)(q:bu E lo wlo h H)(k:Er E x a)(c:(xe P t h x K).holds):Ret E (hM P t H a) K:=by
 unfold xe at c;split at c
 ·rename_i id off;split at c
  ·rename_i cs p;split at c
   ·obtain⟨v,h1,f⟩:=bI c;cases k with
    |ptr R=>
     obtain⟨I,as,g1,_,A,B⟩:=q.obj id _ (bm p);rw[R]at g1;simp at g1;subst g1;obtain⟨w,g,j⟩:=oR (B.drop off) h1;exact⟨w,v,by simp only[hM,atA,A,Option.bind_some,g],j,f⟩
   ·exact qw c
  ·exact qw c
 ·rename_i id i off;split at c
  ·rename_i n l full root p;obtain⟨⟨J,h1⟩,c⟩:=c;split at c
   ·obtain⟨v,f,g⟩:=bI c;have m:=bK.at_get (C:=C) J h1;cases k with
    |ep U=>
     rename_i z b o len cap ex;rcases q.obj id _ (bm p)with⟨rfl,_⟩|⟨I,D,G,M,as,g1,A,_,B,N,Y,Z,g7,O⟩
     ·grind
     ·rw[U]at g1;have X:=d0 (z:=C.sz n) (show i.toNat<l.length by omega)
      have hc:=Nat.mul_le_mul_right (C.sz n) N;have y:=(Ers.of_at Q O m (by omega)).drop off
      rw[List.drop_take]at y;obtain⟨w,j,L⟩:=ni (rest:=as.drop (o+i.toNat*C.sz n+C.sz n)) y f;have e:as.drop (o+i.toNat*C.sz n+off)=((as.drop (o+i.toNat*C.sz n)).drop off).take (C.sz n-off)++as.drop (o+i.toNat*C.sz n+C.sz n):=by
       rw[List.drop_drop,show o+i.toNat*C.sz n+C.sz n=(o+i.toNat*C.sz n+off)+(C.sz n-off)by omega,← List.drop_drop (l:=as) (i:=C.sz n-off),List.take_append_drop]
      exact⟨w,v,by simp only[hM,atA,Option.bind_some];grind,L,g⟩
   ·exact qw c
  ·exact qw c
 ·obtain⟨v,h1,f⟩:=bI c;cases k with
  |fpI e hl u=>
   subst e;obtain⟨w,g,j⟩:=ni (E:=E) ⟨hl,u⟩ h1;exact⟨w,v,by exact g,j,f⟩
  |fpP W e hl u=>
   obtain⟨w,g,j⟩:=ni (E:=E) ⟨hl,u⟩ h1;have:=(q.fr _ _ W).1;exact⟨w,v,by simp only[hM,atA,this,e];exact g,j,f⟩
 ·cases k;obtain⟨v,h1,f⟩:=bI c;exact⟨v,_,by simp only[hM,atA,Option.bind_some,h1],.a v,f⟩
 ·cases k;obtain⟨v,h1,f⟩:=bI c;exact⟨v,_,by simp only[hM,atA,Option.bind_some,h1],.a v,f⟩
 ·exact qw c
variable {d:TypeId}{r:bc}{s:TypeId}{v:bc}
theorem zR(h:fj P s d [] v=some r)(H:bd):fj P s d H v=some r:=by
 unfold fj at h ⊢;grind
theorem y2(h:ee P s d [] v=some r)(H:bd):ee P s d H v=some r:=by
 unfold ee at h ⊢;cases e:iu P s d v with
 |some x=>grind
 |none=>rw[e]at h;exact zR h H
theorem wA:∀(n:Nat) {xs:List (SV C.T)} {c:List bc} {f:List UInt8},Ers E xs c→n≤xs.length→r8 (xs.take n)=some f→df (cq 1 n c)=some f
 |0,xs,c,f,e,g,h=>by
  simp only[List.take_zero,r8,qa]at h;subst h;rfl
 |n+1,[],c,f,e,g,h=>by simp at g
 |n+1,x::xs,c,f,e,g,h=>by
  obtain⟨a,c,rfl,h1,e⟩:=e.inv_cons;simp only[List.take_succ_cons,r8]at h;split at h
  ·rename_i m j;rw[qd]at h;obtain⟨cs,k,rfl⟩:=h;have:=wA n e (by grind) k
   rw[cr h1 j];show(df (cq 1 n c)).map _=_;rw[this];rfl
  ·cases h
theorem sb{n:Nat}:∀{l:List (C.T n)} {as:List bc},(∀y,y∈l→∃x m,C.enc n y=[x]∧intOf x=some (.u8,m))→l.length≤as.length→(∀(i:Nat) (y:C.T n) (x:SV C.T) (a:bc),l[i]?=some y→(C.enc n y)[0]?=some x→as[i]?=some a→Er E x a)→df (cq 1 l.length as)=some (l.map (A6 C n))
 | [],as,_,_,_=>rfl
 |y::l,[],_,hl,_=>by simp at hl
 |y::l,a::as,h,hl,e=>by
  obtain⟨x,m,h1,c⟩:=h y (by simp)
  have f:=e 0 y x a rfl (by rw[h1];rfl) rfl
  have g:=sb (l:=l) (as:=as) (fun z j=>h z (List.mem_cons_of_mem _ j)) (by grind) (fun i z x a q1 q2 k=>e (i+1) z x a q1 q2 k)
  rw[cr f c];show(df (cq 1 l.length as)).map _=_;rw[g];simp only[Option.map_some,List.map_cons,A6,h1,c]
theorem Ge(A:bu E lo wlo h H)(k:Er E x a)(c:(Bd P s d h x K).holds):Ret E (ee P s d H a) K:=by
 unfold Bd at c;split at c
 ·cases k;obtain⟨v,h1,G⟩:=bI c;exact⟨v,_,y2 h1 H,.a v,G⟩
 ·cases k;split at c
  ·rename_i g f;exact⟨_,_,by simp[ee,iu,g,f],.i _ _,c⟩
  ·exact qw c
 ·cases k;split at c
  ·rename_i g f;exact⟨_,_,by simp[ee,iu,g,f],.s _,c⟩
  ·exact qw c
 ·rename_i sz id off len cap ex;cases k with
  |sl N=>
  rename_i b;split at c
  ·rename_i e cs g f p;split at c
   ·rename_i j;split at c
    ·rename_i hc;split at c
     ·rename_i D q;obtain⟨rfl,hl⟩:=hc;obtain⟨O,Q,g1,I,m,o⟩:=A.obj id _ (bm p);rw[N]at g1;simp at g1;subst g1;have w:=o.1;have:=wA len (o.drop off) (by grind) q
      refine⟨.str D,_, ?_,.s _,c⟩;simp only[ee,iu,f,fj,j,m];grind
     ·exact qw c
    ·exact qw c
   ·exact qw c
  ·exact qw c
 ·rename_i id;cases k with
  |R B _=>
  split at c
  ·rename_i e n l full root g f p;split at c
   ·rename_i j;split at c
    ·rename_i u;obtain⟨J,c⟩:=c;refine⟨.str (l.map (A6 C n)),_, ?_,.s _,c⟩;rcases A.obj id _ (bm p)with⟨rfl,_,U,g1,m⟩|⟨b,off,cap,ex,as,g1,m,I,o,W,L,X,Y,M⟩
     ·rw[B]at g1;simp at g1;subst g1;rcases m with rfl|rfl
      ·simp only[ee,iu,g,f,fj,j];rfl
      ·simp only[ee,iu,g,f,fj,j,u];rfl
     ·rw[B]at g1;simp at g1;subst g1;rw[u,Nat.mul_one]at L;have:=sb (E:=E) (l:=l) (as:=as.drop off) J (by grind) (fun i y x a q1 q2 Z=>M i y 0 x a q1 q2 (by grind))
      simp only[ee,iu,f,fj,j,o,u];grind
    ·exact qw c
   ·exact qw c
  ·exact qw c
 ·exact qw c
theorem rm{ok:Bool}(m:Er E x a)(c:(kD P x t ok K).holds):Ret E (eq P a t ok) K:=by
 unfold kD at c;have e:∀{x y:SV C.T} {a b:bc},Er E x a→Er E y b→Er E (.tup [x,y]) (.tup [a,b]):=fun h k=>.tup rfl (Ers.nil.cons k|>.cons h).2
 split at c
 ·cases m;obtain⟨v,h1,g⟩:=bI c;exact⟨v,_,h1,.a v,g⟩
 ·cases m with
  |iface j=>
   rename_i u x a;simp only[eq];split at c
   ·rename_i l hu;simp only[hu];split at c
    ·rename_i i o;simp only[o];split at c
     ·rename_i hl;split at c
      ·obtain⟨z,h1,g⟩:=bI c;exact⟨_,_,by grind,e (.a z) (.a _),g⟩
      ·exact qw c
     ·rename_i hl;rw[if_neg hl];refine⟨_,_,rfl, ?_,c⟩;split
      ·exact e (.iface j) (.a _)
      ·exact .iface j
    ·exact qw c
   ·split
    ·grind
    ·split at c
     ·rename_i f;rw[if_pos f];refine⟨_,_,rfl, ?_,c⟩;split
      ·exact e j (.a _)
      ·exact j
     ·rename_i f;split at c
      ·obtain⟨z,h1,g⟩:=bI c;exact⟨_,_,by grind,e (.a z) (.a _),g⟩
      ·exact qw c
    grind
   ·exact qw c
 ·exact qw c
inductive jG(E:Env):List (Nat×SV C.T)→List (Nat×bc)→Prop
 |nil:jG E [] []
 |cons {i:Nat} {x:SV C.T} {a:bc} {xs:List (Nat×SV C.T)} {as:List (Nat×bc)}:Er E x a→jG E xs as→jG E ((i,x)::xs) ((i,a)::as)
theorem nf{e:Nat→Option (Nat×Nat)}:∀{c:List (Nat×SV C.T)} {as:List (Nat×bc)} {cells:List (SV C.T)} {g:List bc} {r:List (SV C.T)},jG E c as→Ers E cells g→rk e cells c=some r→∃m,jQ e g as=some m∧Ers E r m
 | [],_,cells,g,r,j,hc,h=>by
  cases j;simp only[rk,qa]at h;subst h;exact⟨g,rfl,hc⟩
 |(i,v)::rest,_,cells,g,r,j,hc,h=>by
  cases j with
  |cons w j=>
   simp only[rk]at h;split at h
   ·cases h
   ·rename_i off size q;split at h
    ·cases h
    ·rename_i vs l;have k:=oO w l;split at h
     ·cases h
     ·rename_i f;simp only[not_or,Bool.not_eq_true,Bool.not_eq_false']at f;obtain⟨h1,A,u⟩:=f;have y:=jo k u;obtain⟨m,B,D⟩:=nf j (((hc.take off).append k).append (hc.drop (off+vs.length))) h;have o:=k.1;have p:=hc.1;simp only[jQ];grind
theorem BV{f:List (Nat×SV C.T)}{as:List (Nat×bc)}(m:jG E f as)(c:(yU P t f K).holds):Ret E (oh P t as) K:=by
 unfold yU at c;unfold oh;split at c
 ·exact qw c
 ·rename_i z o;simp only[o];split at c
  ·exact qw c
  ·rename_i g;rw[if_neg g];split at c
   ·rename_i fs hu;simp only[hu];split at c
    ·rename_i hc;rw[if_pos hc];obtain⟨cs,h1,k⟩:=bI c;obtain⟨p,l,j⟩:=nf m (Ers.mapA z.cells) h1;exact⟨_,_,by rw[l];rfl,.agg j.1 j.2,k⟩
    ·exact qw c
   ·rename_i n e hu;simp only[hu];split at c
    ·rename_i hc;rw[if_pos hc];obtain⟨cs,h1,k⟩:=bI c;obtain⟨p,l,j⟩:=nf m (Ers.mapA z.cells) h1;exact⟨_,_,by rw[l];rfl,.agg j.1 j.2,k⟩
    ·exact qw c
   ·exact qw c
end Go.Sy
namespace Go.Sy
open Go.Am
variable {C:bK}
def kH{T:Nat→Type}(d:Nat):Option (SV T)→Option Nat
 |none=>some d
 |some (.a (.int _ (.ofNat m)))=>some m
 |_=>none
def nH{T:Nat→Type}(d:Int):Option (SV T)→Option Int
 |none=>some d
 |some v=>(intOf v).map (·.2)
def Dg{T:Nat→Type}:Option (SV T)→Option (Option bc)
 |none=>some none
 |some (.a v)=>some (some v)
 |_=>none
def iK(P:Program)(c:Nat)(t:TypeId)(h:SH C)(x:SV C.T)(lo b mx:Option (SV C.T))(K:SV C.T→SH C→Tree):Tree:=
 match x with
 | .a v=>match Dg lo,Dg b,Dg mx with
  |some lo,some b,some mx=>opt (b9 P t [] v lo b mx) "slice" fun r=>K (.a r) h
  |_,_,_=>match strOf x,mx,P.underlying t with
   |some s,none,some .string=>match nH 0 lo,nH s.length b with
    |some l,some u=>.need (0≤l∧l≤u∧u≤(s.length:Int)) (K (.s ((s.drop l.toNat).take (u.toNat-l.toNat))) h)
    |_,_=>.stuck "slice"
   |_,_,_=>.stuck "slice"
 | .s s=>match mx,P.underlying t with
  |none,some .string=>match nH 0 lo,nH s.length b with
   |some l,some u=>.need (0≤l∧l≤u∧u≤(s.length:Int)) (K (.s ((s.drop l.toNat).take (u.toNat-l.toNat))) h)
   |_,_=>.stuck "slice"
  |_,_=>.stuck "slice"
 | .tl n l=>match P.underlying t with
  |some (.slice e)=>if(P.info? e).isSome∧C.sz n=bl P e then
   match mx with
   |none=>match nH 0 lo,nH l.length b with
    |some p,some u=>.need (0≤p∧p≤u∧u≤(l.length:Int)) (K (.tl n ((l.drop p.toNat).take (u.toNat-p.toNat))) h)
    |_,_=>.stuck "slice"
   |some m=>match kH 0 lo,b,kH 0 (some m)with
    |some 0,some u,some 0=>match kH 0 (some u)with
     |some 0=>K (.R h.length) (h++[some (.rows n [] true h.length)])
     |_=>.stuck "slice"
    |_,_,_=>.stuck "slice"
   else .stuck "slice"
  |_=>.stuck "slice"
 | .R id=>match P.underlying t,mx,bF h id with
  |some (.slice e),none,some (.rows n l full root)=>if(P.info? e).isSome∧C.sz n=bl P e∧c≤id then
   match nH 0 lo,nH l.length b with
   |some p,some u=>.need (0≤p∧p≤u∧u≤(l.length:Int)) (K (.R h.length) (h.set id none++[some (.rows n ((l.drop p.toNat).take (u.toNat-p.toNat)) (full && b.isNone) root)]))
   |_,_=>.stuck "slice"
   else .stuck "slice"
  |_,_,_=>.stuck "slice"
 | .sl sz id off len cap ex=>match P.underlying t with
  |some (.slice e)=>if(P.info? e).isSome∧sz=bl P e then
   match mx with
   |none=>match kH 0 lo,kH len b with
    |some p,some u=>if p≤u∧u≤cap then K (.sl sz id (off+p*sz) (u-p) (cap-p) ex) h else .stuck "slice"
    |_,_=>.stuck "slice"
   |some m=>match kH 0 lo,b,kH 0 (some m)with
    |some p,some u,some m=>match kH 0 (some u)with
     |some u=>if p≤u∧u≤m∧m≤cap then(bif Nat.ble m p then K (.a (.list sz [] true)) h else K (.sl sz id (off+p*sz) (u-p) (m-p) true) h)else .stuck "slice"
     |none=>.stuck "slice"
    |_,_,_=>.stuck "slice"
   else .stuck "slice"
  |_=>.stuck "slice"
 | .ptr id off=>match P.underlying t,mx,bF h id with
  |some (.array n e),none,some (.cells cs)=>if(P.info? e).isSome∧off+n*bl P e≤cs.length then
   match kH 0 lo,kH n b with
   |some p,some u=>if p≤u∧u≤n then K (.sl (bl P e) id (off+p*bl P e) (u-p) (n-p) true) h else .stuck "slice"
   |_,_=>.stuck "slice"
   else .stuck "slice"
  |_,_,_=>.stuck "slice"
 |_=>.stuck "slice"
def Kn{T:Nat→Type}(c a b:SV T)(K:SV T→Tree):Tree:=
 match c with
 | .a (.bool true)=>K a
 | .a (.bool false)=>K b
 | .b t=>.fork t (K a) (K b)
 |_=>.stuck "pick"
def tF{T:Nat→Type}(x:SV T)(K:SV T→Tree):Tree:=
 match x with
 | .ptr id off=>K (.ptr id off)
 | .ep id i off=>K (.ep id i off)
 | .fp cs=>K (.fp cs)
 | .fn (.func f) a b=>K (.fn (.func f) a b)
 | .a v=>opt (dZ v) "nilCheck" fun r=>K (.a r)
 |_=>.stuck "nilCheck"
def wR{T:Nat→Type}(x:SV T)(i:Nat)(K:SV T→Tree):Tree:=
 match x with
 | .tup vs=>opt (vs[i]?) "extract" K
 | .a (.tup vs)=>opt (vs[i]?) "extract" fun v=>K (.a v)
 |_=>.stuck "extract"
def minS{T:Nat→Type}(mx:Bool)(args:List (SV T))(K:SV T→Tree):Tree:=
 match args with
 | [x,y]=>match intOf x,intOf y with
  |some (k,m),some (_,n)=>bif isLit x && isLit y then K (.a (.int k (bif mx then(if m<n then n else m)else(if n<m then n else m))))
   else K (.i k (bif mx then(if m<n then n else m)else(if n<m then n else m)))
  |_,_=>.stuck "min"
 |_=>.stuck "min"
def DP{T:Nat→Type}(n:Int):List (Int×SV T)→Nat→(Option (Nat×Int×SV T)→Tree)→Tree
 | [],_,K=>K none
 |(m,x)::es,i,K=>.fork (n==m) (K (some (i,m,x))) (DP n es (i+1) K)
def pM(P:Program)(t:TypeId)(h:SH C)(m x:SV C.T)(ok:Bool)(K:SV C.T→Tree):Tree:=.stuck "lookup"
def iN(S:bh)(j:Nat)(ev:Operand→SV C.T)(h:SH C)(op:Op)(K:SV C.T→SH C→Tree):Tree:=
 match op with
 | .move x=>K (ev x) h
 | .assign x=>K (ev x) h
 | .pick c a b=>Kn (ev c) (ev a) (ev b) fun v=>K v h
 | .build t g=>yU S.P t (g.toList.map fun p=>(p.1,ev p.2)) fun v=>K v h
 | .load t x=>xe S.P t h (ev x) fun v=>K v h
 | .nilCheck x=>tF (ev x) fun v=>K v h
 | .binOp op t x y _=>Mo S.P op t (og x||og y) (ev x) (ev y) fun v=>K v h
 | .unOp op _ x=>unS op (ev x) fun v=>K v h
 | .convert s d x=>Bd S.P s d h (ev x) fun v=>K v h
 | .makeInterface t x=>if uq S.P t then .stuck "makeInterface" else K (.iface t (ev x)) h
 | .makeFunc f first e=>K (.fn f (first.toList.map ev) (e.toList.map ev)) h
 | .slice t x lo k mx=>iK S.P j t h (ev x) (lo.map ev) (k.map ev) (mx.map ev) K
 | .fieldAddr t x f=>mg S.P t (ev x) f fun v=>K v h
 | .field t x f=>zA S.P t (ev x) f fun v=>K v h
 | .indexAddr t x i=>mB S.P t h (ev x) (ev i) fun v=>K v h
 | .index t x i=>yo S.P t (ev x) (ev i) fun v=>K v h
 | .extract x i=>wR (ev x) i fun v=>K v h
 | .lookup t m x ok=>pM S.P t h (ev m) (ev x) ok fun v=>K v h
 | .typeAssert x _ t ok=>kD S.P (ev x) t ok fun v=>K v h
 | .call c=>match c.callee with
  | .builtin .len=>match c.argTypes[0]?,c.args[0]? with
   |some t,some x=>IW S.P t h (ev x) fun v=>K v h
   |_,_=>.stuck "len"
  | .builtin .min=>minS false (c.args.toList.map ev) fun v=>K v h
  | .builtin .max=>minS true (c.args.toList.map ev) fun v=>K v h
  |_=>.stuck "quiet call"
 |_=>.stuck "quiet"
def HO(S:bh)(ev:Operand→SV C.T)(op:Op)(K:(Nat→Obj C.T)→(Nat→SV C.T)→Tree):Tree:=
 match op with
 | .alloc t=>match eV S.P t with
  |some z=>if z.cells.all bc.one then K (fun _=>.cells (z.cells.map .a)) (fun id=>.ptr id 0)else .stuck "alloc"
  |none=>.stuck "alloc"
 | .box _ x=>match dr (ev x)with
  |some cs=>if cs.all qN then K (fun _=>.cells cs) (fun id=>.ptr id 0)else .stuck "box"
  |none=>.stuck "box"
 | .buildSlice t len b=>match S.P.underlying t with
  |some (.slice e)=>match eV S.P e with
   |none=>.stuck "buildSlice"
   |some z=>if z.cells.length=bl S.P e∧bl S.P e≠0∧z.cells.all bc.one∧len*bl S.P e≤16777216 then
    match rk (fun i=>some (i*bl S.P e,bl S.P e)) (((List.replicate len z.cells).flatten).map .a) (b.toList.map fun p=>(p.1,ev p.2))with
    |some cs=>K (fun _=>.cells cs) (fun id=>.sl (bl S.P e) id 0 len len false)
    |none=>.stuck "buildSlice: b"
    else .stuck "buildSlice"
  |_=>.stuck "buildSlice"
 | .makeSlice t l c=>match S.P.underlying t with
  |some (.slice e)=>match eV S.P e with
   |none=>.stuck "makeSlice"
   |some z=>if z.cells.length=bl S.P e∧bl S.P e≠0∧z.cells.all bc.one then
    match kH 0 (some (ev l)),kH 0 (some (ev c))with
    |some l,some c=>if l≤c∧c*S.P.bytesOf e≤281474976710656∧c≤9223372036854775807 then
     K (fun _=>.cells (((List.replicate c z.cells).flatten).map .a)) (fun id=>.sl (bl S.P e) id 0 l c false)else .stuck "makeSlice"
    |_,_=>match intOf (ev l),intOf (ev c),C.ofTy e with
     |some (_,l),some (_,c),some n=>match C.dec n (z.cells.map .a)with
      |some x=>if C.sz n=bl S.P e then .need (0≤l∧l=c∧c*S.P.bytesOf e≤281474976710656∧c≤9223372036854775807) (K (fun id=>.rows n (List.replicate l.toNat x) true id) (fun id=>.R id))else .stuck "makeSlice"
      |none=>.stuck "makeSlice"
     |_,_,_=>.stuck "makeSlice"
    else .stuck "makeSlice"
  |_=>.stuck "makeSlice"
 | .makeMap _ none=>K (fun _=>.mp []) (fun id=>.mapr id)
 | .range t x=>match S.P.underlying t,strOf (ev x)with
  |some .string,some s=>K (fun _=>.it s 0) (fun id=>.ptr id 0)
  |_,_=>.stuck "range"
 |_=>.stuck "new"
def byteOf(C:bK)(n:Nat)(b:UInt8):C.T n:=(C.dec n [.i .u8 b.toNat]).getD (C.dflt n)
def xN(P:Program)(op:Op):Bool:=
 match op with
 | .convert s d _=>match P.underlying s,P.underlying d with
  |some .string,some (.slice _)=>true
  |_,_=>false
 |_=>false
def zc(P:Program)(ev:Operand→SV C.T)(op:Op)(K:(Nat→Obj C.T)→(Nat→SV C.T)→Tree):Tree:=
 match op with
 | .convert s d x=>match P.underlying s,P.underlying d,strOf (ev x)with
  |some .string,some (.slice e),some t=>match P.underlying e,C.ofTy e with
   |some (.int .u8),some n=>if C.sz n=1 then .need (∀b:UInt8,(C.dec n [.i .u8 b.toNat]).isSome=true) (K (fun id=>.rows n (t.map (byteOf C n)) true id) (fun id=>.R id))else .stuck "bytes"
   |_,_=>.stuck "bytes"
  |_,_,_=>.stuck "bytes"
 |_=>.stuck "bytes"
def rX(P:Program)(b:Nat)(t:TypeId)(h:SH C)(x v:SV C.T)(K:SV C.T→SH C→Tree):Tree:=
 match dr v with
 |none=>.stuck "store"
 |some vs=>
  if vs.length=bl P t∧(P.info? t).isSome∧vs.all qN then
   match x with
   | .ptr id off=>match bF h id with
    |some (.cells cs)=>if b≤id∧off+vs.length≤cs.length then K (.a bz) (h.set id (some (.cells (cs.take off++vs++cs.drop (off+vs.length)))))else .stuck "store: not one's own"
    |_=>.stuck "store: gone"
   | .ep id i off=>match bF h id with
    |some (.rows n l full root)=>if b≤id∧off+vs.length≤C.sz n then
     match C.dec n ((C.enc n (C.at n l i)).take off++vs++(C.enc n (C.at n l i)).drop (off+vs.length))with
     |some y=>.need (0≤i∧i<(l.length:Int)) (K (.a bz) (h.set id (some (.rows n (l.set i.toNat y) full root))))
     |none=>.stuck "store: a row"
     else .stuck "store: not one's own"
    |_=>.stuck "store: gone"
   |_=>.stuck "store"
  else .stuck "store: cells"
def gN{T:Nat→Type}(sz:Nat):Nat→List (SV T)→List (List (SV T))
 |0,_=>[]
 |n+1,cs=>cs.take sz::gN sz n (cs.drop sz)
def jA(n:Nat):List (List (SV C.T))→Option (List (C.T n))
 | []=>some []
 |r::rs=>match C.dec n r with
  |none=>none
  |some x=>match jA n rs with
   |none=>none
   |some xs=>some (x::xs)
inductive Src(C:bK) where
 |lit (rows:List (List (SV C.T)))
 |typ (n:Nat) (l:List (C.T n))
 |no
def Lz(h:SH C)(sz:Nat)(x:SV C.T):Src C:=
 match x with
 | .a .nils=>.lit []
 | .a (.list s rows _)=>if s=sz∧(rows.all fun r=>r.length==sz)then .lit (rows.map (List.map .a))else .no
 | .a (.str s)=>if sz=1 then .lit (s.map fun b=>[.a (.int .u8 b.toNat)])else .no
 | .sl s id off len _ _=>if s=sz then
  match bF h id with
  |some (.cells cs)=>if off+len*sz≤cs.length then .lit (gN sz len (cs.drop off))else .no
  |_=>.no
  else .no
 | .tl n l=>if C.sz n=sz then .typ n l else .no
 | .R id=>match bF h id with
  |some (.rows n l _ _)=>if C.sz n=sz then .typ n l else .no
  |_=>.no
 |_=>.no
def kn{C:bK}{n m:Nat}(e:n=m)(l:List (C.T n)):List (C.T m):=e▸l
def nw(P:Program)(b:Nat)(t u:TypeId)(h:SH C)(s x:SV C.T)(K:SV C.T→SH C→Tree):Tree:=
 match P.underlying t with
 |some (.slice e)=>
  if(P.info? e).isSome∧bl P e≠0∧mP P u=true∧kG P e=true∧P.bytesOf e≠0 then
   match Lz h (bl P e) x with
   | .no=>.stuck "append: what"
   | .lit rows=>
    if !(rows.flatten.all qN)then .stuck "append: cells" else
    match s with
    | .a .nils=>
     if rows.length=0 then K (.a .nils) h
     else if rows.length*P.bytesOf e≤140737488355328 then K (.sl (bl P e) h.length 0 rows.length rows.length false) (h++[some (.cells rows.flatten)])
     else .stuck "append: size"
    | .sl d id off len cap ex=>
     if d≠bl P e then .stuck "append: size" else
     match bF h id with
     |some (.cells cs)=>
      if off+len*bl P e≤cs.length then
       if rows.length=0 then K (.sl d id off len cap ex) h
       else if len+rows.length≤cap then
        if b≤id∧off+(len+rows.length)*bl P e≤cs.length then
         K (.sl (bl P e) id off (len+rows.length) cap ex) (h.set id (some (.cells (cs.take (off+len*bl P e)++rows.flatten++cs.drop (off+len*bl P e+rows.flatten.length)))))
        else .stuck "append: not one's own"
       else if(len+rows.length)*P.bytesOf e≤140737488355328 then
        bif ex then K (.sl (bl P e) h.length 0 (len+rows.length) (len+rows.length) false) (h++[some (.cells ((cs.drop off).take (len*bl P e)++rows.flatten))])
        else if b≤id∧off+len*bl P e=cs.length then K (.sl (bl P e) h.length 0 (len+rows.length) (len+rows.length) false) (h.set id none++[some (.cells (cs.drop off++rows.flatten))])
        else .stuck "append: not one's own"
       else .stuck "append: size"
      else .stuck "append: size"
     |_=>.stuck "append: gone"
    | .R id=>match bF h id with
     |some (.rows n l full root)=>
      if C.sz n=bl P e∧b≤id then
       match jA n rows with
       |none=>.stuck "append: a row"
       |some xs=>match xs with
        | []=>K (.R id) h
        |y::f=>if full=true∨f.length=0 then
         .need ((l.length+(y::f).length)*P.bytesOf e≤140737488355328) (K (.R h.length) (h.set id none++[some (.rows n (l++y::f) full root)]))
         else .stuck "append: how much room"
      else .stuck "append: not one's own"
     |_=>.stuck "append: gone"
    |_=>.stuck "append: to what"
   | .typ n c=>
    match s with
    | .a .nils=>.need (c.length*P.bytesOf e≤140737488355328) (K (.R h.length) (h++[some (.rows n c true h.length)]))
    | .R id=>match bF h id with
     |some (.rows m l full root)=>
      if C.sz m=bl P e∧b≤id∧full=true then
       if g:n=m then .need ((l.length+c.length)*P.bytesOf e≤140737488355328) (K (.R h.length) (h.set id none++[some (.rows m (l++kn g c) full root)]))
       else .stuck "append: rows of two kinds"
      else .stuck "append: not one's own"
     |_=>.stuck "append: gone"
    | .sl d id off len cap ex=>match bF h id with
     |some (.cells cs)=>
      if d=bl P e∧b≤id∧off+len*bl P e=cs.length∧cap=len∧ex=false then
       match jA n (gN (bl P e) len (cs.drop off))with
       |none=>.stuck "append: a row"
       |some xs=>.need ((xs.length+c.length)*P.bytesOf e≤140737488355328) (K (.R h.length) (h.set id none++[some (.rows n (xs++c) true id)]))
      else .stuck "append: to what"
     |_=>.stuck "append: gone"
    |_=>.stuck "append: to what"
  else .stuck "append: types"
 |_=>.stuck "append: types"
abbrev gq(C:bK):=Nat→FuncId→List (SV C.T)→SH C→(SV C.T→SH C→Tree)→Tree
def s2{T:Nat→Type}:List (SV T)→Option (List bc)
 | []=>some []
 | .a v::xs=>(s2 xs).map (v:: ·)
 |_::_=>none
def yx{T:Nat→Type}:SV T→Option (TypeId×SV T)
 | .iface t v=>some (t,v)
 | .a (.iface t v)=>some (t,.a v)
 |_=>none
def Bb(S:bh)(noExt:FuncId→Bool)(call:gq C)(b:Nat)(g:FuncId)(xs:List (SV C.T))(h:SH C)(K:SV C.T→SH C→Tree):Tree:=
 bif noExt g then call b g xs h K else match s2 xs with
 |some as=>match S.ext g as with
  |some v=>K (.a v) h
  |none=>.stuck "ext"
 |none=>.stuck "ext"
def nA(P:Program)(a:Nat)(t:TypeId)(h:SH C)(m x v:SV C.T)(K:SV C.T→SH C→Tree):Tree:=.stuck "mapUpdate"
def Fp(b:Nat)(h:SH C)(x:SV C.T)(a:Bool)(K:SV C.T→SH C→Tree):Tree:=.stuck "next"
def uk(S:bh)(noExt:FuncId→Bool)(call:gq C)(d:Nat)(ev:Operand→SV C.T)(h:SH C)(op:Op)(K:SV C.T→SH C→Tree):Tree:=
 match op with
 | .store t x v=>rX S.P d t h (ev x) (ev v) K
 | .mapUpdate t m x v=>nA S.P d t h (ev m) (ev x) (ev v) K
 | .next x e=>Fp d h (ev x) e K
 | .call c=>match c.callee with
  | .builtin .append=>match c.args.toList.map ev,c.argTypes.toList with
   | [s,x],[t,u]=>nw S.P d t u h s x K
   |_,_=>.stuck "append"
  | .value f=>match ev f with
   | .a (.fn (.func g) first b)=>Bb S noExt call d g (first.map .a++c.args.toList.map ev++b.map .a) h K
   | .fn (.func g) first b=>Bb S noExt call d g (first++c.args.toList.map ev++b) h K
   |_=>.stuck "call of what"
  | .invoke r j=>match yx (ev r)with
   |some (t,v)=>match S.meth t j,nkS v with
    |some g,some (.p,_)=>call d g (v::c.args.toList.map ev) h K
    |_,_=>match v,s2 (c.args.toList.map ev)with
     | .a k,some as=>match S.methV t j k with
      |some (g,v1)=>match S.ext g (v1::as)with
       |some w=>K (.a w) h
       |none=>.stuck "ext"
      |none=>.stuck "invoke"
     |_,_=>.stuck "invoke"
   |none=>.stuck "invoke"
  |_=>.stuck "builtin"
 |_=>.stuck "no such operation"
noncomputable def xh(r:SR C)(dst:Option Tmp)(v:SV C.T):SR C:=
 match dst with
 |some d=>r.set d v
 |none=>r
noncomputable def vf(ops:List Oper)(r:SR C)(o:Oper)(c no:SR C→Tree):Tree:=
 match o.guard with
 |none=>c r
 |some (j,e)=>
  match (ops[j]?).bind (·.dst)with
  |none=>no r
  |some d=>bif Nat.blt d r.n then
   match r.get d with
   | .a (.bool b)=>bif b==e then c r else no r
   | .a (.tup _)=>no r
   | .b t=>bif e then .fork t (c (r.set d (.a (.bool true)))) (no (r.set d (.a (.bool false))))else .fork t (no (r.set d (.a (.bool true)))) (c (r.set d (.a (.bool false))))
   |_=>.stuck "guard"
   else no r
structure Cf(C:bK) where
 S:bh
 noExt:FuncId→Bool
noncomputable def opX(F:Cf C)(call:gq C)(a:Nat)(r:SR C)(h:SH C)(o:Oper)(K:SV C.T→SH C→Tree):Tree:=
 bif cz o.op then HO F.S (eg F.S r.get) o.op fun b mk=>K (mk h.length) (h++[some (b h.length)])
 else bif dw o.op then uk F.S F.noExt call a (eg F.S r.get) h o.op K
 else bif xN F.S.P o.op then zc F.S.P (eg F.S r.get) o.op fun b mk=>K (mk h.length) (h++[some (b h.length)])
 else iN F.S a (eg F.S r.get) h o.op K
noncomputable def I6(F:Cf C)(call:gq C)(b:Nat)(ops:List Oper):List Oper→SR C→SH C→(SR C→SH C→Tree)→Tree
 | [],r,h,K=>K r h
 |o::rest,r,h,K=>vf ops r o
  (fun r=>opX F call b r h o fun v c=>I6 F call b ops rest (xh r o.dst v) c K)
  (fun r=>I6 F call b ops rest (xh r o.dst (.a bz)) h K)
inductive Kt where
 |c (x:Code)
 |blk (id:Nat)
 |lp (b:Code)
def unwind(i:Nat):List Kt→Option (List Kt)
 | []=>none
 | .blk id::k=>bif Nat.beq i id then some k else unwind i k
 | .c _::k=>unwind i k
 | .lp _::k=>unwind i k
end Go.Sy
namespace Go.Sy
open Go.Am
variable {C:bK}{E:Env}
structure LeN(n N:Nat)(E E':Env):Prop where
 le:E.le E'
 old:∀id,id<n→E'.β id=E.β id∧E'.γ id=E.γ id
 fr:∀b cs,E'.Fr b cs→E.Fr b cs∨N≤b
 own:∀b r,E'.ω b=some r→E.ω b=some r∨N≤b
variable {N:Nat}
theorem LeN.refl(n:Nat)(E:Env):LeN n N E E:=⟨Env.le.refl E,fun _ _=>⟨rfl,rfl⟩,fun _ _ h=>.inl h,fun _ _ h=>.inl h⟩
theorem LeN.trans{n m M:Nat}{E E' c:Env}(d:n≤m)(e:N≤M)(h:LeN n N E E')(k:LeN m M E' c):LeN n N E c:=
 ⟨h.le.trans k.le,fun id a=>⟨(k.old id (by omega)).1.trans (h.old id a).1,(k.old id (by omega)).2.trans (h.old id a).2⟩,fun b cs x=>(k.fr b cs x).elim (h.fr b cs) fun y=>.inr (by omega),fun b r x=>by
  rcases k.own b r x with h1|h1
  ·exact h.own b r h1
  grind⟩
def Env.put(E:Env)(n:Nat)(c:Option Nat)(a:bc)(root:Nat):Env where
 β:=fun i=>if i=n then c else E.β i
 γ:=fun i=>if i=n then some a else E.γ i
 ω:=fun b=>if c=some b then some root else E.ω b
 Fr:=E.Fr
variable {H H':bd}{id:Nat}{o:Obj C.T}
theorem eL.heap(g:∀b,E.β id=some b→H'[b]?=H[b]?)(h:eL E H id o):eL E H' id o:=by
 cases o with
 |cells cs=>
  obtain⟨b,as,h1,a,c,d⟩:=h;exact⟨b,as,h1,a,by grind,d⟩
 |mp es=>
  obtain⟨b,as,h1,a,c,d⟩:=h;exact⟨b,as,h1,a,by grind,d⟩
 |it s f=>
  obtain⟨b,h1,a,c⟩:=h;exact⟨b,h1,a,by grind⟩
 |rows n l full root=>
  rcases h with h|⟨b,off,cap,ex,as,h1,c,a,d,e⟩
  ·exact .inl h
  ·exact .inr ⟨b,off,cap,ex,as,h1,c,a,by grind,e⟩
theorem lt_of_some{α:Type}{l:List α}{i:Nat}{a:α}(h:l[i]?=some a):i<l.length:=by
 grind
variable {h:SH C}{lo wlo:Nat}
theorem bu.putN(f:bu E lo wlo h H)(id:Nat)(o':Obj C.T)(n:Option Nat)(a:bc)(root:Nat)(hl:H.length≤H'.length)
 (y:∀b,b<H.length→H'[b]?≠H[b]?→(∀cs,¬E.Fr b cs)∧∀(i:Nat) (o:Obj C.T),i≠id→h[i]?=some (some o)→E.β i≠some b)
 (x:∀b,n=some b→b<H'.length∧lo≤b∧(∀cs,¬E.Fr b cs)∧(∀(i:Nat) (o:Obj C.T),i≠id→h[i]?=some (some o)→E.β i≠some b)∧((E.ω b=none∧N≤b)∨E.ω b=some root))
 (B:LeN h.length N E (E.put h.length n a root)→eL (E.put h.length n a root) H' h.length o'):
 LeN h.length N E (E.put h.length n a root)∧bu (E.put h.length n a root) lo wlo (h.set id none++[some o']) H':=by
 have fresh:=f.fresh h.length (qe _);have d:LeN h.length N E (E.put h.length n a root):=by
  refine⟨⟨?_, ?_, ?_,fun _ _ h=>h⟩, ?_,fun _ _ h=>.inl h, ?_⟩
  ·simp only[Env.put];grind
  ·simp only[Env.put];grind
  ·simp only[Env.put];grind
  ·simp only[Env.put];grind
  ·intro b r m;simp only[Env.put]at m;grind
 refine⟨d, ?_⟩;have hold:∀(i:Nat) (o:Obj C.T),(h.set id none++[some o'])[i]?=some (some o)→(i≠id∧i<h.length∧h[i]?=some (some o))∨(i=h.length∧o=o'):=by
  grind
 have q:∀(i:Nat) (o:Obj C.T),i≠id→h[i]?=some (some o)→∀b,E.β i=some b→H'[b]?=H[b]?:=by
  intro i o h1 l b k
  by_cases e:H'[b]?=H[b]?
  ·exact e
  ·exact((y b (f.bnd i b k) e).2 i o h1 l k).elim
 refine⟨?_, ?_, ?_, ?_, ?_, ?_, ?_, ?_, ?_, ?_⟩
 ·intro i o g;rcases hold i o g with⟨h1,l,k⟩|⟨rfl,rfl⟩
  ·refine((f.obj i o k).heap (q i o h1 k)).mono d.le ?_;intro z;rw[(d.old i l).1];exact z
  grind
 ·intro i s o p b g t c j;rcases hold i o g with⟨h1,l,k⟩|⟨rfl,rfl⟩<;>rcases hold s p t with⟨v,w,A⟩|⟨v,rfl⟩
  ·rw[(d.old i l).1]at c;rw[(d.old s w).1]at j;exact f.inj i s o p b k A c j
  ·rw[(d.old i l).1]at c;simp only[Env.put]at j;grind
  ·rw[(d.old s w).1]at j;simp only[Env.put]at c;grind
  grind
 ·intro b cs u;obtain⟨h1,l⟩:=f.fr b cs u;refine⟨?_, ?_⟩
  ·by_cases e:H'[b]?=H[b]?
   ·grind
   ·exact((y b (lt_of_some h1) e).1 cs u).elim
  ·intro i o g;rcases hold i o g with⟨k,v,w⟩|⟨rfl,rfl⟩
   ·rw[(d.old i v).1];grind
   ·simp only[Env.put];exact fun e=>(x b e).2.2.1 cs u
 ·intro i g;have g:h.length+1≤i:=by grind
  simp only[Env.put];rw[if_neg (by omega),if_neg (by omega)]
  exact f.fresh i (by omega)
 ·intro i b g c;simp only[Env.put]at c;split at c
  ·grind
  ·exact f.low i b g c
 ·intro i b c;simp only[Env.put]at c;split at c
  ·grind
  ·exact qr (f.bnd i b c) hl
 ·intro b r m;simp only[Env.put]at m;split at m
  ·rename_i e;exact⟨(x b e).1,(x b e).2.2.1⟩
  ·exact⟨qr (f.own b r m).1 hl,(f.own b r m).2⟩
 ·intro i b c;simp only[Env.put]at c ⊢;split at c
  ·grind
  ·split
   ·grind
   ·exact f.βω i b c
 ·have:=f.wl;simp;omega
 ·exact Nat.le_trans f.ll hl
theorem bu.put(d:bu E lo wlo h H)(id:Nat)(o':Obj C.T)(c:Option Nat)(a:bc)(root:Nat)(hl:H.length≤H'.length)
 (e:∀b,b<H.length→H'[b]?≠H[b]?→(∀cs,¬E.Fr b cs)∧∀(i:Nat) (o:Obj C.T),i≠id→h[i]?=some (some o)→E.β i≠some b)
 (f:∀b,c=some b→b<H'.length∧lo≤b∧(∀cs,¬E.Fr b cs)∧(∀(i:Nat) (o:Obj C.T),i≠id→h[i]?=some (some o)→E.β i≠some b)∧((E.ω b=none∧H.length≤b)∨E.ω b=some root))
 (g:LeN h.length H.length E (E.put h.length c a root)→eL (E.put h.length c a root) H' h.length o'):
 LeN h.length H.length E (E.put h.length c a root)∧bu (E.put h.length c a root) lo wlo (h.set id none++[some o']) H':=d.putN id o' c a root hl e f g
theorem bu.upd(a:bu E lo wlo h H){o':Obj C.T}(k:h[id]?=some (some o))(hl:H.length≤H'.length)
 (w:∀b,b<H.length→H'[b]?≠H[b]?→E.β id=some b) (x:eL E H' id o'):bu E lo wlo (h.set id (some o')) H':=by
 have hold:∀(i:Nat) (p:Obj C.T),(h.set id (some o'))[i]?=some (some p)→(i≠id∧h[i]?=some (some p))∨(i=id∧p=o'):=by
  grind
 have c:∀(i:Nat) (p:Obj C.T),(h.set id (some o'))[i]?=some (some p)→∃q,h[i]?=some (some q):=by
  grind
 refine⟨?_, ?_, ?_, ?_,a.low, ?_, ?_,a.βω, ?_,Nat.le_trans a.ll hl⟩
 ·intro i p f;rcases hold i p f with⟨h1,d⟩|⟨rfl,rfl⟩
  ·refine(a.obj i p d).heap fun b g=>?_
   by_cases e:H'[b]?=H[b]?
   ·exact e
   ·exact(h1 (a.inj i id p o b d k g (w b (a.bnd i b g) e))).elim
  ·exact x
 ·intro i l p q b f j h1 d;obtain⟨s,t⟩:=c i p f;obtain⟨u,v⟩:=c l q j;exact a.inj i l s u b t v h1 d
 ·intro b cs n;obtain⟨h1,d⟩:=a.fr b cs n;grind
 ·intro i f;exact a.fresh i (by grind)
 ·intro i b g;exact qr (a.bnd i b g) hl
 ·intro b r m;exact⟨qr (a.own b r m).1 hl,(a.own b r m).2⟩
 ·have:=a.wl
  grind
theorem bu.push(N:Nat)(c:bu E lo wlo h H)(o':Obj C.T)(a:bc)(p:Nat)(v:p<H'.length)(s:lo≤p)(w:N≤p)(j:H[p]?=none∨(H[p]?=some none∧E.ω p=none))(hl:H.length≤H'.length)
 (x:∀b,b<H.length→b≠p→H'[b]?=H[b]?) (t:LeN h.length N E (E.put h.length (some p) a h.length)→eL (E.put h.length (some p) a h.length) H' h.length o'):
 LeN h.length N E (E.put h.length (some p) a h.length)∧bu (E.put h.length (some p) a h.length) lo wlo (h++[some o']) H':=by
 have d:∀cs,¬E.Fr p cs:=by
  intro cs m;have:=(c.fr p cs m).1;grind
 have k:∀i,E.β i≠some p:=by
  intro i f;rcases j with h1|⟨_,g⟩
  ·have:=c.bnd i p f;grind
  ·obtain⟨r,u⟩:=c.βω i p f;grind
 have l:E.ω p=none:=by
  rcases j with h1|⟨_,g⟩
  ·cases hw:E.ω p with
   |none=>rfl
   |some r=>
    have:=(c.own p r hw).1;grind
  ·exact g
 have:=c.putN (N:=N) h.length o' (some p) a h.length hl (fun b n q=>by
  grind) (fun b n=>by
  grind) t
 have e:h.set h.length none=h:=by
  apply List.ext_getElem?;grind
 grind
end Go.Sy
namespace Go.Sy
open Go.Am
variable {C:bK}{E:Env}{P:Program}
def Out(E:Env)(lo wlo:Nat)(h:SH C)(H:bd)(r:bc→bd→Prop)(K:SV C.T→SH C→Tree):Prop:=
 ∃v H' sv a E',r v H'∧LeN h.length H.length E E'∧h.length≤a.length∧bu E' lo wlo a H'∧H.length≤H'.length∧Er E' sv v∧(K sv a).holds
variable {H:bd}{K:SV C.T→SH C→Tree}{h:SH C}{lo wlo:Nat}
theorem Out.mono{r a:bc→bd→Prop}(d:∀v H',r v H'→a v H')(h1:Out E lo wlo h H r K):Out E lo wlo h H a K:=by
 obtain⟨v,H',sv,b,E',h1,c⟩:=h1;exact⟨v,H',sv,b,E',d _ _ h1,c⟩
theorem Out.of_ret(c:bu E lo wlo h H){x:Option bc}(d:Ret E x fun v=>K v h):Out E lo wlo h H (fun v H'=>x=some v∧H'=H) K:=by
 obtain⟨v,sv,h1,a,b⟩:=d;exact⟨v,H,sv,h,E,⟨h1,rfl⟩,LeN.refl _ _,qe _,c,qe _,a,b⟩
def b5(E:Env)(z:Nat)(rows:List (List (SV C.T)))(rA:List (List bc)):Prop:=
 rows.length=rA.length∧∀(i:Nat) (r:List (SV C.T)) (a:List bc),rows[i]?=some r→rA[i]?=some a→Ers E r a∧a.length=z
variable {rA:List (List bc)}{rows:List (List (SV C.T))}{z:Nat}
theorem b5.tail{r:List (SV C.T)}{a:List bc}(h:b5 E z (r::rows) (a::rA)):Ers E r a∧a.length=z∧b5 E z rows rA:=by
 have b:=h.2 0 r a rfl rfl;exact⟨b.1,b.2,by simpa using h.1,fun i p q h1 c=>h.2 (i+1) p q (by grind) (by grind)⟩
theorem b5.flatten:∀{rows:List (List (SV C.T))} {rA:List (List bc)},b5 E z rows rA→Ers E rows.flatten rA.flatten
 | [],[],_=>Ers.nil
 | [],_::_,h=>by simp[b5]at h
 |_::_,[],h=>by simp[b5]at h
 |r::rows,b::rA,h=>by
  obtain⟨h1,_,a⟩:=h.tail;exact h1.append a.flatten
theorem ie{z:Nat}:∀{rA:List (List bc)},(∀(i:Nat) (a:List bc),rA[i]?=some a→a.length=z)→rA.flatten.length=rA.length*z
 | [],_=>by simp
 |r::rA,h=>by
  have b:=h 0 r rfl;have:=ie (rA:=rA) fun i a c=>h (i+1) a (by grind)
  grind
theorem flat_get{z:Nat}:∀{rA:List (List bc)} {i j:Nat} {a:List bc},(∀(i:Nat) (a:List bc),rA[i]?=some a→a.length=z)→rA[i]?=some a→j<z→rA.flatten[i*z+j]?=a[j]?
 | [],i,j,a,_,h,_=>by simp at h
 |r::rA,0,j,a,hl,h,b=>by
  grind
 |r::rA,i+1,j,a,hl,h,b=>by
  have c:=hl 0 r rfl;simp;rw[qj (by grind)]
  rw[show(i+1)*z+j-r.length=i*z+j by grind]
  exact flat_get (fun k a d=>hl (k+1) a (by grind)) (by simpa using h) b
theorem b5.lens(h:b5 E z rows rA):∀(i:Nat) (a:List bc),rA[i]?=some a→a.length=z:=by
 intro i a b;have hl:=lt_of_some b;exact(h.2 i _ a (qq (by rw[h.1];exact hl)) b).2
theorem e8{z:Nat}:∀{n i:Nat} {cs:List bc},i<n→(cq z n cs)[i]?=some ((cs.drop (i*z)).take z)
 |0,i,cs,h=>by omega
 |n+1,0,cs,h=>by simp[cq]
 |n+1,i+1,cs,h=>by
  simp only[cq,List.getElem?_cons_succ];rw[e8 (by omega),List.drop_drop]
  grind
theorem d3{z:Nat}:∀(n:Nat) (cs:List bc),(cq z n cs).length=n
 |0,_=>rfl
 |n+1,cs=>by simp[cq,d3 n]
theorem fP{z:Nat}:∀{n:Nat} {cs:List (SV C.T)} {as:List bc},Ers E cs as→n*z≤as.length→b5 E z (gN z n cs) (cq z n as)
 |0,cs,as,_,_=>⟨rfl,fun i r c h=>by simp[gN]at h⟩
 |n+1,cs,as,h,hl=>by
  have d:z+n*z≤as.length:=by grind
  have b:=fP (z:=z) (n:=n) (h.drop z) (by simp;omega)
  refine⟨by simp only[gN,cq,qm,b.1],fun i r c h1 a=>?_⟩
  cases i with
  |zero=>
   simp only[gN,cq,List.getElem?_cons_zero,qa]at h1 a;subst h1 a;exact⟨h.take z,by simp;omega⟩
  |succ i=>
   exact b.2 i r c h1 a
theorem gG(f:bo C){z n:Nat}:∀{rows:List (List (SV C.T))} {rA:List (List bc)} {xs:List (C.T n)},b5 E z rows rA→jA n rows=some xs→b5 E z (xs.map (C.enc n)) rA
 | [],rA,xs,h,a=>by
  simp only[jA]at a;grind
 |r::rows,[],xs,h,a=>by simp[b5]at h
 |r::rows,o::rA,xs,h,a=>by
  simp only[jA]at a;split at a
  ·cases a
  ·rename_i x g;split at a
   ·cases a
   ·rename_i j b;simp at a;subst a;obtain⟨h1,k,m⟩:=h.tail;have e:=gG f m b;refine⟨by simp[e.1],fun i p q c d=>?_⟩
    cases i with
    |zero=>
     simp at c d;subst c d;exact⟨f.dec n r x g E o h1,k⟩
    |succ i=>
     exact e.2 i p q c d
variable {as:List bc}{n off:Nat}{ys:List (C.T n)}
theorem cI.of_flat(o:bo C)(h:b5 E (C.sz n) (ys.map (C.enc n)) rA)(p:∀k,k<rA.flatten.length→as[off+k]?=rA.flatten[k]?):cI E n ys as off:=by
 intro i y j x a h1 d e;have b:i<rA.length:=by rw[← h.1];grind
 have c:rA[i]?=some rA[i]:=qq b;have f:=h.2 i (C.enc n y) rA[i] (by simp[h1]) c
 have g:j<C.sz n:=by have:=lt_of_some d;rw[o.len]at this;exact this
 have m:i*C.sz n+j<rA.flatten.length:=by
  rw[ie h.lens];have:=d0 (z:=C.sz n) b;omega
 rw[Nat.add_assoc,p _ m,flat_get h.lens c g]at e;exact f.1.2 j x a d e
variable {l:List (C.T n)}
theorem cI.append(g:bo C){c:List bc}{b:Nat}(h:cI E n l as off)(m:b5 E (C.sz n) (ys.map (C.enc n)) rA)
 (h1:∀k,k<l.length*C.sz n→c[b+k]?=as[off+k]?) (o:∀k,k<rA.flatten.length→c[b+l.length*C.sz n+k]?=rA.flatten[k]?):cI E n (l++ys) c b:=by
 intro i y j x a g1 e f;have p:j<C.sz n:=by have:=lt_of_some e;rw[g.len]at this;exact this
 rcases qk i l.length with d|d
 ·rw[qf d]at g1;have:=d0 (z:=C.sz n) d;rw[Nat.add_assoc,h1 _ (by omega),← Nat.add_assoc]at f
  exact h i y j x a g1 e f
 ·rw[qj d]at g1;refine cI.of_flat g m o (i-l.length) y j x a g1 e ?_;rw[show b+l.length*C.sz n+(i-l.length)*C.sz n+j=b+i*C.sz n+j by rw[Nat.add_assoc b,← Nat.add_mul,Nat.add_sub_cancel' d]]
  exact f
theorem b5.map_enc(d:bo C)(hl:rA.length=l.length)(h:∀(i:Nat) (y:C.T n) (a:List bc),l[i]?=some y→rA[i]?=some a→Ers E (C.enc n y) a):b5 E (C.sz n) (l.map (C.enc n)) rA:=by
 refine⟨by simp[hl],fun i r a h1 c=>?_⟩
 simp at h1;obtain⟨y,b,rfl⟩:=h1;have:=h i y a b c;exact⟨this,by rw[← this.1,d.len]⟩
def Src.Ok(E:Env)(z:Nat)(rA:List (List bc)):Src C→Prop
 | .lit rows=>b5 E z rows rA
 | .typ n l=>C.sz n=z∧b5 E z (l.map (C.enc n)) rA
 | .no=>True
theorem A2(o:bo C)(w:bu E lo wlo h H){x:SV C.T}{a:bc}(p:Er E x a){src:Src C}(e:Lz h z x=src)(X:src≠ .no):∃rA,ff H z a=some rA∧src.Ok E z rA:=by
 unfold Lz at e;split at e
 ·cases p;subst e;exact⟨[],rfl,rfl,fun i r d h=>by simp at h⟩
 ·cases p;split at e
  ·rename_i s rows ex hc;subst e;refine⟨rows,by simp[ff,hc.1],by simp,fun i r d h1 k=>?_⟩
   rw[List.getElem?_map,k]at h1;simp at h1;subst h1;refine⟨Ers.mapA d, ?_⟩;grind
  grind
 ·cases p;split at e
  ·rename_i s hc;subst e;refine⟨s.map fun b=>[.int .u8 b.toNat],by simp[ff,hc],by simp,fun i r d h1 k=>?_⟩
   simp at h1 k;obtain⟨b,t,rfl⟩:=h1;obtain⟨N,m,rfl⟩:=k;rw[t]at m;simp at m;subst m;exact⟨Ers.nil.cons (.a _),by simp[hc]⟩
  grind
 ·split at e
  ·rename_i s id off len cap ex B;split at e
   ·rename_i cs u;split at e
    ·subst e;cases p with
     |sl I=>
      obtain⟨b,as,g1,_,f,g⟩:=w.obj id _ (bm u);rw[I]at g1;simp at g1;have hl:=g.1;refine⟨cq z len (as.drop off), ?_,fP (g.drop off) (by simp;omega)⟩
      simp only[ff,if_true,f];grind
    grind
   grind
  grind
 ·split at e
  ·rename_i n l c;subst e;cases p with
   |tlN=>exact⟨[],rfl,c,rfl,fun i r d h=>by simp at h⟩
   |tlL h1 k t m=>
    rename_i D rows ex;refine⟨rows,by simp[ff,h1,c],c, ?_⟩
    rw[← c];exact b5.map_enc o k fun i y d g1 f=>⟨by rw[o.len,t i d f],fun j x a g v=>m i y d j x a g1 f g v⟩
   |tlS h1 k J t m L=>
    rename_i D b off len cap as ex;have f:=(w.fr _ _ J).1;refine⟨cq z len (as.drop off), ?_,c, ?_⟩
    ·simp only[ff,c,if_true,f];grind
    ·rw[← c];refine b5.map_enc o (by rw[d3,k]) fun i y d g1 g=>?_
     have q:i<l.length:=lt_of_some g1;rw[e8 (by omega),qa]at g
     subst g;rw[List.drop_drop];have:=d0 (z:=C.sz n) q;exact Ers.of_at o L g1 (by omega)
  grind
 ·rename_i id;split at e
  ·rename_i n l full root u;split at e
   ·rename_i c;subst e;cases p with
    |R A B=>
     rcases w.obj id _ (bm u)with⟨rfl,_,O,g1,f⟩|⟨b,off,cap,ex,as,g1,f,_,g,v,Q,U,W,G⟩
     ·rw[A]at g1;simp at g1;subst g1;refine⟨[], ?_,c,rfl,fun i r d h=>by simp at h⟩
      rcases f with rfl|rfl
      ·rfl
      ·simp[ff,c]
     ·rw[A]at g1;simp at g1;have M:=Nat.mul_le_mul_right (C.sz n) v;refine⟨cq z l.length (as.drop off), ?_,c, ?_⟩
      ·simp only[ff,if_true,g];grind
      ·rw[← c];refine b5.map_enc o (d3 _ _) fun i y d q1 q2=>?_
       have q:i<l.length:=lt_of_some q1;rw[e8 q,qa]at q2;subst q2;rw[List.drop_drop];have:=d0 (z:=C.sz n) q;exact Ers.of_at o G q1 (by omega)
   grind
  grind
 grind
end Go.Sy
namespace Go.Sy
open Go.Am
variable {C:bK}{E:Env}{P:Program}
theorem BT{n:Int}{K:Option (Nat×Int×SV C.T)→Tree}:∀{es:List (Int×SV C.T)} {i:Nat},(DP n es i K).holds→
 (∃j x,es[j]?=some (n,x)∧(K (some (i+j,n,x))).holds)∨((∀x,(n,x)∉es)∧(K none).holds)
 | [],i,h=>.inr ⟨fun x g=>by simp at g,h⟩
 |(m,x)::es,i,h=>by
  rcases eP h with⟨h1,c⟩|⟨h1,c⟩
  ·have e:n=m:=eq_of_beq h1;subst e;exact .inl ⟨0,x,rfl,c⟩
  ·have e:n≠m:=ne_of_beq_false h1;rcases BT c with⟨j,y,d,f⟩|⟨d,f⟩
   ·exact .inl ⟨j+1,y,by grind,by grind⟩
   grind
variable {as:List (bc×bc)}{n:Int}{v:bc}
theorem ef{m:Int}:gM n ((.int .i64 m,v)::as)=if n=m then some v else gM n as:=rfl
theorem oQ{k:bc}(h:∀m,k≠ .int .i64 m):gM n ((k,v)::as)=gM n as:=by
 cases k with
 |int c m=>cases c<;>first|rfl|grind
 |_=>rfl
variable {i:Nat}
theorem oI{m:Int}:fT .int (.int .i64 n) ((.int .i64 m,v)::as) i=if n=m then some (some (i,v))else fT .int (.int .i64 n) as (i+1):=by
 by_cases e:n=m
 ·subst e;rw[if_pos rfl];simp[fT,jc]
 ·rw[if_neg e];have c:(n==m)=false:=by simpa using e
  simp only[fT,jc,if_true,c]
theorem D5{n:Int}:∀{as:List (bc×bc)} {i:Nat},(∀p,p∈as→∃m,p.1= .int .i64 m)→
 (gM n as=none∧fT .int (.int .i64 n) as i=some none)∨∃j v,gM n as=some v∧fT .int (.int .i64 n) as i=some (some (i+j,v))∧j<as.length∧∀w,(∀m,gM m (as.set j (.int .i64 n,w))=if m=n then some w else gM m as)
 | [],i,_=>.inl ⟨rfl,rfl⟩
 |(k,v)::as,i,h=>by
  obtain⟨m,c⟩:=h (k,v) List.mem_cons_self;have c:k= .int .i64 m:=c;subst c
  by_cases e:n=m
  ·subst e;refine .inr ⟨0,v,by rw[ef,if_pos rfl],by rw[oI,if_pos rfl];rfl,by simp,fun w m=>?_⟩
   rw[List.set_cons_zero,ef,ef];split<;>rfl
  ·rcases D5 (n:=n) (as:=as) (i:=i+1) fun p f=>h p (List.mem_cons_of_mem _ f)with⟨h1,d⟩|⟨j,w,h1,d,g,l⟩
   ·exact .inl ⟨by rw[ef,if_neg e];exact h1,by rw[oI,if_neg e];exact d⟩
   ·refine .inr ⟨j+1,w,by rw[ef,if_neg e];exact h1,by rw[oI,if_neg e,d,show i+1+j=i+(j+1)by omega],by simp;omega,fun w' o=>?_⟩
    rw[List.set_cons_succ,ef,ef];grind
theorem kJ{n:Int}{w:bc}:∀{as:List (bc×bc)},gM n as=none→∀m,gM m (as++[(.int .i64 n,w)])=if m=n then some w else gM m as
 | [],_,m=>by rw[List.nil_append,ef]
 |(k,v)::as,h,m=>by
  rw[List.cons_append]
  by_cases f:∃d,k= .int .i64 d
  ·obtain⟨d,rfl⟩:=f;rw[ef]at h;split at h
   ·cases h
   ·rename_i e;rw[ef,ef,kJ h m];grind
  ·have c:∀d,k≠ .int .i64 d:=fun d e=>f ⟨d,e⟩
   rw[oQ c]at h;rw[oQ c,oQ c,kJ h m]
variable {H:bd}{a b:bc}{h:SH C}{lo:Nat}{m:SV C.T}{t:TypeId}{wlo:Nat}{x:SV C.T}
theorem yZ(d:bu E lo wlo h H){ok:Bool}(e:Er E m a)(f:Er E x b){K:SV C.T→Tree}(c:(pM P t h m x ok K).holds):Ret E (gy P t H a b ok) K:=by unfold pM at c;exact qw c
variable {y:SV C.T}
theorem CM{l:List (Int×SV C.T)}(h:(l.map (·.1)).Nodup){j:Nat}(d:l[i]?=some (n,x))(e:l[j]?=some (n,y)):i=j:=by
 have h1:(l.map (·.1))[i]?=some n:=by grind
 have c:(l.map (·.1))[j]?=some n:=by grind
 have hl:i<(l.map (·.1)).length:=lt_of_some h1;exact(List.getElem?_inj hl h).1 (h1.trans c.symm)
variable {es:List (Int×SV C.T)}{w:bc}
theorem lC.set{d:List (bc×bc)}(h:lC E es as)(q:es[i]?=some (n,x))(A:Er E y w)(s:∀p,p∈d→∃m,p.1= .int .i64 m)(u:∀m,gM m d=if m=n then some w else gM m as):lC E (es.set i (n,y)) d:=by
 have c:(es.set i (n,y)).map (·.1)=es.map (·.1):=by
  rw[List.map_set];apply List.ext_getElem?;grind
 have k:∀m z,(m,z)∈es.set i (n,y)→(m=n∧z=y)∨(m≠n∧(m,z)∈es):=by
  intro m z f;obtain⟨j,g⟩:=List.mem_iff_getElem?.1 f;rw[qg]at g;split at g
  ·grind
  ·rename_i e;refine .inr ⟨fun e2=>?_,qo g⟩
   subst e2;exact e (CM h.nodup q g)
 refine⟨s,by rw[c];exact h.nodup,fun m z f=>?_,fun m v l=>?_⟩
 ·rcases k m z f with⟨rfl,rfl⟩|⟨h1,o⟩
  ·grind
  ·have:=h.val m z o;grind
 ·rw[u]at l;split at l
  ·rename_i e;subst e;refine⟨y,List.mem_iff_getElem?.2 ⟨i, ?_⟩⟩;grind
  ·rename_i e;obtain⟨z,f⟩:=h.dom m v l;obtain⟨j,g⟩:=List.mem_iff_getElem?.1 f;refine⟨z,List.mem_iff_getElem?.2 ⟨j, ?_⟩⟩;grind
theorem lC.push(h:lC E es as)(l:∀x,(n,x)∉es)(s:Er E y w):lC E (es++[(n,y)]) (as++[(.int .i64 n,w)]):=by
 have f:gM n as=none:=by
  cases c:gM n as with
  |none=>rfl
  |some v=>
   obtain⟨x,j⟩:=h.dom n v c;grind
 refine⟨fun p d=>?_, ?_,fun m z k=>?_,fun m v c=>?_⟩
 ·rcases List.mem_append.1 d with d|d
  ·exact h.keys p d
  grind
 ·rw[List.map_append,List.nodup_append];refine⟨h.nodup,by simp,fun a o b q e=>?_⟩
  grind
 ·rw[kJ f];rcases List.mem_append.1 k with g|g
  ·have e:m≠n:=fun e=>l z (by grind)
   rw[if_neg e];exact h.val m z g
  grind
 ·rw[kJ f]at c;split at c
  ·grind
  ·obtain⟨x,j⟩:=h.dom m v c;grind
variable {K:SV C.T→SH C→Tree}
theorem zQ(e:bu E lo wlo h H){v:SV C.T}{c:bc}(f:Er E m a)(g:Er E x b)(j:Er E v c)(d:(nA P wlo t h m x v K).holds):
 Out E lo wlo h H (fun r H'=>r=bz∧c9 P lo t H a b c=some H') K:=by unfold nA at d;exact qw d
theorem Gz(e:bu E lo wlo h H){c:Bool}(f:Er E x a)(d:(Fp wlo h x c K).holds):
 Out E lo wlo h H (fun r H'=>qL lo H a c=some (r,H')) K:=by unfold Fp at d;exact qw d
theorem ul{v:SV C.T}(c:(nA P wlo t h m x v K).holds):∃id es,m= .mapr id∧bF h id=some (.mp es):=by unfold nA at c;exact qw c
end Go.Sy
namespace Go.Sy
open Go.Am
variable {C:bK}{E:Env}{P:Program}
theorem AW{d:Nat}{x:Option (SV C.T)}{a:Option bc}{r y:Nat}(e:∀v,x=some v→∃w,a=some w∧Er E v w)(f:x=none→a=none)(h:kH d x=some r)(b:r≤y∨x=none):bL d y a=some r:=by
 unfold kH at h;split at h
 ·simp at h;subst h;rw[f rfl];rfl
 ·simp at h;subst h;obtain⟨w,rfl,c⟩:=e _ rfl;cases c;rcases b with b|b
  ·simp[bL,iJ,b]
  ·cases b
 ·cases h
theorem tQ{a:bc}{r:Nat}(h:bL 0 r (some a)=some r):iJ a=some r:=by
 unfold bL at h;grind
theorem gT{α:Type}{a:List α}{z:Nat}(c:a.length=z):∀{n i j:Nat},i<n→j<z→((List.replicate n a).flatten)[i*z+j]?=a[j]?
 |0,i,j,h,_=>by omega
 |n+1,0,j,_,b=>by
  grind
 |n+1,i+1,j,h,b=>by
  simp only[List.replicate_succ,List.flatten_cons];rw[qj (by grind),show(i+1)*z+j-a.length=i*z+j by grind]
  exact gT c (by omega) b
theorem yO{α:Type}{a:List α}{z:Nat}(b:a.length=z)(n:Nat):((List.replicate n a).flatten).length=n*z:=by
 simp_all
theorem Bs(Y:bo C){S:bh}{ρ:List bc}{ev:Operand→SV C.T}(u:∀x,Er E (ev x) (bj S ρ x)){op:Op}{K:(Nat→Obj C.T)→(Nat→SV C.T)→Tree}(h:(HO S ev op K).holds):
 ∃blk D o mk,lE S ρ op=some (blk,D)∧(K o mk).holds∧∀(E':Env) (H':bd) (id b:Nat),E.le E'→E'.β id=some b→E'.γ id=some (D b)→E'.ω b=some id→H'[b]?=some (some blk)→eL E' H' id (o id)∧Er E' (mk id) (D b):=by
 unfold HO at h;split at h
 ·split at h
  ·rename_i z G;split at h
   ·rename_i q;refine⟨.cells z.cells,fun id=>.ptr id 0,_,_, ?_,h, ?_⟩
    ·simp only[lE,vt,G,q,if_true]
    ·intro E' H' id b _ d _ k m;exact⟨⟨b,z.cells,d,k,m,Ers.mapA _⟩,.ptr d⟩
   ·exact qw h
  ·exact qw h
 ·rename_i t x;split at h
  ·rename_i cs w;split at h
   ·rename_i q;have H:=oO (u x) w;refine⟨.cells (bj S ρ x).cells,fun id=>.ptr id 0,_,_, ?_,h, ?_⟩
    ·simp only[lE,IL,jo H q,if_true]
    ·intro E' H' id b f d _ k m;exact⟨⟨b,_,d,k,m,H.mono f⟩,.ptr d⟩
   ·exact qw h
  ·exact qw h
 ·rename_i t len g;split at h
  ·rename_i e hu;split at h
   ·exact qw h
   ·rename_i z G;split at h
    ·rename_i hc;split at h
     ·rename_i cs w;have J:jG E (g.toList.map fun p=>(p.1,ev p.2)) (g.toList.map fun p=>(p.1,bj S ρ p.2)):=by
       generalize g.toList=l;induction l with
       |nil=>exact .nil
       |cons p l ih=>exact .cons (u p.2) ih
      obtain⟨W,h1,X⟩:=nf J (Ers.mapA _) w;refine⟨.cells W,fun id=>.sl (bl S.P e) id 0 len len false,_,_, ?_,h, ?_⟩
      ·simp only[lE,iq,hu,G,hc,and_self,if_true,h1,Option.map_some,ne_eq,not_false_eq_true]
      ·intro E' H' id b f d _ k m;exact⟨⟨b,W,d,k,m,X.mono f⟩,.sl d⟩
     ·exact qw h
    ·exact qw h
  ·exact qw h
 ·rename_i t l c;split at h
  ·rename_i e hu;split at h
   ·exact qw h
   ·rename_i z G;split at h
    ·rename_i hc;split at h
     ·rename_i A I hl B;split at h
      ·have el:=tQ (AW (C:=C) (E:=E) (y:=A) (a:=some (bj S ρ l)) (fun v e=>⟨_,rfl,by grind⟩) (fun e=>by cases e) hl (.inl (qe _)))
       have L:=tQ (AW (C:=C) (E:=E) (y:=I) (a:=some (bj S ρ c)) (fun v e=>⟨_,rfl,by grind⟩) (fun e=>by cases e) B (.inl (qe _)))
       refine⟨.cells (List.replicate I z.cells).flatten,fun id=>.sl (bl S.P e) id 0 A I false,_,_, ?_,h, ?_⟩
       ·simp only[lE,ib,el,L,G];grind
       ·intro E' H' id b f d _ k m;exact⟨⟨b,_,d,k,m,Ers.mapA _⟩,.sl d⟩
      ·exact qw h
     ·split at h
      ·rename_i kl A kc I n hl B hn;split at h
       ·rename_i x N;split at h
        ·rename_i O;obtain⟨⟨h0,h1,X,h3⟩,hk⟩:=h;have el:=cr (u l) hl;have L:=cr (u c) B;refine⟨.cells (List.replicate A.toNat z.cells).flatten,fun id=>.sl (bl S.P e) id 0 A.toNat A.toNat false,_,_, ?_,hk, ?_⟩
         ·simp only[lE,ib,el,L,iJ,h0,if_true,G];grind
         ·intro E' H' id b f d Z k m;have H:Ers (C:=C) E' (C.enc n x) z.cells:=Y.dec n _ x N E' _ (Ers.mapA _);refine⟨.inr ⟨b,0,A.toNat,false,_, ?_,d,k,m, ?_, ?_,.inr (by simp_all),fun _=>.inr (by grind), ?_⟩,.R Z rfl⟩
          ·grind
          ·simp
          ·simp_all
          ·intro i y j xx a g1 Q U;have M:=lt_of_some g1;simp only[List.length_replicate]at M;rw[List.getElem?_replicate,if_pos M]at g1;simp at g1;subst g1;have hj:j<C.sz n:=by have:=lt_of_some Q;rw[Y.len]at this;exact this
           rw[Nat.zero_add,O,gT hc.1 M (by omega)]at U
           exact H.2 j xx a Q U
        ·exact qw h
       ·exact qw h
      ·exact qw h
    ·exact qw h
  ·exact qw h
 ·refine⟨.mp [],fun id=>.mapr id,_,_,rfl,h, ?_⟩
  intro E' H' id b f d _ k m;exact⟨⟨b,[],d,k,m,fun p J=>by simp at J,List.nodup_nil,fun n x N=>by simp at N,fun n v hv=>by simp[gM]at hv⟩,.mapr d⟩
 ·rename_i t x;split at h
  ·rename_i s hu hs;refine⟨.it s 0,fun id=>.ptr id 0,_,_, ?_,h, ?_⟩
   ·simp only[lE,vC,hu,ed (u x) hs]
   ·intro E' H' id b f d _ k m;exact⟨⟨b,d,k,m⟩,.ptr d⟩
  ·exact qw h
 ·exact qw h
theorem Cu(Y:bo C){lo p:Nat}{t:TypeId}{h:SH C}{H:bd}(q:bu E lo p h H){x v:SV C.T}{a b:bc}{K:SV C.T→SH C→Tree}(hx:Er E x a)(hv:Er E v b)(c:(rX P p t h x v K).holds):
 Out E lo p h H (fun r H'=>r=bz∧fw P lo t H a b=some H') K:=by
 unfold rX at c;split at c
 ·exact qw c
 ·rename_i vs Q;have A:=oO hv Q;have J:=A.1;split at c
  ·rename_i hc;have ab:=jo A hc.2.2;split at c
   ·rename_i id off;split at c
    ·rename_i cs u;split at c
     ·rename_i R;cases hx with
      |ptr Z=>
       rename_i d;obtain⟨b',as,g1,U,I,w⟩:=q.obj id _ (bm u);rw[Z]at g1;simp at g1;subst g1;have hl:=w.1;have L:=q.low id d R.1 Z;have g:fw P lo t H (.ptr d off) b=some (H.set d (some (.cells (splice as off b.cells)))):=by
        simp only[fw];grind
       refine⟨bz,_,.a bz,_,E,⟨rfl,g⟩,LeN.refl _ _,by simp,q.upd (bm u) (by simp) ?_ ?_,by simp,.a _,c⟩
       ·grind
       ·refine⟨d,_,Z,U,by rw[qg,if_pos rfl,if_pos (lt_of_some I)], ?_⟩
        unfold splice;rw[← J];exact((w.take off).append A).append (w.drop (off+vs.length))
     ·exact qw c
    ·exact qw c
   ·rename_i id i off;split at c
    ·rename_i n l full root u;split at c
     ·rename_i R;split at c
      ·rename_i y hy;obtain⟨⟨h0,h1⟩,hk⟩:=c;have M:=bK.at_get (C:=C) h0 h1;cases hx with
       |ep hg=>
        rename_i z d o len cap ex;rcases q.obj id _ (bm u)with⟨rfl,_⟩|⟨b',ad,ae,ah,as,g1,I,U,w,g4,g5,g6,g7,g8⟩
        ·grind
        ·rw[hg]at g1;simp only[qa,bc.sl.injEq]at g1;obtain⟨rfl,rfl,rfl,rfl,rfl,rfl⟩:=g1;have hi:i.toNat<l.length:=by omega
         have hm:=d0 (z:=C.sz n) hi;have ac:=Nat.mul_le_mul_right (C.sz n) g4;have L:=q.low id d R.1 I;have f:=Ers.of_at Y g8 M (by omega)
         have s:=Y.dec n _ y hy E _ (((f.take off).append A).append (f.drop (off+vs.length)));have g:fw P lo t H (.ptr d (o+i.toNat*C.sz n+off)) b=some (H.set d (some (.cells (splice as (o+i.toNat*C.sz n+off) b.cells)))):=by
          simp only[fw];grind
         refine⟨bz,_,.a bz,_,E,⟨rfl,g⟩,LeN.refl _ _,by simp,q.upd (bm u) (by simp) ?_ ?_,by simp,.a _,hk⟩
         ·grind
         ·have N:(splice as (o+i.toNat*C.sz n+off) b.cells).length=as.length:=by
           unfold splice;simp;omega
          refine .inr ⟨d,o,cap,ex,_,by grind,I,U,by rw[qg,if_pos rfl,if_pos (lt_of_some w)],by grind,by grind,by grind,by grind, ?_⟩
          intro G y' j xx aa q1 q2 q3;have hj:j<C.sz n:=by have:=lt_of_some q2;rw[Y.len]at this;exact this
          -- the cells of the block behind the store
          have get:∀k,(splice as (o+i.toNat*C.sz n+off) b.cells)[k]?=if k<o+i.toNat*C.sz n+off then as[k]? else if k<o+i.toNat*C.sz n+off+b.cells.length then b.cells[k-(o+i.toNat*C.sz n+off)]? else as[k]?:=by
           intro k;unfold splice;split
           ·rw[List.append_assoc,qf (by simp;omega),List.getElem?_take,if_pos (by assumption)]
           ·rename_i ag;split
            ·grind
            ·rw[qj (by simp;omega),List.getElem?_drop]
             grind
          rw[get]at q3
          by_cases m:G=i.toNat
          ·subst m;rw[qg,if_pos rfl,if_pos hi]at q1;simp at q1;subst q1;refine s.2 j xx aa q2 ?_;have B:∀k,k<C.sz n→((as.drop (o+i.toNat*C.sz n)).take (C.sz n))[k]?=as[o+i.toNat*C.sz n+k]?:=by
            grind
           have D:((as.drop (o+i.toNat*C.sz n)).take (C.sz n)).length=C.sz n:=by simp;omega
           grind
          ·rw[qg,if_neg (fun e=>m e.symm)]at q1
           have O:=lt_of_some q1;have af:=d0 (z:=C.sz n) O;have apart:o+G*C.sz n+j<o+i.toNat*C.sz n+off∨o+i.toNat*C.sz n+off+b.cells.length≤o+G*C.sz n+j:=by
            rcases Nat.lt_or_gt_of_ne m with W|X
            ·have:=d0 (z:=C.sz n) W;left;omega
            ·have:=d0 (z:=C.sz n) X;right;omega
           refine g8 G y' j xx aa q1 q2 ?_;grind
      ·exact qw c
     ·exact qw c
    ·exact qw c
   ·exact qw c
  ·exact qw c
end Go.Sy
namespace Go.Sy
open Go.Am
variable {C:bK}{E:Env}{P:Program}
variable {E':Env}{a:bc}{n:Nat}
theorem LeN.er{N:Nat}{E:Env}(h:LeN n N E E'){x:SV C.T}(k:Er E x a):Er E' x a:=k.mono h.le
variable {rA:List (List bc)}
theorem b5.mono{E:Env}(k:E.le E'){z:Nat}{rows:List (List (SV C.T))}(h:b5 E z rows rA):b5 E' z rows rA:=⟨h.1,fun i r b h1 c=>⟨(h.2 i r b h1 c).1.mono k,(h.2 i r b h1 c).2⟩⟩
variable {as:List bc}{l:List (C.T n)}
theorem cI.mono{E:Env}(k:E.le E'){off:Nat}(h:cI E n l as off):cI E' n l as off:=fun i y j x a h1 b c=>(h i y j x a h1 b c).mono k
variable {p:Nat}
theorem rb{b:List bc}{k:Nat}(c:p≤as.length):(splice as p b)[k]?=if k<p then as[k]? else if k<p+b.length then b[k-p]? else as[k]?:=by
 unfold splice;grind
structure FK(P:Program)(t u e:TypeId):Prop where
 hu:P.underlying t=some (.slice e)
 hc:(P.info? e).isSome∧bl P e≠0∧mP P u=true∧kG P e=true∧P.bytesOf e≠0
variable {full:Bool}{id root:Nat}
theorem GB(c:bo C){H':bd}(d:E'.γ id=some (.sl (C.sz n) p 0 l.length l.length false))(e:E'.β id=some p)(f:E'.ω p=some root)
 (g:H'[p]?=some (some (.cells rA.flatten))) (b:b5 E' (C.sz n) (l.map (C.enc n)) rA):eL E' H' id (.rows n l full root:Obj C.T):=by
 have hl:rA.flatten.length=l.length*C.sz n:=by rw[ie b.lens,← b.1];simp
 refine .inr ⟨p,0,l.length,false,_,d,e,f,g,qe _,by omega,.inr (by omega),fun _=>.inr rfl, ?_⟩
 exact cI.of_flat c b fun k h=>by grind
theorem Ay(e:bo C)(l:List (C.T n)):((l.map (C.enc n)).flatten).all qN=true:=by
 rw[List.all_eq_true];intro x c;rw[List.mem_flatten]at c;obtain⟨r,d,b⟩:=c;rw[List.mem_map]at d;obtain⟨y,_,rfl⟩:=d;exact List.all_eq_true.1 (e.one n y) x b
theorem lU(hC:bo C){lo D:Nat}{t u e:TypeId}(hA:FK P t u e){h:SH C}{H:bd}(q:bu E lo D h H){f:List (C.T n)}(ho:bF h id=some (.rows n l full root))(hz:C.sz n=bl P e)(hw:D≤id){x:bc}(ha:Er E (.R id:SV C.T) a)(J:ff H (bl P e) x=some rA)(N:b5 E (C.sz n) (f.map (C.enc n)) rA)(hf:full=true∨f.length≤1)(ad:(l.length+f.length)*P.bytesOf e≤140737488355328):
 ∃v H' E',bM P lo t u H a x=some (v,H')∧LeN h.length H.length E E'∧bu E' lo D (h.set id none++[some (.rows n (l++f) full root)]) H'∧H.length≤H'.length∧Er E' (.R h.length:SV C.T) v:=by
 obtain⟨hu,hc⟩:=hA;have hn:rA.length=f.length:=by rw[← N.1];simp
 have ab:rA.flatten.length=f.length*C.sz n:=by rw[ie N.lens,hn]
 have s:rA.flatten.all bc.one=true:=jo N.flatten (Ay hC f);have g:=bm ho;have O:f.length=0→f=[]:=fun h=>qp h
 cases ha with
 |R hg hs=>
 -- the way to a new block
 have fresh:∀(H1:bd) (as:List bc),H1.length=H.length→(∀b,b<H.length→H1[b]?≠H[b]?→E.β id=some b)→cI E n (l++f) as 0→as.length=(l.length+f.length)*C.sz n→
  E.ω H.length=none→
  ∃E',LeN h.length H.length E E'∧bu E' lo D (h.set id none++[some (.rows n (l++f) full root)]) (H1++[some (cb.cells as)])∧H.length≤(H1++[some (cb.cells as)]).length∧Er E' (.R h.length:SV C.T) (.sl (bl P e) H.length 0 (l.length+f.length) (l.length+f.length) false):=by
  intro H1 as aj hX M ah hω;have c:=q.put (H':=H1++[some (.cells as)]) id (.rows n (l++f) full root) (some H.length) (.sl (bl P e) H.length 0 (l.length+f.length) (l.length+f.length) false) root (by simp;omega) ?_ ?_ ?_
  ·refine⟨_,c.1,c.2,by simp;omega,.R ?_ rfl⟩
   simp[Env.put]
  ·intro b z d;rw[qf (by omega)]at d
   have Q:=hX b z d;refine⟨fun cs j=>(q.fr b cs j).2 id _ g Q,fun i o I y m=>I (q.inj i id o _ b y g m Q)⟩
  ·intro b z;simp at z;subst z;refine⟨by simp;omega,q.ll,fun cs j=>?_,fun i o I y m=>?_,.inl ⟨hω,qe _⟩⟩
   ·have:=lt_of_some (q.fr _ cs j).1;omega
   ·have:=q.bnd i _ m;omega
  ·intro A;refine .inr ⟨H.length,0,l.length+f.length,false,as, ?_, ?_, ?_, ?_,by simp, ?_,.inr ?_,fun _=>.inr (by simp),M.mono A.le⟩
   ·simp[Env.put,hz]
   ·simp[Env.put]
   ·simp[Env.put]
   all_goals grind
 have K:E.ω H.length=none:=by
  cases hwn:E.ω H.length with
  |none=>rfl
  |some r=>have:=(q.own _ r hwn).1;omega
 rcases q.obj id _ g with⟨rfl,ak,a',g1,B⟩|⟨b,off,cap,ex,as,g1,B,gw,g3,g4,g5,g6,g7,g8⟩
 ·rw[hg]at g1;simp at g1;subst g1;simp only[List.length_nil,Nat.zero_add]at ad fresh
  by_cases h0:f.length=0
  ·-- nothing behind nothing
   have hy:=O h0;subst hy;have U:rA=[]:=qp (by rw[hn];rfl)
   subst U;have W:bM P lo t u H a x=some (a,H):=by
    rcases B with rfl|rfl
    ·simp[bM,hu,hc,J]
    ·simp[bM,hu,hc,J,hz]
   have c:=q.put (H':=H) id (.rows n ([]++[]) full root) none a root (qe _) (fun b _ d=>(d rfl).elim) (fun b z=>by cases z) (fun A=>.inl ⟨rfl,by simp[Env.put],a,by simp[Env.put],B⟩)
   exact⟨a,H,_,W,c.1,c.2,qe _,.R (by simp[Env.put]) hs⟩
  ·obtain⟨E',Z,k2,k3,k4⟩:=fresh H rA.flatten rfl (fun b _ d=>(d rfl).elim) (by
    exact cI.of_flat hC N fun k hk=>by grind) ab K
   refine⟨_,_,E', ?_,Z,k2,k3,k4⟩;rcases B with rfl|rfl
   ·simp only[bM,hc,J,s];grind
   ·simp only[bM,hc,J,s];grind
 ·rw[hg]at g1;simp at g1;subst g1;have X:=q.low id b hw B;have ae:=Nat.mul_le_mul_right (C.sz n) g4;have G:=lt_of_some g3
  by_cases h0:f.length=0
  ·have hy:=O h0;subst hy;have U:rA=[]:=qp (by rw[hn];rfl)
   have W:bM P lo t u H (.sl (C.sz n) b off l.length cap ex) x=some (.sl (C.sz n) b off l.length cap ex,H):=by
    simp only[bM,hc,J];grind
   have c:=q.put (H':=H) id (.rows n (l++[]) full root) (some b) (.sl (C.sz n) b off l.length cap ex) root (qe _) (fun b _ d=>(d rfl).elim) (fun b' z=>by
    simp at z;subst z;exact⟨G,X,fun cs j=>(q.fr b cs j).2 id _ g B,fun i o I y m=>I (q.inj i id o _ b y g m B),.inr gw⟩)
    (fun A=>.inr ⟨b,off,cap,ex,as,by simp[Env.put],by simp[Env.put],by simp[Env.put],g3,by grind,g5,g6,by grind,by rw[List.append_nil];exact g8.mono A.le⟩)
   exact⟨_,H,_,W,c.1,c.2,qe _,.R (by simp[Env.put]) rfl⟩
  ·by_cases L:l.length+f.length≤cap
   ·-- in its place
    have aa:=Nat.mul_le_mul_right (C.sz n) L;have W:bM P lo t u H (.sl (C.sz n) b off l.length cap ex) x=some (.sl (bl P e) b off (l.length+f.length) cap ex,H.set b (some (.cells (splice as (off+l.length*bl P e) rA.flatten)))):=by
     simp only[bM,hc,J,s];grind
    have af:(splice as (off+l.length*bl P e) rA.flatten).length=as.length:=by
     unfold splice;grind
    have c:=q.put (H':=H.set b (some (.cells (splice as (off+l.length*bl P e) rA.flatten)))) id (.rows n (l++f) full root) (some b) (.sl (bl P e) b off (l.length+f.length) cap ex) root (by simp)
     (fun b' z d=>by
      rw[qg]at d;split at d
      ·rename_i e1;subst e1;exact⟨fun cs j=>(q.fr b cs j).2 id _ g B,fun i o I y m=>I (q.inj i id o _ b y g m B)⟩
      grind)
     (fun b' z=>by
      simp at z;subst z;exact⟨by grind,X,fun cs j=>(q.fr b cs j).2 id _ g B,fun i o I y m=>I (q.inj i id o _ b y g m B),.inr gw⟩)
     (fun A=>by
      refine .inr ⟨b,off,cap,ex,_,by simp[Env.put,hz],by simp[Env.put],by simp[Env.put],by rw[qg,if_pos rfl,if_pos G],by grind,by grind,by grind, ?_, ?_⟩
      ·grind
      ·refine(cI.append hC g8 N ?_ ?_).mono A.le
       ·intro k hk;rw[rb (by grind),if_pos (by grind)]
       ·intro k hk;rw[rb (by grind),if_neg (by grind),if_pos (by grind)]
        grind)
    exact⟨_,_,_,W,c.1,c.2,by simp,.R (by simp[Env.put]) rfl⟩
   ·-- a new block
    have w:∀(pre:List bc),pre=(as.drop off).take (l.length*C.sz n)→cI E n (l++f) (pre++rA.flatten) 0∧(pre++rA.flatten).length=(l.length+f.length)*C.sz n:=by
     rintro pre rfl;refine⟨cI.append hC g8 N ?_ ?_,by grind⟩
     all_goals grind
    cases hex:ex with
    |true=>
     obtain⟨r1,r2⟩:=w _ rfl;obtain⟨E',Z,k2,k3,k4⟩:=fresh H _ rfl (fun b _ d=>(d rfl).elim) r1 r2 K
     refine⟨_,_,E', ?_,Z,k2,k3,k4⟩;simp only[bM,hu,J,s];grind
    |false=>
     have ac:cap=l.length:=by
      grind
     subst ac;have ag:off+l.length*C.sz n=as.length:=by
      grind
     have Y:as.drop off=(as.drop off).take (l.length*C.sz n):=(List.take_of_length_le (by simp;omega)).symm
     obtain⟨r1,r2⟩:=w (as.drop off) Y;obtain⟨E',Z,k2,k3,k4⟩:=fresh (H.set b none) _ (by simp) (fun b' _ d=>by
      grind) r1 r2 K
     refine⟨_,_,E', ?_,Z,k2,k3,k4⟩;simp only[bM,hu,J,s];grind
end Go.Sy
namespace Go.Sy
open Go.Am
variable {C:bK}{E:Env}{P:Program}
variable {H:bd}{blk:cb}
theorem gS:(H++[some blk])[H.length]?=some (some blk):=by simp
theorem Hq{b:Nat}{x:cb}(h:H[b]?=some (some x)):(H.set b (some blk))[b]?=some (some blk):=by grind
variable {h:SH C}{lo wlo:Nat}
theorem bu.pushEnd(c:bu E lo wlo h H)(o':Obj C.T)(a:bc)(blk:cb)
 (f:LeN h.length H.length E (E.put h.length (some H.length) a h.length)→eL (E.put h.length (some H.length) a h.length) (H++[some blk]) h.length o'):
 LeN h.length H.length E (E.put h.length (some H.length) a h.length)∧bu (E.put h.length (some H.length) a h.length) lo wlo (h++[some o']) (H++[some blk]):=
 c.push H.length o' a H.length (by simp) c.ll (qe _) (.inl (by simp)) (by simp) (fun b d e=>qf d) f
theorem kx{lo wlo:Nat}{t u e:TypeId}(Y:FK P t u e){h:SH C}{H:bd}(d:bu E lo wlo h H){rows:List (List (SV C.T))}{rA:List (List bc)}{s x:SV C.T}{a b:bc}(I:Er E s a)(w:ff H (bl P e) b=some rA)
 (R:b5 E (bl P e) rows rA) (G:rows.flatten.all qN=true) {K:SV C.T→SH C→Tree}
 (c:(match s with
  | .a .nils=>
   if rows.length=0 then K (.a .nils) h
   else if rows.length*P.bytesOf e≤140737488355328 then K (.sl (bl P e) h.length 0 rows.length rows.length false) (h++[some (.cells rows.flatten)])
   else .stuck "append: size"
  | .sl J id off len cap ex=>
   if J≠bl P e then .stuck "append: size" else
   match bF h id with
   |some (.cells cs)=>
    if off+len*bl P e≤cs.length then
     if rows.length=0 then K (.sl J id off len cap ex) h
     else if len+rows.length≤cap then
      if wlo≤id∧off+(len+rows.length)*bl P e≤cs.length then
       K (.sl (bl P e) id off (len+rows.length) cap ex) (h.set id (some (.cells (cs.take (off+len*bl P e)++rows.flatten++cs.drop (off+len*bl P e+rows.flatten.length)))))
      else .stuck "append: not one's own"
     else if(len+rows.length)*P.bytesOf e≤140737488355328 then
      bif ex then K (.sl (bl P e) h.length 0 (len+rows.length) (len+rows.length) false) (h++[some (.cells ((cs.drop off).take (len*bl P e)++rows.flatten))])
      else if wlo≤id∧off+len*bl P e=cs.length then K (.sl (bl P e) h.length 0 (len+rows.length) (len+rows.length) false) (h.set id none++[some (.cells (cs.drop off++rows.flatten))])
      else .stuck "append: not one's own"
     else .stuck "append: size"
    else .stuck "append: size"
   |_=>.stuck "append: gone"
  |_=>.stuck "append: to what" :Tree).holds):Out E lo wlo h H (fun v H'=>bM P lo t u H a b=some (v,H')) K:=by
 obtain⟨hu,hc⟩:=Y;have Z:rA.length=rows.length:=R.1.symm;have p:=R.flatten;have f:=jo p G;split at c
 ·rename_i I;cases I;split at c
  ·refine⟨.nils,H,.a .nils,h,E, ?_,LeN.refl _ _,qe _,d,qe _,.a _,c⟩;simp only[bM,hc,w,f];grind
  ·split at c
   ·have k:=d.pushEnd (.cells rows.flatten) (.sl (bl P e) H.length 0 rows.length rows.length false) (.cells rA.flatten) (fun g=>⟨H.length,_,by simp[Env.put],by simp[Env.put],gS,p.mono g.le⟩)
    refine⟨_,_,_,_,_, ?_,k.1,by simp,k.2,by simp,.sl (b:=H.length) (by simp[Env.put]),c⟩
    simp only[bM,hc,w,f];grind
   ·exact qw c
 ·rename_i J id off len cap ex I;split at c
  ·exact qw c
  ·rename_i y;have y:J=bl P e:=Decidable.of_not_not y;split at c
   ·rename_i cs U;split at c
    ·cases I with
     |sl l=>
      rename_i z M;have j:=bm U;obtain⟨b',as,g1,W,X,A⟩:=d.obj id _ j;rw[l]at g1;simp at g1;subst g1;have hl:=A.1;split at c
      ·refine⟨_,H,_,h,E, ?_,LeN.refl _ _,qe _,d,qe _,.sl l,c⟩;simp only[bM,hc,w,f];grind
      ·split at c
       ·split at c
        ·rename_i N;have L:=d.low id z N.1 l;refine⟨_,H.set z (some (.cells (splice as (off+len*bl P e) rA.flatten))),_,_,E, ?_,LeN.refl _ _,by simp,d.upd j (by simp) ?_ ?_,by simp,.sl l,c⟩
         ·simp only[bM,hc,w,f];grind
         ·grind
         ·refine⟨z,_,l,W,Hq X, ?_⟩;unfold splice;rw[← p.1];exact((A.take _).append p).append (A.drop _)
        ·exact qw c
       ·split at c
        ·cases hex:ex with
         |true=>
          subst hex;have k:=d.pushEnd (.cells ((cs.drop off).take (len*bl P e)++rows.flatten)) (.sl (bl P e) H.length 0 (len+rows.length) (len+rows.length) false) (.cells ((as.drop off).take (len*bl P e)++rA.flatten))
           (fun g=>⟨H.length,_,by simp[Env.put],by simp[Env.put],gS,(((A.drop off).take _).append p).mono g.le⟩)
          refine⟨_,_,_,_,_, ?_,k.1,by simp,k.2,by simp,.sl (b:=H.length) (by simp[Env.put]),c⟩
          simp only[bM,hc,w,f];grind
         |false=>
          subst hex;split at c
          ·rename_i N;have L:=d.low id z N.1 l;have k:=d.put (H':=H.set z none++[some (.cells (as.drop off++rA.flatten))]) id (.cells (cs.drop off++rows.flatten)) (some H.length) (.sl (bl P e) H.length 0 (len+rows.length) (len+rows.length) false) h.length (by simp)
            (fun q O B=>by
             rw[qf (by grind),qg]at B
             split at B
             ·rename_i e1;subst e1;exact⟨fun cs m=>(d.fr _ cs m).2 id _ j l,fun i o Q D n=>Q (d.inj i id o _ _ D j n l)⟩
             grind)
            (fun q O=>by
             simp at O;subst O;refine⟨by simp,d.ll,fun cs m=>?_,fun i o Q D n=>?_,.inl ⟨?_,qe _⟩⟩
             ·have:=lt_of_some (d.fr _ cs m).1;omega
             ·have:=d.bnd i _ n;omega
             ·cases hwn:E.ω H.length with
              |none=>rfl
              |some r=>have:=(d.own _ r hwn).1;omega)
            (fun g=>⟨H.length,_,by simp[Env.put],by simp[Env.put],by grind,((A.drop off).append p).mono g.le⟩)
           refine⟨_,_,_,_,_, ?_,k.1,by simp,k.2,by simp,.sl (b:=H.length) (by simp[Env.put]),c⟩
           simp only[bM,hc,w,f];grind
          ·exact qw c
        ·exact qw c
    ·exact qw c
   ·exact qw c
 ·exact qw c
theorem kw{z:Nat}:∀{n:Nat} {as:List bc},as.length=n*z→(cq z n as).flatten=as
 |0,as,h=>by simp at h;subst h;rfl
 |n+1,as,h=>by
  simp only[cq,List.flatten_cons];rw[kw (n:=n) (by grind),List.take_append_drop]
theorem Hx{n m:Nat}(c:n=m)(l:List (C.T n)):(kn c l).map (C.enc m)=l.map (C.enc n)∧(kn c l).length=l.length:=by
 subst c;exact⟨rfl,rfl⟩
variable {K:SV C.T→SH C→Tree}{a b:bc}{s:SV C.T}{t u:TypeId}{x:SV C.T}
theorem zO(U:bo C)(f:bu E lo wlo h H)(ha:Er E s a)(hb:Er E x b)(c:(nw P wlo t u h s x K).holds):
 Out E lo wlo h H (fun v H'=>bM P lo t u H a b=some (v,H')) K:=by
 unfold nw at c;split at c
 case h_2=>exact qw c
 rename_i e hu;split at c
 case isFalse=>exact qw c
 rename_i hc;have hA:FK P t u e:=⟨hu,hc⟩;split at c
 ·exact qw c
 ·rename_i rows J;obtain⟨rA,G,O⟩:=A2 U f hb J (by grind)
  split at c
  ·exact qw c
  ·have ab:rows.flatten.all qN=true:=by grind
   split at c
   ·exact kx hA f (s:=.a .nils) (x:=x) ha G O ab c
   ·rename_i s0 id off len cap ex;exact kx hA f (s:=.sl s0 id off len cap ex) (x:=x) ha G O ab c
   ·rename_i id;split at c
    ·rename_i n l full root ho;split at c
     ·rename_i N;split at c
      ·exact qw c
      ·rename_i xs af;have W:b5 E (C.sz n) (xs.map (C.enc n)) rA:=by
        rw[N.1];exact gG U O af
       split at c
       ·-- nothing
        have X:rA=[]:=qp (by rw[← W.1];rfl)
        subst X;cases ha with
        |R hg hs=>
         refine⟨a,H,_,h,E, ?_,LeN.refl _ _,qe _,f,qe _,.R hg hs,c⟩;rcases f.obj id _ (bm ho)with⟨rfl,aq,a',g1,g2⟩|⟨b,off,cap,ex,as,g1,g2,gw,g3,g4,g5,g6,g7,g8⟩
         ·rw[hg]at g1;simp at g1;subst g1;rcases g2 with rfl|rfl
          ·simp[bM,hu,hc,G]
          ·simp[bM,hu,hc,G,N.1]
         ·rw[hg]at g1;simp at g1;have al:=Nat.mul_le_mul_right (C.sz n) g4;simp only[bM,hc,G];grind
       ·split at c
        ·rename_i hf;obtain⟨Y,Q⟩:=c;obtain⟨v,H',E',k1,k2,k3,k4,k5⟩:=lU U hA f ho N.1 N.2 ha G W (hf.imp_right fun h=>by grind) Y
         exact⟨v,H',_,_,E',k1,k2,by simp,k3,k4,k5,Q⟩
        ·exact qw c
     ·exact qw c
    ·exact qw c
   ·exact qw c
 ·rename_i n d J;obtain⟨rA,G,hz,O⟩:=A2 U f hb J (by grind)
  have hn:rA.length=d.length:=by rw[← O.1];simp
  have ah:rA.flatten.all bc.one=true:=jo (by exact O.flatten) (Ay U d)
  rw[← hz]at O;have an:rA.flatten.length=d.length*C.sz n:=by rw[ie O.lens,hn]
  split at c
  ·cases ha;obtain⟨Y,Q⟩:=c
   by_cases h0:d.length=0
   ·have ad:d=[]:=qp h0;subst ad;have X:rA=[]:=qp (by rw[hn];rfl)
    subst X;have e1:h.set h.length none=h:=by
     apply List.ext_getElem?;grind
    have g:=f.put (H':=H) h.length (.rows n [] true h.length) none .nils h.length (qe _) (fun b _ B=>(B rfl).elim) (fun b hb=>by cases hb) (fun w=>.inl ⟨rfl,by simp[Env.put],.nils,by simp[Env.put],.inl rfl⟩)
    rw[e1]at g;refine⟨.nils,H,_,_,_, ?_,g.1,by simp,g.2,qe _,.R (by simp[Env.put]) rfl,Q⟩
    simp[bM,hu,hc,G]
   ·have hp:=f.pushEnd (.rows n d true h.length) (.sl (bl P e) H.length 0 d.length d.length false) (.cells rA.flatten) (fun w=>by
     have:=GB U (E':=E.put h.length (some H.length) (.sl (bl P e) H.length 0 d.length d.length false) h.length) (H':=H++[some (.cells rA.flatten)]) (id:=h.length) (p:=H.length) (root:=h.length) (l:=d) (full:=true)
      (by simp[Env.put,hz]) (by simp[Env.put]) (by simp[Env.put]) gS (O.mono w.le)
     exact this)
    refine⟨.sl (bl P e) H.length 0 d.length d.length false,_,_,_,_, ?_,hp.1,by simp,hp.2,by simp,.R (by simp[Env.put]) rfl,Q⟩
    simp only[bM,hc,G,ah];grind
  ·split at c
   ·rename_i m l full root ho;split at c
    ·rename_i N;split at c
     ·rename_i em;obtain⟨Y,Q⟩:=c;obtain⟨c1,c2⟩:=Hx em d;have W:b5 E (C.sz m) ((kn em d).map (C.enc m)) rA:=by
       grind
      obtain⟨v,H',E',k1,k2,k3,k4,k5⟩:=lU U hA f ho N.1 N.2.1 ha G W (.inl N.2.2) (by grind)
      exact⟨v,H',_,_,E',k1,k2,by simp,k3,k4,k5,Q⟩
     ·exact qw c
    ·exact qw c
   ·exact qw c
  ·rename_i s0 id off len cap ex;split at c
   ·rename_i cs ho;split at c
    ·rename_i ag;obtain⟨rfl,N,am,rfl,rfl⟩:=ag;split at c
     ·exact qw c
     ·rename_i xs af;obtain⟨Y,Q⟩:=c;cases ha with
      |sl D=>
       rename_i bb;have I:=bm ho;obtain⟨b',as,g1,gw,g2,g3⟩:=f.obj id _ I;rw[D]at g1;simp at g1;subst g1;have hl:=g3.1;have ak:=f.low id bb N D;have aj:=lt_of_some g2;have ae:=gG U (fP (n:=cap) (z:=bl P e) (g3.drop off) (by simp;omega)) af
       rw[← hz]at ae;have A:xs.length=cap:=by
        have:=ae.1;rw[d3]at this
        grind
       have ao:(cq (C.sz n) cap (as.drop off)).flatten=as.drop off:=kw (by grind)
       have ac:cI E n xs (as.drop off) 0:=cI.of_flat U ae fun k Q=>by grind
       have ap:(as.drop off).length=xs.length*C.sz n:=by grind
       by_cases h0:d.length=0
       ·have ad:d=[]:=qp h0;subst ad;have X:rA=[]:=qp (by rw[hn];rfl)
        have g:=f.put (H':=H) id (.rows n (xs++[]) true id) (some bb) (.sl (bl P e) bb off cap cap false) id (qe _) (fun b _ B=>(B rfl).elim) (fun b' hb=>by
         simp at hb;subst hb;exact⟨aj,ak,fun cs L=>(f.fr _ cs L).2 id _ I D,fun i o hi Z M=>hi (f.inj i id o _ _ Z I M D),.inr gw⟩)
         (fun w=>.inr ⟨bb,off,cap,false,as,by simp[Env.put,A,hz],by simp[Env.put],by simp[Env.put],g2,by simp[A],by grind,.inr (by grind),fun _=>.inr (by simp[A]),by
          rw[List.append_nil];intro i y j xx aa q1 q2 q3;refine(ac.mono w.le) i y j xx aa q1 q2 ?_;grind⟩)
        refine⟨.sl (bl P e) bb off cap cap false,H,_,_,_, ?_,g.1,by simp,g.2,qe _,.R (by simp[Env.put]) rfl,Q⟩
        simp only[bM,hc,G];grind
       ·have hp:=f.put (H':=H.set bb none++[some (.cells (as.drop off++rA.flatten))]) id (.rows n (xs++d) true id) (some H.length) (.sl (bl P e) H.length 0 (cap+d.length) (cap+d.length) false) id (by simp)
         (fun q hq B=>by
          rw[qf (by grind),qg]at B
          split at B
          ·rename_i e1;subst e1;exact⟨fun cs L=>(f.fr _ cs L).2 id _ I D,fun i o hi Z M=>hi (f.inj i id o _ _ Z I M D)⟩
          grind)
         (fun q hq=>by
          simp at hq;subst hq;refine⟨by simp,f.ll,fun cs L=>?_,fun i o hi Z M=>?_,.inl ⟨?_,qe _⟩⟩
          ·have:=lt_of_some (f.fr _ cs L).1;omega
          ·have:=f.bnd i _ M;omega
          ·cases hwn:E.ω H.length with
           |none=>rfl
           |some r=>have:=(f.own _ r hwn).1;omega)
         (fun w=>.inr ⟨H.length,0,cap+d.length,false,as.drop off++rA.flatten,by simp[Env.put,A,hz],by simp[Env.put],by simp[Env.put],by grind,by simp[A],
          by grind,.inr (by grind),fun _=>.inr (by simp[A]),by
          refine cI.append U (ac.mono w.le) (O.mono w.le) ?_ ?_
          all_goals grind⟩)
        refine⟨.sl (bl P e) H.length 0 (cap+d.length) (cap+d.length) false,_,_,_,_, ?_,hp.1,by simp,hp.2,by simp,.R (by simp[Env.put]) rfl,Q⟩
        simp only[bM,hc,G,ah];grind
    ·exact qw c
   ·exact qw c
  ·exact qw c
end Go.Sy
namespace Go.Sy
open Go.Am
variable {C:bK}{E:Env}{P:Program}
inductive ErO(E:Env):Option (SV C.T)→Option bc→Prop
 |none:ErO E none none
 |some {x:SV C.T} {a:bc}:Er E x a→ErO E (some x) (some a)
variable {a:Option bc}{x:Option (SV C.T)}{y:Nat}
theorem dA{d:Nat}{r:Nat}(b:ErO E x a)(h:kH d x=some r)(c:r≤y):bL d y a=some r:=by
 cases b with
 |none=>simp only[kH,qa]at h;subst h;rfl
 |some b=>
  unfold kH at h;split at h
  ·grind
  ·rename_i k m e;simp at h e;subst h e;cases b;simp[bL,iJ,c]
  ·cases h
theorem eh{d:Int}{r:Int}(b:ErO E x a)(h:nH d x=some r)(c:0≤r)(e:r≤(y:Int)):bL d.toNat y a=some r.toNat:=by
 cases b with
 |none=>simp only[nH,qa]at h;subst h;rfl
 |some b=>
  simp only[nH,qd]at h;obtain⟨⟨k,n⟩,h1,rfl⟩:=h;rw[cr b h1];simp only[bL,iJ,if_true];grind
theorem u7{r:Option bc}(b:ErO E x a)(h:Dg x=some r):a=r:=by
 cases b with
 |none=>simp only[Dg,qa]at h;exact h
 |some b=>
  unfold Dg at h;split at h
  ·grind
  ·rename_i v e;simp at h e;subst h e;cases b;rfl
  ·cases h
variable {H:bd}{t:TypeId}
theorem yj{v r:bc}{lo b mx:Option bc}(h:b9 P t [] v lo b mx=some r):b9 P t H v lo b mx=some r:=by
 unfold b9 at h ⊢;grind
theorem cI.cut{n:Nat}{l:List (C.T n)}{as:List bc}{off p q:Nat}(h:cI E n l as off):cI E n ((l.drop p).take q) as (off+p*C.sz n):=by
 intro i y j x a h1 b c;rw[List.getElem?_take]at h1;split at h1
 ·rw[List.getElem?_drop]at h1;refine h (p+i) y j x a h1 b ?_;grind
 ·cases h1
theorem CV{lo J:Nat}{h:SH C}(k:bu E lo J h H){x:SV C.T}{a:bc}{l u m:Option (SV C.T)}{l' u' m':Option bc}(Q:Er E x a)(hl:ErO E l l')(hu:ErO E u u')(U:ErO E m m'){K:SV C.T→SH C→Tree}(c:(iK P J t h x l u m K).holds):
 Out E lo J h H (fun v H'=>b9 P t H a l' u' m'=some v∧H'=H) K:=by
 have str:∀{s:List UInt8} {p q:Int},P.underlying t=some .string→m=none→nH 0 l=some p→nH s.length u=some q→0≤p∧p≤q∧q≤(s.length:Int)→
  (K (.s ((s.drop p.toNat).take (q.toNat-p.toNat))) h).holds→Out E lo J h H (fun v H'=>b9 P t H (.str s) l' u' m'=some v∧H'=H) K:=by
  intro s p q g ah A j B N;subst ah;cases U;have e1:=eh (y:=s.length) hu j (by omega) B.2.2
  have e2:=eh (y:=q.toNat) hl A B.1 (by omega)
  refine⟨_,H,_,h,E,⟨?_,rfl⟩,LeN.refl _ _,qe _,k,qe _,.s _,N⟩;simp only[b9,e1,Option.bind_some];grind
 unfold iK at c;split at c
 ·split at c
  ·rename_i l1 u1 m1 e1 e2 e3;cases Q;obtain⟨r,h1,h2⟩:=bI c;rw[u7 hl e1,u7 hu e2,u7 U e3];exact⟨r,H,_,h,E,⟨yj h1,rfl⟩,LeN.refl _ _,qe _,k,qe _,.a _,h2⟩
  ·split at c
   ·rename_i s hs g ar;split at c
    ·rename_i p q A j;rw[ed Q hs];exact str g rfl A j c.1 c.2
    ·exact qw c
   ·exact qw c
 ·split at c
  ·rename_i g;split at c
   ·rename_i p q A j;cases Q;exact str g rfl A j c.1 c.2
   ·exact qw c
  ·exact qw c
 ·rename_i n ll;split at c
  ·rename_i e g;split at c
   ·rename_i hc;split at c
    ·split at c
     ·rename_i p q A j;obtain⟨⟨Y,al,d⟩,N⟩:=c;cases U;have e1:=eh (y:=ll.length) hu j (by omega) d
      have e2:=eh (y:=q.toNat) hl A Y (by omega)
      simp at e1 e2;have D:((ll.drop p.toNat).take (q.toNat-p.toNat)).length=q.toNat-p.toNat:=by simp;omega
      cases Q with
      |tlN=>
       simp at e1 d;refine⟨.nils,H,_,h,E,⟨?_,rfl⟩,LeN.refl _ _,qe _,k,qe _, ?_,N⟩
       ·simp only[b9,g,hc.1,if_true,e1,Option.bind_some,e2,Option.map_some]
       ·simp;exact .tlN
      |tlL L w hs hr=>
       rename_i z rows ex;refine⟨.list z ((rows.drop p.toNat).take (q.toNat-p.toNat)) (ex && q.toNat==rows.length),H,_,h,E,⟨?_,rfl⟩,LeN.refl _ _,qe _,k,qe _, ?_,N⟩
       ·simp only[b9,g,hc.1,if_true,L,hc.2,w,e1,Option.bind_some,e2,Option.map_some]
       ·refine .tlL L (by simp[w]) ?_ ?_
        all_goals grind
      |tlS L w hf ho ae hr=>
       rename_i z b off len cap as ex;subst w;refine⟨.sl z b (off+p.toNat*z) (q.toNat-p.toNat) (cap-p.toNat) ex,H,_,h,E,⟨?_,rfl⟩,LeN.refl _ _,qe _,k,qe _, ?_,N⟩
       ·have G:=eh (y:=cap) hu j (by omega) (by omega)
        simp at G;simp only[b9,g,hc.1,if_true,L,hc.2,G,Option.bind_some,e2,Option.map_some]
       ·subst L;have aq:p.toNat*C.sz n+(q.toNat-p.toNat)*C.sz n≤ll.length*C.sz n:=by
         rw[← Nat.add_mul];exact Nat.mul_le_mul_right _ (by omega)
        exact .tlS rfl D.symm hf (by grind) (by grind) (cI.cut hr)
     ·exact qw c
    ·split at c
     ·rename_i uu e1 e2;split at c
      ·rename_i e3;cases U with
       |some ab=>
       cases hu with
       |some ac=>
       rename_i am au;have b1:bL 0 0 l'=some 0:=dA hl e1 (qe _);have b2:bL 0 0 (some au)=some 0:=dA (.some ac) e3 (qe _);have b3:∀y,bL 0 y (some am)=some 0:=fun y=>dA (.some ab) e2 (Nat.zero_le _)
       have key:∀(v:bc),o8 v=true→yM E (C.sz n) v→b9 P t H a l' (some au) (some am)=some v→Out E lo J h H (fun v H'=>b9 P t H a l' (some au) (some am)=some v∧H'=H) K:=by
        intro v aj hv he;have af:h.set h.length none=h:=by
         apply List.ext_getElem?;grind
        have f:=k.put (H':=H) h.length (.rows n [] true h.length) none v h.length (qe _) (fun b _ I=>(I rfl).elim) (fun b B=>by cases B) (fun aa=>.inl ⟨rfl,by simp[Env.put],v,by simp[Env.put],hv⟩)
        rw[af]at f;exact⟨v,H,_,_,_,⟨he,rfl⟩,f.1,by simp,f.2,qe _,.R (by simp[Env.put]) aj,c⟩
       cases Q with
       |tlN=>exact key .nils rfl (.inl rfl) (by simp only[b9,g,hc.1,if_true,Option.isSome_some,b3,Option.bind_some,b2,b1,Option.map_some])
       |tlL L w hs hr=>
        refine key (.list (C.sz n) [] true) rfl (.inr rfl) ?_;simp only[b9,g,hc.1,Option.isSome_some,L,hc.2,and_self,b3,Option.bind_some,b2,b1,Option.map_some];simp
       |tlS L w hf ho ae hr=>
        refine key (.list (C.sz n) [] true) rfl (.inr rfl) ?_;simp only[b9,g,hc.1,Option.isSome_some,L,hc.2,and_self,b3,Option.bind_some,b2,b1,Option.map_some];simp
      ·exact qw c
     ·exact qw c
   ·exact qw c
  ·exact qw c
 ·rename_i id;split at c
  ·rename_i e n ll full root g ho;split at c
   ·rename_i hc;split at c
    ·rename_i p q A j;obtain⟨⟨Y,al,d⟩,N⟩:=c;cases U;have e1:=eh (y:=ll.length) hu j (by omega) d
     have e2:=eh (y:=q.toNat) hl A Y (by omega)
     simp at e1 e2;have D:((ll.drop p.toNat).take (q.toNat-p.toNat)).length=q.toNat-p.toNat:=by simp;omega
     have W:=bm ho;cases Q with
     |R hg hs=>
     rcases k.obj id _ W with⟨rfl,av,a',g1,O⟩|⟨b,off,cap,ex,as,g1,O,gw,g3,g4,g5,g6,g7,g8⟩
     ·rw[hg]at g1;simp at g1;subst g1;simp at d e1;have aw:p.toNat=0:=by omega
      have ag:q.toNat=0:=by omega
      rw[ag]at e1 e2;have M:yM E (C.sz n) a∧b9 P t H a l' u' none=some a:=by
       refine⟨O, ?_⟩;rcases O with rfl|rfl
       ·simp only[b9,g,hc.1,if_true,e1,Option.bind_some,e2,Option.map_some]
       ·simp only[b9,g,hc.1,hc.2.1,List.length_nil,e1,Option.bind_some,e2,Option.map_some];simp
      have f:=k.put (H':=H) id (.rows n ((([]:List (C.T n)).drop p.toNat).take (q.toNat-p.toNat)) (full && u.isNone) root) none a root (qe _) (fun b _ I=>(I rfl).elim) (fun b B=>by cases B)
       (fun aa=>.inl ⟨by simp,by simp[Env.put],a,by simp[Env.put],M.1⟩)
      exact⟨a,H,_,_,_,⟨M.2,rfl⟩,f.1,by simp,f.2,qe _,.R (by simp[Env.put]) hs,N⟩
     ·rw[hg]at g1;simp at g1;subst g1;have G:=eh (y:=cap) hu j (by omega) (by omega)
      simp at G;have ad:=lt_of_some g3;have ax:p.toNat*C.sz n+(cap-p.toNat)*C.sz n=cap*C.sz n:=by rw[← Nat.add_mul];grind
      have f:=k.put (H':=H) id (.rows n ((ll.drop p.toNat).take (q.toNat-p.toNat)) (full && u.isNone) root) (some b) (.sl (C.sz n) b (off+p.toNat*C.sz n) (q.toNat-p.toNat) (cap-p.toNat) ex) root (qe _) (fun b _ I=>(I rfl).elim)
       (fun b' B=>by
        simp at B;subst B;exact⟨ad,k.low id b hc.2.2 O,fun cs an=>(k.fr _ cs an).2 id _ W O,fun i o hi ao ap=>hi (k.inj i id o _ _ ao W ap O),.inr gw⟩)
       (fun aa=>.inr ⟨b,off+p.toNat*C.sz n,cap-p.toNat,ex,as,by simp only[Env.put,if_true,D],by simp[Env.put],by simp[Env.put],g3,by grind,by omega,g6.imp_right fun h=>by omega,by
        intro X;simp at X;rcases g7 X.1 with h1|h1
        ·exact .inl h1
        ·have ay:=X.2;simp only[nH]at j;grind,(cI.cut g8).mono aa.le⟩)
      exact⟨.sl (C.sz n) b (off+p.toNat*C.sz n) (q.toNat-p.toNat) (cap-p.toNat) ex,H,_,_,_,⟨by simp only[b9,g,hc.1,if_true,hc.2.1,G,Option.bind_some,e2,Option.map_some],rfl⟩,f.1,by simp,f.2,qe _,.R (by simp[Env.put]) rfl,N⟩
    ·exact qw c
   ·exact qw c
  ·exact qw c
 ·rename_i sz id off len cap ex;split at c
  ·rename_i e g;split at c
   ·rename_i hc;obtain⟨Z,rfl⟩:=hc;cases Q with
    |sl B=>
    split at c
    ·cases U;split at c
     ·rename_i p q A j;split at c
      ·rename_i d;have e1:=dA (y:=cap) hu j d.2;have e2:=dA (y:=q) hl A d.1;exact⟨_,H,_,h,E,⟨by simp only[b9,g,Z,if_true,e1,Option.bind_some,e2,Option.map_some],rfl⟩,LeN.refl _ _,qe _,k,qe _,.sl B,c⟩
      ·exact qw c
     ·exact qw c
    ·split at c
     ·rename_i p uu q' A ak;split at c
      ·rename_i q j;split at c
       ·rename_i d;cases U with
        |some ab=>
        cases hu with
        |some ac=>
        have e0:=dA (y:=cap) (.some ab) ak d.2.2;have e1:=dA (y:=q') (.some ac) j d.2.1;have e2:=dA (y:=q) hl A d.1
        by_cases az:q'≤p
        ·have:Nat.ble q' p=true:=by simp_all
         rw[this]at c;exact⟨_,H,_,h,E,⟨by simp only[b9,Z,if_true,Option.isSome_some,and_self,e0,e1,Option.bind_some,e2,Option.map_some];grind,rfl⟩,LeN.refl _ _,qe _,k,qe _,.a _,c⟩
        ·have:Nat.ble q' p=false:=by rw[Bool.eq_false_iff];simp_all
         rw[this]at c;exact⟨_,H,_,h,E,⟨by simp only[b9,Z,if_true,Option.isSome_some,and_self,e0,e1,Option.bind_some,e2,Option.map_some];grind,rfl⟩,LeN.refl _ _,qe _,k,qe _,.sl B,c⟩
       ·exact qw c
      ·exact qw c
     ·exact qw c
   ·exact qw c
  ·exact qw c
 ·rename_i id off;split at c
  ·rename_i n e cs g ho;split at c
   ·rename_i hc;split at c
    ·rename_i p q A j;split at c
     ·rename_i d;cases U;cases Q with
      |ptr B=>
      obtain⟨b',as,g1,gw,O,g3⟩:=k.obj id _ (bm ho);rw[B]at g1;simp at g1;subst g1;have w:=g3.1;have e1:=dA (y:=n) hu j d.2;have e2:=dA (y:=q) hl A d.1;refine⟨_,H,_,h,E,⟨?_,rfl⟩,LeN.refl _ _,qe _,k,qe _,.sl B,c⟩;simp only[b9,hc.1,Option.isNone_none,and_self,if_true,O];grind
     ·exact qw c
    ·exact qw c
   ·exact qw c
  ·exact qw c
 ·exact qw c
end Go.Sy
namespace Go.Sy
open Go.Am
variable {C:bK}{E:Env}
theorem ErO.map{ev:Operand→SV C.T}{c:Operand→bc}(b:∀x,Er E (ev x) (c x))(o:Option Operand):ErO E (o.map ev) (o.map c):=by
 cases o with
 |none=>exact .none
 |some x=>exact .some (b x)
theorem Ers.map{ev:Operand→SV C.T}{c:Operand→bc}(b:∀x,Er E (ev x) (c x)):∀(l:List Operand),Ers E (l.map ev) (l.map c)
 | []=>Ers.nil
 |x::l=>(Ers.map b l).cons (b x)
variable {H:bd}{K:SV C.T→SH C→Tree}{S:bh}{h:SH C}{lo:Nat}{op:Op}{wlo:Nat}{ρ:List bc}
theorem s9(O:bo C){ev:Operand→SV C.T}(g:∀x,Er E (ev x) (bj S ρ x))(q:bu E lo wlo h H)(j:(iN S wlo ev h op K).holds):
 Out E lo wlo h H (fun v H'=>bR S ρ H op=some v∧H'=H) K:=by
 have ret:∀{x:Option bc} {a:bc} {sv:SV C.T},x=some a→Er E sv a→(K sv h).holds→Ret E x (fun v=>K v h):=fun h1 u I=>⟨_,_,h1,u,I⟩
 unfold iN at j;split at j
 ·exact .of_ret q (ret rfl (g _) j)
 ·exact .of_ret q (ret rfl (g _) j)
 ·rename_i c a b;refine .of_ret q ?_;have hc:=g c;unfold Kn at j;split at j
  ·rename_i e;rw[e]at hc;generalize hv:bj S ρ c=v at hc;cases hc;exact ret (by simp only[bR,hv]) (g a) j
  ·rename_i e;rw[e]at hc;generalize hv:bj S ρ c=v at hc;cases hc;exact ret (by simp only[bR,hv]) (g b) j
  ·rename_i t e;rw[e]at hc;generalize hv:bj S ρ c=v at hc;cases hc;rcases eP j with⟨rfl,h1⟩|⟨rfl,h1⟩
   ·exact ret (by simp only[bR,hv]) (g a) h1
   ·exact ret (by simp only[bR,hv]) (g b) h1
  ·exact qw j
 ·rename_i t z;have P:jG E (z.toList.map fun p=>(p.1,ev p.2)) (z.toList.map fun p=>(p.1,bj S ρ p.2)):=by
   generalize z.toList=l;induction l with
   |nil=>exact .nil
   |cons p l R=>exact .cons (g p.2) R
  exact .of_ret q (BV P j)
 ·exact .of_ret q (vR O q (g _) j)
 ·rename_i x;refine .of_ret q ?_;have s:=g x;unfold tF at j;split at j
  ·rename_i e;rw[e]at s;generalize hv:bj S ρ x=v at s;cases s with
   |ptr M=>exact ret (by simp only[bR,hv,dZ]) (.ptr M) j
  ·rename_i e;rw[e]at s;generalize hv:bj S ρ x=v at s;cases s with
   |ep M=>exact ret (by simp only[bR,hv,dZ]) (.ep M) j
  ·rename_i e;rw[e]at s;generalize hv:bj S ρ x=v at s;cases s with
   |fpI e1 hl J=>exact ret (by simp only[bR,hv,dZ]) (.fpI e1 hl J) j
   |fpP U e1 hl J=>exact ret (by simp only[bR,hv,dZ]) (.fpP U e1 hl J) j
  ·rename_i e;rw[e]at s;generalize hv:bj S ρ x=v at s;cases s with
   |fn h1 u I L=>exact ret (by simp only[bR,hv,dZ]) (.fn h1 u I L) j
  ·rename_i e;rw[e]at s;generalize hv:bj S ρ x=v at s;cases s;obtain⟨r,h1,u⟩:=bI j;exact ret (by simp only[bR,hv];exact h1) (.a _) u
  ·exact qw j
 ·exact .of_ret q (HM (g _) (g _) j)
 ·exact .of_ret q (LX (g _) j)
 ·exact .of_ret q (Ge q (g _) j)
 ·rename_i t x;split at j
  ·exact qw j
  ·rename_i Q;exact .of_ret q (ret (by simp only[bR];grind) (.iface (g x)) j)
 ·rename_i f first A;refine .of_ret q (ret rfl ?_ j);have h1:=Ers.map g first.toList;have u:=Ers.map g A.toList;exact .fn h1.1 h1.2 u.1 u.2
 ·exact CV q (g _) (.map g _) (.map g _) (.map g _) j
 ·exact .of_ret q (sS (g _) j)
 ·exact .of_ret q (BK (g _) j)
 ·exact .of_ret q (sM O q (g _) (g _) j)
 ·exact .of_ret q (Ct (g _) (g _) j)
 ·rename_i x i;refine .of_ret q ?_;have s:=g x;unfold wR at j;split at j
  ·rename_i e;rw[e]at s;generalize hv:bj S ρ x=v at s;cases s with
   |tup hl J=>
    obtain⟨r,h1,u⟩:=bI j;have D:Ers E _ _:=⟨hl,J⟩;obtain⟨w,I,L⟩:=D.get h1;exact ret (by simp only[bR,hv];exact I) L u
  ·rename_i e;rw[e]at s;generalize hv:bj S ρ x=v at s;cases s;obtain⟨r,h1,u⟩:=bI j;exact ret (by simp only[bR,hv];exact h1) (.a _) u
  ·exact qw j
 ·exact .of_ret q (yZ q (g _) (g _) j)
 ·exact .of_ret q (rm (g _) j)
 ·rename_i c;obtain⟨callee,args,W⟩:=c;simp only at j;have N:∀{mx:Bool},(minS mx (args.toList.map ev) fun v=>K v h).holds→∃k m G n,args.toList.map (bj S ρ)=[.int k m,.int G n]∧∃sv,Er E sv (.int k (bif mx then(if m<n then n else m)else(if n<m then n else m)))∧(K sv h).holds:=by
   intro mx B;unfold minS at B;split at B
   ·rename_i x y e;have D:=Ers.map g args.toList;rw[e]at D;obtain⟨a,as,e1,h1,D⟩:=D.inv_cons;obtain⟨b,X,e2,u,D⟩:=D.inv_cons;obtain rfl:=D.inv_nil;subst e2;split at B
    ·rename_i k m G n q1 q2;rw[cr h1 q1,cr u q2]at e1;refine⟨k,m,G,n,e1, ?_⟩;cases hl:isLit x && isLit y with
     |true=>rw[hl]at B;exact⟨_,.a _,B⟩
     |false=>rw[hl]at B;exact⟨_,.i _ _,B⟩
    ·exact qw B
   ·exact qw B
  split at j
  ·split at j
   ·rename_i t x h1 u;have:=HU q (g x) j;exact .of_ret q (by simp only[bR,h1,u];exact this)
   ·exact qw j
  ·obtain⟨k,m,G,n,e,sv,h1,u⟩:=N j;exact .of_ret q (ret (by simp only[bR,e];rfl) h1 u)
  ·obtain⟨k,m,G,n,e,sv,h1,u⟩:=N j;exact .of_ret q (ret (by simp only[bR,e];rfl) h1 u)
  ·exact qw j
 ·exact qw j
def gB(S:bh)(call:gq C):Prop:=∀(E:Env) (lo wlo:Nat) (f:FuncId) (args:List (SV C.T)) (h:SH C) (H:bd) (K:SV C.T→SH C→Tree) (av:List bc),(call wlo f args h K).holds→bu E lo wlo h H→Ers E args av→
 Out E lo wlo h H (fun v H'=>∃n,co S (cB S n) lo f av H=some (v,H')) K
def fB(S:bh)(noExt:FuncId→Bool):Prop:=∀f,noExt f=true→∀as,S.ext f as=none
theorem sC{E:Env}:∀{xs:List (SV C.T)} {as b:List bc},Ers E xs as→s2 xs=some b→as=b
 | [],_,_,h,e=>by
  rw[h.inv_nil]
  simpa[s2]using e
 |x::xs,_,_,h,e=>by
  obtain⟨a,as,rfl,h1,c⟩:=h.inv_cons;cases x<;>simp only[s2,reduceCtorEq]at e
  rw[qd]at e;obtain⟨cs,e1,rfl⟩:=e;cases h1;rw[sC c e1]
variable {a:bc}{v:SV C.T}
theorem Cc{E:Env}{x:SV C.T}{t:TypeId}(h:Er E x a)(e:yx x=some (t,v)):∃w,a= .iface t w∧Er E v w:=by
 unfold yx at e;split at e
 ·cases h with
  |iface h=>grind
 ·obtain⟨rfl,rfl⟩:=e;cases h;exact⟨_,rfl,.a _⟩
 ·cases e
variable {call:gq C}{noExt:FuncId→Bool}
theorem wa(k:fB S noExt)(c:gB S call)(e:bu E lo wlo h H){g:FuncId}{xs:List (SV C.T)}{av:List bc}(f:Ers E xs av)
 (b:(Bb S noExt call wlo g xs h K).holds):Out E lo wlo h H (fun v H'=>∃n,(match S.ext g av with|some v=>some (v,H)|none=>co S (cB S n) lo g av H)=some (v,H')) K:=by
 unfold Bb at b;cases hx:noExt g with
 |true=>
  rw[hx]at b;refine(c E lo wlo g _ h H K _ b e f).mono ?_;rintro r H' ⟨n,j⟩;exact⟨n,by simp only[k g hx,j]⟩
 |false=>
  rw[hx]at b;split at b
  ·rename_i as hl;have hl:=sC f hl;split at b
   ·rename_i v l;refine(Out.of_ret (x:=some v) e ⟨v,_,rfl,.a v,b⟩).mono ?_;simp_all
   ·exact qw b
  ·exact qw b
theorem uT(N:bo C)(O:fB S noExt)(p:gB S call){ev:Operand→SV C.T}(l:∀x,Er E (ev x) (bj S ρ x))(z:bu E lo wlo h H)
 (k:(uk S noExt call wlo ev h op K).holds):Out E lo wlo h H (fun v H'=>∃n,ek S (co S (cB S n)) lo ρ H op=some (v,H')) K:=by
 unfold uk at k;split at k
 ·rename_i t x v;refine(Cu N z (l x) (l v) k).mono ?_;rintro r H' ⟨rfl,h1⟩;exact⟨0,by simp only[ek,h1,Option.map_some]⟩
 ·rename_i t m x v;refine(zQ z (l m) (l x) (l v) k).mono ?_;rintro r H' ⟨rfl,h1⟩;exact⟨0,by simp only[ek,h1,Option.map_some]⟩
 ·rename_i x D;exact(Gz z (l x) k).mono fun r H' h1=>⟨0,by exact h1⟩
 ·rename_i c;obtain⟨callee,args,ts⟩:=c;simp only at k;have y:=Ers.map l args.toList;split at k
  ·split at k
   ·rename_i s x t u e1 e2;rw[e1]at y;obtain⟨a,as,e3,h1,y⟩:=y.inv_cons;obtain⟨b,bs,e4,I,y⟩:=y.inv_cons;obtain rfl:=y.inv_nil;subst e4;refine(zO N z h1 I k).mono ?_;intro r H' A;exact⟨0,by simp only[ek,e3,e2,A]⟩
   ·exact qw k
  ·rename_i f;have B:=l f;split at k
   ·rename_i g first j e;rw[e]at B;generalize hv:bj S ρ f=v at B;cases B;refine(wa O p z (((Ers.mapA first).append y).append (Ers.mapA j)) k).mono ?_;rintro r H' ⟨n,A⟩;exact⟨n,by simp only[ek,hv];exact A⟩
   ·rename_i g first j e;rw[e]at B;generalize hv:bj S ρ f=v at B;cases B with
    |fn q1 q2 Y Z=>
     have P:Ers E first _:=⟨q1,q2⟩;have Q:Ers E j _:=⟨Y,Z⟩;refine(wa O p z ((P.append y).append Q) k).mono ?_;rintro r H' ⟨n,A⟩;exact⟨n,by simp only[ek,hv];exact A⟩
   ·exact qw k
  ·rename_i r L;have R:=l r;split at k
   ·rename_i t v e;obtain⟨w,M,J⟩:=Cc R e;split at k
    ·rename_i g q U W;refine(p E lo wlo g _ h H K _ k z (y.cons J)).mono ?_;rintro X H' ⟨n,A⟩;exact⟨n,by simp only[ek,M,U,zx J W,A]⟩
    ·rename_i G;split at k
     ·rename_i v0 as hl;cases J;split at k
      ·split at k
       ·rename_i x hx;have hl:=sC y hl;refine(Out.of_ret (x:=some x) z ⟨x,_,rfl,.a x,k⟩).mono ?_;rintro X H' ⟨h1,rfl⟩;refine⟨0, ?_⟩;simp only[ek,M];split
        ·rename_i g' q' h1 I;exact(G _ _ h1 I).elim
        grind
       ·exact qw k
      ·exact qw k
     ·exact qw k
   ·exact qw k
  ·exact qw k
 ·exact qw k
theorem C8(h:cz op=true):bR S ρ H op=none:=by
 cases op<;>first|rfl|(simp[cz]at h;done)
theorem ot(h:dw op=true):bR S ρ H op=none∧lE S ρ op=none:=by
 cases op<;>first
  |exact⟨rfl,rfl⟩
  |(simp[dw]at h;done)
  |skip
 rename_i c;obtain⟨callee,args,e⟩:=c;cases callee<;>first
  |exact⟨rfl,rfl⟩
  |skip
 rename_i b;cases b<;>first
  |exact⟨rfl,rfl⟩
  |(simp[dw]at h;done)
theorem BZ(A:bo C){P:Program}(U:P=S.P){ev:Operand→SV C.T}(q:∀x,Er E (ev x) (bj S ρ x)){K:(Nat→Obj C.T)→(Nat→SV C.T)→Tree}(h:(zc P ev op K).holds)(call:cJ)(lo:Nat)(H:bd):
 bR S ρ H op=none∧lE S ρ op=none∧∃(blk:cb) (g:Nat→bc) (o:Nat→Obj C.T) (mk:Nat→SV C.T),ek S call lo ρ H op=some (g H.length,H++[some blk])∧(K o mk).holds∧∀(E':Env) (H':bd) (id b:Nat),E.le E'→E'.β id=some b→E'.γ id=some (g b)→E'.ω b=some id→H'[b]?=some (some blk)→eL E' H' id (o id)∧Er E' (mk id) (g b):=by
 subst U;unfold zc at h;split at h
 ·rename_i s d x;split at h
  ·rename_i e t u w D;split at h
   ·rename_i n G X;split at h
    ·rename_i f;obtain⟨k,Q⟩:=h;have ex:=ed (q x) D;refine⟨?_,rfl,.cells (t.map fun b=>.int .u8 b.toNat),fun id=>.sl 1 id 0 t.length t.length false,_,_, ?_,Q, ?_⟩
     ·simp only[bR,ee,iu,fj,u,w]
     ·simp only[ek,qW,u,w,G,ex]
     ·intro E' H' id b I J L M N;refine⟨.inr ⟨b,0,t.length,false,_, ?_,J,M,N, ?_, ?_,.inr ?_,fun _=>.inr ?_, ?_⟩,.R L rfl⟩
      ·grind
      ·simp
      ·simp[f]
      ·simp[f]
      ·simp
      ·intro i y j O a g1 m p;have W:j<C.sz n:=by have:=lt_of_some m;rw[A.len]at this;exact this
       have l:j=0:=by omega
       subst l;rw[List.getElem?_map]at g1;cases hti:t[i]? with
       |none=>grind
       |some c=>
        rw[hti]at g1;simp at g1;subst g1;obtain⟨y,z⟩:=Option.isSome_iff_exists.1 (k c);have B:byteOf C n c=y:=by unfold byteOf;rw[z];rfl
        rw[B]at m;rw[f,Nat.zero_add,Nat.mul_one,Nat.add_zero,List.getElem?_map,hti]at p;simp at p;subst p;exact(A.dec n _ y z E' [.int .u8 c.toNat] (.cons (.i _ _) .nil)).2 0 O _ m rfl
    ·exact qw h
   ·exact qw h
  ·exact qw h
 ·exact qw h
variable {o:Oper}{r:SR C}
theorem MD{F:Cf C}(m:bo C)(s:fB F.S F.noExt)(k:gB F.S call)(e:∀x,Er E (eg F.S r.get x) (bj F.S ρ x))(p:bu E lo wlo h H)
 (b:(opX F call wlo r h o K).holds):Out E lo wlo h H (fun v H'=>∃n,opA F.S (co F.S (cB F.S n)) lo ρ H o=some (v,H')) K:=by
 unfold opX at b;cases hn:cz o.op with
 |true=>
  rw[hn]at b;simp at b;obtain⟨blk,c,q,mk,h1,l,g⟩:=Bs m e b;have f:=p.pushEnd (q h.length) (c H.length) blk (fun j=>(g _ _ h.length H.length j.le (by simp[Env.put]) (by simp[Env.put]) (by simp[Env.put]) gS).1)
  refine⟨c H.length,_,mk h.length,_,_,⟨0, ?_⟩,f.1,by simp,f.2,by simp,(g _ _ h.length H.length f.1.le (by simp[Env.put]) (by simp[Env.put]) (by simp[Env.put]) gS).2,l⟩
  simp only[opA,C8 hn,h1]
 |false=>
  rw[hn]at b;cases he:dw o.op with
  |true=>
   rw[he]at b;refine(uT m s k e p b).mono ?_;rintro v H' ⟨n,h1⟩;obtain⟨l,g⟩:=ot (S:=F.S) (ρ:=ρ) (H:=H) he;exact⟨n,by simp only[opA,l,g,h1]⟩
  |false=>
   rw[he]at b;simp at b;cases hb:xN F.S.P o.op with
   |true=>
    rw[hb]at b;simp at b;obtain⟨q1,q2,blk,c,q,mk,h1,l,g⟩:=BZ m rfl e b (co F.S (cB F.S 0)) lo H;have f:=p.pushEnd (q h.length) (c H.length) blk (fun j=>(g _ _ h.length H.length j.le (by simp[Env.put]) (by simp[Env.put]) (by simp[Env.put]) gS).1)
    refine⟨c H.length,_,mk h.length,_,_,⟨0, ?_⟩,f.1,by simp,f.2,by simp,(g _ _ h.length H.length f.1.le (by simp[Env.put]) (by simp[Env.put]) (by simp[Env.put]) gS).2,l⟩
    simp only[opA,q1,q2,h1]
   |false=>
    rw[hb]at b;refine(s9 m e p b).mono ?_;rintro v H' ⟨h1,rfl⟩;exact⟨0,by simp only[opA,h1]⟩
structure cO(E:Env)(r:SR C)(ρ:List bc):Prop where
 full:Full 9 r.t
 small:r.n≤512
 len:ρ.length=r.n
 val:∀j,Er E (r.get j) (ρ.getD j bz)
theorem cO.mono{E E':Env}(k:E.le E')(h:cO E r ρ):cO E' r ρ:=⟨h.full,h.small,h.len,fun j=>(h.val j).mono k⟩
variable {d:Nat}
theorem SR.get_set(e:Full 9 r.t)(g:r.n≤512)(k:d<r.n)(j:Nat):(r.set d v).get j=if j=d then v else r.get j:=by
 have b:Nat.blt d r.n=true:=by simp_all
 unfold SR.set;rw[b];simp only[cond_true,SR.get]
 by_cases f:j<r.n
 ·have c:Nat.blt j r.n=true:=by simp_all
  rw[Am.get_set v 9 _ _ _ e (by omega) (by omega)]
  grind
 ·have c:Nat.blt j r.n=false:=by rw[Bool.eq_false_iff];simp_all
  grind
theorem SR.set_n(r:SR C)(d:Nat)(v:SV C.T):(r.set d v).n=r.n:=by
 unfold SR.set;grind
theorem SR.set_full(b:Full 9 r.t)(d:Nat)(v:SV C.T):Full 9 (r.set d v).t:=by
 unfold SR.set;cases Nat.blt d r.n
 ·exact b
 ·exact iX v 9 _ _ b
theorem cO.set(h:cO E r ρ)(f:Er E v a):cO E (r.set d v) (ρ.set d a):=by
 refine⟨SR.set_full h.full d v,by rw[SR.set_n];exact h.small,by rw[qu,SR.set_n];exact h.len,fun j=>?_⟩
 by_cases c:d<r.n
 ·rw[SR.get_set h.full h.small c,qh,qg]
  by_cases e:j=d
  ·subst e;rw[if_pos rfl,if_pos rfl,if_pos (by rw[h.len];exact c)]
   exact f
  ·rw[if_neg e,if_neg (fun x=>e x.symm),← qh]
   exact h.val j
 ·have b:Nat.blt d r.n=false:=by rw[Bool.eq_false_iff];simp_all
  unfold SR.set;rw[b,List.set_eq_of_length_le (by rw[h.len];omega)]
  exact h.val j
theorem cO.self(h:cO E r ρ)(b:Er E v (ρ.getD d bz)):cO E (r.set d v) ρ:=by
 have:=h.set (d:=d) b;have e:ρ.set d (ρ.getD d bz)=ρ:=by
  apply List.ext_getElem?;grind
 grind
theorem cO.ev(h:cO E r ρ):∀x,Er E (eg S r.get x) (bj S ρ x):=by
 intro x;cases x with
 |tmp t=>exact h.val t
 |const v=>exact .a _
 |global g=>
  simp only[eg,bj];cases S.glob g with
  |none=>exact .any
  |some cs=>exact .a _
 |func f=>exact .a _
theorem cO.put(h:cO E r ρ){dst:Option Tmp}(b:Er E v a):cO E (xh r dst v) (fV ρ dst a):=by
 cases dst with
 |none=>exact h
 |some d=>exact h.set b
theorem ue{ops:List Oper}(h:cO E r ρ){l no:SR C→Tree}(c:(vf ops r o l no).holds):
 (eD ops ρ o=some true∧∃k,cO E k ρ∧(l k).holds)∨(eD ops ρ o=some false∧∃k,cO E k ρ∧(no k).holds):=by
 unfold vf at c;unfold eD;split at c
 ·grind
 ·rename_i j g e;rw[e];simp only;split at c
  ·grind
  ·rename_i d e2;rw[e2];simp only;cases hb:Nat.blt d r.n with
   |false=>
    have p:¬d<r.n:=by intro x;rw[← Nat.blt_eq,hb]at x;cases x
    rw[List.getElem?_eq_none (by rw[h.len];grind)]
    grind
   |true=>
    rw[hb]at c;have p:d<r.n:=by simp_all
    have hl:d<ρ.length:=by rw[h.len];exact p
    have f:=h.val d;have q:ρ[d]?=some (ρ.getD d bz):=by grind
    generalize ha:ρ.getD d bz=a at f;split at c
    ·rename_i b e3;rw[e3]at f;cases f;grind
    ·rename_i x e3;rw[e3]at f;cases f;grind
    ·rename_i t e3;rw[e3]at f;cases f;have s:∀m,m=t→cO E (r.set d (.a (.bool m))) ρ:=fun m e=>h.self (by rw[ha,e];exact .a _)
     cases g with
     |true=>
      rcases eP c with⟨rfl,h1⟩|⟨rfl,h1⟩
      all_goals grind
     |false=>
      rcases eP c with⟨rfl,h1⟩|⟨rfl,h1⟩
      all_goals grind
    ·exact qw c
def Go2(E:Env)(lo wlo:Nat)(h:SH C)(H:bd)(r:List bc→bd→Prop)(K:SR C→SH C→Tree):Prop:=
 ∃c H' e b E',r c H'∧LeN h.length H.length E E'∧h.length≤b.length∧cO E' e c∧bu E' lo wlo b H'∧H.length≤H'.length∧(K e b).holds
theorem vl{F:Cf C}(w:bo C)(x:fB F.S F.noExt){call:gq C}(b:gB F.S call){lo wlo:Nat}{ops:List Oper}{K:SR C→SH C→Tree}:∀{l:List Oper} {E:Env} {r:SR C} {ρ:List bc} {h:SH C} {H:bd},cO E r ρ→bu E lo wlo h H→
 (I6 F call wlo ops l r h K).holds→Go2 E lo wlo h H (fun e H'=>∃n,l7 F.S (co F.S (cB F.S n)) lo ops l ρ H=some (e,H')) K
 | [],E,r,ρ,h,H,y,f,z=>⟨ρ,H,r,h,E,⟨0,rfl⟩,LeN.refl _ _,qe _,y,f,qe _,z⟩
 |o::l,E,r,ρ,h,H,y,f,z=>by
  rcases ue y z with⟨I,r1,c,h1⟩|⟨I,r1,c,h1⟩
  ·obtain⟨v,H1,sv,J,E1,⟨n,L⟩,A,B,M,D,N,O⟩:=MD w x b c.ev f h1;obtain⟨e,H',g,j,E',⟨m,G⟩,k,p,q,s,t,u⟩:=vl w x b ((c.mono A.le).put N) M O;refine⟨e,H',g,j,E',⟨max n m, ?_⟩,A.trans B D k,Nat.le_trans B p,q,s,Nat.le_trans D t,u⟩;unfold l7;simp only[I];rw[x0 (dz (cT (Nat.le_max_left n m))) L];exact kP (dz (cT (Nat.le_max_right n m))) G
  ·obtain⟨e,H',g,j,E',⟨m,G⟩,k,p,q,s,t,u⟩:=vl w x b (c.put (.a bz)) f h1;refine⟨e,H',g,j,E',⟨m, ?_⟩,k,p,q,s,t,u⟩;unfold l7;grind
end Go.Sy
namespace Go.Sy
open Go.Am
variable {C:bK}{E:Env}
inductive RK where
 |own (root:Nat)
 |nm (id:Nat)
 |fr
def GG(E:Env)(b:Nat):RK→Prop
 | .own r=>E.ω b=some r
 | .nm id=>E.ω b=some id∧E.β id=some b
 | .fr=>∃cs,E.Fr b cs
variable {b:Nat}
theorem GG.mono{E E':Env}(k:E.le E'):∀{q:RK},GG E b q→GG E' b q
 | .own _,h=>k.ω _ _ h
 | .nm _,h=>⟨k.ω _ _ h.1,k.β _ _ h.2⟩
 | .fr,⟨cs,h⟩=>⟨cs,k.Fr _ _ h⟩
def rv(h:SH C)(ev:Operand→SV C.T):Op→Option RK
 | .load _ x=>match ev x with
  | .ptr id _=>some (.nm id)
  | .ep id _ _=>match bF h id with
   |some (.rows _ _ _ root)=>some (.own root)
   |_=>some .fr
  | .fp _=>some .fr
  |_=>none
 | .lookup _ m _ _=>match ev m with
  | .mapr id=>some (.own id)
  |_=>none
 | .slice _ x _ _ _=>match ev x with
  | .ptr id _=>some (.own id)
  |_=>none
 | .convert _ _ x=>match ev x with
  | .sl _ id _ _ _ _=>some (.own id)
  | .R id=>match bF h id with
   |some (.rows _ _ _ root)=>some (.own root)
   |_=>none
  |_=>none
 |_=>none
def mu(S:bh)(h:SH C)(ev:Operand→SV C.T):Op→Option (List Nat×Bool)
 | .store _ x _=>match ev x with
  | .ptr id _=>some ([id],false)
  | .ep id _ _=>match bF h id with
   |some (.rows _ _ _ root)=>some ([root],false)
   |_=>none
  |_=>none
 | .mapUpdate _ m _ _=>match ev m with
  | .mapr id=>some ([id],false)
  |_=>none
 | .call c=>match c.callee with
  | .builtin .append=>match c.args[0]? with
   |some x=>match ev x with
    | .a .nils=>some ([],false)
    | .sl _ id _ _ _ _=>some ([id],false)
    | .R id=>match bF h id with
     |some (.rows _ _ _ root)=>some ([root],true)
     |_=>none
    |_=>none
   |none=>none
  | .value f=>match ev f with
   | .a (.fn (.func g) _ _)=>if ma S g then some ([],false)else none
   | .fn (.func g) _ _=>if ma S g then some ([],false)else none
   |_=>none
  |_=>none
 |_=>none
inductive TK where
 |tch (ids:List Nat) (other:Bool)
 |kept (K:List Nat) (N:List (Nat×Prop))
abbrev RdS:=List (Nat×RK)
abbrev TcS:=List (Nat×TK)
def mE{T:Nat→Type}:List (SV T)→List (SV T)→Bool
 | [],[]=>true
 | .ptr i o::cs,.ptr a o'::ds=>Nat.beq i a && Nat.beq o o' && mE cs ds
 |_,_=>false
def Gt{T:Nat→Type}:Option (Obj T)→Option (Obj T)→Bool
 |some (.cells cs),some (.cells ds)=>mE cs ds
 |_,_=>false
def sZ(h a:SH C):Nat→List Nat
 |0=>[]
 |j+1=>bif Gt (bF h j) (bF a j)then j::sZ h a j else sZ h a j
def kv{T:Nat→Type}:List (SV T)→List (SV T)→Option Prop
 | [],[]=>some True
 |x::cs,y::ds=>match x,y with
  | .ptr i o,.ptr a o'=>bif Nat.beq i a && Nat.beq o o' then kv cs ds else none
  |_,_=>match intOf x,intOf y with
   |some (k,n),some (c,d)=>if k=c then(kv cs ds).map fun p=>n=d∧p else none
   |_,_=>none
 |_,_=>none
def Ef{T:Nat→Type}:Option (Obj T)→Option (Obj T)→Option Prop
 |some (.cells cs),some (.cells ds)=>kv cs ds
 |_,_=>none
def sW(h a:SH C):Nat→List (Nat×Prop)
 |0=>[]
 |j+1=>match Ef (bF h j) (bF a j)with
  |some p=>(j,p)::sW h a j
  |none=>sW h a j
def tk0:Option (List Nat×Bool)→TK
 |some (ids,o)=>.tch ids o
 |none=>.kept [] []
def tkX(S:bh)(h a:SH C)(ev:Operand→SV C.T)(op:Op):TK:=match mu S h ev op with
 |some (ids,o)=>.tch ids o
 |none=>match op with
  | .call c=>(match c.callee with
   | .value _=>.kept (sZ h a h.length) (sW h a h.length)
   |_=>.kept [] [])
  |_=>.kept [] []
def wn(B:List Nat)(r:Nat×RK)(t:Nat×TK):Bool:=(B.getD r.1 0).testBit t.1||(B.getD t.1 0).testBit r.1||
 match t.2 with
 | .tch l a=>(match r.2 with
  | .own root=>!l.contains root
  | .nm id=>!l.contains id
  | .fr=>!a)
 | .kept K _=>(match r.2 with
  | .nm id=>K.contains id
  |_=>false)
def zH(B:List Nat)(reads:RdS)(touches:TcS):Bool:=
 reads.all fun r=>touches.all fun t=>wn B r t
def En(r:Nat×RK)(t:Nat×TK):Option Prop:=match t.2,r.2 with
 | .kept _ N,.nm id=>(N.find? fun x=>Nat.beq x.1 id).map (·.2)
 |_,_=>none
def G8(reads:RdS)(touches:TcS):List ((Nat×RK)×(Nat×TK)):=reads.flatMap fun r=>touches.map fun t=>(r,t)
def qM(B:List Nat)(K:Tree):List ((Nat×RK)×(Nat×TK))→Tree
 | []=>K
 |(r,t)::l=>bif wn B r t then qM B K l else match En r t with
  |some p=>.need p (qM B K l)
  |none=>.stuck "an order that could be seen"
def wK(ops:Array Oper)(B:List Nat)(k:Nat):Bool:=
 (List.range ops.size).all fun j=>match ops[j]? with
  |some o=>!cz o.op||(Nat.blt j k && (B.getD k 0).testBit j)
  |none=>true
def zt(ops:Array Oper)(B:List Nat)(k:Nat):Bool:=
 (List.range ops.size).all fun j=>match ops[j]? with
  |some o=>!cz o.op||Nat.ble k j||(B.getD k 0).testBit j
  |none=>true
def JZ:Op→Bool
 | .store _ _ _=>true
 | .call c=>match c.callee with
  | .builtin .append=>true
  |_=>false
 |_=>false
def gl(B:List Nat)(k:Nat)(a:List (Nat×Nat)):List Nat:=(a.filter fun x=>!(B.getD k 0).testBit x.1).map (·.2)
def mT(h:SH C):List Nat→SH C
 | []=>h
 |id::ids=>mT (h.set id none) ids
def fQ(a h:SH C):List Nat→SH C
 | []=>h
 |id::ids=>fQ a (h.set id (a.getD id none)) ids
def pK(S:bh)(ev:Operand→SV C.T):Op→Bool
 | .call c=>match c.callee with
  | .value f=>match ev f with
   | .a (.fn (.func g) _ _)=>(S.hook g).isNone && (S.pol g== .pure||S.pol g== .fresh)
   | .fn (.func g) _ _=>(S.hook g).isNone && (S.pol g== .pure||S.pol g== .fresh)
   |_=>false
  |_=>false
 |_=>false
noncomputable def gC(F:Cf C)(call:gq C)(wlo:Nat)(ops:Array Oper)(B:List Nat):List Oper→Nat→SR C→SH C→List (Nat×Nat)→RdS→TcS→(SR C→SH C→Tree)→Tree
 | [],_,r,h,_,d,e,K=>bif zH B d e then K r h else qM B (K r h) (G8 d e)
 |o::rest,k,r,h,c,d,e,K=>vf ops.toList r o
  (fun r=>
   bif cz o.op then HO F.S (eg F.S r.get) o.op fun g mk=>gC F call wlo ops B rest (k+1) (xh r o.dst (mk h.length)) (h++[some (g h.length)]) ((k,h.length)::c) d e K
   else bif dw o.op then
    bif wK ops B k||(JZ o.op && zt ops B k)then uk F.S F.noExt call wlo (eg F.S r.get) h o.op fun v f=>gC F call wlo ops B rest (k+1) (xh r o.dst v) f c d ((k,tkX F.S h f (eg F.S r.get) o.op)::e) K
    else bif pK F.S (eg F.S r.get) o.op && ((gl B k c).all fun id=>(bF h id).isSome)then
     uk F.S F.noExt call wlo (eg F.S r.get) (mT h (gl B k c)) o.op fun v f=>gC F call wlo ops B rest (k+1) (xh r o.dst v) (fQ h f (gl B k c)) c d ((k,tk0 (mu F.S h (eg F.S r.get) o.op))::e) K
    else .stuck "a new block beside what turns memory"
   else iN F.S wlo (eg F.S r.get) h o.op fun v f=>gC F call wlo ops B rest (k+1) (xh r o.dst v) f c
    (match rv h (eg F.S r.get) o.op with
     |some q=>(k,q)::d
     |none=>d) e K)
  (fun r=>gC F call wlo ops B rest (k+1) (xh r o.dst (.a bz)) h c d e K)
noncomputable def ET(F:Cf C)(call:gq C)(wlo:Nat)(ops:Array Oper)(r:SR C)(h:SH C)(K:SR C→SH C→Tree):Tree:=
 bif jq ops (mz ops.toList [])then gC F call wlo ops (mz ops.toList []) ops.toList 0 r h [] [] [] K
 else .stuck "an order that could be seen"
variable {H:bd}{K:SV C.T→SH C→Tree}{S:bh}{ev:Operand→SV C.T}{h:SH C}{lo:Nat}{op:Op}{wlo:Nat}{ρ:List bc}
theorem G5(j:∀x,Er E (ev x) (bj S ρ x))(z:bu E lo wlo h H)(c:(iN S wlo ev h op K).holds)(f:eQ S ρ op=some b):
 ∃q,rv h ev op=some q∧GG E b q:=by
 unfold eQ at f;split at f
 ·rename_i t x;have g:=j x;simp only[iN,xe]at c;simp only[rv];generalize bj S ρ x=a at g f;generalize ev x=sv at g c;split at c
  ·rename_i id off;split at c
   ·rename_i cs k;cases g with
    |ptr v=>
     simp only[cN,qa]at f;subst f;obtain⟨w,as,g1,o,_⟩:=z.obj id _ (bm k);rw[v]at g1;simp only[qa]at g1;subst g1;exact⟨_,rfl,o,v⟩
   ·exact qw c
  ·rename_i id i off;split at c
   ·rename_i n l full root k;cases g with
    |ep I=>
     simp only[cN,qa]at f;subst f;rcases z.obj id _ (bm k)with⟨rfl,_⟩|⟨w,D,G,M,as,g1,B,o,_⟩
     ·have:=c.1;grind
     ·rw[I]at g1;simp only[qa,bc.sl.injEq]at g1;obtain⟨rfl,rfl,rfl,rfl,rfl,rfl⟩:=g1;exact⟨.own root,by grind,o⟩
   ·exact qw c
  ·cases g with
   |fpI=>cases f
   |fpP N=>
    simp only[cN,qa]at f;subst f;exact⟨.fr,rfl,_,N⟩
  ·cases g;cases f
  ·cases g;cases f
  ·exact qw c
 ·rename_i t m x ok;have O:=j m;simp only[iN,pM]at c;exact qw c
 ·rename_i t x l u m;have g:=j x;simp only[iN]at c;simp only[rv];generalize bj S ρ x=a at g f;generalize ev x=sv at g c;cases g with
  |ptr v=>
   simp only[cN,qa]at f;subst f;simp only[iK]at c;split at c
   ·rename_i n e cs Q _ k;obtain⟨w,as,g1,o,_⟩:=z.obj _ _ (bm k);rw[v]at g1;simp only[qa]at g1;subst g1;exact⟨_,rfl,o⟩
   ·exact qw c
  |a=>
   exfalso;cases a<;>simp only[cN]at f<;>first|grind|skip
   ·simp only[iK,strOf]at c;split at c
    ·obtain⟨r,h1,y⟩:=bI c;rw[rU (by simp)]at h1
     cases h1
    ·exact cf c
   ·simp only[iK,strOf]at c;split at c
    ·obtain⟨r,h1,y⟩:=bI c;rw[ug]at h1;cases h1
    ·exact cf c
  |R I p=>cases a<;>simp[o8]at p<;>simp[cN]at f
  |ep=>simp only[iK]at c;exact qw c
  |mapr=>simp only[iK]at c;exact qw c
  |fpP=>simp only[iK]at c;exact qw c
  |any=>simp only[iK]at c;exact qw c
  |_=>simp[cN]at f
 ·rename_i s d x;have g:=j x;simp only[iN,Bd]at c;simp only[rv];generalize bj S ρ x=a at g f;generalize ev x=sv at g c;split at c
  ·cases g;exfalso;cases a<;>simp only[pe]at f<;>first|grind|skip
   obtain⟨r,h1,y⟩:=bI c;simp only[ee,iu]at h1;split at h1
   ·grind
   ·simp[fj]at h1
    grind
  ·cases g;cases f
  ·cases g;cases f
  ·rename_i sz id off len cap ex;cases g with
   |sl v=>
    simp only[pe,qa]at f;subst f;split at c
    ·rename_i e cs p L k;obtain⟨w,Y,g1,o,_⟩:=z.obj id _ (bm k);rw[v]at g1;simp only[qa]at g1;subst g1;exact⟨_,rfl,o⟩
    ·exact qw c
  ·rename_i id;cases g with
   |R J _=>
   split at c
   ·rename_i e n l full root p L k;rcases z.obj id _ (bm k)with⟨_,_,Z,g1,B⟩|⟨w,off,cap,ex,as,g1,B,o,_⟩
    ·rw[J]at g1;simp only[qa]at g1;subst g1;rcases B with rfl|rfl<;>cases f
    ·rw[J]at g1;simp only[qa]at g1;subst g1;simp only[pe,qa]at f;subst f;simp only[k];exact⟨_,rfl,o⟩
   ·exact qw c
  ·exact qw c
 ·rename_i args U;split at f
  ·rename_i x A;split at f
   ·rename_i w e;exfalso;have g:=j x;rw[e]at g;simp only[iN,A]at c;split at c
    ·rename_i t W h1 y;simp only[qa]at y;subst y;unfold IW at c;generalize ev x=sv at g c;split at c
     ·split at c
      ·cases g
      ·cases g
      ·exact cf c
     ·split at c
      ·exact cf c
      ·exact cf c
      ·exact cf c
      ·rename_i q1 q2 X;cases g with
       |a=>grind
       |mapr=>grind
       |any=>exact q2 rfl
       |R _ p=>simp[o8]at p
     ·split at c
      ·cases g
      ·cases g
      ·cases g
      ·cases g
      ·cases g with|R _ p=>simp[o8]at p
      ·exact cf c
     ·exact cf c
    ·exact cf c
   ·cases f
  ·cases f
 ·cases f
variable {P:Program}{t:TypeId}{x:SV C.T}
theorem xA{v:SV C.T}(a:(rX P wlo t h x v K).holds):
 ∃id,(∃off,x= .ptr id off∧∃cs,bF h id=some (.cells cs))∨(∃i off,x= .ep id i off∧∃n l full root,bF h id=some (.rows n l full root)∧l≠[]):=by
 unfold rX at a;split at a
 ·exact qw a
 ·split at a
  ·split at a
   ·rename_i id off;split at a
    ·grind
    ·exact qw a
   ·rename_i id i off;split at a
    ·rename_i n l full root c;split at a
     ·split at a
      ·refine⟨id,.inr ⟨i,off,rfl,n,l,full,root,c, ?_⟩⟩;rintro rfl;have:=a.1;grind
      ·exact qw a
     ·exact qw a
    ·exact qw a
   ·exact qw a
  ·exact qw a
theorem u4{u:TypeId}{sz id off len cap:Nat}{ex:Bool}(a:(nw P wlo t u h (.sl sz id off len cap ex) x K).holds):∃cs,bF h id=some (.cells cs):=by
 unfold nw at a;split at a
 ·split at a
  ·split at a
   ·exact qw a
   ·split at a
    ·exact qw a
    ·simp only at a;split at a
     ·exact qw a
     ·split at a
      ·grind
      ·exact qw a
   ·simp only at a;split at a
    ·grind
    ·exact qw a
  ·exact qw a
 ·exact qw a
theorem Cq(q:∀x,Er E (ev x) (bj S ρ x))(B:bu E lo wlo h H){ids:List Nat}{j:Bool}(d:mu S h ev op=some (ids,j))(s:∀t x v,op= .store t x v→∃id,(∃off,ev x= .ptr id off∧∃cs,bF h id=some (.cells cs))∨(∃i off,ev x= .ep id i off∧∃n l full root,bF h id=some (.rows n l full root)∧l≠[]))
 (D:∀t m x v,op= .mapUpdate t m x v→∃id es,ev m= .mapr id∧bF h id=some (.mp es))
 (G:∀c x sz id off len cap ex,op= .call c→c.callee= .builtin .append→c.args[0]?=some x→ev x= .sl sz id off len cap ex→∃cs,bF h id=some (.cells cs)):
 ∃l,dJ S ρ op=some l∧∀b,b∈l→(∃root,root∈ids∧E.ω b=some root)∨(j=true∧∃cs,E.Fr b cs):=by
 unfold mu at d;split at d
 ·rename_i t x v;have k:=q x;obtain⟨id,h1⟩:=s t x v rfl;simp only[dJ];refine⟨_,rfl, ?_⟩;intro b p;generalize bj S ρ x=a at k p;rcases h1 with⟨off,e,cs,o⟩|⟨i,off,e,n,l,full,root,o,W⟩
  ·rw[e]at k d;cases k with
   |ptr Q=>
    simp only[cN,Option.toList_some,qt]at p;subst p;simp only[qa,Prod.mk.injEq]at d;obtain⟨rfl,rfl⟩:=d;obtain⟨I,as,g1,J,_⟩:=B.obj id _ (bm o);grind
  ·rw[e]at k d;cases k with
   |ep O=>
    simp only[cN,Option.toList_some,qt]at p;subst p;simp only[o,qa,Prod.mk.injEq]at d;obtain⟨rfl,rfl⟩:=d;rcases B.obj id _ (bm o)with⟨rfl,_⟩|⟨I,z,A,M,as,g1,N,J,_⟩
    all_goals grind
 ·rename_i t m x v;obtain⟨id,es,e,o⟩:=D t m x v rfl;have L:=q m;rw[e]at L d;simp only[dJ];refine⟨_,rfl, ?_⟩;intro b p;generalize bj S ρ m=a at L p;cases L with
  |mapr Q=>
   simp only[cN,Option.toList_some,qt]at p;subst p;simp only[qa,Prod.mk.injEq]at d;obtain⟨rfl,rfl⟩:=d;obtain⟨I,as,g1,J,_⟩:=B.obj id _ (bm o);grind
 ·rename_i c;obtain⟨callee,args,U⟩:=c;simp only at d;split at d
  ·split at d
   ·rename_i x w;have k:=q x;simp only[dJ,w];split at d
    ·rename_i e;rw[e]at k;generalize bj S ρ x=a at k;cases k;grind
    ·rename_i sz id off len cap ex e;rw[e]at k;obtain⟨cs,o⟩:=G _ x sz id off len cap ex rfl rfl w e;generalize bj S ρ x=a at k;cases k with
     |sl Q=>
      simp only[qa,Prod.mk.injEq]at d;obtain⟨rfl,rfl⟩:=d;obtain⟨I,as,g1,J,_⟩:=B.obj id _ (bm o);grind
    ·rename_i id e;rw[e]at k;split at d
     ·rename_i n l full root o;simp only[qa,Prod.mk.injEq]at d;obtain⟨rfl,rfl⟩:=d;generalize bj S ρ x=a at k;cases k with
      |R O Y=>
       rcases B.obj id _ (bm o)with⟨rfl,_,X,g1,N⟩|⟨I,z,A,M,as,g1,N,J,_⟩
       ·rw[O]at g1;simp only[qa]at g1;subst g1;rcases N with rfl|rfl
        all_goals grind
       ·rw[O]at g1;simp_all
     ·cases d
    ·cases d
   ·cases d
  ·rename_i f;have u:=q f;have key:∀g,bj S ρ f= .fn (.func g) (match bj S ρ f with| .fn _ a _=>a|_=>[]) (match bj S ρ f with| .fn _ _ b=>b|_=>[])→(if ma S g then some (([]:List Nat),false)else none)=some (ids,j)→
    ∃l,dJ S ρ (.call ⟨.value f,args,U⟩)=some l∧∀b,b∈l→(∃root,root∈ids∧E.ω b=some root)∨(j=true∧∃cs,E.Fr b cs):=by
    intro g e d;simp only[dJ];rw[e];simp only;split at d
    ·rename_i hc;rw[if_pos hc];grind
    ·cases d
   split at d
   ·rename_i g x y e;rw[e]at u;generalize hv:bj S ρ f=v at u;cases u;grind
   ·rename_i g x y e;rw[e]at u;generalize hv:bj S ρ f=v at u;cases u;grind
   ·cases d
  ·cases d
 ·cases d
end Go.Sy
namespace Go.Sy
open Go.Am
variable {C:bK}{E:Env}
def pX(B:List Nat)(r:Nat×Nat)(t:Nat×Option (List Nat)):Bool:=
 (B.getD r.1 0).testBit t.1||(B.getD t.1 0).testBit r.1||match t.2 with
  |some l=>!l.contains r.2
  |none=>false
def zr(E:Env)(rA:List (Nat×Nat))(rd:RdS):Prop:=∀k b,(k,b)∈rA→∃q,(k,q)∈rd∧GG E b q
def wG(E:Env)(o:Option (List Nat)):TK→Prop
 | .tch ids a=>∃l,o=some l∧∀b,b∈l→(∃root,root∈ids∧E.ω b=some root)∨(a=true∧∃cs,E.Fr b cs)
 | .kept K N=>∃l,o=some l∧(∀id,id∈K→∃b,E.β id=some b∧b∉l)∧∀id p,(id,p)∈N→p→∃b,E.β id=some b∧b∉l
def zy(E:Env)(tA:List (Nat×Option (List Nat)))(tc:TcS):Prop:=∀k o,(k,o)∈tA→∃s,(k,s)∈tc∧wG E o s
variable {E':Env}{rA:List (Nat×Nat)}{rd:RdS}
theorem zr.mono{E:Env}(k:E.le E')(h:zr E rA rd):zr E' rA rd:=by
 intro i b a;obtain⟨q,h1,c⟩:=h i b a;exact⟨q,h1,c.mono k⟩
theorem wG.mono{E:Env}(k:E.le E'){o:Option (List Nat)}:∀{s:TK},wG E o s→wG E' o s
 | .tch _ _,⟨l,c,d⟩=>⟨l,c,fun b e=>(d b e).imp (fun⟨root,p,q⟩=>⟨root,p,k.ω _ _ q⟩) (fun⟨p,cs,q⟩=>⟨p,cs,k.Fr _ _ q⟩)⟩
 | .kept _ _,⟨l,c,d,g⟩=>⟨l,c,fun id a=>(d id a).imp fun b h=>⟨k.β _ _ h.1,h.2⟩,fun id p a f=>(g id p a f).imp fun b h=>⟨k.β _ _ h.1,h.2⟩⟩
variable {tA:List (Nat×Option (List Nat))}{tc:TcS}
theorem zy.mono{E:Env}(k:E.le E')(h:zy E tA tc):zy E' tA tc:=by
 intro i o a;obtain⟨s,h1,b⟩:=h i o a;exact⟨s,h1,b.mono k⟩
def my(B:List Nat)(r:Nat×RK)(t:Nat×TK):Prop:=wn B r t=true∨∃p,En r t=some p∧p
theorem ov{B:List Nat}{K:Tree}:∀{l:List ((Nat×RK)×(Nat×TK))},(qM B K l).holds→K.holds∧∀x,x∈l→my B x.1 x.2
 | [],a=>⟨a,fun x b=>by cases b⟩
 |(r,t)::l,a=>by
  unfold qM at a;cases hb:wn B r t with
  |true=>
   rw[hb]at a;obtain⟨h1,c⟩:=ov (l:=l) a;refine⟨h1,fun x b=>?_⟩
   rcases List.mem_cons.1 b with rfl|b
   ·exact .inl hb
   grind
  |false=>
   rw[hb]at a;split at a
   ·rename_i p e;obtain⟨d,a⟩:=a;obtain⟨h1,c⟩:=ov (l:=l) a;refine⟨h1,fun x b=>?_⟩
    rcases List.mem_cons.1 b with rfl|b
    ·exact .inr ⟨p,e,d⟩
    grind
   ·exact qw a
theorem zi{r:Nat×RK}{t:Nat×TK}(h1:r∈rd)(a:t∈tc):(r,t)∈G8 rd tc:=List.mem_flatMap.2 ⟨r,h1,List.mem_map.2 ⟨t,a,rfl⟩⟩
variable {B:List Nat}
theorem wI(b:zH B rd tc=true):∀r,r∈rd→∀t,t∈tc→my B r t:=fun r h1 t a=>.inl (List.all_eq_true.1 (List.all_eq_true.1 b _ h1) _ a)
variable {H:bd}{h:SH C}{lo wlo:Nat}
theorem C7(z:bu E lo wlo h H)(J:zr E rA rd)(L:zy E tA tc)(M:∀r,r∈rd→∀t,t∈tc→my B r t):
 ∀r,r∈rA→∀t,t∈tA→pX B r t=true:=by
 intro r o t u;obtain⟨q,h1,d⟩:=J r.1 r.2 o;obtain⟨s,G,v⟩:=L t.1 t.2 u;rcases M _ h1 _ G with this|⟨p,c,y⟩
 rotate_left
 ·unfold En at c;split at c
  ·rename_i K N id e1 e2;obtain⟨x,D,rfl⟩:=Option.map_eq_some_iff.1 c;have n:=List.mem_of_find?_eq_some D;have g:=List.find?_some D;subst e1;subst e2;simp at g;obtain⟨l,w,_,m⟩:=v;obtain⟨b,g1,e⟩:=m x.1 x.2 n y;rw[g,d.2]at g1;unfold pX;grind
  ·cases c
 unfold wn at this;unfold pX;rw[Bool.or_eq_true]at this ⊢;rcases this with f|f
 ·exact .inl f
 ·right;cases s with
  |tch ids A=>
   obtain⟨l,w,m⟩:=v;rw[w];simp;intro hc;have j:r.2∈l:=by grind
   rcases m _ j with⟨root,g1,e⟩|⟨g1,cs,e⟩
   ·have key:∀a,E.ω r.2=some a→(!ids.contains a)=true→False:=by
     grind
    cases q with
    |fr=>
     obtain⟨cs,I⟩:=d;exact(z.own _ _ e).2 cs I
    |own a=>exact key a d f
    |nm id=>exact key id d.1 f
   ·cases q with
    |fr=>grind
    |own a=>exact(z.own _ _ d).2 cs e
    |nm id=>exact(z.own _ _ d.1).2 cs e
  |kept K N=>
   obtain⟨l,w,m,_⟩:=v;cases q with
   |fr=>cases f
   |own a=>cases f
   |nm id=>
    obtain⟨b,g1,e⟩:=m id (by grind)
    rw[d.2]at g1;grind
theorem nO{h b:SH C}:∀{n id:Nat},id∈sZ h b n→id<n∧∃cs ds,bF h id=some (.cells cs)∧bF b id=some (.cells ds)∧mE cs ds=true
 |0,id,a=>by cases a
 |n+1,id,a=>by
  unfold sZ at a;cases hb:Gt (bF h n) (bF b n)with
  |false=>
   rw[hb]at a;obtain⟨h1,c⟩:=nO (n:=n) a;grind
  |true=>
   rw[hb]at a;rcases List.mem_cons.1 a with rfl|a
   ·unfold Gt at hb;grind
   ·obtain⟨h1,c⟩:=nO (n:=n) a;grind
theorem tq{E E1:Env}{n N:Nat}(e:∀id b,E.β id=some b→E1.β id=some b):∀{cs ds:List (SV C.T)} {as bs:List bc},mE cs ds=true→Ers E cs as→Ers E1 ds bs→eB as bs=true
 | [],[],as,bs,_,h1,f=>by rw[h1.inv_nil,f.inv_nil];rfl
 | [],_::_,as,bs,h,_,_=>by simp[mE]at h
 |c::cs,[],as,bs,h,_,_=>by cases c<;>simp[mE]at h
 |c::cs,d::ds,as,bs,h,h1,f=>by
  cases c<;>cases d<;>simp only[mE]at h<;>try cases h
  simp at h;obtain⟨⟨rfl,rfl⟩,h⟩:=h;obtain⟨a,g,rfl,g1,j⟩:=h1.inv_cons;obtain⟨b,bs',rfl,l,m⟩:=f.inv_cons;cases g1 with
  |ptr q1=>
   cases l with
   |ptr q2=>
    have:=e _ _ q1;rw[q2]at this;simp at this;subst this;simp only[eB,qi,Nat.beq_eq];exact⟨⟨trivial,trivial⟩,tq (n:=n) (N:=N) e h j m⟩
theorem oi{E E1:Env}(e:∀id b,E.β id=some b→E1.β id=some b):∀{cs ds:List (SV C.T)} {as bs:List bc} {p:Prop},kv cs ds=some p→p→Ers E cs as→Ers E1 ds bs→eB as bs=true
 | [],[],as,bs,_,_,_,h1,g=>by rw[h1.inv_nil,g.inv_nil];rfl
 | [],_::_,as,bs,_,h,_,_,_=>by simp[kv]at h
 |c::cs,[],as,bs,_,h,_,_,_=>by simp[kv]at h
 |c::cs,d::ds,as,bs,p,h,f,h1,g=>by
  obtain⟨a,u,rfl,g1,j⟩:=h1.inv_cons;obtain⟨b,bs',rfl,l,m⟩:=g.inv_cons;unfold kv at h;split at h
  ·rename_i i o s o';cases hb:(Nat.beq i s && Nat.beq o o')with
   |false=>grind
   |true=>
    rw[hb]at h;simp at hb;obtain⟨rfl,rfl⟩:=hb;cases g1 with
    |ptr q1=>
     cases l with
     |ptr q2=>
      have:=e _ _ q1;rw[q2]at this;simp at this;subst this;simp only[eB,qi,Nat.beq_eq];exact⟨⟨trivial,trivial⟩,oi e h f j m⟩
  ·split at h
   ·rename_i k n w x e1 e2;split at h
    ·rename_i t;subst t;obtain⟨q,v,rfl⟩:=Option.map_eq_some_iff.1 h;obtain⟨rfl,f⟩:=f;rw[cr g1 e1,cr l e2];simp only[eB,Bool.true_and];exact oi e v f j m
    ·cases h
   ·cases h
theorem ol{h b:SH C}:∀{n id:Nat} {p:Prop},(id,p)∈sW h b n→id<n∧∃cs ds,bF h id=some (.cells cs)∧bF b id=some (.cells ds)∧kv cs ds=some p
 |0,id,p,a=>by cases a
 |n+1,id,p,a=>by
  unfold sW at a;split at a
  ·rename_i q c;rcases List.mem_cons.1 a with e|a
   ·cases e;unfold Ef at c;grind
   ·obtain⟨h1,d⟩:=ol (n:=n) a;grind
  ·obtain⟨h1,d⟩:=ol (n:=n) a;grind
variable {S:bh}{ρ:List bc}
theorem xj{c:Call}{f:Operand}(hc:c.callee= .value f){l:List Nat}(h:dJ S ρ (.call c)=some l):l=[]:=by
 obtain⟨callee,args,a⟩:=c;simp only[dJ]at h;grind
variable {E1:Env}{H1:bd}{op:Op}
theorem DW{t:Option (List Nat×Bool)}(d:∀ids a,t=some (ids,a)→∃l,dJ S ρ op=some l∧∀b,b∈l→(∃root,root∈ids∧E1.ω b=some root)∨(a=true∧∃cs,E1.Fr b cs)):wG E1 (dG S ρ op H H1) (tk0 t):=by
 cases t with
 |none=>
  unfold dG;split
  ·exact⟨_,rfl,(fun id h=>by cases h),(fun id p h=>by cases h)⟩
  ·exact⟨_,rfl,(fun id h=>by cases h),(fun id p h=>by cases h)⟩
 |some p=>
  obtain⟨ids,a⟩:=p;obtain⟨l,h1,c⟩:=d ids a rfl;refine⟨l, ?_,c⟩;unfold dG;rw[h1]
theorem K9{N:Nat}{ev:Operand→SV C.T}{E:Env}{h1:SH C}(L:bu E lo wlo h H)(y:bu E1 lo wlo h1 H1)(m:LeN h.length N E E1)
 (P:∀ids d,mu S h ev op=some (ids,d)→∃l,dJ S ρ op=some l∧∀b,b∈l→(∃root,root∈ids∧E1.ω b=some root)∨(d=true∧∃cs,E1.Fr b cs)):wG E1 (dG S ρ op H H1) (tkX S h h1 ev op):=by
 have a:wG E1 (dG S ρ op H H1) (.kept [] []):=by
  unfold dG;split
  ·exact⟨_,rfl,(fun id h=>by cases h),(fun id p h=>by cases h)⟩
  ·exact⟨_,rfl,(fun id h=>by cases h),(fun id p h=>by cases h)⟩
 unfold tkX;split
 ·rename_i ids o e;have:=DW (H:=H) (H1:=H1) (t:=some (ids,o)) (E1:=E1) (S:=S) (ρ:=ρ) (op:=op) fun A u O=>by grind
  exact this
 ·cases op with
  |call c=>
   simp only;split
   ·rename_i f hc;have key:∀l,dG S ρ (.call c) H H1=some l→wG E1 (some l) (.kept (sZ h h1 h.length) (sW h h1 h.length)):=by
     intro l hl;have g:∀(id:Nat) (cs ds:List (SV C.T)),bF h id=some (.cells cs)→bF h1 id=some (.cells ds)→(∀as bs,Ers E cs as→Ers E1 ds bs→eB as bs=true)→∃b,E1.β id=some b∧b∉l:=by
      intro id cs ds e1 e2 e3;obtain⟨b,as,D,_,G,q⟩:=L.obj id _ (bm e1);obtain⟨I,bs,z,_,J,s⟩:=y.obj id _ (bm e2);have v:=m.le.β _ _ D;rw[z]at v;simp at v;subst v;refine⟨I,z,fun x=>?_⟩
      unfold dG at hl;split at hl
      ·rename_i M e;cases hl;rw[xj hc e]at x;cases x
      ·cases hl;have:=(List.mem_filter.1 x).2;simp only at this;rw[G,J,show tB (some (some (.cells as))) (some (some (.cells bs)))=eB as bs from rfl,e3 as bs q s]at this
       cases this
     exact⟨l,rfl,(fun id j=>by
      obtain⟨w,cs,ds,e1,e2,e3⟩:=nO j;exact g id cs ds e1 e2 fun as bs q s=>tq (n:=0) (N:=0) m.le.β e3 q s),(fun id p j K=>by
      obtain⟨w,cs,ds,e1,e2,e3⟩:=ol j;exact g id cs ds e1 e2 fun as bs q s=>oi m.le.β e3 K q s)⟩
    cases htd:dG S ρ (.call c) H H1 with
    |none=>unfold dG at htd;grind
    |some l=>grind
   ·exact a
  |_=>exact a
def newAt(ops:Array Oper)(j:Nat):Bool:=match ops[j]? with|some o=>cz o.op|none=>false
structure Pos(E:Env)(n0:Nat)(ops:Array Oper)(k:Nat)(news:List (Nat×Nat))(h:SH C)(H:bd):Prop where
 len:∀j,newAt ops j=true→n0+j<H.length
 was:∀j,newAt ops j=true→(∃id,(j,id)∈news∧E.β id=some (n0+j))∨E.ω (n0+j)=none
 will:∀j,k≤j→newAt ops j=true→H[n0+j]?=some none∧E.ω (n0+j)=none
 ids:∀j id,(j,id)∈news→E.β id=some (n0+j)∧id<h.length∧newAt ops j=true
 fr:∀j,newAt ops j=true→∀cs,¬E.Fr (n0+j) cs
variable {k n0:Nat}{ops:Array Oper}
theorem zK(h:wK ops B k=true):hidden ops B n0 k=[]:=by
 unfold hidden;simp;unfold wK at h;grind
theorem DX{j:Nat}(h:wK ops B k=true)(b:newAt ops j=true):j<k:=by
 unfold newAt at b;split at b
 ·have a:j<ops.size:=by
   grind
  have:=List.all_eq_true.1 h j (List.mem_range.2 a);simp_all
 ·cases b
theorem dx{b:Nat}:b∈hidden ops B n0 k↔∃j,b=n0+j∧newAt ops j=true∧(B.getD k 0).testBit j=false:=by
 unfold hidden;rw[List.mem_map];constructor
 ·rintro⟨j,h1,rfl⟩;rw[List.mem_filter]at h1;obtain⟨h1,a⟩:=h1;simp at a;exact⟨j,rfl,a.1,a.2⟩
 ·rintro⟨j,rfl,h1,a⟩;refine⟨j, ?_,rfl⟩;unfold newAt at h1;grind
theorem ei:∀(bs:List Nat) (H:bd) (b:Nat),(hide H bs)[b]?=if b∈bs then(if b<H.length then some none else none)else H[b]?
 | [],H,b=>by simp[hide]
 |c::bs,H,b=>by
  simp only[hide];rw[ei bs,qu,qg]
  grind
theorem cS(H0:bd):∀(bs:List Nat) (H:bd) (b:Nat),(unhide H0 H bs)[b]?=if b∈bs then(if b<H.length then some (H0.getD b none)else none)else H[b]?
 | [],H,b=>by simp[unhide]
 |c::bs,H,b=>by
  simp only[unhide];rw[cS H0 bs,qu,qg]
  grind
theorem jg:∀(bs:List Nat) (H:bd),(hide H bs).length=H.length
 | [],H=>rfl
 |c::bs,H=>by simp only[hide];rw[jg bs,qu]
theorem eS(H0:bd):∀(bs:List Nat) (H:bd),(unhide H0 H bs).length=H.length
 | [],H=>rfl
 |c::bs,H=>by simp only[unhide];rw[eS H0 bs,qu]
theorem oz:∀(ids:List Nat) (h:SH C) (i:Nat),(mT h ids)[i]?=if i∈ids then(if i<h.length then some none else none)else h[i]?
 | [],h,i=>by simp[mT]
 |c::ids,h,i=>by
  simp only[mT];rw[oz ids,qu,qg]
  grind
theorem pp(a:SH C):∀(ids:List Nat) (h:SH C) (i:Nat),(fQ a h ids)[i]?=if i∈ids then(if i<h.length then some (a.getD i none)else none)else h[i]?
 | [],h,i=>by simp[fQ]
 |c::ids,h,i=>by
  simp only[fQ];rw[pp a ids,qu,qg]
  grind
theorem jf:∀(ids:List Nat) (h:SH C),(mT h ids).length=h.length
 | [],h=>rfl
 |c::ids,h=>by simp only[mT];rw[jf ids,qu]
theorem f6(a:SH C):∀(ids:List Nat) (h:SH C),(fQ a h ids).length=h.length
 | [],h=>rfl
 |c::ids,h=>by simp only[fQ];rw[f6 a ids,qu]
theorem nC{c:List (Nat×Nat)}(l:Pos E n0 ops k c h H)(m:zt ops B k=true):∀b,b∈hidden ops B n0 k→H[b]?=some none:=by
 intro b e;obtain⟨j,rfl,a,g⟩:=dx.1 e;have d:j<ops.size:=by
  rcases qk j ops.size with h1|h1
  ·exact h1
  ·simp only[newAt,Array.getElem?_eq_none h1]at a;cases a
 have:=List.all_eq_true.1 m j (List.mem_range.2 d);unfold newAt at a;split at a
 ·rename_i o f;rw[f]at this;simp only[a,g,Bool.not_true,Bool.false_or,Bool.or_false]at this;rw[Nat.ble_eq]at this;exact(l.will j this (by unfold newAt;grind)).1
 ·cases a
variable {bs:List Nat}
theorem BS(a:∀b,b∈bs→H[b]?=some none):Am.hide H bs=H:=by
 apply List.ext_getElem?;intro b;rw[ei];grind
theorem wo(a:∀b,b∈bs→H[b]?=some none∧H1[b]?=some none):Am.unhide H H1 bs=H1:=by
 apply List.ext_getElem?;intro b;rw[cS];grind
theorem xO{call:cJ}{v:bc}(h:ek S call lo ρ H op=some (v,H1))(a:JZ op=true):∀(b:Nat),H[b]?=some none→H1[b]?=some none:=by
 intro b d;unfold JZ at a;split at a
 ·simp only[ek,Prod.mk.injEq]at h;unfold fw at h;grind
 ·rename_i c;obtain⟨callee,args,e⟩:=c;simp only at a;split at a
  ·simp only[ek]at h;split at h
   ·unfold bM at h;split at h
    all_goals grind
   ·cases h
  ·cases a
 ·cases a
theorem bu.hide(c:bu E lo wlo h H)(ids bs:List Nat)(n:∀b,b∈bs→(∀cs,¬E.Fr b cs)∧∀(i:Nat) (o:Obj C.T),h[i]?=some (some o)→E.β i=some b→i∈ids):bu E lo wlo (mT h ids) (Am.hide H bs):=by
 have a:∀(i:Nat) (o:Obj C.T),(mT h ids)[i]?=some (some o)→i∉ids∧h[i]?=some (some o):=by
  intro i o d;rw[oz]at d;grind
 refine⟨?_, ?_, ?_, ?_,c.low, ?_, ?_,c.βω,by rw[jf];exact c.wl,by rw[jg];exact c.ll⟩
 ·intro i o d;obtain⟨h1,m⟩:=a i o d;refine(c.obj i o m).heap fun b j=>?_
  rw[ei,if_neg];grind
 ·intro i f o o' b d e;exact c.inj i f o o' b (a i o d).2 (a f o' e).2
 ·intro b cs g;refine⟨?_,fun i o d=>(c.fr b cs g).2 i o (a i o d).2⟩
  rw[ei,if_neg]
  ·exact(c.fr b cs g).1
  grind
 ·intro i d;exact c.fresh i (by rw[jf]at d;exact d)
 ·intro i b j;rw[jg];exact c.bnd i b j
 ·intro b r l;rw[jg];exact c.own b r l
theorem bu.unhide{u:SH C}{H':bd}(N:bu E lo wlo h H){ids:List Nat}(a:bu E' lo wlo u H')(f:LeN h.length H.length E E')(W:h.length≤u.length)(X:H.length≤H'.length)
 (t:∀b,b<H.length→H'[b]?=(Am.hide H bs)[b]?) (O:∀i,i∈ids→(∃o:Obj C.T,h[i]?=some (some o))∧∃b,E.β i=some b∧b∈bs) (J:∀b,b∈bs→b<H.length∧∀cs,¬E.Fr b cs):
 bu E' lo wlo (fQ h u ids) (Am.unhide H H' bs):=by
 have K:∀b,b∈bs→b<H.length→H'[b]?=some none:=by
  intro b d hl;rw[t b hl,ei,if_pos d,if_pos hl]
 have g:∀(i:Nat) (o:Obj C.T),(fQ h u ids)[i]?=some (some o)→(i∉ids∧u[i]?=some (some o))∨(i∈ids∧h[i]?=some (some o)):=by
  intro i o c;rw[pp]at c;grind
 have m:∀(i:Nat) (o:Obj C.T),u[i]?=some (some o)→∀b,E'.β i=some b→b∉bs:=by
  intro i o c b d M;have cell:∃blk,H'[b]?=some (some blk):=by
   cases o with
   |cells cs=>obtain⟨A,as,g1,_,D,_⟩:=a.obj i _ c;grind
   |mp es=>obtain⟨A,as,g1,_,D,_⟩:=a.obj i _ c;grind
   |it s R=>obtain⟨A,g1,_,D⟩:=a.obj i _ c;grind
   |rows n l full root=>
    rcases a.obj i _ c with⟨_,g1,_⟩|⟨A,off,cap,ex,as,_,g1,_,D,_⟩
    all_goals grind
  grind
 have old:∀i,i∈ids→i<h.length:=fun i c=>by
  grind
 have keep:∀b,b∉bs→(Am.unhide H H' bs)[b]?=H'[b]?:=fun b d=>by rw[cS,if_neg d]
 have L:∀b,b∈bs→∀x,H[b]?=some x→(Am.unhide H H' bs)[b]?=H[b]?:=fun b d x Q=>by
  rw[cS,if_pos d,if_pos (by grind),qh,Q]
  rfl
 refine⟨?_, ?_, ?_, ?_,a.low, ?_, ?_,a.βω,by rw[f6];exact a.wl,by rw[eS];exact a.ll⟩
 ·intro i o c;rcases g i o c with⟨h1,j⟩|⟨h1,j⟩
  ·exact(a.obj i o j).heap fun b d=>keep b (m i o j b d)
  ·refine eL.mono f.le (fun U=>by grind) ((N.obj i o j).heap fun b d=>?_)
   grind
 ·intro i p o o' b c y d q;rcases g i o c with⟨h1,j⟩|⟨h1,j⟩<;>rcases g p o' y with⟨G,I⟩|⟨G,I⟩
  ·exact a.inj i p o o' b j I d q
  ·have e:=(f.old p (old p G)).1;grind
  ·have e:=(f.old i (old i h1)).1;grind
  ·rw[(f.old i (old i h1)).1]at d;rw[(f.old p (old p G)).1]at q;exact N.inj i p o o' b j I d q
 ·intro b cs z;have v:=f.fr b cs z;have w:b∉bs:=fun M=>v.elim (fun x=>(J b M).2 cs x) fun x=>by grind
  refine⟨by rw[keep b w];exact(a.fr b cs z).1,fun i o c=>?_⟩
  rcases g i o c with⟨h1,j⟩|⟨h1,j⟩
  ·exact(a.fr b cs z).2 i o j
  ·rw[(f.old i (old i h1)).1];grind
 ·intro i c;exact a.fresh i (by rw[f6]at c;exact c)
 ·intro i b d;rw[eS];exact a.bnd i b d
 ·intro b r P;rw[eS];exact a.own b r P
end Go.Sy

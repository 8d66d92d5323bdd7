import Derived.Test.YtcholkmididfmaaGreatDoorLib5
set_option linter.unusedVariables false
set_option linter.unusedSimpArgs false
namespace Go.Sy
open Go.Am
variable {C:bK}{E:Env}
structure LpD(C:bK) where
 pn:Nat
 St:Type
 I:St→Prop
 m:St→Nat
 regs:St→List (Nat×SV C.T)
 heap:St→SH C
def lpβ{α:Type}(n0:Nat)(τ:Ren)(f:Nat→Option α)(i:Nat):Option α:=if i<n0 then f i else((τ[i-n0]?).join).bind f
def Env.lp(E:Env)(n0:Nat)(τ:Ren):Env where
 β:=lpβ n0 τ E.β
 γ:=lpβ n0 τ E.γ
 ω:=E.ω
 Fr:=E.Fr
variable {i n0:Nat}{α:Type}{τ:Ren}
theorem ey{f:Nat→Option α}(h:i<n0):lpβ n0 τ f i=f i:=by unfold lpβ;rw[if_pos h]
variable {id:Nat}
theorem nU{f:Nat→Option α}(h:n0≤i)(a:τ[i-n0]?=some (some id)):lpβ n0 τ f i=f id:=by
 unfold lpβ;grind
def OK(n0:Nat)(h fh:SH C)(id j:Nat)(K:List (SV C.T×SV C.T)→Tree):Tree:=
 match bF h id,bF fh j with
 |some (.rows n l full root),some (.rows m d a b)=>if e:n=m then bif Nat.beq b root && (!a||full) && (Nat.ble n0 id||(bF fh id).isNone)then .need (kn e l=d) (K [])else .stuck "lp: rows: room" else .stuck "lp: rows of another kind"
 |some (.cells cs),some (.cells c)=>bif Nat.beq cs.length c.length && Nat.beq id j then K (cs.zip c)else .stuck "lp: cells"
 |_,_=>.stuck "lp: rows"
def wb(n0:Nat)(h fh:SH C)(τ:Ren)(j id:Nat)(K:Ren→List (SV C.T×SV C.T)→Tree):Tree:=
 bif Nat.blt j n0 then(bif Nat.beq id j then K τ []else .stuck "lp: R")else
  match τ[j-n0]? with
  |some (some a)=>bif Nat.beq a id then K τ []else .stuck "lp: two objects for one"
  |some none=>bif τ.contains (some id)then .stuck "lp: one object for two" else OK n0 h fh id j (K (τ.set (j-n0) (some id)))
  |none=>.stuck "lp: no such object"
def lpV(n0:Nat)(h fh:SH C):Nat→List (SV C.T×SV C.T)→Ren→(Ren→Tree)→Tree
 |0,_,_,_=>.stuck "lp: fuel"
 |n+1,[],τ,K=>K τ
 |n+1,(x,A)::W,τ,K=>
  match A with
  | .any=>lpV n0 h fh n W τ K
  | .a v=>match yi x with
   |some B=>.need (B=v) (lpV n0 h fh n W τ K)
   |none=>match v with
    | .int k m=>match intOf x with
     |some (u,g)=>if u=k then .need (g=m) (lpV n0 h fh n W τ K)else .stuck "lp: a"
     |none=>.stuck "lp: a"
    |_=>.stuck "lp: a"
  | .i k m=>match intOf x with
   |some (u,g)=>if u=k then .need (g=m) (lpV n0 h fh n W τ K)else .stuck "lp: kind"
   |none=>.stuck "lp: i"
  | .b t=>match iP x with
   |some w=>.need (w=t) (lpV n0 h fh n W τ K)
   |none=>.stuck "lp: b"
  | .s t=>match strOf x with
   |some w=>.need (w=t) (lpV n0 h fh n W τ K)
   |none=>.stuck "lp: s"
  | .agg d=>match x with
   | .agg cs=>bif Nat.beq cs.length d.length then lpV n0 h fh n (cs.zip d++W) τ K else .stuck "lp: agg"
   | .a (.agg as)=>bif Nat.beq as.length d.length then lpV n0 h fh n ((as.map .a).zip d++W) τ K else .stuck "lp: agg"
   |_=>.stuck "lp: agg"
  | .tl m l=>match x with
   | .tl g D=>if e:g=m then .need (kn e D=l) (lpV n0 h fh n W τ K)else .stuck "lp: tl"
   | .a .nils=>.need ([]=l) (lpV n0 h fh n W τ K)
   |_=>.stuck "lp: tl"
  | .ptr j off=>match x with
   | .ptr id c=>bif Nat.beq c off then wb n0 h fh τ j id fun τ W1=>lpV n0 h fh n (W1++W) τ K else .stuck "lp: ptr"
   |_=>.stuck "lp: ptr"
  | .mapr j=>match x with
   | .mapr id=>bif Nat.beq id j && Nat.blt j n0 then lpV n0 h fh n W τ K else .stuck "lp: mapr"
   |_=>.stuck "lp: mapr"
  | .sl sz j off len cap ex=>match x with
   | .sl y id c o q z=>if y=sz∧c=off∧o=len∧q=cap∧z=ex then wb n0 h fh τ j id fun τ W1=>lpV n0 h fh n (W1++W) τ K else .stuck "lp: sl"
   |_=>.stuck "lp: sl"
  | .R j=>match x with
   | .R id=>wb n0 h fh τ j id fun τ W1=>lpV n0 h fh n (W1++W) τ K
   |_=>.stuck "lp: R"
  |_=>.stuck "lp: value"
def lpO(h fh:SH C)(j:Nat)(K:List (SV C.T×SV C.T)→Tree):Tree:=
 match bF fh j with
 |none=>K []
 |some (.cells d)=>match bF h j with
  |some (.cells cs)=>bif Nat.beq cs.length d.length then K (cs.zip d)else .stuck "lp: cells of another number"
  |_=>.stuck "lp: an object of another kind"
 |some (.mp g)=>match bF h j with
  |some (.mp es)=>bif gV es g then K (qB es g)else .stuck "lp: a map of other numbers"
  |_=>.stuck "lp: an object of another kind"
 |some (.rows m k b c)=>match bF h j with
  |some (.rows n l full root)=>if e:n=m then bif Nat.beq c root && (!b||full)then .need (kn e l=k) (K [])else .stuck "lp: rows: room" else .stuck "lp: rows of another kind"
  |_=>.stuck "lp: an object of another kind"
 |some (.it _ _)=>.stuck "lp: what goes through a string"
def Md(h fh:SH C):Nat→(List (SV C.T×SV C.T)→Tree)→Tree
 |0,K=>K []
 |j+1,K=>Md h fh j fun W=>lpO h fh j fun W1=>K (W1++W)
def i8(n0:Nat)(fh:SH C)(τ:Ren):Nat→Bool
 |0=>true
 |i+1=>i8 n0 fh τ i && (match bF fh (n0+i)with
  |none=>true
  |some (.rows _ _ _ _)=>((τ[i]?).join).isSome
  |some (.cells _)=>((τ[i]?).join).isSome
  |some _=>false)
noncomputable def GA(n0:Nat)(r:SR C)(h:SH C)(regs:List (Nat×SV C.T))(fh:SH C)(K:Tree):Tree:=
 bif Nat.ble n0 h.length && Nat.ble n0 fh.length then
  Md h fh n0 fun W=>lpV n0 h fh 4000 (regs.map (fun q=>(r.get q.1,q.2))++W) (List.replicate (fh.length-n0) none) fun τ=>bif i8 n0 fh τ (fh.length-n0)then K else .stuck "lp: an object that nothing leads to"
 else .stuck "lp: memory"
def js(E:Env)(n0:Nat)(τ:Ren)(p:SV C.T×SV C.T):Prop:=∀a,Er E p.1 a→Er (E.lp n0 τ) p.2 a
def S3(n0:Nat)(h fh:SH C)(j id:Nat):Prop:=∃n l full a root,h[id]?=some (some (.rows n l full root))∧fh[j]?=some (some (.rows n l a root))∧(a=true→full=true)∧(n0≤id∨bF fh id=none)
def Cs(E:Env)(n0:Nat)(τ:Ren)(h fh:SH C)(j id:Nat):Prop:=S3 n0 h fh j id∨∃cs a,h[id]?=some (some (.cells cs))∧fh[j]?=some (some (.cells a))∧cs.length=a.length∧id=j∧∀p,p∈cs.zip a→js E n0 τ p
theorem i1{cs b:List (SV C.T)}(hl:cs.length=b.length)(h:∀p,p∈cs.zip b→js E n0 τ p){as:List bc}(c:Ers E cs as):Ers (E.lp n0 τ) b as:=by
 refine⟨by rw[← hl];exact c.1,fun i k a h1 l=>?_⟩
 have d:i<cs.length:=by grind
 have e:cs[i]?=some cs[i]:=qq d;have g:(cs.zip b)[i]?=some (cs[i],k):=by grind
 exact h _ (qo g) a (c.2 i _ a e l)
variable {h:SH C}
theorem np(a:bF h i=none)(o:Obj C.T):h[i]?≠some (some o):=by
 unfold bF at a;grind
def km(E:Env)(n0:Nat)(h fh:SH C)(W:List (SV C.T×SV C.T))(τ:Ren)(K:Ren→Tree):Prop:=
 ∃a,gY a∧fA τ a∧(K a).holds∧(∀p,p∈W→js E n0 a p)∧(∀(j id:Nat),a[j]?=some (some id)→τ[j]?=some (some id)∨Cs E n0 a h fh (n0+j) id)
variable {K:Ren→Tree}{W:List (SV C.T×SV C.T)}{fh:SH C}{p:SV C.T×SV C.T}
theorem km.cons(h1:km E n0 h fh W τ K)(l:∀a,fA τ a→(∀q,q∈W→js E n0 a q)→js E n0 a p):km E n0 h fh (p::W) τ K:=by
 obtain⟨a,b,c,d,g,e⟩:=h1;refine⟨a,b,c,d,fun q k=>?_,e⟩
 grind
theorem km.sub{W1:List (SV C.T×SV C.T)}(h1:km E n0 h fh (W1++W) τ K)(l:∀a,(∀q,q∈W1→js E n0 a q)→js E n0 a p):km E n0 h fh (p::W) τ K:=by
 obtain⟨a,b,c,d,g,e⟩:=h1;refine⟨a,b,c,d,fun q k=>?_,e⟩
 grind
variable {j:Nat}
theorem rJ{n:Nat}(u:∀{W1:List (SV C.T×SV C.T)} {τ:Ren},(lpV n0 h fh n W1 τ K).holds→gY τ→km E n0 h fh W1 τ K)
 (c:(wb n0 h fh τ j id fun τ W1=>lpV n0 h fh n (W1++W) τ K).holds) (M:gY τ) (N:∀g:Ren,(∀{α:Type} (f:Nat→Option α),lpβ n0 g f j=f id)→js E n0 g p):km E n0 h fh (p::W) τ K:=by
 unfold wb at c;cases d:Nat.blt j n0 with
 |true=>
  rw[d]at c;rw[Nat.blt_eq]at d;cases m:Nat.beq id j with
  |false=>rw[m]at c;exact qw c
  |true=>
   rw[m]at c;rw[Nat.beq_eq]at m;subst m;exact(u c M).cons fun g _ _=>N g fun f=>ey d
 |false=>
  rw[d]at c;have d:n0≤j:=by
   rcases qk j n0 with k|k
   ·rw[← Nat.blt_eq,d]at k;cases k
   ·exact k
  split at c
  ·rename_i t e;cases m:Nat.beq t id with
   |false=>rw[m]at c;exact qw c
   |true=>
    rw[m]at c;rw[Nat.beq_eq]at m;subst m;exact(u c M).cons fun g L _=>N g fun f=>nU d (L.2 _ _ e)
  ·rename_i e;cases hc:τ.contains (some id)with
   |true=>rw[hc]at c;exact qw c
   |false=>
    rw[hc]at c;have get:∀w:Nat,(τ.set (j-n0) (some id))[w]?=if j-n0=w then some (some id)else τ[w]?:=by
     grind
    have x:gY (τ.set (j-n0) (some id)):=by
     intro a b i D m;rw[get]at D m;split at D<;>split at m
     ·omega
     ·grind
     ·grind
     ·exact M a b i D m
    have y:fA τ (τ.set (j-n0) (some id)):=by
     refine⟨by simp,fun w t h=>?_⟩
     grind
    -- what is behind, once the object is told
    have fin:∀W1:List (SV C.T×SV C.T),km E n0 h fh (W1++W) (τ.set (j-n0) (some id)) K→(∀g,(∀q,q∈W1→js E n0 g q)→Cs E n0 g h fh j id)→km E n0 h fh (p::W) τ K:=by
     intro W1 Q hO;obtain⟨g,X,O,Y,k4,Z⟩:=Q;have B:g[j-n0]?=some (some id):=O.2 _ _ (by grind)
     refine⟨g,X,y.trans O,Y,fun q P=>?_,fun w t h5=>?_⟩
     ·rcases List.mem_cons.1 P with rfl|P
      ·exact N g fun f=>nU d B
      grind
     ·rcases Z w t h5 with J|J
      ·rw[get]at J;split at J
       ·rename_i e2;subst e2;simp_all
       grind
      grind
    unfold OK at c;split at c
    ·rename_i R l full root m' l0 o s h1 G;split at c
     ·rename_i U;subst U;cases hl:(Nat.beq s root && (!o||full) && (Nat.ble n0 id||(bF fh id).isNone))with
      |false=>rw[hl]at c;exact qw c
      |true=>
       rw[hl]at c;obtain⟨he,hk⟩:=c;subst he;simp at hl;obtain⟨⟨rfl,I⟩,z⟩:=hl;refine fin [] (u hk x) fun g _=>.inl ⟨R,l,full,o,s,bm h1,bm G,fun hf=>?_, ?_⟩
       all_goals simp_all
     ·exact qw c
    ·rename_i cs v h1 G;cases hl:(Nat.beq cs.length v.length && Nat.beq id j)with
     |false=>rw[hl]at c;exact qw c
     |true=>
      rw[hl]at c;simp at hl;obtain⟨A,z⟩:=hl;exact fin (cs.zip v) (u c x) fun g hW=>.inr ⟨cs,v,bm h1,bm G,A,z,hW⟩
    ·exact qw c
  ·exact qw c
theorem um(A:bo C){n0:Nat}{h fh:SH C}{K:Ren→Tree}:∀{n:Nat} {W:List (SV C.T×SV C.T)} {τ:Ren},(lpV n0 h fh n W τ K).holds→gY τ→km E n0 h fh W τ K
 |0,W,τ,c,g=>(cf c).elim
 |n+1,[],τ,c,g=>⟨τ,g,fA.refl _,c,fun p M=>by simp at M,fun j id h=>.inl h⟩
 |n+1,(x,Y)::W,τ,c,g=>by
  simp only[lpV]at c;have o:=fun {W:List (SV C.T×SV C.T)} {τ:Ren} (h1:(lpV n0 h fh n W τ K).holds) (N:gY τ)=>um A (n:=n) h1 N
  split at c
  ·exact(o c g).cons fun k _ _ a _=>.any
  ·split at c
   ·rename_i U hl;obtain⟨rfl,e⟩:=c;refine(o e g).cons fun k _ _ a d=>?_
    rw[ng d hl];exact .a _
   ·split at c
    ·split at c
     ·rename_i B z q;split at c
      ·rename_i e;subst e;obtain⟨rfl,e⟩:=c;refine(o e g).cons fun k _ _ a d=>?_
       rw[cr d q];exact .a _
      ·exact qw c
     ·exact qw c
    ·exact qw c
  ·split at c
   ·rename_i B z q;split at c
    ·rename_i e;subst e;obtain⟨rfl,e⟩:=c;refine(o e g).cons fun k _ _ a d=>?_
     rw[cr d q];exact .i _ _
    ·exact qw c
   ·exact qw c
  ·split at c
   ·rename_i D q;obtain⟨rfl,e⟩:=c;refine(o e g).cons fun k _ _ a d=>?_
    rw[gK d q];exact .b _
   ·exact qw c
  ·split at c
   ·rename_i D q;obtain⟨rfl,e⟩:=c;refine(o e g).cons fun k _ _ a d=>?_
    rw[ed d q];exact .s _
   ·exact qw c
  ·rename_i t;split at c
   ·rename_i cs;cases hb:Nat.beq cs.length t.length with
    |false=>rw[hb]at c;exact qw c
    |true=>
     rw[hb]at c;rw[Nat.beq_eq]at hb;refine(o c g).sub fun k y a d=>?_
     cases d with
     |agg hl O=>
      have:=i1 hb y ⟨hl,O⟩;exact .agg this.1 this.2
   ·rename_i as;cases hb:Nat.beq as.length t.length with
    |false=>rw[hb]at c;exact qw c
    |true=>
     rw[hb]at c;rw[Nat.beq_eq]at hb;refine(o c g).sub fun k y a d=>?_
     cases d;have:=i1 (by grind) y (Ers.mapA as)
     exact .agg this.1 this.2
   ·exact qw c
  ·rename_i m l;split at c
   ·rename_i z X;split at c
    ·rename_i G;subst G;obtain⟨J,e⟩:=c;subst J;refine(o e g).cons fun k _ _ a d=>?_
     exact dj A (E:=E) (E':=E.lp n0 k) (fun _ _ h=>h) d rfl
    ·exact qw c
   ·obtain⟨rfl,e⟩:=c;refine(o e g).cons fun k _ _ a d=>?_
    cases d;exact .tlN
   ·exact qw c
  ·rename_i j off;split at c
   ·rename_i id u;cases hb:Nat.beq u off with
    |false=>rw[hb]at c;exact qw c
    |true=>
     rw[hb]at c;rw[Nat.beq_eq]at hb;subst hb;refine rJ (fun a b=>o a b) c g fun k v a d=>?_
     cases d with
     |ptr w=>exact .ptr ((v _).trans w)
   ·exact qw c
  ·rename_i j;split at c
   ·rename_i id;cases hb:(Nat.beq id j && Nat.blt j n0)with
    |false=>rw[hb]at c;exact qw c
    |true=>
     rw[hb]at c;simp at hb;obtain⟨rfl,L⟩:=hb;refine(o c g).cons fun k _ _ a d=>?_
     cases d with
     |mapr w=>exact .mapr (by show lpβ n0 k E.β id=_;rw[ey L];exact w)
   ·exact qw c
  ·split at c
   ·split at c
    ·rename_i I;obtain⟨rfl,rfl,rfl,rfl,rfl⟩:=I;refine rJ (fun a b=>o a b) c g fun k v a d=>?_
     cases d with
     |sl w=>exact .sl ((v _).trans w)
    ·exact qw c
   ·exact qw c
  ·split at c
   ·refine rJ (fun a b=>o a b) c g fun k v a d=>?_
    cases d with
    |R P Q=>exact .R ((v _).trans P) Q
   ·exact qw c
  ·exact qw c
def uB(h:SH C)(W:List (SV C.T×SV C.T))(j:Nat):Obj C.T→Prop
 | .cells b=>∃cs,h[j]?=some (some (.cells cs))∧cs.length=b.length∧∀p,p∈cs.zip b→p∈W
 | .mp c=>∃es,h[j]?=some (some (.mp es))∧gV es c=true∧∀p,p∈qB es c→p∈W
 | .rows n l a root=>∃full,h[j]?=some (some (.rows n l full root))∧(a=true→full=true)
 | .it _ _=>False
theorem uB.mono{d:List (SV C.T×SV C.T)}(e:∀p,p∈W→p∈d):∀{o:Obj C.T},uB h W j o→uB h d j o
 | .cells g,⟨cs,h1,b,c⟩=>⟨cs,h1,b,fun p a=>e p (c p a)⟩
 | .mp k,⟨es,h1,b,c⟩=>⟨es,h1,b,fun p a=>e p (c p a)⟩
 | .rows _ _ _ _,h=>h
theorem Hi{K:List (SV C.T×SV C.T)→Tree}(a:(lpO h fh j K).holds):∃W,(K W).holds∧∀o,fh[j]?=some (some o)→uB h W j o:=by
 unfold lpO at a;split at a
 ·rename_i e;exact⟨[],a,fun o b=>(np e o b).elim⟩
 ·rename_i g e;split at a
  ·rename_i cs e2;cases hb:Nat.beq cs.length g.length with
   |false=>rw[hb]at a;exact qw a
   |true=>
    rw[hb]at a;rw[Nat.beq_eq]at hb;refine⟨_,a,fun o b=>?_⟩
    rw[bm e]at b;cases b;exact⟨cs,bm e2,hb,fun p s=>s⟩
  ·exact qw a
 ·rename_i k e;split at a
  ·rename_i es e2;cases hb:gV es k with
   |false=>rw[hb]at a;exact qw a
   |true=>
    rw[hb]at a;refine⟨_,a,fun o b=>?_⟩
    rw[bm e]at b;cases b;exact⟨es,bm e2,hb,fun p s=>s⟩
  ·exact qw a
 ·rename_i m w c d e;split at a
  ·rename_i n l full root e2;split at a
   ·rename_i t;subst t;cases hb:(Nat.beq d root && (!c||full))with
    |false=>rw[hb]at a;exact qw a
    |true=>
     rw[hb]at a;obtain⟨u,v⟩:=a;subst u;simp at hb;obtain⟨rfl,q⟩:=hb;refine⟨_,v,fun o b=>?_⟩
     rw[bm e]at b;cases b;exact⟨full,bm e2,fun x=>by grind⟩
   ·exact qw a
  ·exact qw a
 ·exact qw a
theorem Aw{h fh:SH C}:∀{n:Nat} {K:List (SV C.T×SV C.T)→Tree},(Md h fh n K).holds→∃W,(K W).holds∧∀(j:Nat) (o:Obj C.T),j<n→fh[j]?=some (some o)→uB h W j o
 |0,K,b=>⟨[],b,fun j o l=>by omega⟩
 |n+1,K,b=>by
  obtain⟨W,h1,d⟩:=Aw (n:=n) b;obtain⟨W1,e,g⟩:=Hi h1;refine⟨W1++W,e,fun j o l c=>?_⟩
  rcases qk j n with k|k
  ·exact(d j o k c).mono fun p a=>List.mem_append_right _ a
  ·have:j=n:=by omega
   subst this;exact(g o c).mono fun p a=>List.mem_append_left _ a
theorem xz{n0:Nat}{fh:SH C}{τ:Ren}:∀{n:Nat},i8 n0 fh τ n=true→∀(i:Nat) (o:Obj C.T),i<n→fh[n0+i]?=some (some o)→∃id,τ[i]?=some (some id)
 |0,_,i,o,c,_=>by omega
 |n+1,a,i,o,c,b=>by
  simp only[i8,qi]at a;rcases qk i n with k|k
  ·exact xz a.1 i o k b
  ·have:i=n:=by omega
   subst this;have d:=a.2;have e:bF fh (n0+i)=some o:=by unfold bF;rw[b]
   have get:((τ[i]?).join).isSome=true→∃id,τ[i]?=some (some id):=by
    cases hτ:τ[i]? with
    |none=>grind
    |some x=>
     cases x with
     |none=>grind
     |some id=>grind
   grind
theorem HK{es b:List (Int×SV C.T)}{as:List (bc×bc)}(l:gV es b=true)(h:∀p,p∈qB es b→js E n0 τ p)(d:lC E es as):lC (E.lp n0 τ) b as:=by
 simp only[gV,qi,List.any_eq_true,beq_iff_eq]at l;refine⟨d.keys,om l.2,fun n x s=>?_,fun n v g=>?_⟩
 ·have c:=h _ (List.mem_map.2 ⟨(n,x),s,rfl⟩);cases hf:es.find? fun p=>p.1==n with
  |some p=>
   rw[hf]at c;have o:=List.mem_of_find?_eq_some hf;have k:=List.find?_some hf;simp at k;obtain⟨m,y⟩:=p;subst k;rcases d.val m y o with⟨v,h1,e⟩|⟨h1,e⟩
   ·exact .inl ⟨v,h1,c v e⟩
   ·exact .inr ⟨h1,c _ e⟩
  |none=>
   rw[hf]at c;refine .inr ⟨?_,c _ (.a _)⟩;cases g:gM n as with
   |none=>rfl
   |some v=>
    obtain⟨y,q⟩:=d.dom n v g;grind
 ·obtain⟨y,q⟩:=d.dom n v g;grind
variable {H:bd}{lo:Nat}
theorem uB.obj(w:bo C)(u:bu E lo 0 h H)(z:∀p,p∈W→js E n0 τ p){o:Obj C.T}(k:id<n0)(c:uB h W id o):(∃o',h[id]?=some (some o'))∧eL (E.lp n0 τ) H id o:=by
 have P:(E.lp n0 τ).β id=E.β id:=ey k;have Q:(E.lp n0 τ).γ id=E.γ id:=ey k;cases o with
 |cells N=>
  obtain⟨cs,h1,e,q⟩:=c;obtain⟨b,as,t,g,d,m⟩:=u.obj id _ h1;exact⟨⟨_,h1⟩,b,as,by grind,g,d,i1 e (fun p c=>z p (q p c)) m⟩
 |mp O=>
  obtain⟨es,h1,e,q⟩:=c;obtain⟨b,as,t,g,d,m⟩:=u.obj id _ h1;exact⟨⟨_,h1⟩,b,as,by grind,g,d,HK e (fun p c=>z p (q p c)) m⟩
 |rows n l v root=>
  obtain⟨full,h1,e⟩:=c;refine⟨⟨_,h1⟩, ?_⟩;rcases u.obj id _ h1 with⟨rfl,t,a,g,d⟩|⟨b,off,cap,ex,as,t,g,d,m,D,G,I,J,L⟩
  ·exact .inl ⟨rfl,by grind,a,by grind,d⟩
  ·refine .inr ⟨b,off,cap,ex,as,by grind,by grind,d,m,D,G,I,fun M=>J (e M), ?_⟩
   intro i y A x a q1 q2 B;exact dj w (E:=E) (E':=E.lp n0 τ) (fun _ _ h=>h) (L i y A x a q1 q2 B) (List.all_eq_true.1 (w.ids n y) x (qo q2))
 |it s p=>exact c.elim
theorem AM(hC:bo C)(s:bu E lo 0 h H)(hn:n0≤h.length)(w:n0≤fh.length)(ab:τ.length=fh.length-n0)(hτ:gY τ)
 (A:∀(j:Nat) (o:Obj C.T),j<n0→fh[j]?=some (some o)→(∃o',h[j]?=some (some o'))∧eL (E.lp n0 τ) H j o) (t:∀(j id:Nat),τ[j]?=some (some id)→Cs E n0 τ h fh (n0+j) id) (B:i8 n0 fh τ (fh.length-n0)=true):
 bu (E.lp n0 τ) lo 0 fh H:=by
 have nm:∀(i:Nat) (o:Obj C.T),fh[i]?=some (some o)→∃id,(E.lp n0 τ).β i=E.β id∧(E.lp n0 τ).γ i=E.γ id∧(∃o',h[id]?=some (some o'))∧((i<n0∧id=i)∨(n0≤i∧τ[i-n0]?=some (some id)∧(n0≤id∨bF fh id=none))):=by
  intro i o q;rcases qk i n0 with k|k
  ·exact⟨i,ey k,ey k,(A i o k q).1,.inl ⟨k,rfl⟩⟩
  ·have I:i-n0<fh.length-n0:=by grind
   obtain⟨id,c⟩:=xz B (i-n0) o I (by grind)
   rcases t _ _ c with⟨n,l,full,u,root,h1,_,_,G⟩|⟨cs,U,h1,_,_,G,_⟩
   ·exact⟨id,nU k c,nU k c,⟨_,h1⟩,.inr ⟨k,c,G⟩⟩
   ·exact⟨id,nU k c,nU k c,⟨_,h1⟩,.inr ⟨k,c,.inl (by omega)⟩⟩
 have g:∀(i b:Nat),(E.lp n0 τ).β i=some b→∃id,E.β id=some b∧(i<n0→id=i):=by
  intro i b d;rcases qk i n0 with k|k
  ·have:(E.lp n0 τ).β i=E.β i:=ey k;grind
  ·have d:lpβ n0 τ E.β i=some b:=d;unfold lpβ at d;cases hj:τ[i-n0]? with
   |none=>grind
   |some o=>
    cases o with
    |none=>grind
    |some id=>grind
 refine⟨?_, ?_, ?_, ?_, ?_, ?_, ?_, ?_,Nat.zero_le _,s.ll⟩
 ·intro i o q;obtain⟨id,D,hγ,_,hc⟩:=nm i o q;rcases hc with⟨k,rfl⟩|⟨k,c,_⟩
  ·grind
  ·rcases t _ _ c with⟨n,l,full,u,root,h1,m,X,G⟩|⟨cs,U,h1,m,X,G,h5⟩
   ·rw[show n0+(i-n0)=i by omega,q]at m
    cases m;rcases s.obj id _ h1 with⟨rfl,k1,a,L,z⟩|⟨b,off,cap,ex,as,k1,L,z,M,k5,k6,k7,k8,k9⟩
    ·exact .inl ⟨rfl,by grind,a,by grind,z⟩
    ·refine .inr ⟨b,off,cap,ex,as,by grind,by grind,z,M,k5,k6,k7,fun w=>k8 (X w), ?_⟩
     intro i y jj x a q1 q2 q3;exact dj hC (E:=E) (E':=E.lp n0 τ) (fun _ _ h=>h) (k9 i y jj x a q1 q2 q3) (List.all_eq_true.1 (hC.ids n y) x (qo q2))
   ·rw[show n0+(i-n0)=i by omega,q]at m
    cases m;obtain⟨b,as,k1,L,z,M⟩:=s.obj id _ h1;have he:id=i:=by omega
    exact⟨b,as,by grind,by rw[← he];exact L,z,i1 X h5 M⟩
 ·intro i i' o o' b q J d v;obtain⟨id,D,_,⟨p,N⟩,hc⟩:=nm i o q;obtain⟨O,P,_,⟨p',Q⟩,R⟩:=nm i' o' J;rw[D]at d;rw[P]at v;have e:=s.inj id O p p' b N Q d v;subst e;have Z:∀(i:Nat) (o:Obj C.T),fh[i]?=some (some o)→bF fh i≠none:=by
   intro i o h1 m;exact np m o h1
  rcases hc with⟨k,e1⟩|⟨k,h1,m⟩<;>rcases R with⟨k',e2⟩|⟨k',Y,aa⟩
  ·omega
  ·grind
  ·grind
  ·have:=hτ _ _ id h1 Y;omega
 ·intro b cs w;refine⟨(s.fr b cs w).1,fun i o q d=>?_⟩
  obtain⟨id,D,_,⟨p,N⟩,_⟩:=nm i o q;rw[D]at d;exact(s.fr b cs w).2 id p N d
 ·intro i q;have m:∀{α:Type} (f:Nat→Option α),lpβ n0 τ f i=none:=by
   unfold lpβ;grind
  exact⟨m _,m _⟩
 ·intro i b _ d;obtain⟨id,h1,_⟩:=g i b d;exact s.low id b (Nat.zero_le _) h1
 ·intro i b d;obtain⟨id,h1,_⟩:=g i b d;exact s.bnd id b h1
 ·exact s.own
 ·intro i b d;obtain⟨id,h1,_⟩:=g i b d;exact s.βω id b h1
theorem LW(g:bo C)(k:bu E lo 0 h H)(m:n0≤h.length)(n:n0≤fh.length)(d:τ.length=fh.length-n0)(q:gY τ)
 (s:∀p,p∈W→js E n0 τ p) (a:∀(j:Nat) (o:Obj C.T),j<n0→fh[j]?=some (some o)→uB h W j o) (b:∀(j id:Nat),τ[j]?=some (some id)→Cs E n0 τ h fh (n0+j) id) (c:i8 n0 fh τ (fh.length-n0)=true):
 bu (E.lp n0 τ) lo 0 fh H:=
 AM g k m n d q (fun j o e l=>(a j o e l).obj g k s e) b c
variable {E0:Env}{H0:bd}{N0:Nat}{h0:SH C}{pn wlo:Nat}
theorem Hn(e:bu E0 lo wlo h0 H0)(o:h0.length=n0)(l:n0≤pn)(b:LeN n0 N0 E0 E):LeN n0 N0 E0 (E.lp pn τ):=by
 have key:∀{α:Type} {f g:Nat→Option α},(∀id a,f id=some a→g id=some a)→(∀id,n0≤id→f id=none)→∀id a,f id=some a→lpβ pn τ g id=some a:=by
  intro α f g h1 m id a n;rcases qk id n0 with k|k
  ·rw[ey (by omega)];grind
  grind
 refine⟨⟨key b.le.β fun id c=>(e.fresh id (by omega)).1,key b.le.γ fun id c=>(e.fresh id (by omega)).2,b.le.ω,b.le.Fr⟩,fun id c=>?_,b.fr,b.own⟩
 have d:id<pn:=by omega
 exact⟨(ey d:lpβ pn τ E.β id=E.β id).trans (b.old id c).1,(ey d:lpβ pn τ E.γ id=E.γ id).trans (b.old id c).2⟩
theorem DQ(s:bo C){r:SR C}{ρ:List bc}{regs:List (Nat×SV C.T)}{K:Tree}(e:bu E0 lo wlo h0 H0)(A:h0.length=n0)(g:n0≤pn)(k:LeN n0 N0 E0 E)(l:cO E r ρ)(B:bu E lo 0 h H)(c:(GA pn r h regs fh K).holds):
 K.holds∧pn≤fh.length∧∃E',cO E' (SR.only r.n regs) ρ∧bu E' lo 0 fh H∧LeN n0 N0 E0 E':=by
 unfold GA at c;cases hb:(Nat.ble pn h.length && Nat.ble pn fh.length)with
 |false=>rw[hb]at c;exact qw c
 |true=>
  rw[hb]at c;simp at hb;obtain⟨W,h1,t⟩:=Aw c;obtain⟨τ,u,v,a,m,w⟩:=um s h1 (fun j D id h _=>by grind)
  have a:(bif i8 pn fh τ (fh.length-pn)then K else Tree.stuck "lp: an object that nothing leads to").holds:=a
  cases hnew:i8 pn fh τ (fh.length-pn)with
  |false=>rw[hnew]at a;exact qw a
  |true=>
   rw[hnew]at a;have b:∀(j id:Nat),τ[j]?=some (some id)→Cs E pn τ h fh (pn+j) id:=fun j id d=>(w j id d).resolve_left fun h=>by grind
   refine⟨a,hb.2,E.lp pn τ, ?_,LW s B hb.1 hb.2 (by rw[v.1];simp) u m (fun j o d x=>(t j o d x).mono fun p y=>List.mem_append_right _ y) b hnew,Hn e A g k⟩
   refine sE l.len l.small fun q z=>?_
   exact m (r.get q.1,q.2) (List.mem_append_left _ (List.mem_map.2 ⟨q,z,rfl⟩)) _ (l.val q.1)
noncomputable def Kh(n0:Nat)(a:Option Nat)(c:LpD C)(r:SR C)(h:SH C):Tree:=
 bif Nat.ble n0 c.pn then .ex c.St fun s=>GA c.pn r (j7 (fun _=>true) (c.heap s) c.pn h) (c.regs s) (c.heap s) (.need (c.I s) (match a with
  |none=>.ok
  |some m=>.need (c.m s<m) .ok))
 else .stuck "names"
noncomputable def Ag(b n0:Nat)(cuts:List (Nat×LpD C))(sel:SR C→SH C→Nat)(c:Option Nat):FI C:=fun a=>bif cuts.any fun p=>Nat.beq p.1 a then
 some fun r h=>bif Nat.beq r.n b then(match cuts[sel r h]? with
  |some p=>bif Nat.beq p.1 a then Kh n0 c p.2 r h else .stuck "lp: elsewhere"
  |none=>.stuck "lp: which")else .stuck "frame"
 else none
noncomputable def Qk(F:Cf C)(ctr:FuncId→Option (Ctr C))(N:Nat)(fn:Func)(body:Code)(n0:Nat)(cuts:List (Nat×LpD C))(sel:SR C→SH C→Nat)(fin:CK C)(p:Nat×LpD C):Tree:=
 .all p.2.St fun s=>.imp (p.2.I s) (match (dO body []).find? fun q=>Nat.beq q.1 p.1 with
  |some (_,.c (.region _ ops a)::k)=>lx F (nJ F ctr (mD F ctr N)) 0 ops a (SR.only fn.ntmps (p.2.regs s)) (p.2.heap s) fun r h=>mD F ctr N (Ag fn.ntmps n0 cuts sel (some (p.2.m s))) 0 k r h fin
  |_=>.stuck "no such cut")
noncomputable def EB(F:Cf C)(ctr:FuncId→Option (Ctr C))(N:Nat)(fn:Func)(body:Code)(n0:Nat)(cuts:List (Nat×LpD C))(sel:SR C→SH C→Nat)(fin:CK C):List (Nat×LpD C)→Tree→Tree
 | [],K=>K
 |p::l,K=>.and (Qk F ctr N fn body n0 cuts sel fin p) (EB F ctr N fn body n0 cuts sel fin l K)
theorem x9{F:Cf C}{ctr:FuncId→Option (Ctr C)}{N:Nat}{fn:Func}{body:Code}{n0:Nat}{cuts:List (Nat×LpD C)}{sel:SR C→SH C→Nat}{fin:CK C}:∀{l:List (Nat×LpD C)} {K:Tree},(EB F ctr N fn body n0 cuts sel fin l K).holds→K.holds∧∀p,p∈l→(Qk F ctr N fn body n0 cuts sel fin p).holds
 | [],K,a=>⟨a,fun p c=>by simp at c⟩
 |q::l,K,a=>by
  obtain⟨h1,b⟩:=a;obtain⟨d,e⟩:=x9 (l:=l) b;grind
noncomputable def iy(F:Cf C)(ctr:FuncId→Option (Ctr C))(N:Nat)(fn:Func)(body:Code)(a:List (SV C.T)→SH C→List (Nat×LpD C))(sel:SR C→SH C→Nat):Ctr C:=fun wlo args h K=>
 bif Nat.beq wlo 0 && Nat.ble args.length fn.ntmps && Nat.ble fn.ntmps 512 then
  EB F ctr N fn body h.length (a args h) sel (fun _ r b=>dU F.S.P r b fn.results.toList fun vs=>K (fv vs) b) (a args h)
   (mD F ctr N (Ag fn.ntmps h.length (a args h) sel none) 0 [.c body] (SR.frame args fn.ntmps) h fun _ r b=>dU F.S.P r b fn.results.toList fun vs=>K (fv vs) b)
 else .stuck "frame"
variable {F:Cf C}{body:Code}{ctr:FuncId→Option (Ctr C)}{f:FuncId}{fn:Func}
theorem dc(z:bo C)(hX:fB F.S F.noExt)(hL:dk F.S)(d:cv F.S ctr)(hf:F.S.P.funcs[f]?=some fn)(hb:fn.body=some body)(hk:F.S.hook f=none)(hp:F.S.pol f= .keep)
 (N:Nat) (ac:List (SV C.T)→SH C→List (Nat×LpD C)) (sel:SR C→SH C→Nat) (hnd:nodupB ((dO body []).map (·.1))=true):bi F.S f (iy F ctr N fn body ac sel):=by
 intro E lo wlo args h H K av a hS hA;unfold iy at a;cases hfr:(Nat.beq wlo 0 && Nat.ble args.length fn.ntmps && Nat.ble fn.ntmps 512)with
 |false=>rw[hfr]at a;exact qw a
 |true=>
 rw[hfr]at a;simp at hfr;obtain⟨⟨rfl,hn⟩,hs⟩:=hfr;obtain⟨b,u⟩:=x9 a;generalize hcuts:ac args h=cuts at b u;have hR:=kN hA (n:=fn.ntmps) (by rw[← hA.1];exact hn) hs
 let Q:bT→List bc→bd→Prop:=fun _ e H'=>∃t g E',(dU F.S.P t g fn.results.toList fun vs=>K (fv vs) g).holds∧cO E' t e∧bu E' lo 0 g H'∧LeN h.length H.length E E'∧h.length≤g.length∧H.length≤H'.length
 have l:∀(m0:Option Nat) {id:Nat} {chk:SR C→SH C→Tree},Ag fn.ntmps h.length cuts sel m0 id=some chk→∀{r:SR C} {ρ:List bc} {h1:SH C} {H1:bd} {E1:Env},(chk r h1).holds→cO E1 r ρ→bu E1 lo 0 h1 H1→LeN h.length H.length E E1→h.length≤h1.length→H.length≤H1.length→
  r.n=fn.ntmps∧∃p,p∈cuts∧p.1=id∧∃s,p.2.I s∧(∀m,m0=some m→p.2.m s<m)∧h.length≤(p.2.heap s).length∧∃E',cO E' (SR.only r.n (p.2.regs s)) ρ∧bu E' lo 0 (p.2.heap s) H1∧LeN h.length H.length E E':=by
  intro m0 id chk hc;unfold Ag at hc;cases hany:(cuts.any fun p=>Nat.beq p.1 id)with
  |false=>grind
  |true=>
   rw[hany]at hc;simp at hc;subst hc;intro r ρ h1 H1 E1 a hR A ae af ag;simp only at a;cases hbn:Nat.beq r.n fn.ntmps with
   |false=>rw[hbn]at a;exact qw a
   |true=>
   rw[hbn]at a;rw[Nat.beq_eq]at hbn;split at a
   ·rename_i p ah;cases hid:Nat.beq p.1 id with
    |false=>rw[hid]at a;exact qw a
    |true=>
    rw[hid]at a;rw[Nat.beq_eq]at hid;have o:=qo ah;unfold Kh at a;cases hpn:Nat.ble h.length p.2.pn with
    |false=>rw[hpn]at a;exact qw a
    |true=>
    rw[hpn]at a;rw[Nat.ble_eq]at hpn;obtain⟨s,hs⟩:=a;obtain⟨n0,n1⟩:=oj z (fun _=>true) (p.2.heap s) p.2.pn h1
    obtain⟨E3,n2,n3⟩:=n1 E1 lo H1 A;obtain⟨g1,g2,g3⟩:=DQ z hS rfl hpn (ae.trans af ag n2) (hR.mono n2.le) n3 hs;refine⟨hbn,p,o,hid,s,g1.1,fun m hm=>?_,by omega,g3⟩
    subst hm;exact g1.2.1
   ·exact qw a
 have cut:∀(M:Nat) (p:Nat×LpD C) (s:p.2.St),p∈cuts→p.2.I s→p.2.m s<M→h.length≤(p.2.heap s).length→∀(k:List Kt),(p.1,k)∈dO body []→jK (dO body []) k→∀(E1:Env) (ρ1:List bc) (H1:bd),cO E1 (SR.only fn.ntmps (p.2.regs s)) ρ1→bu E1 lo 0 (p.2.heap s) H1→LeN h.length H.length E E1→H.length≤H1.length→
  ∃x e H',cQ F.S lo k ρ1 H1 (x,e,H')∧Q x e H':=by
  intro M;induction M with
  |zero=>grind
  |succ M ih=>
   intro p s aj hI hm U k ak X E1 ρ1 H1 al A Y Z;have hv:=u p aj s hI;split at hv
   ·rename_i ap id ops ao k0 B;obtain⟨o,aa⟩:=find_ok B;subst aa;have ad:=iF hnd ak o;subst ad;obtain⟨ρ2,H2,r2,h2,E2,q1,q2,q3,q4,q5,q6,q7⟩:=jx (id:=id) z hX hL (ji z d (eN z hX hL d N)) al A hv;have R:∀{E':Env} {n N:Nat},h.length≤n→H.length≤N→LeN n N E1 E'→LeN h.length H.length E E':=fun h1 h2 h3=>Y.trans h1 h2 h3
    obtain⟨x,e,H',g1,g2⟩:=eN z hX hL d N _ _ _ _ _ _ _ _ _ _ (dO body []) Q q7 q4 q5 X.2
     (fun x t g E' e H' D G J L p5 O=>⟨t,g,E',D,G,J,R U Z (q2.trans q3 q6 L),by omega,by omega⟩)
     (fun am chk k' t g E' e H' p0 an w D G J L p5 O=>by
      obtain⟨v,p',w1,w2,s',w4,w5,w6,ab,w7,w8,w9⟩:=l _ p0 D G J (R U Z (q2.trans q3 q6 L)) (by omega) (by omega)
      grind)
    exact⟨x,e,H',.c q1 g1,g2⟩
   ·exact qw hv
 obtain⟨x,e,H',q,t,g,E',k1,k2,k3,k4,k5,k6⟩:=eN z hX hL d N _ _ _ _ _ _ _ _ _ _ (dO body []) Q b hR hS ⟨fun y hy=>hy,trivial⟩
  (fun x t g E' e H' D G J L p5 O=>⟨t,g,E',D,G,J,L,p5,O⟩)
  (fun am chk k' t g E' e H' p0 an w D G J L p5 O=>by
   obtain⟨v,p',w1,w2,s',w4,w5,w6,ab,w7,w8,w9⟩:=l _ p0 D G J L p5 O;rw[v]at w7;exact cut (p'.2.m s'+1) p' s' w1 w4 (by omega) w6 k' (by grind) w ab e H' w7 w8 w9 O)
 obtain⟨q,aq⟩:=q.out;obtain⟨vs,as,e1,e2,e3⟩:=eZ (S:=F.S) z k2 k3 k1;obtain⟨m,hm⟩:=q;refine⟨hB as,H',fv vs,g,E',⟨m, ?_⟩,k4,k5,k3,k6,lc e2,e3⟩;simp only[co,hk,hf,hb,hp,Pol.lo];rw[hm];cases x with
 |exit i=>grind
 |normal=>simp only[e1];rfl
 |ret=>simp only[e1];rfl
noncomputable def HQ(b:Nat)(D:FnD C)(sel:Nat→SR C→SH C→Option Nat)(c:Option Nat):FI C:=fun a=>bif D.cuts.any fun p=>Nat.beq p.1 a then
 some fun r h=>bif Nat.beq r.n b then(match sel a r h with
  |some i=>match D.cuts[i]? with
   |some p=>bif Nat.beq p.1 a then JG c p.2 r h else .stuck "sel: elsewhere"
   |none=>.stuck "sel: which"
  |none=>.stuck "sel: none")else .stuck "frame"
 else none
noncomputable def zl(F:Cf C)(ctr:FuncId→Option (Ctr C))(N:Nat)(fn:Func)(body:Code)(D:FnD C)(sel:Nat→SR C→SH C→Option Nat)(args:List (SV C.T)):Tree:=
 mD F ctr N (HQ fn.ntmps D sel none) 0 [.c body] (SR.frame args fn.ntmps) [] (Co F.S.P fn.results.toList D)
noncomputable def mf(F:Cf C)(ctr:FuncId→Option (Ctr C))(N:Nat)(fn:Func)(body:Code)(D:FnD C)(sel:Nat→SR C→SH C→Option Nat)(b:Nat)(c:dN C)(s:c.St):Tree:=
 match (dO body []).find? fun p=>Nat.beq p.1 b with
 |some (_,.c (.region _ ops a)::k)=>lx F (nJ F ctr (mD F ctr N)) 0 ops a (SR.only fn.ntmps (c.regs s)) ((c.objs s).map some) fun r h=>mD F ctr N (HQ fn.ntmps D sel (some (c.m s))) 0 k r h (Co F.S.P fn.results.toList D)
 |_=>.stuck "no such cut"
variable {args:List (SV C.T)}{av:List bc}
theorem FX(w:bo C)(hX:fB F.S F.noExt)(hL:dk F.S)(b:cv F.S ctr)(hf:F.S.P.funcs[f]?=some fn)(R:fn.body=some body)(hk:F.S.hook f=none)
 (D:FnD C) (sel:Nat→SR C→SH C→Option Nat) (N:Nat) (hn:args.length≤fn.ntmps) (hs:fn.ntmps≤512) (hnd:nodupB ((dO body []).map (·.1))=true)
 (q:(zl F ctr N fn body D sel args).holds) (O:∀p,p∈D.cuts→∀s,p.2.I s→(mf F ctr N fn body D sel p.1 p.2 s).holds) (hS:bu E ((F.S.pol f).lo lo H) 0 ([]:SH C) H) (hA:Ers E args av):
 ∃n v H' E',co F.S (cB F.S n) lo f av H=finish (F.S.pol f) H v H'∧bu E' ((F.S.pol f).lo lo H) 0 (D.objs.map some) H'∧Er E' D.res v:=by
 -- where a run ends
 let Q:bT→List bc→bd→Prop:=fun _ e H'=>∃l o E',(Co F.S.P fn.results.toList D .ret l o).holds∧cO E' l e∧bu E' ((F.S.pol f).lo lo H) 0 o H'
 have g:∀(m0:Option Nat) {id:Nat} {chk:SR C→SH C→Tree},HQ fn.ntmps D sel m0 id=some chk→∀{r:SR C} {ρ:List bc} {h:SH C} {lo:Nat} {H:bd} {E1:Env},(chk r h).holds→cO E1 r ρ→bu E1 lo 0 h H→
  r.n=fn.ntmps∧∃p,p∈D.cuts∧p.1=id∧∃s,p.2.I s∧(∀m,m0=some m→p.2.m s<m)∧∃E',cO E' (SR.only r.n (p.2.regs s)) ρ∧bu E' lo 0 ((p.2.objs s).map some) H:=by
  intro m0 id chk hc;unfold HQ at hc;cases hany:(D.cuts.any fun p=>Nat.beq p.1 id)with
  |false=>grind
  |true=>
   rw[hany]at hc;simp at hc;subst hc;intro r ρ h lo H E1 d hR hS;simp only at d;cases R:Nat.beq r.n fn.ntmps with
   |false=>rw[R]at d;exact qw d
   |true=>
   rw[R]at d;rw[Nat.beq_eq]at R;split at d
   ·split at d
    ·rename_i p hp;cases hid:Nat.beq p.1 id with
     |false=>rw[hid]at d;exact qw d
     |true=>
      rw[hid]at d;rw[Nat.beq_eq]at hid;obtain⟨s,hs⟩:=d;obtain⟨⟨g1,X⟩,g3⟩:=wh w hR hS hs;refine⟨R,p,qo hp,hid,s,g1,fun m hm=>?_,g3⟩
      subst hm;exact X.1
    ·exact qw d
   ·exact qw d
 have cut:∀(M:Nat) (p:Nat×dN C) (s:p.2.St),p∈D.cuts→p.2.I s→p.2.m s<M→∀(k:List Kt),(p.1,k)∈dO body []→jK (dO body []) k→∀(E1:Env) (ρ1:List bc) (H1:bd),cO E1 (SR.only fn.ntmps (p.2.regs s)) ρ1→bu E1 ((F.S.pol f).lo lo H) 0 ((p.2.objs s).map some) H1→
  ∃x e H',cQ F.S ((F.S.pol f).lo lo H) k ρ1 H1 (x,e,H')∧Q x e H':=by
  intro M;induction M with
  |zero=>grind
  |succ M ih=>
   intro p s ad hI hm k ae U E1 ρ1 H1 af ag;have hv:=O p ad s hI;unfold mf at hv;split at hv
   ·rename_i al id ops ak k0 A;obtain⟨Y,Z⟩:=find_ok A;subst Z;have ab:=iF hnd ae Y;subst ab;obtain⟨ρ2,H2,r2,h2,E2,q1,q2,q3,q4,q5,q6,q7⟩:=jx (id:=id) w hX hL (ji w b (eN w hX hL b N)) af ag hv;obtain⟨x,e,H',g1,X⟩:=eN w hX hL b N _ _ _ _ _ _ _ _ _ _ (dO body []) Q q7 q4 q5 U.2
     (fun x l o E' e H' G J L p4 p5 p6=>⟨l,o,E',G,J,L⟩)
     (fun ah chk k' l o E' e H' p0 aj u G J L p4 p5 p6=>by
      obtain⟨t,p',w1,w2,s',w4,w5,B,w7,w8⟩:=g _ p0 G J L;grind)
    exact⟨x,e,H',.c q1 g1,X⟩
   ·exact qw hv
 have ac:=kN hA (n:=fn.ntmps) (by rw[← hA.1];exact hn) hs
 have z:jK (dO body []) [.c body]:=⟨fun y hy=>hy,trivial⟩
 obtain⟨x,e,H',g1,X⟩:=eN w hX hL b N _ _ _ _ _ _ _ _ _ _ (dO body []) Q q ac hS z
  (fun x l o E' e H' G J L p4 p5 p6=>⟨l,o,E',G,J,L⟩)
  (fun ah chk k' l o E' e H' p0 aj u G J L p4 p5 p6=>by
   obtain⟨t,p',w1,w2,s',w4,w5,B,w7,w8⟩:=g _ p0 G J L;rw[t]at w7;exact cut (p'.2.m s'+1) p' s' w1 w4 (by omega) k' (by grind) u B e H' w7 w8)
 obtain⟨l,o,E',w1,w2,w3⟩:=X;obtain⟨aa,am⟩:=g1.out;obtain⟨vs,as,e1,e2,e3⟩:=eZ (S:=F.S) w w2 w3 w1;obtain⟨B,e5,e6⟩:=xF w (lc e2) w3 e3;obtain⟨m,hm⟩:=aa;simp only[co,hk,hf,R];grind
theorem C3(m:bo C)(o:fB F.S F.noExt)(q:dk F.S)(d:cv F.S ctr)(t:F.S.P.funcs[f]?=some fn)(u:fn.body=some body)(w:F.S.hook f=none)(x:F.S.pol f= .keep)
 (N:Nat) (cuts:List (Nat×dN C)) (sel:Nat→SR C→SH C→Option Nat) (y:args.length≤fn.ntmps) (z:fn.ntmps≤512) (hnd:nodupB ((dO body []).map (·.1))=true)
 (a:b7 (zl F ctr N fn body ⟨cuts,.b true,[]⟩ sel args)) (c:∀p,p∈cuts→∀s,p.2.I s→b7 (mf F ctr N fn body ⟨cuts,.b true,[]⟩ sel p.1 p.2 s)) (A:Ers (gg []) args av):∃n H',ro F.S n 0 f av []=some (.bool true,H'):=by
 have e:bu (gg []) ((F.S.pol f).lo 0 []) 0 ([]:SH C) []:=mV (by simp only[Pol.lo];grind)
 obtain⟨n,v,H',E',h1,B,g⟩:=FX m o q d t u w ⟨cuts,.b true,[]⟩ sel N y z hnd a.out (fun p k s l=>(c p k s l).out) e A
 rw[x]at h1;cases g;exact⟨n,H',h1⟩
end Go.Sy
namespace Go.Sy
open Go.Am
variable {C:bK}{E:Env}
structure TA(C:bK)(S:Type) where
 St:Type
 I:S→St→Prop
 heap:St→SH C
structure Ur(C:bK) where
 pn:Nat
 St:Type
 I:St→Prop
 args:St→List (SV C.T)
 heap:St→SH C
 outs:List (TA C St)
 sel:SH C→Nat
end Go.Sy
namespace Go.Sy
open Go.Am
variable {C:bK}{E:Env}
def ltV{T:Nat→Type}(n:Nat):SV T→Bool
 | .ptr id _=>Nat.blt id n
 | .ep id _ _=>Nat.blt id n
 | .sl _ id _ _ _ _=>Nat.blt id n
 | .R id=>Nat.blt id n
 | .mapr id=>Nat.blt id n
 | .any=>true
 | .a _=>true
 | .i _ _=>true
 | .b _=>true
 | .s _=>true
 | .tl _ _=>true
 |_=>false
def ltO{T:Nat→Type}(n:Nat):Obj T→Bool
 | .cells cs=>cs.all (ltV n)
 | .mp es=>es.all fun p=>ltV n p.2
 | .rows _ _ _ _=>true
 | .it _ _=>true
variable {n:Nat}{τ:Ren}
theorem Gj(j:bo C){x:SV C.T}{a:bc}(c:ltV n x=true)(h:Er E x a):Er (E.lp n τ) x a:=by
 have lt:∀{id:Nat},Nat.blt id n=true→id<n:=fun h=>by simp_all
 cases h with
 |ptr d=>exact .ptr (by show lpβ n τ E.β _=_;rw[ey (lt c)];exact d)
 |ep d=>exact .ep (by show lpβ n τ E.γ _=_;rw[ey (lt c)];exact d)
 |sl d=>exact .sl (by show lpβ n τ E.β _=_;rw[ey (lt c)];exact d)
 |R d l=>exact .R (by show lpβ n τ E.γ _=_;rw[ey (lt c)];exact d) l
 |mapr d=>exact .mapr (by show lpβ n τ E.β _=_;rw[ey (lt c)];exact d)
 |any=>exact .any
 |a=>exact .a _
 |i k m=>exact .i k m
 |b t=>exact .b t
 |s t=>exact .s t
 |tlN=>exact .tlN
 |tlL h1 e f g=>exact dj j (E:=E) (E':=E.lp n τ) (fun _ _ h=>h) (.tlL h1 e f g) rfl
 |tlS h1 e f g o p=>exact dj j (E:=E) (E':=E.lp n τ) (fun _ _ h=>h) (.tlS h1 e f g o p) rfl
 |agg _ _=>cases c
 |tup _ _=>cases c
 |iface _=>cases c
 |fn _ _ _ _=>cases c
 |fpI _ _ _=>cases c
 |fpP _ _ _ _=>cases c
variable {H:bd}
theorem Mh(f:bo C){id:Nat}{o:Obj C.T}(g:id<n)(u:ltO n o=true)(h:eL E H id o):eL (E.lp n τ) H id o:=by
 have I:(E.lp n τ).β id=E.β id:=ey g;have J:(E.lp n τ).γ id=E.γ id:=ey g;cases o with
 |cells cs=>
  obtain⟨b,as,h1,d,e,c⟩:=h;refine⟨b,as,by grind,d,e,c.1,fun i x a q1 q2=>Gj f ?_ (c.2 i x a q1 q2)⟩
  exact List.all_eq_true.1 u x (qo q1)
 |mp es=>
  obtain⟨b,as,h1,d,e,c⟩:=h;refine⟨b,as,by grind,d,e,c.keys,c.nodup,fun m x t=>?_,c.dom⟩
  have hl:=List.all_eq_true.1 u (m,x) t;rcases c.val m x t with⟨v,k,p⟩|⟨k,p⟩
  ·exact .inl ⟨v,k,Gj f hl p⟩
  ·exact .inr ⟨k,Gj f hl p⟩
 |it s G=>
  obtain⟨b,h1,d,e⟩:=h;exact⟨b,by grind,d,e⟩
 |rows m l full root=>
  rcases h with⟨h1,e,a,c,q⟩|⟨b,off,cap,ex,as,h1,e,d,c,q,w,z,A,B⟩
  ·exact .inl ⟨h1,by grind,a,by grind,q⟩
  ·refine .inr ⟨b,off,cap,ex,as,by grind,by grind,d,c,q,w,z,A,fun i y j x a q1 q2 D=>?_⟩
   exact dj f (E:=E) (E':=E.lp n τ) (fun _ _ h=>h) (B i y j x a q1 q2 D) (List.all_eq_true.1 (f.ids m y) x (qo q2))
def ww(h a:SH C)(foot:Nat→Bool):Nat→(List (SV C.T×SV C.T)→Tree)→Tree
 |0,K=>K []
 |j+1,K=>bif foot j then(ww h a foot j fun W=>lpO h a j fun W1=>K (W1++W))else ww h a foot j K
theorem nM{h f:SH C}{foot:Nat→Bool}:∀{n:Nat} {K:List (SV C.T×SV C.T)→Tree},(ww h f foot n K).holds→∃W,(K W).holds∧∀(j:Nat) (o:Obj C.T),j<n→foot j=true→f[j]?=some (some o)→uB h W j o
 |0,K,a=>⟨[],a,fun j o m=>by omega⟩
 |n+1,K,a=>by
  simp only[ww]at a;cases hf:foot n with
  |true=>
   rw[hf]at a;obtain⟨W,h1,d⟩:=nM (n:=n) a;obtain⟨W1,g,l⟩:=Hi h1;refine⟨W1++W,g,fun j o m b e=>?_⟩
   rcases qk j n with k|k
   ·exact(d j o k b e).mono fun p c=>List.mem_append_right _ c
   ·have:j=n:=by omega
    subst this;exact(l o e).mono fun p c=>List.mem_append_left _ c
  |false=>
   rw[hf]at a;obtain⟨W,h1,d⟩:=nM (n:=n) a;grind
noncomputable def mo(n:Nat)(foot:Nat→Bool)(b:List (SV C.T×SV C.T))(h a:SH C)(K:Tree):Tree:=
 bif Nat.ble n h.length && Nat.ble n a.length then
  ww h a foot n fun W=>lpV n h a 4000 (b++W) (List.replicate (a.length-n) none) fun τ=>bif i8 n a τ (a.length-n)then K else .stuck "fr: an object that nothing leads to"
 else .stuck "fr: memory"
variable {foot:Nat→Bool}{h:SH C}
theorem t8(f:bo C){l:Env}{lo m g N0:Nat}{y:SH C}{H0:bd}{z:List (SV C.T×SV C.T)}{a:SH C}{K:Tree}(q:bu l lo m y H0)(J:y.length=g)(s:g≤n)(t:LeN g N0 l E)(u:bu E lo 0 h H)
 (v:∀(j:Nat) (o:Obj C.T),j<n→foot j=false→a[j]?=some (some o)→h[j]?=some (some o)∧ltO n o=true) (e:(mo n foot z h a K).holds):
 K.holds∧n≤a.length∧∃τ,(∀p,p∈z→js E n τ p)∧bu (E.lp n τ) lo 0 a H∧LeN g N0 l (E.lp n τ):=by
 unfold mo at e;cases hb:(Nat.ble n h.length && Nat.ble n a.length)with
 |false=>rw[hb]at e;exact qw e
 |true=>
  rw[hb]at e;simp at hb;obtain⟨W,h1,A⟩:=nM e;obtain⟨τ,B,D,b,w,G⟩:=um f h1 (fun j L id h _=>by grind)
  have b:(bif i8 n a τ (a.length-n)then K else Tree.stuck "fr: an object that nothing leads to").holds:=b
  cases hnew:i8 n a τ (a.length-n)with
  |false=>rw[hnew]at b;exact qw b
  |true=>
   rw[hnew]at b;have d:∀(j id:Nat),τ[j]?=some (some id)→Cs E n τ h a (n+j) id:=fun j id c=>(G j id c).resolve_left fun h=>by grind
   refine⟨b,hb.2,τ,fun p k=>w p (List.mem_append_left _ k),AM f u hb.1 hb.2 (by rw[D.1];simp) B (fun j o c x=>?_) d hnew,Hn q J s t⟩
   cases hf:foot j with
   |true=>exact((A j o c hf x).mono fun p k=>List.mem_append_right _ k).obj f u w c
   |false=>
    obtain⟨g1,I⟩:=v j o c hf x;exact⟨⟨o,g1⟩,Mh f c I (u.obj j o g1)⟩
structure FrO(C:bK)(S:Type) where
 St:Type
 cond:S→St→Prop
 res:St→SV C.T
 heap:St→SH C→SH C
structure FrD(C:bK) where
 n:Nat
 foot:Nat→Bool
 St:Type
 I:St→Prop
 args:St→List (SV C.T)
 heap:St→SH C→SH C
 outs:List (FrO C St)
 sel:SV C.T→SH C→Nat
structure ou(D:FrD C):Prop where
 len:∀(s:D.St) (h:SH C),h.length=D.n→(D.heap s h).length=D.n
 ahead:∀(s:D.St) (h:SH C) (j:Nat),h.length=D.n→j<D.n→D.foot j=false→(D.heap s h)[j]?=h[j]?
 behind:∀(B:FrO C D.St),B∈D.outs→∀(s:B.St) (h:SH C) (j:Nat),h.length=D.n→j<D.n→D.foot j=false→(B.heap s h)[j]?=h[j]?
def ju(foot:Nat→Bool)(a h:SH C):Nat→Tree→Tree
 |0,K=>K
 |j+1,K=>bif foot j then ju foot a h j K else .need (a.getD j none=h.getD j none) (ju foot a h j K)
theorem lq{foot:Nat→Bool}{h b:SH C}{K:Tree}:∀{n:Nat},(ju foot b h n K).holds→K.holds∧∀j,j<n→foot j=false→b.getD j none=h.getD j none
 |0,a=>⟨a,fun j d=>by omega⟩
 |n+1,a=>by
  simp only[ju]at a;cases hf:foot n with
  |true=>
   rw[hf]at a;obtain⟨h1,c⟩:=lq (n:=n) a;grind
  |false=>
   rw[hf]at a;obtain⟨e,a⟩:=a;obtain⟨h1,c⟩:=lq (n:=n) a;grind
noncomputable def Br(D:FrD C)(s:D.St)(h:SH C):SV C.T→SH C→Tree:=fun sv b=>match D.outs[D.sel sv b]? with
 |some B=>.ex B.St fun a=>mo D.n D.foot [(sv,B.res a)] (j7 D.foot (B.heap a h) D.n b) (B.heap a h) (ju D.foot (j7 D.foot (B.heap a h) D.n b) h D.n (.need (B.cond s a) .ok))
 |none=>.stuck "fr: which"
noncomputable def frK{S:Type}(s:S)(h:SH C)(K:SV C.T→SH C→Tree):List (FrO C S)→Tree
 | []=>.ok
 |B::l=>.and (.all B.St fun a=>.imp (B.cond s a) (K (B.res a) (B.heap a h))) (frK s h K l)
theorem Ff{S:Type}{s:S}{h:SH C}{K:SV C.T→SH C→Tree}:∀{l:List (FrO C S)},(frK s h K l).holds→∀B,B∈l→∀b,B.cond s b→(K (B.res b) (B.heap b h)).holds
 | [],_,B,a=>by simp at a
 |A::l,d,B,a=>by
  obtain⟨h1,c⟩:=d;rcases List.mem_cons.1 a with rfl|a
  ·exact h1
  ·exact Ff c B a
def jF{T:Nat→Type}(n:Nat):Option (Obj T)→Bool
 |none=>true
 |some o=>ltO n o
def tD(n:Nat)(foot q:Nat→Bool)(h:SH C):Nat→Tree→Tree
 |0,K=>K
 |j+1,K=>bif foot j then tD n foot q h j K else bif q j then .need (jF n (h.getD j none)=true) (tD n foot q h j K)else bif jF n (h.getD j none)then tD n foot q h j K else .stuck "fr: names"
def qU(n:Nat)(foot:Nat→Bool)(h:SH C)(m:Nat):Prop:=∀j,j<m→foot j=false→jF n (h.getD j none)=true
theorem qU.get{m:Nat}(a:qU n foot h m)(j:Nat)(o:Obj C.T)(b:j<m)(c:foot j=false)(d:h[j]?=some (some o)):ltO n o=true:=by
 have:=a j b c;rw[qh,d]at this;exact this
theorem nj{n:Nat}{foot q:Nat→Bool}{h:SH C}{K:Tree}:∀{m:Nat},(tD n foot q h m K).holds→K.holds∧qU n foot h m
 |0,c=>⟨c,fun j f=>by omega⟩
 |m+1,c=>by
  have st:∀{X:Prop},(K.holds∧qU n foot h m)→(foot m=true∨jF n (h.getD m none)=true)→K.holds∧qU n foot h (m+1):=fun a b=>⟨a.1,fun j f d=>by
   rcases qk j m with k|k
   ·exact a.2 j k d
   grind⟩
  simp only[tD]at c;cases d:foot m with
  |true=>rw[d]at c;exact st (X:=True) (nj c) (.inl d)
  |false=>
   rw[d]at c;cases hq:q m with
   |true=>
    rw[hq]at c;obtain⟨e,c⟩:=c;exact st (X:=True) (nj c) (.inr e)
   |false=>
    rw[hq]at c;cases hl:jF n (h.getD m none)with
    |false=>rw[hl]at c;exact qw c
    |true=>rw[hl]at c;exact st (X:=True) (nj c) (.inr hl)
noncomputable def fq(q:Nat→Bool)(D:FrD C):Ctr C:=fun a args h K=>
 bif Nat.beq a 0 && Nat.beq h.length D.n then tD D.n D.foot q h D.n (.ex D.St fun s=>(bif Nat.beq args.length (D.args s).length then mo D.n D.foot (args.zip (D.args s)) h (D.heap s h) (.need (D.I s) (frK s h K D.outs))else .stuck "fr: args"))
 else .stuck "fr: names"
noncomputable def pb(D:FrD C):Ctr C:=fq (fun _=>false) D
theorem c7(w:bo C){S:bh}{f:FuncId}(q:Nat→Bool)(D:FrD C)(P:ou D)(Q:∀s,D.I s→∀h:SH C,h.length=D.n→qU D.n D.foot h D.n→∃c,bi S f c∧b7 (c 0 (D.args s) (D.heap s h) (Br D s h))):bi S f (fq q D):=by
 intro E lo A args h H K av b G hA;unfold fq at b;cases hfr:(Nat.beq A 0 && Nat.beq h.length D.n)with
 |false=>rw[hfr]at b;exact qw b
 |true=>
 rw[hfr]at b;simp at hfr;obtain⟨rfl,d⟩:=hfr;obtain⟨b,e⟩:=nj b;have aa:=e.get;obtain⟨s,l⟩:=b;simp only at l;cases hl:Nat.beq args.length (D.args s).length with
 |false=>rw[hl]at l;exact qw l
 |true=>
 rw[hl]at l;rw[Nat.beq_eq]at hl;obtain⟨⟨hI,hK⟩,ab,τ,g1,g2,g3⟩:=t8 w G rfl (by omega) (LeN.refl h.length E (N:=H.length)) G (fun j o L M O=>by
  rw[P.ahead s h j d L M]at O;grind) l
 have x:=i1 hl g1 hA;obtain⟨c,hc,m⟩:=Q s hI h d e;obtain⟨v,H',sv,u,E2,r1,r2,r3,r4,U,r6,r7⟩:=hc (E.lp D.n τ) lo 0 (D.args s) (D.heap s h) H (Br D s h) av m.out g2 x;unfold Br at r7;split at r7
 ·rename_i B p;obtain⟨a,r7⟩:=r7;obtain⟨n0,n1⟩:=oj w D.foot (B.heap a h) D.n u;obtain⟨X,Y,n3⟩:=n1 E2 lo H' r4;have r7:(mo D.n D.foot [(sv,B.res a)] (j7 D.foot (B.heap a h) D.n u) (B.heap a h) (ju D.foot (j7 D.foot (B.heap a h) D.n u) h D.n (.need (B.cond s a) .ok))).holds:=r7;have R:=P.len s h d;have p:=qo p;have r2:=r2.trans r3 U Y;generalize j7 D.foot (B.heap a h) D.n u=k at*;have y:LeN h.length H.length (E.lp D.n τ) X:=by grind
  -- what is kept is told behind the tree
  have g:(mo D.n D.foot [(sv,B.res a)] k (B.heap a h) (ju D.foot k h D.n (.need (B.cond s a) .ok))).holds→(ju D.foot k h D.n (.need (B.cond s a) .ok)).holds:=by
   intro b;unfold mo at b;cases hb:(Nat.ble D.n k.length && Nat.ble D.n (B.heap a h).length)with
   |false=>rw[hb]at b;exact qw b
   |true=>
    rw[hb]at b;obtain⟨W,h1,_⟩:=nM b;obtain⟨Z,_,_,t,_⟩:=um (E:=E) w h1 (fun j j' id h _=>by grind)
    have t:(bif i8 D.n (B.heap a h) Z ((B.heap a h).length-D.n)then ju D.foot k h D.n (.need (B.cond s a) .ok)else Tree.stuck "fr: an object that nothing leads to").holds:=t
    cases hnew:i8 D.n (B.heap a h) Z ((B.heap a h).length-D.n)with
    |false=>rw[hnew]at t;exact qw t
    |true=>grind
  have hk:=(lq (g r7)).2;obtain⟨J,ac,τ2,q1,q2,q3⟩:=t8 w G rfl (by omega) (g3.trans (qe _) (qe _) y) n3 (fun j o L M O=>by
   rw[P.behind B p a h j d L M]at O;grind) r7
  have z:=(lq J).1.1;exact⟨v,H',B.res a,B.heap a h,X.lp D.n τ2,r1,q3,by omega,q2,U,q1 (sv,B.res a) List.mem_cons_self v (r6.mono Y.le),Ff hK B p a z⟩
 ·exact qw r7
end Go.Sy
namespace Go.Sy
open Go.Am
variable {C:bK}{E:Env}
variable {h:SH C}
theorem pF{k i:Nat}{o:Obj C.T}(a:(h++List.replicate k none)[i]?=some (some o)):h[i]?=some (some o):=by
 grind
theorem bu.pad{lo d:Nat}{H:bd}(a:bu E lo d h H)(k:Nat):bu E lo d (h++List.replicate k none) H:=
 ⟨fun id o e=>a.obj id o (pF e),fun id g o o' b h1 l=>a.inj id g o o' b (pF h1) (pF l),fun b cs j=>⟨(a.fr b cs j).1,fun id o e=>(a.fr b cs j).2 id o (pF e)⟩,
  fun id e=>a.fresh id (by grind),a.low,a.bnd,a.own,a.βω,by rw[qn];have:=a.wl;omega,a.ll⟩
def gU(N:Nat)(c:Ctr C):Ctr C:=fun a args h K=>c a args (h++List.replicate (N-h.length) none) K
variable {S:bh}{c:Ctr C}{f:FuncId}
theorem d1(N:Nat)(hc:bi S f c):bi S f (gU N c):=by
 intro E lo a args h H K av b d e;obtain⟨v,H',sv,g,E',r1,r2,r3,r4,j,r6,r7⟩:=hc E lo a args _ H K av b (d.pad _) e;rw[qn]at r2 r3;exact⟨v,H',sv,g,E',r1,⟨r2.le,fun id k=>r2.old id (by omega),r2.fr,r2.own⟩,by omega,r4,j,r6,r7⟩
def zk(v:bc)(c:Ctr C):Ctr C:=fun b args h K=>c b args h fun x d=>match yi x with
 |some e=>.need (e=v) (K (.a v) d)
 |none=>.stuck "lit"
theorem tW(v:bc)(hc:bi S f c):bi S f (zk v c):=by
 intro E lo b args h H K av d e g;obtain⟨w,H',sv,k,E',r1,r2,r3,r4,l,r6,r7⟩:=hc E lo b args _ H _ av d e g;simp only at r7;split at r7
 ·rename_i m j;obtain⟨rfl,r7⟩:=r7;have:=ng r6 j;subst this;exact⟨_,H',_,k,E',r1,r2,r3,r4,l,.a _,r7⟩
 ·exact qw r7
def AC:Ctr C:=fun _ _ _ _=>.stuck "no"
theorem rn{S:bh}{f:FuncId}:bi (C:=C) S f AC:=fun _ _ _ _ _ _ _ _ a=>(cf a).elim
end Go.Sy
namespace Go.Sy
open Go.Am
variable {C:bK}{E:Env}
def pmV{T:Nat→Type}(π:Nat→Option Nat):SV T→Option (SV T)
 | .ptr id off=>(π id).map fun j=>.ptr j off
 | .ep id i off=>(π id).map fun j=>.ep j i off
 | .sl sz id off len cap ex=>(π id).map fun j=>.sl sz j off len cap ex
 | .R id=>(π id).map .R
 | .any=>some .any
 | .agg cs=>bif cs.all lB then some (.agg cs)else none
 | .tup cs=>bif cs.all lB then some (.tup cs)else none
 | .a v=>some (.a v)
 | .i k n=>some (.i k n)
 | .b x=>some (.b x)
 | .s x=>some (.s x)
 | .tl n l=>some (.tl n l)
 |_=>none
def xf{T:Nat→Type}(π:Nat→Option Nat):List (SV T)→Option (List (SV T))
 | []=>some []
 |x::xs=>match pmV π x,xf π xs with
  |some y,some a=>some (y::a)
  |_,_=>none
theorem FW(A:bo C){E E':Env}{π:Nat→Option Nat}(q:∀id j b,π id=some j→E.β id=some b→E'.β j=some b)(u:∀id j a,π id=some j→E.γ id=some a→E'.γ j=some a)(B:∀b cs,E.Fr b cs→E'.Fr b cs)
 {x y:SV C.T} {a:bc} (g:pmV π x=some y) (h:Er E x a):Er E' y a:=by
 have keep:∀{x:SV C.T} {a:bc},Er E x a→lB x=true→Er E' x a:=fun h z=>dj A (E:=E) (E':=E') B h z
 cases x with
 |ptr id off=>obtain⟨j,e,rfl⟩:=Option.map_eq_some_iff.1 g;cases h with|ptr m=>exact .ptr (q _ _ _ e m)
 |ep id i off=>obtain⟨j,e,rfl⟩:=Option.map_eq_some_iff.1 g;cases h with|ep m=>exact .ep (u _ _ _ e m)
 |sl sz id off len cap ex=>obtain⟨j,e,rfl⟩:=Option.map_eq_some_iff.1 g;cases h with|sl m=>exact .sl (q _ _ _ e m)
 |R id=>obtain⟨j,e,rfl⟩:=Option.map_eq_some_iff.1 g;cases h with|R m w=>exact .R (u _ _ _ e m) w
 |any=>cases g;exact .any
 |a v=>cases g;exact keep h rfl
 |i k n=>cases g;exact keep h rfl
 |b t=>cases g;exact keep h rfl
 |s t=>cases g;exact keep h rfl
 |tl n l=>cases g;exact keep h rfl
 |agg cs=>
  simp only[pmV]at g;cases hall:cs.all lB with
  |false=>grind
  |true=>
   rw[hall]at g;cases g;cases h with
   |agg hl p=>exact .agg hl fun i x a h1 o=>keep (p i x a h1 o) (List.all_eq_true.1 hall x (qo h1))
 |tup cs=>
  simp only[pmV]at g;cases hall:cs.all lB with
  |false=>grind
  |true=>
   rw[hall]at g;cases g;cases h with
   |tup hl p=>exact .tup hl fun i x a h1 o=>keep (p i x a h1 o) (List.all_eq_true.1 hall x (qo h1))
 |mapr id=>cases g
 |iface t v=>cases g
 |fn f c d=>cases g
 |fp c=>cases g
theorem ve(g:bo C){E E':Env}{π:Nat→Option Nat}(k:∀id j b,π id=some j→E.β id=some b→E'.β j=some b)(m:∀id j a,π id=some j→E.γ id=some a→E'.γ j=some a)(n:∀b cs,E.Fr b cs→E'.Fr b cs):
 ∀{xs e:List (SV C.T)} {l:List bc},xf π xs=some e→Ers E xs l→Ers E' e l
 | [],e,l,d,h=>by
  cases d;rw[h.inv_nil];exact .nil
 |x::xs,e,l,d,h=>by
  obtain⟨a,t,rfl,h1,o⟩:=h.inv_cons;unfold xf at d;split at d
  ·rename_i y p e1 e2;cases d;exact .cons (FW g k m n e1 h1) (ve g k m n e2 o)
  ·cases d
def ec:List Nat→Nat→Option Nat
 | [],_=>none
 |y::t,x=>bif Nat.beq y x then some 0 else(ec t x).map (· +1)
theorem fN:∀{l:List Nat} {x i:Nat},ec l x=some i→l[i]?=some x
 |y::t,x,i,h=>by
  unfold ec at h;cases hb:Nat.beq y x with
  |true=>rw[hb]at h;cases h;simp_all
  |false=>
   rw[hb]at h;obtain⟨j,e,rfl⟩:=Option.map_eq_some_iff.1 h;rw[List.getElem?_cons_succ];exact fN e
theorem jp:∀{l:List Nat} {x:Nat},ec l x=none→∀i:Nat,l[i]?≠some x
 | [],x,_,i,h=>by cases h
 |y::t,x,a,i,h=>by
  unfold ec at a;cases hb:Nat.beq y x with
  |true=>grind
  |false=>
   rw[hb]at a;have a:ec t x=none:=Option.map_eq_none_iff.1 a;cases i with
   |zero=>
    simp_all
   |succ i=>exact jp a i (by grind)
def iO:List Nat→Bool
 | []=>true
 |x::t=>(ec t x).isNone && iO t
theorem j2:∀{l:List Nat},iO l=true→∀{i j:Nat} {x:Nat},l[i]?=some x→l[j]?=some x→i=j
 | [],_,i,j,x,h,_=>by cases h
 |y::t,a,i,j,x,h1,b=>by
  unfold iO at a;simp at a;cases i with
  |zero=>
   cases j with
   |zero=>rfl
   |succ j=>
    exact absurd (by grind) (jp a.1 j)
  |succ i=>
   cases j with
   |zero=>
    exact absurd (by grind) (jp a.1 i)
   |succ j=>
    rw[j2 a.2 h1 b]
theorem BB{l:List Nat}(a:iO l=true){i x:Nat}(h:l[i]?=some x):ec l x=some i:=by
 cases e:ec l x with
 |none=>exact absurd h (jp e i)
 |some j=>rw[j2 a h (fN e)]
def rB{T:Nat→Type}(id:Nat):Obj T→Option Nat
 | .cells _=>some id
 | .rows _ _ _ r=>some r
 |_=>none
def pP(h:SH C):List Nat→Option (List Nat)
 | []=>some []
 |id::t=>match bF h id,pP h t with
  |some o,some rs=>(rB id o).map fun r=>r::rs
  |_,_=>none
def pmO{T:Nat→Type}(π ρ:Nat→Option Nat):Obj T→Option (Obj T)
 | .cells cs=>(xf π cs).map .cells
 | .rows n l full r=>(ρ r).map fun a=>.rows n l full a
 |_=>none
def sB(h:SH C)(π ρ:Nat→Option Nat):List Nat→Option (SH C)
 | []=>some []
 |id::t=>match bF h id,sB h π ρ t with
  |some o,some s=>(pmO π ρ o).map fun o'=>some o'::s
  |_,_=>none
def qT(h:SH C)(l rs:List Nat):Nat→Bool
 |0=>true
 |j+1=>qT h l rs j && (match bF h j with
  |none=>true
  |some o=>(ec l j).isSome||(match rB j o with
   |some r=>(ec rs r).isNone
   |none=>false))
def nmN(l:List Nat)(n j:Nat):Nat:=bif Nat.blt j l.length then l.getD j 0 else n+(j-l.length)
def rtN(rs:List Nat)(n:Nat)(ρ:Nat→Option Nat)(r:Nat):Nat:=bif Nat.blt r rs.length then rs.getD r 0 else match ρ r with
 |some i=>rs.getD i 0
 |none=>n+(r-rs.length)
def GT{T:Nat→Type}(l:List Nat)(g:Nat→Nat)(n i j:Nat):Obj T→Option (Obj T)
 | .cells cs=>bif Nat.beq (g i) j then(xf (fun x=>some (nmN l n x)) cs).map .cells else none
 | .rows m x full r=>some (.rows m x full (g r))
 |_=>none
def FO(l:List Nat)(g:Nat→Nat)(h a:SH C)(j:Nat):Option (Option (Obj C.T)):=
 match (bif Nat.blt j h.length then ec l j else some (l.length+(j-h.length)))with
 |none=>some (bF h j)
 |some i=>match bF a i with
  |none=>some none
  |some o=>(GT l g h.length i j o).map some
def Ip(l:List Nat)(g:Nat→Nat)(h a:SH C):List Nat→Option (SH C)
 | []=>some []
 |j::t=>match FO l g h a j,Ip l g h a t with
  |some o,some s=>some (o::s)
  |_,_=>none
def dD(sel:List (SV C.T)→SH C→Option (List Nat))(ρ:SH C→Nat→Option Nat)(c:Ctr C):Ctr C:=fun b args h K=>
 match sel args h with
 |none=>.stuck "foot: what"
 |some l=>match pP h l with
  |none=>.stuck "foot: objects"
  |some rs=>bif Nat.beq b 0 && (iO l && (iO rs && qT h l rs h.length))then
   match xf (ec l) args,sB h (ec l) (ec rs) l with
   |some a,some g=>c 0 a g fun sv d=>match pmV (fun x=>some (nmN l h.length x)) sv,Ip l (rtN rs h.length (ρ d)) h d (List.range (h.length+(d.length-l.length)))with
    |some e,some j=>K e j
    |_,_=>.stuck "foot: back"
   |_,_=>.stuck "foot: names" else .stuck "foot: roots"
theorem p7{h:SH C}:∀{l rs:List Nat},pP h l=some rs→rs.length=l.length∧∀(i id:Nat),l[i]?=some id→∃o r,h[id]?=some (some o)∧rB id o=some r∧rs[i]?=some r
 | [],rs,a=>by cases a;grind
 |x::t,rs,a=>by
  unfold pP at a;split at a
  ·rename_i o b e1 e2;obtain⟨r,e3,rfl⟩:=Option.map_eq_some_iff.1 a;obtain⟨g1,e⟩:=p7 e2;refine⟨by grind,fun i id d=>?_⟩
   cases i with
   |zero=>cases d;exact⟨o,r,bm e1,e3,rfl⟩
   |succ i=>grind
  ·cases a
theorem oK{h:SH C}{π ρ:Nat→Option Nat}:∀{l:List Nat} {b:SH C},sB h π ρ l=some b→b.length=l.length∧∀(i:Nat) (o':Obj C.T),b[i]?=some (some o')→∃id o,l[i]?=some id∧h[id]?=some (some o)∧pmO π ρ o=some o'
 | [],b,a=>by cases a;grind
 |x::t,b,a=>by
  unfold sB at a;split at a
  ·rename_i o s e1 e2;obtain⟨e,e3,rfl⟩:=Option.map_eq_some_iff.1 a;obtain⟨g1,g⟩:=oK e2;refine⟨by grind,fun i o' d=>?_⟩
   cases i with
   |zero=>cases d;exact⟨x,o,rfl,bm e1,e3⟩
   |succ i=>grind
  ·cases a
theorem tI{h:SH C}{l rs:List Nat}:∀{n:Nat},qT h l rs n=true→∀(j:Nat) (o:Obj C.T),j<n→h[j]?=some (some o)→ec l j=none→∃r,rB j o=some r∧ec rs r=none
 |n+1,a,j,o,m,d,g=>by
  unfold qT at a;rw[qi]at a;rcases qk j n with k|k
  ·exact tI a.1 j o k d g
  ·have:j=n:=by omega
   subst this;have b:=a.2;have e:bF h j=some o:=by unfold bF;rw[d]
   rw[e]at b;simp at b;split at b
   all_goals simp_all
theorem AT{l:List Nat}{g:Nat→Nat}{h e:SH C}:∀{d:List Nat} {a:SH C},Ip l g h e d=some a→a.length=d.length∧∀(i j:Nat) (x:Option (Obj C.T)),d[i]?=some j→a[i]?=some x→FO l g h e j=some x
 | [],a,b=>by cases b;grind
 |y::t,a,b=>by
  unfold Ip at b;split at b
  ·rename_i o s e1 e2;obtain⟨g1,k⟩:=AT e2;grind
  ·cases b
theorem uA{H:bd}{id b r:Nat}{o:Obj C.T}(e:eL E H id o)(m:E.β id=some b)(a:rB id o=some r):E.ω b=some r∧∃as,H[b]?=some (some (.cells as)):=by
 cases o with
 |cells cs=>
  cases a;obtain⟨g,as,h1,d,j,_⟩:=e;grind
 |rows n l full root=>
  cases a;rcases e with⟨_,d,_⟩|⟨g,off,cap,ex,as,_,d,j,k,_⟩
  all_goals grind
 |mp es=>cases a
 |it s p=>cases a
section
variable {l rs:List Nat}{h:SH C}{H:bd}{lo:Nat}
def Env.part(E:Env)(l rs:List Nat)(P:Nat→List bc→Prop):Env where
 β:=fun i=>(l[i]?).bind E.β
 γ:=fun i=>(l[i]?).bind E.γ
 ω:=fun b=>(E.ω b).bind (ec rs)
 Fr:=fun b cs=>E.Fr b cs∨P b cs
structure yV(E:Env)(l rs:List Nat)(h:SH C):Prop where
 nl:iO l=true
 nr:iO rs=true
 len:rs.length=l.length
 obj:∀(i id:Nat),l[i]?=some id→∃o r,h[id]?=some (some o)∧rB id o=some r∧rs[i]?=some r
 rest:∀(j:Nat) (o:Obj C.T),h[j]?=some (some o)→ec l j=none→∃r,rB j o=some r∧ec rs r=none
def FY(E:Env)(l:List Nat)(h:SH C)(b:Nat):Prop:=∃(id:Nat) (o:Obj C.T),h[id]?=some (some o)∧ec l id=none∧E.β id=some b
theorem fO{P:Nat→List bc→Prop}{i id:Nat}(a:l[i]?=some id):(E.part l rs P).β i=E.β id∧(E.part l rs P).γ i=E.γ id:=by
 constructor
 ·show(l[i]?).bind E.β=_;rw[a];rfl
 ·show(l[i]?).bind E.γ=_;rw[a];rfl
theorem nT(m:bo C)(p:yV E l rs h){P:Nat→List bc→Prop}{xs g:List (SV C.T)}{as:List bc}(n:xf (ec l) xs=some g)(o:Ers E xs as):Ers (E.part l rs P) g as:=
 ve m (fun id j b e d=>by rw[(fO (fN e)).1];exact d) (fun id j a e d=>by rw[(fO (fN e)).2];exact d) (fun b cs k=>Or.inl k) n o
theorem wQ(O:bo C)(B:yV E l rs h){P:Nat→List bc→Prop}(W:∀b cs,P b cs→H[b]?=some (some (.cells cs))∧FY E l h b){X:SH C}(q:bu E lo 0 h H)(Q:sB h (ec l) (ec rs) l=some X):bu (E.part l rs P) lo 0 X H:=by
 obtain⟨hl,J⟩:=oK Q;have L:∀{i b:Nat},(E.part l rs P).β i=some b→∃id,l[i]?=some id∧E.β id=some b:=fun {i b} d=>by
  have d:(l[i]?).bind E.β=some b:=d;grind
 refine⟨fun i o' G=>?_,fun i i' o o' b h1 h2 R U=>?_,fun b cs m=>?_,fun i G=>?_,fun i b _ d=>?_,fun i b d=>?_,fun b r N=>?_,fun i b d=>?_,Nat.zero_le _,q.ll⟩
 ·obtain⟨id,o,g1,t,z⟩:=J i o' G;obtain⟨o2,r,q1,q2,K⟩:=B.obj i id g1;rw[t]at q1;cases q1;have M:ec rs r=some i:=BB B.nr K;have I:=q.obj id o t;cases o with
  |cells cs=>
   obtain⟨cs',e,rfl⟩:=Option.map_eq_some_iff.1 z;cases q2;obtain⟨b,as,A,u,w,v⟩:=I;exact⟨b,as,by rw[(fO g1).1];exact A,by show(E.ω b).bind (ec rs)=_;grind,w,nT O B e v⟩
  |rows n x full root=>
   obtain⟨r',e,rfl⟩:=Option.map_eq_some_iff.1 z;cases q2;rw[M]at e;rcases I with⟨A,u,a,w,v⟩|⟨b,off,cap,ex,as,A,u,w,v,k5,k6,k7,k8,k9⟩
   ·exact .inl ⟨A,by rw[(fO g1).1];exact u,a,by rw[(fO g1).2];exact w,v⟩
   ·exact .inr ⟨b,off,cap,ex,as,by rw[(fO g1).2];exact A,by rw[(fO g1).1];exact u,by show(E.ω b).bind (ec rs)=_;grind,v,k5,k6,k7,k8,fun i y j x a q1 q2 K=>dj O (E:=E) (E':=E.part l rs P) (fun _ _ h=>Or.inl h) (k9 i y j x a q1 q2 K) (List.all_eq_true.1 (O.ids n y) x (qo q2))⟩
  |mp es=>cases z
  |it s p=>cases z
 ·obtain⟨id,p,g1,t,_⟩:=J i o h1;obtain⟨k,D,z,Y,_⟩:=J i' o' h2;rw[(fO g1).1]at R;rw[(fO z).1]at U;have e:=q.inj id k p D b t Y R U;subst e;exact j2 B.nl g1 z
 ·rcases m with m|m
  ·refine⟨(q.fr b cs m).1,fun i o G d=>?_⟩
   obtain⟨id,p,g1,t,_⟩:=J i o G;rw[(fO g1).1]at d;exact(q.fr b cs m).2 id p t d
  ·obtain⟨A,k,D,u,w,v⟩:=W b cs m;refine⟨A,fun i o G d=>?_⟩
   obtain⟨id,p,g1,t,_⟩:=J i o G;rw[(fO g1).1]at d;have e:=q.inj id k p D b t u d v;subst e;exact jp w i g1
 ·constructor
  ·show(l[i]?).bind E.β=none;grind
  ·show(l[i]?).bind E.γ=none;grind
 ·obtain⟨id,_,g⟩:=L d;exact q.low id b (Nat.zero_le _) g
 ·obtain⟨id,_,g⟩:=L d;exact q.bnd id b g
 ·have N:(E.ω b).bind (ec rs)=some r:=N;cases e:E.ω b with
  |none=>grind
  |some r0=>
   rw[e]at N;refine⟨(q.own b r0 e).1,fun cs m=>?_⟩
   rcases m with m|m
   ·exact(q.own b r0 e).2 cs m
   ·obtain⟨_,k,D,u,w,v⟩:=W b cs m;obtain⟨r1,Z,m2⟩:=B.rest k D u w;have:=(uA (q.obj k D u) v Z).1;grind
 ·obtain⟨id,g1,t⟩:=L d;obtain⟨o,r,q1,q2,K⟩:=B.obj i id g1;exact⟨i,by show(E.ω b).bind (ec rs)=_;rw[(uA (q.obj id o q1) t q2).1];exact BB B.nr K⟩
def Env.whole(E E2:Env)(l:List Nat)(g:Nat→Nat)(n:Nat):Env where
 β:=fun i=>if i<n then E.β i else E2.β (l.length+(i-n))
 γ:=fun i=>if i<n then E.γ i else E2.γ (l.length+(i-n))
 ω:=fun b=>match E.ω b with
  |some r=>some r
  |none=>(E2.ω b).map g
 Fr:=E2.Fr
theorem BC{l:List Nat}{n j:Nat}(h:l.length≤j):nmN l n j=n+(j-l.length):=by
 unfold nmN;have:Nat.blt j l.length=false:=by rw[Bool.eq_false_iff,Ne,Nat.blt_eq];omega
 grind
theorem Jw{l:List Nat}{n j x:Nat}{ρ:Nat→Option Nat}(h:l[j]?=some x):rtN l n ρ j=x:=by
 have hl:=lt_of_some h;unfold rtN;have:Nat.blt j l.length=true:=by simp_all
 grind
theorem z8{l:List Nat}{n j x:Nat}(h:l[j]?=some x):nmN l n j=x:=by
 have hl:=lt_of_some h;unfold nmN;have:Nat.blt j l.length=true:=by simp_all
 grind
end
def ym(S:bh)(f:FuncId)(c:Ctr C):Prop:=∀(E:Env) (lo:Nat) (args:List (SV C.T)) (h:SH C) (H:bd) (K:SV C.T→SH C→Tree) (av:List bc),(c 0 args h K).holds→bu E lo 0 h H→Ers E args av→(∀b r,E.ω b=some r→r<h.length)→
 Out E lo 0 h H (fun v H'=>∃n,co S (cB S n) lo f av H=some (v,H')) K
variable {S:bh}{c:Ctr C}{f:FuncId}
theorem bi.r(h:bi S f c):ym S f c:=fun E lo args e H K av a b d _=>h E lo 0 args e H K av a b d
theorem po(X:bo C)(sel:List (SV C.T)→SH C→Option (List Nat))(ρ:SH C→Nat→Option Nat)(hc:ym S f c):bi S f (dD sel ρ c):=by
 intro E lo ag args h H K av L u hA;unfold dD at L;split at L
 ·exact qw L
 rename_i l hl;split at L
 ·exact qw L
 rename_i rs ah;cases d:(Nat.beq ag 0 && (iO l && (iO rs && qT h l rs h.length)))with
 |false=>rw[d]at L;exact qw L
 |true=>
 rw[d]at L;simp only[cond_true]at L;rw[qi,qi,qi,Nat.beq_eq]at d;obtain⟨rfl,b1,b2,b3⟩:=d;split at L
 rotate_left
 ·exact qw L
 rename_i O hs e1 e2;obtain⟨r1,r2⟩:=p7 ah;have Y:yV E l rs h:=⟨b1,b2,r1,r2,fun j o B hn=>tI b3 j o (lt_of_some B) B hn⟩
 obtain⟨ak,_⟩:=oK e2;have ad:∀P:Nat→List bc→Prop,∀b r,(E.part l rs P).ω b=some r→r<hs.length:=fun P b r m=>by
  have m:(E.ω b).bind (ec rs)=some r:=m;cases e:E.ω b with
  |none=>grind
  |some r0=>
   rw[e]at m;have:=lt_of_some (fN (show ec rs r0=some r from m))
   grind
 -- twice the same run
 obtain⟨v,H',sv,W,E2,⟨n1,c1⟩,q2,q3,Q,q5,q6,q7⟩:=hc (E.part l rs fun _ _=>False) lo O hs H _ av L (wQ X Y (fun b cs w=>w.elim) u e2) (nT X Y e1 hA) (ad _)
 obtain⟨v',al,_,ao,ap,⟨n2,c2⟩,p2,_,p4,_,_,_⟩:=hc (E.part l rs fun b cs=>H[b]?=some (some (.cells cs))∧FY E l h b) lo O hs H _ av L (wQ X Y (fun b cs w=>w) u e2) (nT X Y e1 hA) (ad _)
 have Z:(v',al)=(v,H'):=by
  have z:=dz (cT (S:=S) (Nat.le_max_left n1 n2)) _ _ _ _ _ c1;have A:=dz (cT (S:=S) (Nat.le_max_right n1 n2)) _ _ _ _ _ c2;grind
 cases Z;have M:∀(b:Nat) (as:List bc),FY E l h b→H[b]?=some (some (.cells as))→H'[b]?=some (some (.cells as)):=fun b as h1 W=>(p4.fr b as (p2.le.Fr b as (.inr ⟨W,h1⟩))).1
 simp only at q7;split at q7
 rotate_left
 ·exact qw q7
 rename_i aj h3 f1 f2;obtain⟨g1,g2⟩:=AT f2;have hg:∀{j x:Nat},rs[j]?=some x→rtN rs h.length (ρ W) j=x:=fun hx=>Jw hx
 generalize rtN rs h.length (ρ W)=g at*;rw[List.length_range]at g1;rw[ak]at q2 q3
 -- names
 have af:∀{i id:Nat},l[i]?=some id→id<h.length:=fun hi=>by grind
 have nβ:∀j,(E.whole E2 l g h.length).β (nmN l h.length j)=E2.β j∧(E.whole E2 l g h.length).γ (nmN l h.length j)=E2.γ j:=by
  intro j;rcases qk j l.length with k|k
  ·have hj:l[j]?=some l[j]:=qq k;have q:=af hj;have B:=q2.old j k;rw[z8 hj];constructor
   ·show(if l[j]<h.length then E.β l[j]else _)=_
    rw[if_pos q,B.1,(fO hj).1]
   ·show(if l[j]<h.length then E.γ l[j]else _)=_
    rw[if_pos q,B.2,(fO hj).2]
  ·rw[BC k];constructor
   ·show(if h.length+(j-l.length)<h.length then _ else E2.β (l.length+(h.length+(j-l.length)-h.length)))=_
    grind
   ·show(if h.length+(j-l.length)<h.length then _ else E2.γ (l.length+(h.length+(j-l.length)-h.length)))=_
    grind
 have nω:∀b r,E2.ω b=some r→(E.whole E2 l g h.length).ω b=some (g r):=by
  intro b r m;show(match E.ω b with|some r=>some r|none=>(E2.ω b).map g)=_
  cases e:E.ω b with
  |none=>rw[m];rfl
  |some r0=>
   rcases q2.own b r m with k|k
   ·have k:(E.ω b).bind (ec rs)=some r:=k;rw[e]at k;rw[hg (fN k)]
   ·have:=(u.own b r0 e).1;omega
 have oβ:∀{i:Nat},i<h.length→(E.whole E2 l g h.length).β i=E.β i∧(E.whole E2 l g h.length).γ i=E.γ i:=fun hi=>⟨if_pos hi,if_pos hi⟩
 have oω:∀{b r:Nat},E.ω b=some r→(E.whole E2 l g h.length).ω b=some r:=fun {b r} m=>by
  show(match E.ω b with|some r=>some r|none=>(E2.ω b).map g)=_
  rw[m]
 have aa:E.le (E.whole E2 l g h.length):=by
  refine⟨fun id b d=>?_,fun id a ha=>?_,fun b r m=>oω m,fun b cs w=>q2.le.Fr b cs (.inl w)⟩
  ·rcases qk id h.length with k|k
   ·grind
   ·rw[(u.fresh id k).1]at d;cases d
  ·rcases qk id h.length with k|k
   ·grind
   ·rw[(u.fresh id k).2]at ha;cases ha
 have ab:∀b cs,E2.Fr b cs→E2.Fr b cs:=fun _ _ x=>x
 have ac:∀b cs,E2.Fr b cs→E.Fr b cs∨H.length≤b:=fun b cs w=>(q2.fr b cs w).imp_left fun x=>x.resolve_right fun y=>y
 have val:∀{x y:SV C.T} {a:bc},pmV (fun x=>some (nmN l h.length x)) x=some y→Er E2 x a→Er (E.whole E2 l g h.length) y a:=fun hr hx=>
  FW X (E':=E.whole E2 l g h.length) (fun id j b e d=>by grind) (fun id j a e ha=>by grind) ab hr hx
 have ae:∀{xs ys:List (SV C.T)} {as:List bc},xf (fun x=>some (nmN l h.length x)) xs=some ys→Ers E2 xs as→Ers (E.whole E2 l g h.length) ys as:=fun hr hx=>
  ve X (E':=E.whole E2 l g h.length) (fun id j b e d=>by grind) (fun id j a e ha=>by grind) ab hr hx
 -- what stands in the whole
 have G:∀(j:Nat) (o:Obj C.T),h3[j]?=some (some o)→(j<h.length∧ec l j=none∧h[j]?=some (some o))∨∃i o',j=nmN l h.length i∧W[i]?=some (some o')∧GT l g h.length i j o'=some o:=by
  intro j o B;have J:=g2 j j (some o) (by grind) B
  unfold FO at J;split at J
  ·rename_i e;cases q:Nat.blt j h.length with
   |false=>grind
   |true=>
    rw[q]at e;rw[Nat.blt_eq]at q;exact .inl ⟨q,e,bm (Option.some.inj J)⟩
  ·rename_i i e;split at J
   ·cases J
   ·rename_i o' eo;obtain⟨o1,U,D⟩:=Option.map_eq_some_iff.1 J;cases D;refine .inr ⟨i,o', ?_,bm eo,U⟩;cases q:Nat.blt j h.length with
    |true=>
     rw[q]at e;exact(z8 (fN e)).symm
    |false=>
     rw[q]at e;have an:¬j<h.length:=fun x=>by rw[← Nat.blt_eq,q]at x;cases x
     cases e;rw[BC (by omega)]
     omega
 -- a block of the rest is none of the part's
 have apart:∀(id i b:Nat) (o:Obj C.T),h[id]?=some (some o)→ec l id=none→E.β id=some b→E2.β i=some b→False:=by
  intro id i b o B hn d hi;obtain⟨r,hr⟩:=Q.βω i b hi;rcases q2.own b r hr with k|k
  ·have k:(E.ω b).bind (ec rs)=some r:=k;obtain⟨r1,z,A⟩:=Y.rest id o B hn;rw[(uA (u.obj id o B) d z).1]at k;grind
  ·have:=u.bnd id b d;omega
 refine⟨v,H',aj,h3,E.whole E2 l g h.length,⟨n1,c1⟩,⟨aa,fun id am=>oβ am,ac,fun b r m=>?_⟩,by omega,⟨fun j o B=>?_,fun j j' o o' b h1 W h3 h4=>?_,fun b cs w=>⟨(Q.fr b cs w).1,fun j o B d=>?_⟩,fun j hj=>?_,fun j b _ d=>?_,fun j b d=>?_,fun b r m=>?_,fun j b d=>?_,Nat.zero_le _,Q.ll⟩,q5,val f1 q6,q7⟩
 ·have m:(match E.ω b with|some r=>some r|none=>(E2.ω b).map g)=some r:=m
  cases e:E.ω b with
  |some r0=>grind
  |none=>
   rw[e]at m;obtain⟨r',U,_⟩:=Option.map_eq_some_iff.1 m;rcases q2.own b r' U with k|k
   ·have k:(E.ω b).bind (ec rs)=some r':=k;grind
   grind
 ·rcases G j o B with⟨U,D,t⟩|⟨i,o',rfl,D,t⟩
  ·have N:=u.obj j o t;cases o with
   |cells cs=>
    obtain⟨b,as,z,A,I,R⟩:=N;exact⟨b,as,by grind,oω A,M b as ⟨j,_,t,D,z⟩ I,R.mono aa⟩
   |rows n x full root=>
    rcases N with⟨z,A,a,I,R⟩|⟨b,off,cap,ex,as,z,A,I,R,m5,m6,m7,m8,m9⟩
    ·exact .inl ⟨z,by grind,a,by grind,R⟩
    ·exact .inr ⟨b,off,cap,ex,as,by grind,by grind,oω I,M b as ⟨j,_,t,D,A⟩ R,m5,m6,m7,m8,fun i y jj x a z1 z2 z3=>(m9 i y jj x a z1 z2 z3).mono aa⟩
   |mp es=>obtain⟨r,e,_⟩:=Y.rest j _ t D;cases e
   |it s p=>obtain⟨r,e,_⟩:=Y.rest j _ t D;cases e
  ·have N:=Q.obj i o' D;cases o' with
   |cells cs=>
    simp only[GT]at t;cases hbn:Nat.beq (g i) (nmN l h.length i)with
    |false=>grind
    |true=>
     rw[hbn]at t;rw[Nat.beq_eq]at hbn;obtain⟨cs',e,rfl⟩:=Option.map_eq_some_iff.1 t;obtain⟨b,as,z,A,I,R⟩:=N;exact⟨b,as,by grind,by grind,I,ae e R⟩
   |rows n x full root=>
    cases t;rcases N with⟨z,A,a,I,R⟩|⟨b,off,cap,ex,as,z,A,I,R,m5,m6,m7,m8,m9⟩
    ·exact .inl ⟨z,by grind,a,by grind,R⟩
    ·exact .inr ⟨b,off,cap,ex,as,by grind,by grind,nω b root I,R,m5,m6,m7,m8,fun i y jj x a z1 z2 z3=>dj X (E:=E2) (E':=E.whole E2 l g h.length) ab (m9 i y jj x a z1 z2 z3) (List.all_eq_true.1 (X.ids n y) x (qo z2))⟩
   |mp es=>cases t
   |it s p=>cases t
 ·rcases G j o h1 with⟨U,D,t⟩|⟨i,p,rfl,D,t⟩
  ·rw[(oβ U).1]at h3;rcases G j' o' W with⟨z,A,I⟩|⟨i',p',rfl,A,I⟩
   ·rw[(oβ z).1]at h4;exact u.inj j j' o o' b t I h3 h4
   grind
  ·rw[(nβ i).1]at h3;rcases G j' o' W with⟨z,A,I⟩|⟨i',p',rfl,A,I⟩
   ·grind
   ·rw[(nβ i').1]at h4;rw[Q.inj i i' p p' b D A h3 h4]
 ·rcases G j o B with⟨U,D,t⟩|⟨i,p,rfl,D,t⟩
  ·rw[(oβ U).1]at d;exact(ac b cs w).elim (fun x=>(u.fr b cs x).2 j o t d) fun x=>by have:=u.bnd j b d;omega
  ·rw[(nβ i).1]at d;exact(Q.fr b cs w).2 i p D d
 ·have:=Q.fresh (l.length+(j-h.length)) (by omega)
  constructor
  ·show(if j<h.length then _ else E2.β (l.length+(j-h.length)))=none
   grind
  ·show(if j<h.length then _ else E2.γ (l.length+(j-h.length)))=none
   grind
 ·rcases qk j h.length with k|k
  ·rw[(oβ k).1]at d;exact u.low j b (Nat.zero_le _) d
  ·have d:(if j<h.length then _ else E2.β (l.length+(j-h.length)))=some b:=d
   rw[if_neg (by omega)]at d
   exact Q.low _ b (Nat.zero_le _) d
 ·rcases qk j h.length with k|k
  ·rw[(oβ k).1]at d;have:=u.bnd j b d;omega
  ·have d:(if j<h.length then _ else E2.β (l.length+(j-h.length)))=some b:=d
   rw[if_neg (by omega)]at d
   exact Q.bnd _ b d
 ·have m:(match E.ω b with|some r=>some r|none=>(E2.ω b).map g)=some r:=m
  cases e:E.ω b with
  |some r0=>
   have:=u.own b r0 e;exact⟨by omega,fun cs w=>(ac b cs w).elim (this.2 cs) fun x=>by omega⟩
  |none=>
   rw[e]at m;obtain⟨r',U,_⟩:=Option.map_eq_some_iff.1 m;have:=Q.own b r' U;exact⟨this.1,fun cs w=>this.2 cs w⟩
 ·rcases qk j h.length with k|k
  ·rw[(oβ k).1]at d;obtain⟨r,hr⟩:=u.βω j b d;grind
  ·have d:(if j<h.length then _ else E2.β (l.length+(j-h.length)))=some b:=d
   rw[if_neg (by omega)]at d
   obtain⟨r,hr⟩:=Q.βω _ b d;grind
theorem cR(a:bo C)(sel:List (SV C.T)→SH C→Option (List Nat))(ρ:SH C→Nat→Option Nat)(hc:bi S f c):bi S f (dD sel ρ c):=po a sel ρ hc.r
end Go.Sy
namespace Go.Sy
open Go.Am
variable {C:bK}
section
variable {T:Nat→Type}(lv:Nat→Bool)(id n:Nat)(l:List (T n))
def szV:SV T→Option (SV T)
 | .R k=>bif Nat.beq k id then some (.tl n l)else some (.R k)
 | .ptr k off=>bif lv k && !Nat.beq k id then some (.ptr k off)else none
 | .sl sz k off len cap ex=>bif lv k && !Nat.beq k id then some (.sl sz k off len cap ex)else none
 | .any=>some .any
 | .agg cs=>bif cs.all lB then some (.agg cs)else none
 | .tup cs=>bif cs.all lB then some (.tup cs)else none
 | .a v=>some (.a v)
 | .i k m=>some (.i k m)
 | .b x=>some (.b x)
 | .s x=>some (.s x)
 | .tl m c=>some (.tl m c)
 |_=>none
def FM:List (SV T)→Option (List (SV T))
 | []=>some []
 |x::xs=>match szV lv id n l x,FM xs with
  |some y,some a=>some (y::a)
  |_,_=>none
def szO:Obj T→Option (Obj T)
 | .cells cs=>(FM lv id n l cs).map .cells
 | .rows m x full root=>some (.rows m x full root)
 |_=>none
end
def szH(lv:Nat→Bool)(id n:Nat)(l:List (C.T n)):Nat→SH C→Option (SH C)
 |_,[]=>some []
 |i,o::t=>match szH lv id n l (i+1) t with
  |none=>none
  |some a=>bif Nat.beq i id then some (none::a)else match o with
   |none=>some (none::a)
   |some o=>(szO lv id n l o).map fun o'=>some o'::a
theorem Hz(B:bo C){E E':Env}{lv:Nat→Bool}{id n:Nat}{l:List (C.T n)}(u:∀k b,lv k=true→k≠id→E.β k=some b→E'.β k=some b)(z:∀k a,E.γ k=some a→E'.γ k=some a)(D:∀b cs,E.Fr b cs→E'.Fr b cs)
 (hl:∀a,E.γ id=some a→Er E' (.tl n l) a) {x y:SV C.T} {a:bc} (g:szV lv id n l x=some y) (h:Er E x a):Er E' y a:=by
 have keep:∀{x:SV C.T} {a:bc},Er E x a→lB x=true→Er E' x a:=fun h A=>dj B (E:=E) (E':=E') D h A
 have ne:∀{k:Nat},(lv k && !Nat.beq k id)=true→lv k=true∧k≠id:=fun {k} w=>by
  rw[qi]at w;refine⟨w.1,fun e=>?_⟩
  simp_all
 cases x with
 |R k=>
  simp only[szV]at g;cases hb:Nat.beq k id with
  |true=>
   rw[hb]at g;cases g;have e:=Nat.eq_of_beq_eq_true hb;subst e;cases h with|R j q=>exact hl a j
  |false=>
   rw[hb]at g;cases g;cases h with|R j q=>exact .R (z _ _ j) q
 |ptr k off=>
  simp only[szV]at g;cases hb:(lv k && !Nat.beq k id)with
  |false=>grind
  |true=>
   rw[hb]at g;cases g;obtain⟨e1,e2⟩:=ne hb;cases h with|ptr j=>exact .ptr (u _ _ e1 e2 j)
 |sl sz k off len cap ex=>
  simp only[szV]at g;cases hb:(lv k && !Nat.beq k id)with
  |false=>grind
  |true=>
   rw[hb]at g;cases g;obtain⟨e1,e2⟩:=ne hb;cases h with|sl j=>exact .sl (u _ _ e1 e2 j)
 |any=>cases g;exact .any
 |a v=>cases g;exact keep h rfl
 |i k m=>cases g;exact keep h rfl
 |b t=>cases g;exact keep h rfl
 |s t=>cases g;exact keep h rfl
 |tl m t=>cases g;exact keep h rfl
 |agg cs=>
  simp only[szV]at g;cases hall:cs.all lB with
  |false=>grind
  |true=>
   rw[hall]at g;cases g;cases h with
   |agg hl p=>exact .agg hl fun i x a h1 o=>keep (p i x a h1 o) (List.all_eq_true.1 hall x (qo h1))
 |tup cs=>
  simp only[szV]at g;cases hall:cs.all lB with
  |false=>grind
  |true=>
   rw[hall]at g;cases g;cases h with
   |tup hl p=>exact .tup hl fun i x a h1 o=>keep (p i x a h1 o) (List.all_eq_true.1 hall x (qo h1))
 |ep k i off=>cases g
 |mapr k=>cases g
 |iface t v=>cases g
 |fn f c d=>cases g
 |fp c=>cases g
theorem Ak(e:bo C){E E':Env}{lv:Nat→Bool}{id n:Nat}{l:List (C.T n)}(f:∀k b,lv k=true→k≠id→E.β k=some b→E'.β k=some b)(g:∀k a,E.γ k=some a→E'.γ k=some a)(j:∀b cs,E.Fr b cs→E'.Fr b cs)
 (hl:∀a,E.γ id=some a→Er E' (.tl n l) a):∀{xs d:List (SV C.T)} {as:List bc},FM lv id n l xs=some d→Ers E xs as→Ers E' d as
 | [],d,as,c,h=>by
  cases c;rw[h.inv_nil];exact .nil
 |x::xs,d,as,c,h=>by
  obtain⟨a,t,rfl,h1,m⟩:=h.inv_cons;unfold FM at c;split at c
  ·rename_i y o e1 e2;cases c;exact .cons (Hz e f g j hl e1 h1) (Ak e f g j hl e2 m)
  ·cases c
theorem DB{lv:Nat→Bool}{id n:Nat}{l:List (C.T n)}:∀{h:SH C} {i:Nat} {a:SH C},szH lv id n l i h=some a→a.length=h.length∧∀(j:Nat) (o':Obj C.T),a[j]?=some (some o')→i+j≠id∧∃o,h[j]?=some (some o)∧szO lv id n l o=some o'
 | [],i,a,b=>by
  cases b;grind
 |o::t,i,a,b=>by
  unfold szH at b;split at b
  ·cases b
  ·rename_i d e;obtain⟨g,l2⟩:=DB e;have next:∀{z:Option (Obj C.T)},a=z::d→(∀o',z=some o'→i≠id∧∃c,o=some c∧szO lv id n l c=some o')→a.length=(o::t).length∧∀(j:Nat) (o':Obj C.T),a[j]?=some (some o')→i+j≠id∧∃c,(o::t)[j]?=some (some c)∧szO lv id n l c=some o':=by
    grind
   cases hb:Nat.beq i id with
   |true=>grind
   |false=>
    rw[hb]at b;split at b
    ·grind
    ·rename_i f;obtain⟨o',e1,rfl⟩:=Option.map_eq_some_iff.1 b;refine next rfl fun c e2=>?_
     cases e2;refine⟨fun e3=>?_,f,rfl,e1⟩
     simp_all
def Bp(sel:SH C→Option Nat)(c:Ctr C):Ctr C:=fun d args h K=>c d args h fun sv b=>match sel b with
 |none=>K sv b
 |some id=>match bF b id with
  |some (.rows n l full root)=>bif Nat.ble h.length id && Nat.ble h.length root then
   match szH (fun k=>(bF b k).isSome) id n l 0 b,szV (fun k=>(bF b k).isSome) id n l sv with
   |some e,some f=>.need (l≠[]) (K f e)
   |_,_=>.stuck "seal: a name"
   else .stuck "seal: old"
  |_=>.stuck "seal: no list"
theorem zm(U:bo C){S:bh}{f:FuncId}(sel:SH C→Option Nat){c:Ctr C}(hc:bi S f c):ym S f (Bp sel c):=by
 intro E lo args h H K av hh hS hA hR;obtain⟨v,H',sv,h2,E2,c1,q2,q3,t,q5,q6,w⟩:=hc E lo 0 args h H _ av hh hS hA;simp only at w;split at w
 ·exact⟨v,H',sv,h2,E2,c1,q2,q3,t,q5,q6,w⟩
 rename_i id _;split at w
 rotate_left
 ·exact qw w
 rename_i n l full root ho;cases q:(Nat.ble h.length id && Nat.ble h.length root)with
 |false=>rw[q]at w;exact qw w
 |true=>
 rw[q]at w;simp at q;split at w
 rotate_left
 ·exact qw w
 rename_i h3 ae hz hv;obtain⟨an,w⟩:=w;have W:=bm ho;obtain⟨z1,M⟩:=DB hz;rcases t.obj id _ W with⟨e,_⟩|⟨b,off,cap,ex,as,g1,g2,gw,g3,g4,g5,g6,g7,g8⟩
 ·grind
 have am:H.length≤b:=by
  rcases q2.own b root gw with k|k
  all_goals grind
 let E3:Env:=⟨fun i=>if E2.β i=some b then none else E2.β i,E2.γ,fun d=>if d=b then none else E2.ω d,fun d cs=>E2.Fr d cs∨(d=b∧cs=as)⟩
 have D:∀{i d:Nat},E2.β i=some d→d≠b→E3.β i=some d:=fun {i d} hi I=>by
  grind
 have g:∀{i d:Nat},E3.β i=some d→E2.β i=some d∧d≠b:=fun {i d} hi=>by
  grind
 have L:∀{d r:Nat},E2.ω d=some r→d≠b→E3.ω d=some r:=fun {d r} B I=>by
  grind
 have z:∀{d r:Nat},E3.ω d=some r→E2.ω d=some r∧d≠b:=fun {d r} B=>by
  grind
 have A:∀{j:Nat} {o:Obj C.T} {d:Nat},h2[j]?=some (some o)→j≠id→E2.β j=some d→d≠b:=fun {j o d} R I q e=>by
  subst e;exact I (t.inj j id o _ d R W q g2)
 have G:∀d cs,E2.Fr d cs→E3.Fr d cs:=fun d cs x=>.inl x
 have X:∀a,E2.γ id=some a→Er (C:=C) E3 (.tl n l) a:=fun a J=>by
  rw[g1]at J;cases J;refine .tlS rfl rfl (.inr ⟨rfl,rfl⟩) ?_ g4 fun i y j x a q1 q2 q3=>dj U (E:=E2) (E':=E3) G (g8 i y j x a q1 q2 q3) (List.all_eq_true.1 (U.ids n y) x (qo q2))
  have:=Nat.mul_le_mul_right (C.sz n) g4;omega
 have Y:∀k d,(bF h2 k).isSome=true→k≠id→E2.β k=some d→E3.β k=some d:=fun k d hl hk q=>by
  obtain⟨o,af⟩:=Option.isSome_iff_exists.1 hl;exact D q (A (bm af) hk q)
 have ad:∀{xs ys:List (SV C.T)} {l':List bc},FM (fun k=>(bF h2 k).isSome) id n l xs=some ys→Ers E2 xs l'→Ers E3 ys l':=fun hr hx=>
  Ak U (E:=E2) (E':=E3) Y (fun k a J=>J) G X hr hx
 refine⟨v,H',ae,h3,E3,c1,⟨⟨fun i d q=>?_,fun i a J=>q2.le.γ i a J,fun d r B=>?_,fun d cs u=>.inl (q2.le.Fr d cs u)⟩,fun i hi=>⟨?_,(q2.old i hi).2⟩,fun d cs u=>?_,fun d r B=>q2.own d r (z B).1⟩,by omega, ?_,q5,Hz U (E:=E2) (E':=E3) Y (fun k a J=>J) G X hv q6,w⟩
 ·have:=hS.bnd i d q;exact D (q2.le.β i d q) (by omega)
 ·have:=(hS.own d r B).1;exact L (q2.le.ω d r B) (by omega)
 ·show(if E2.β i=some b then none else E2.β i)=_
  rw[(q2.old i hi).1]
  by_cases e:E.β i=some b
  ·have:=hS.bnd i b e;omega
  grind
 ·rcases u with u|⟨rfl,_⟩
  ·exact q2.fr d cs u
  grind
 refine⟨fun j o' R=>?_,fun j j' o o' d h1 ah aj h4=>?_,fun d cs u=>?_,fun j R=>?_,fun j d B q=>t.low j d B (g q).1,fun j d q=>t.bnd j d (g q).1,fun d r B=>?_,fun j d q=>?_,Nat.zero_le _,t.ll⟩
 ·obtain⟨Z,o,N,k3⟩:=M j o' R;have Z:j≠id:=by omega
  have aa:=t.obj j o N;cases o with
  |cells cs=>
   obtain⟨cs',e,rfl⟩:=Option.map_eq_some_iff.1 k3;obtain⟨d,O,P,Q,m3,m4⟩:=aa;have I:=A N Z P;exact⟨d,O,D P I,L Q I,m3,ad e m4⟩
  |rows m x ak al=>
   cases k3;rcases aa with⟨P,Q,a,m3,m4⟩|⟨d,ab,ac,ag,O,P,Q,m3,m4,m5,m6,m7,m8,m9⟩
   ·refine .inl ⟨P, ?_,a,m3,m4⟩;grind
   ·have I:=A N Z Q;exact .inr ⟨d,ab,ac,ag,O,P,D Q I,L m3 I,m4,m5,m6,m7,m8,fun i y jj x a z1 M z3=>dj U (E:=E2) (E':=E3) G (m9 i y jj x a z1 M z3) (List.all_eq_true.1 (U.ids m y) x (qo M))⟩
  |mp es=>cases k3
  |it s p=>cases k3
 ·obtain⟨Z,p,N,_⟩:=M j o h1;obtain⟨P,p',Q,_⟩:=M j' o' ah;exact t.inj j j' p p' d N Q (g aj).1 (g h4).1
 ·rcases u with u|⟨rfl,rfl⟩
  ·refine⟨(t.fr d cs u).1,fun j o R q=>?_⟩
   obtain⟨Z,p,N,_⟩:=M j o R;exact(t.fr d cs u).2 j p N (g q).1
  grind
 ·have:=t.fresh j (by omega)
  grind
 ·obtain⟨w1,w2⟩:=z B;refine⟨(t.own d r w1).1,fun cs u=>?_⟩
  rcases u with u|⟨e,_⟩
  ·exact(t.own d r w1).2 cs u
  ·exact w2 e
 ·obtain⟨w1,w2⟩:=g q;obtain⟨r,hr⟩:=t.βω j d w1;grind
end Go.Sy

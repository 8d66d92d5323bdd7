import Derived.LaidLaws
import Derived.LaidHandle
import Derived.Lib.SplitLaws
import Derived.Lib.AtoiErrMem
import Derived.Lib.ParseIntB
import Derived.Test.YtcholkmididfmaaGreatDoorLib2
set_option linter.unusedVariables false
set_option linter.unusedSimpArgs false
namespace Go.Am
open Go.RowKit
structure Ent where
 lo:Nat
 c:Cx
 H:bd
def x6(S:bh)(E:Ent)(ρ:List bc)(H:bd)(tmps:List Value)(w:World):Prop:=
 ∃c,c.w=w∧Rel c H∧cV S c∧Tr E.c E.H c H∧Low E.lo E.c E.H c H∧Vs c ρ tmps
abbrev sO:=bT→List bc→bd→Prop
def zX(S:bh)(E:Ent)(Q:sO)(e:Exit)(a:Act)(w:World):Prop:=
 a.defers=[]∧∃x ρ H,e=x.toExit∧Q x ρ H∧x6 S E ρ H a.tmps.toList w
def Wp(S:bh)(E:Ent)(c:Code)(ρ:List bc)(H:bd)(Q:sO):Prop:=
 ∀a w,x6 S E ρ H a.tmps.toList w→a.defers=[]→c.wp S.P (zX S E Q) a w
def gP(S:bh)(E:Ent)(ρ:List bc)(H:bd)(ρ1:List bc)(H1:bd):Prop:=
 ∀tmps w,x6 S E ρ H tmps w→x6 S E ρ1 H1 tmps w
variable {E:Ent}{H:bd}{S:bh}{ρ:List bc}
theorem gP.refl:gP S E ρ H ρ H:=fun _ _ h=>h
variable {H1:bd}{ρ1:List bc}
theorem gP.trans{a:List bc}{b:bd}(h:gP S E ρ H ρ1 H1)(k:gP S E ρ1 H1 a b):gP S E ρ H a b:=fun _ _ x=>k _ _ (h _ _ x)
variable {Q:sO}{c:Code}
theorem Wp.weak(h:gP S E ρ H ρ1 H1)(k:Wp S E c ρ1 H1 Q):Wp S E c ρ H Q:=fun a w x y=>k a w (h _ _ x) y
theorem Wp.mono{d:sO}(h:Wp S E c ρ H Q)(o:∀x b H',Q x b H'→∃ρ1 H1,gP S E b H' ρ1 H1∧d x ρ1 H1):Wp S E c ρ H d:=by
 intro a w f g;refine wp_mono (h a w f g) ?_;rintro e s w' ⟨h1,x,b,H',j,k,l⟩;obtain⟨ρ1,H1,m,n⟩:=o x b H' k;exact⟨h1,x,ρ1,H1,j,n,m _ _ l⟩
theorem Wp.run(y:dH S){d:List bc}{H':bd}{x:bT}(h:cG S E.lo c ρ H (x,d,H'))(z:Q x d H'):Wp S E c ρ H Q:=by
 obtain⟨n,h⟩:=h;rintro a w ⟨k,rfl,l,f,g,m,o⟩ s;refine wp_mono (qP y n _ _ _ _ _ _ _ h k a l f o s).1 ?_;rintro e A w' ⟨t,b,c',rfl,h1,j,u,v⟩;exact⟨b,x,d,H',t,z,c',rfl,h1,f.ext j.ext,g.trans j,m.trans g.ext u,v⟩
variable {p q:Code}
theorem Wp.seq(h:Wp S E p ρ H fun x d H'=>(x= .normal∧Wp S E q d H' Q)∨(x≠ .normal∧Q x d H')):Wp S E (.seq p q) ρ H Q:=by
 intro a w g j;refine wp_seq (wp_mono (h a w g j) ?_);rintro e k w' ⟨h1,x,d,H',rfl,b,f⟩;rcases b with⟨rfl,b⟩|⟨l,b⟩
 ·exact b k w' f h1
 ·cases x with
  |normal=>grind
  |exit i=>exact⟨h1,.exit i,d,H',rfl,b,f⟩
  |ret=>exact⟨h1,.ret,d,H',rfl,b,f⟩
theorem Wp.cond{x:Operand}{t:Bool}(g:bj S ρ x= .bool t)(h:Wp S E (if t then p else q) ρ H Q):Wp S E (.cond x p q) ρ H Q:=by
 rintro a w b d;obtain⟨j,rfl,k,e,l,m,f⟩:=id b;have hc:=ut (a:=a) e f x;rw[g]at hc;cases t with
 |true=>exact wp_cond_true hc (h a _ b d)
 |false=>exact wp_cond_false hc (h a _ b d)
theorem Wp.block{id:Nat}(h:Wp S E p ρ H fun x d H'=>Q (match x with| .exit i=>if i=id then .normal else .exit i|x=>x) d H'):Wp S E (.block id p) ρ H Q:=by
 intro a w j k;refine wp_block (wp_mono (h a w j k) ?_);rintro e l w' ⟨h1,x,d,H',rfl,b,g⟩;cases x with
 |normal=>exact⟨h1,.normal,d,H',rfl,b,g⟩
 |ret=>exact⟨h1,.ret,d,H',rfl,b,g⟩
 |exit i=>
  simp only at b
  by_cases f:i=id
  ·rw[if_pos f]at b;simp only[bT.toExit,Exit.inBlock];rw[if_pos f];exact⟨h1,.normal,d,H',rfl,b,g⟩
  ·rw[if_neg f]at b;simp only[bT.toExit,Exit.inBlock];rw[if_neg f];exact⟨h1,.exit i,d,H',rfl,b,g⟩
theorem Wp.loop{σ:Type}(I:σ→Prop)(ρs:σ→List bc)(Hs:σ→bd)(m:σ→Nat)
 (h:∀s,I s→Wp S E p (ρs s) (Hs s) fun x d H'=>(x= .normal∧∃b,I b∧m b<m s∧gP S E d H' (ρs b) (Hs b))∨(x≠ .normal∧Q x d H')) {s:σ} (k:I s):Wp S E (.loop p) (ρs s) (Hs s) Q:=by
 intro a w g j;have key:∀n s,I s→m s<n→∀a w,x6 S E (ρs s) (Hs s) a.tmps.toList w→a.defers=[]→Code.rounds S.P p (zX S E Q) n a w:=by
  intro n;induction n with
  |zero=>grind
  |succ n y=>
   intro s k z a w g j;refine wp_mono (h s k a w g j) ?_;rintro e t w' ⟨h1,x,d,H',rfl,f,l⟩;rcases f with⟨rfl,b,o,u,v⟩|⟨A,f⟩
   ·exact y b o (by omega) t w' (v _ _ l) h1
   ·cases x with
    |normal=>grind
    |exit i=>exact⟨h1,.exit i,d,H',rfl,f,l⟩
    |ret=>exact⟨h1,.ret,d,H',rfl,f,l⟩
 exact wp_loop_rounds (m s+1) (key _ s k (by omega) a w g j)
def WpL(S:bh)(E:Ent):List Code→List bc→bd→sO→Prop
 | [],ρ,H,Q=>∃ρ1 H1,gP S E ρ H ρ1 H1∧Q .normal ρ1 H1
 |c::l,ρ,H,Q=>Wp S E c ρ H fun x a H'=>(x= .normal∧WpL S E l a H' Q)∨(x≠ .normal∧Q x a H')
theorem WpL.flat:∀{c:Code} {k:List Code} {ρ:List bc} {H:bd} {Q:sO},WpL S E (Am.flat c k) ρ H Q→WpL S E (c::k) ρ H Q:=by
 intro c;induction c with
 |seq p q b d=>
  intro k ρ H Q h;have h1:=b h;refine Wp.seq (Wp.mono h1 ?_);rintro x e H' (⟨rfl,a⟩|⟨a,f⟩)
  ·exact⟨e,H',gP.refl,.inl ⟨rfl,d a⟩⟩
  ·exact⟨e,H',gP.refl,.inr ⟨a,.inr ⟨a,f⟩⟩⟩
 |_=>intro k ρ H Q h;exact h
theorem Wp.of_flat(h:WpL S E (Am.flat c []) ρ H Q):Wp S E c ρ H Q:=by
 refine Wp.mono (WpL.flat h) ?_;rintro x a H' (⟨rfl,ρ1,H1,h1,d⟩|⟨_,b⟩)
 ·grind
 ·exact⟨a,H',gP.refl,b⟩
theorem WpL.weak{l:List Code}(h:gP S E ρ H ρ1 H1)(k:WpL S E l ρ1 H1 Q):WpL S E l ρ H Q:=by
 cases l with
 |nil=>
  obtain⟨a,b,h1,d⟩:=k;exact⟨a,b,h.trans h1,d⟩
 |cons c l=>exact Wp.weak h k
theorem WpL.heads{S:bh}(d:dH S){E:Ent}{N:Nat}:∀{k:Nat} {l:List Code} {ρ:List bc} {H:bd} {a:List Code} {b:List bc} {H':bd} {Q:sO},
 kj S E.lo N k l ρ H=some (a,b,H')→WpL S E a b H' Q→WpL S E l ρ H Q
 |0,l,ρ,H,a,b,H',Q,h,k=>by
  simp only[kj,Prod.mk.injEq]at h;grind
 |j+1,[],ρ,H,a,b,H',Q,h,k=>by cases h
 |j+1,c::l,ρ,H,a,b,H',Q,h,k=>by
  simp only[kj]at h;split at h
  ·rename_i h1;exact Wp.run d ⟨N,h1⟩ (.inl ⟨rfl,WpL.heads d h k⟩)
  ·cases h
theorem p3{f:FuncId}{fn:Func}{body:Code}(n:S.P.funcs[f]?=some fn)(o:fn.body=some body){lo:Nat}{c:Cx}(v:Rel c H)(y:cV S c){av:List bc}{vs:List Value}(s:Vs c av vs){r:bc}
 (h:Wp S ⟨lo,c,H⟩ body (av++List.replicate (fn.ntmps-av.length) bz) H fun x ρ H'=>(∀i,x≠ .exit i)∧H'=H1∧∃rs,dv S ρ H1 fn.results.toList=some rs∧hB rs=r):
 (∃fn,S.P.funcs[f]?=some fn∧fn.body.isSome=true)∧Calls S.P f vs.toArray c.w (fk lo c H r H1):=by
 refine⟨⟨fn,n,by simp[o]⟩, ?_⟩
 refine calls_of_wp n o ?_;have b:=bH s;have a:Vs c (av++List.replicate (fn.ntmps-av.length) bz) (vs.toArray++Array.replicate (fn.ntmps-vs.toArray.size) undef).toList:=by
  have:(vs.toArray++Array.replicate (fn.ntmps-vs.toArray.size) undef).toList=vs++List.replicate (fn.ntmps-av.length) undef:=by
   simp[b]
  rw[this];exact cm s (jE (iG c) _)
 refine wp_mono (h { tmps:=vs.toArray++Array.replicate (fn.ntmps-vs.toArray.size) undef,defers:=[] } c.w ⟨c,rfl,v,y,Tr.refl _ _,Low.refl _ _ _,a⟩ rfl) ?_;rintro e z w' ⟨g,x,A,H',rfl,⟨B,rfl,rs,d,rfl⟩,c',rfl,h1,_,j,k,t⟩;obtain⟨u,l,m⟩:=oZ h1 t fn d;cases x with
 |exit i=>grind
 |normal=>exact⟨g,u,l,u,c',rfl,rfl,h1,j,k,m⟩
 |ret=>exact⟨g,u,l,u,c',rfl,rfl,h1,j,k,m⟩
end Go.Am
namespace Go.Am
open Go.RowKit Go.ChangeShapes Go.WideShapes
variable {H:bd}{c:Cx}
theorem Rel.waste(a:Rel c H)(o:Obj)(lo:Nat):Rel { c with w:=c.w.alloc o } H∧Tr c H { c with w:=c.w.alloc o } H∧Low lo c H { c with w:=c.w.alloc o } H:=by
 have keep:∀B,B<c.w.heap.size→(c.w.alloc o).heap[B]?=c.w.heap[B]?:=fun B d=>Below.heap_alloc _ _ _ d
 have h:=a.step (c':={ c with w:=c.w.alloc o }) (H':=H) (fun _=>False) (fun _ h=>h.elim) (fun _ _ h=>h) rfl rfl (by simp) (fun B d _=>keep B d) (fun _ _ _ h=>pc _ _ _ _ _ h) rfl rfl rfl
  (fun _ b blk f=>by obtain⟨B,base,h1,_⟩:=a.blk b blk f;grind) a.inj a.fresh
 refine⟨h.1,h.2,⟨fun x y _ e=>⟨e,fun B base k=>?_⟩,fun _ _ h=>h,qe _⟩⟩
 obtain⟨g,base',h1,_,j,_⟩:=a.blk x y e;grind
theorem Wrote.setCell{w:World}{B o:Nat}{u v:Value}(h:w.cell? ⟨B,o,none⟩=some u):Wrote w (w.setCell ⟨B,o,none⟩ v) B o [v] where
 size:=by simp
 keep:=fun X e=>Below.heap_setCell _ _ _ _ e
 shape:=fun X=>iT _ _ _ _
 frozen:=fun a=>by simp
 os:=rfl
 tape:=rfl
 output:=rfl
 new:=by
  intro j x b;cases j with
  |zero=>
   simp at b;subst b;exact World.cell?_setCell_same _ _ _ h
  |succ j=>simp at b
 old:=by
  intro off d;refine World.cell?_setCell_other _ _ _ _ ?_;grind
def Ki(nm:String)(a:List UInt8):DataW Unit:=.iface nm (.ptr (.agg [.lit (.string a)]))
theorem Rel.three(k:Rel c H)(d e f:Obj)(lo:Nat){w':World}(l:w'=((c.w.alloc d).alloc e).alloc f):
 ∃c',c'.w=w'∧Rel c' H∧Tr c H c' H∧Low lo c H c' H:=by
 obtain⟨r1,a,g⟩:=k.waste d lo;obtain⟨r2,b,l2⟩:=r1.waste e lo;obtain⟨r3,h,j⟩:=r2.waste f lo;subst l;exact⟨_,rfl,r3,(a.trans b).trans h,(g.trans a.ext l2).trans (a.trans b).ext j⟩
end Go.Am
namespace Go.Am
open Go.RowKit Go.ChangeShapes Go.WideShapes
theorem A1{c:Cx}{k:IntKind}:∀(ns:List Int),Vs c (ns.map (bc.int k)) (ns.map (Value.int k))
 | []=>by simp only[List.map_nil,Vs]
 |n::ns=>by exact⟨_,_,rfl,by simp only[V],A1 ns⟩
variable {P:Program}{W:World}{e:TypeId}{g:Nat}{k:IntKind}{len:Nat}{nm:String}{ns:List Int}{ps:List MemPlace}{rest:List (String×DataW Unit)}{t:TypeId}
theorem tb
 (hl:DataW.LaidVars P W ((nm,.agg (ns.map fun m=>.lit (.int k m)))::rest) ps) (w:P.globalNamed nm=some g) (G:(P.globals[g]?).map (·.type)=some t) (hu:P.underlying t=some (.array len e)) (H:P.underlying e=some (.int k)) (hc:P.cellsOf e=1) (I:P.cellsOf t=len) (X:0<len):
 (∃p q,DataW.LaidVars P W rest q∧ps=p++q)∧∀θ,V (cx0 W θ) (.ipt (ns.map (.int k))) (.pointer (some ⟨g,0,none⟩)):=by
 obtain⟨M,N,cs,O,Q,q0,h,o,z,A,B,C⟩:=hl;obtain rfl:=Option.some.inj (w.symm.trans h);obtain rfl:=Option.some.inj (G.symm.trans o);refine⟨⟨_,q0,B,C⟩, ?_⟩;obtain⟨xs,m,rfl,b,u,D,c⟩:=DataW.trod_array hu A;simp at b;obtain⟨b,_⟩:=b;have y:ns.length=len:=by
  have:=congrArg List.length b;grind
 have d:cs.toList=ns.map (Value.int k):=by
  refine List.ext_getElem? fun i=>?_
  rcases qk i len with v|v
  ·have h1:=c i v;have f:xs[i]?=some xs[i]:=qq (by omega)
   rw[f]at h1;obtain⟨n,E,R,_⟩:=DataW.trod_int H h1;have J:cs.toList[i]?=some (.int k n):=by
    have K:=congrArg (fun l=>l[0]?) E
    grind
   have L:=congrArg (fun l=>l[i]?) b
   grind
  grind
 have a:∀i,W.cell? ⟨g,i,none⟩=(ns.map (Value.int k))[i]?:=fun i=>by
  rw[World.var?_cell w z i,← d,Array.getElem?_toList]
 have lt:g<W.heap.size:=by
  rcases qk g W.heap.size with s|s
  ·exact s
  ·have:=a 0;rw[qq (by grind)]at this
   simp[World.cell?,Array.getElem?_eq_none s]at this
 intro θ;refine⟨g,0,ns.map (Value.int k),rfl,lt,fun j x U=>?_, ?_⟩
 ·show W.cell? ⟨g,0+j,none⟩=some x;grind
 ·exact A1 ns
theorem y9
 (hl:DataW.LaidVars P W ((nm,.agg (ns.map fun m=>.lit (.int k m)))::rest) ps) (y:P.globalNamed nm=some g) (z:(P.globals[g]?).map (·.type)=some t) (hu:P.underlying t=some (.array len e)) (A:P.underlying e=some (.int k)) (hc:P.cellsOf e=1) (B:P.cellsOf t=len) (N:0<len):
 W.heap[g]?.bind (fun o=>match o with| .cells cs _ _=>some cs|_=>none)=some (ns.map (Value.int k)).toArray:=by
 obtain⟨G,H,cs,I,J,q0,h,j,u,v,K,L⟩:=hl;obtain rfl:=Option.some.inj (y.symm.trans h);obtain rfl:=Option.some.inj (z.symm.trans j);obtain⟨xs,m,rfl,a,p,w,b⟩:=DataW.trod_array hu v;simp at a;obtain⟨a,_⟩:=a;have s:ns.length=len:=by
  have:=congrArg List.length a;grind
 have c:cs.toList=ns.map (Value.int k):=by
  refine List.ext_getElem? fun i=>?_
  rcases qk i len with q|q
  ·have h1:=b i q;have d:xs[i]?=some xs[i]:=qq (by omega)
   rw[d]at h1;obtain⟨n,x,M,_⟩:=DataW.trod_int A h1;have C:cs.toList[i]?=some (.int k n):=by
    have D:=congrArg (fun l=>l[0]?) x
    grind
   have E:=congrArg (fun l=>l[i]?) a
   grind
  grind
 have f:W.heap[g]?.bind (fun o=>match o with| .cells cs _ _=>some cs|_=>none)=some cs:=by
  simp only[World.var?,Option.bind_some]at u;grind
 rw[f,← c]
theorem G2
 (hl:DataW.LaidVars P W ((nm,.agg (ns.map fun m=>.lit (.int k m)))::rest) ps) (c:P.globalNamed nm=some g) (d:(P.globals[g]?).map (·.type)=some t) (hu:P.underlying t=some (.array len e)) (f:P.underlying e=some (.int k)) (hc:P.cellsOf e=1) (b:P.cellsOf t=len) (j:0<len) (θ:List (Nat×Nat)):
 (cx0 W θ).I g∧∃t fr,W.heap[g]?=some (.cells (ns.map (Value.int k)).toArray t fr):=by
 have h:=y9 hl c d hu f hc b j;cases ho:W.heap[g]? with
 |none=>grind
 |some o=>
  rw[ho]at h;have a:g<W.heap.size:=by
   grind
  cases o<;>first|grind|(simp at h;subst h;exact⟨a,_,_,rfl⟩)
end Go.Am
namespace Go.Am
inductive Bt(α:Type) where
 |l (a:α)
 |n (x y:Bt α)
noncomputable def Bt.get{α:Type}(t:Bt α):Nat→Option α:=
 Bt.rec (motive:=fun _=>Nat→Option α) (fun a _=>some a) (fun _ _ f g i=>Bool.rec (f (Nat.div i 2)) (g (Nat.div i 2)) (Nat.beq (Nat.mod i 2) 1)) t
noncomputable def Bt.set{α:Type}(t:Bt α)(v:α):Nat→Bt α:=
 Bt.rec (motive:=fun _=>Nat→Bt α) (fun _ _=>.l v) (fun x y f g i=>Bool.rec (.n (f (Nat.div i 2)) y) (.n x (g (Nat.div i 2))) (Nat.beq (Nat.mod i 2) 1)) t
noncomputable def Bt.full{α:Type}(a:α)(d:Nat):Bt α:=Nat.rec (.l a) (fun _ t=>.n t t) d
def Full{α:Type}:Nat→Bt α→Prop
 |0,.l _=>True
 |d+1,.n x y=>Full d x∧Full d y
 |_,_=>False
theorem e9{α:Type}(a:α):∀d,Full d (Bt.full a d)
 |0=>trivial
 |d+1=>⟨e9 a d,e9 a d⟩
theorem kg{α:Type}(a:α):∀(d i:Nat),(Bt.full a d).get i=some a
 |0,_=>rfl
 |d+1,i=>by
  show Bool.rec ((Bt.full a d).get (Nat.div i 2)) ((Bt.full a d).get (Nat.div i 2)) (Nat.beq (Nat.mod i 2) 1)=some a;cases Nat.beq (Nat.mod i 2) 1<;>exact kg a d _
theorem iX{α:Type}(v:α):∀(d:Nat) (t:Bt α) (i:Nat),Full d t→Full d (t.set v i)
 |0,.l _,_,_=>trivial
 |0,.n _ _,_,h=>h.elim
 |d+1,.l _,_,h=>h.elim
 |d+1,.n x y,i,h=>by
  show Full (d+1) (Bool.rec (.n (x.set v (Nat.div i 2)) y) (.n x (y.set v (Nat.div i 2))) (Nat.beq (Nat.mod i 2) 1));cases Nat.beq (Nat.mod i 2) 1
  ·exact⟨iX v d x _ h.1,h.2⟩
  ·exact⟨h.1,iX v d y _ h.2⟩
theorem get_set{α:Type}(v:α):∀(d:Nat) (t:Bt α) (i j:Nat),Full d t→i<2^d→j<2^d→(t.set v i).get j=if i=j then some v else t.get j
 |0,.l _,i,j,_,g,k=>by
  have:i=j:=by grind
  subst this;simp;rfl
 |0,.n _ _,_,_,h,_,_=>h.elim
 |d+1,.l _,_,_,h,_,_=>h.elim
 |d+1,.n x y,i,j,h,g,k=>by
  have c:i/2<2^d:=by grind
  have e:j/2<2^d:=by grind
  have e1:∀z:Nat,Nat.beq (Nat.mod z 2) 1=decide (z%2=1):=fun z=>by
   show Nat.beq (z%2) 1=_;rw[Bool.eq_iff_iff,Nat.beq_eq,decide_eq_true_eq]
  have f:∀(p q:Bt α) (z:Nat),(Bt.n p q).get z=if z%2=1 then q.get (z/2)else p.get (z/2):=by
   intro p q z;have:(Bt.n p q).get z=(match Nat.beq (Nat.mod z 2) 1 with|false=>p.get (Nat.div z 2)|true=>q.get (Nat.div z 2)):=by
    show(Bool.rec (p.get (Nat.div z 2)) (q.get (Nat.div z 2)) (Nat.beq (Nat.mod z 2) 1):Option α)=_;cases Nat.beq (Nat.mod z 2) 1<;>rfl
   rw[this,e1]
   by_cases h:z%2=1<;>simp[h]<;>rfl
  have st:(Bt.n x y).set v i=if i%2=1 then .n x (y.set v (i/2))else .n (x.set v (i/2)) y:=by
   have:(Bt.n x y).set v i=(match Nat.beq (Nat.mod i 2) 1 with|false=>Bt.n (x.set v (Nat.div i 2)) y|true=>.n x (y.set v (Nat.div i 2))):=by
    show(Bool.rec (Bt.n (x.set v (Nat.div i 2)) y) (.n x (y.set v (Nat.div i 2))) (Nat.beq (Nat.mod i 2) 1):Bt α)=_;cases Nat.beq (Nat.mod i 2) 1<;>rfl
   rw[this,e1]
   by_cases h:i%2=1<;>simp[h]<;>rfl
  rw[st]
  by_cases a:i%2=1<;>by_cases b:j%2=1
  ·rw[if_pos a,f,f,if_pos b,if_pos b,get_set v d y _ _ h.2 c e];grind
  ·grind
  ·grind
  ·rw[if_neg a,f,f,if_neg b,if_neg b,get_set v d x _ _ h.1 c e];grind
structure Rg where
 t:Bt bc
 n:Nat
noncomputable def Rg.get?(r:Rg)(i:Nat):Option bc:=bif Nat.blt i r.n then r.t.get i else none
noncomputable def Rg.get(r:Rg)(i:Nat):bc:=(r.get? i).getD bz
noncomputable def Rg.set(r:Rg)(i:Nat)(v:bc):Rg:=bif Nat.blt i r.n then⟨r.t.set v i,r.n⟩else r
noncomputable def Rg.toL(r:Rg):List bc:=(List.range r.n).map r.get
def Rg.Ok(r:Rg):Prop:=Full 9 r.t∧r.n≤512
theorem dE(i n:Nat):Nat.blt i n=decide (i<n):=by
 rw[Bool.eq_iff_iff,decide_eq_true_eq,Nat.blt_eq]
theorem lm{α:Type}:∀(d:Nat) (t:Bt α) (i:Nat),Full d t→∃a,t.get i=some a
 |0,.l a,_,_=>⟨a,rfl⟩
 |0,.n _ _,_,h=>h.elim
 |d+1,.l _,_,h=>h.elim
 |d+1,.n x y,i,h=>by
  show ∃a,Bool.rec (x.get (Nat.div i 2)) (y.get (Nat.div i 2)) (Nat.beq (Nat.mod i 2) 1)=some a;cases Nat.beq (Nat.mod i 2) 1
  ·exact lm d x _ h.1
  ·exact lm d y _ h.2
variable {r:Rg}
theorem Rg.get?_toL(h:r.Ok)(i:Nat):r.toL[i]?=r.get? i:=by
 unfold Rg.toL;rw[List.getElem?_map];unfold Rg.get?;rw[dE]
 by_cases b:i<r.n
 ·obtain⟨a,c⟩:=lm 9 r.t i h.1;simp[b,Rg.get,Rg.get?,dE,c]
 ·simp[b]
theorem Rg.get_toL(h:r.Ok)(i:Nat):r.toL.getD i bz=r.get i:=by
 rw[qh,Rg.get?_toL h];rfl
theorem Rg.set_ok(h:r.Ok)(i:Nat)(v:bc):(r.set i v).Ok:=by
 unfold Rg.set;cases Nat.blt i r.n
 ·exact h
 ·exact⟨iX v 9 _ _ h.1,h.2⟩
theorem Rg.set_toL(h:r.Ok)(i:Nat)(v:bc):(r.set i v).toL=r.toL.set i v:=by
 apply List.ext_getElem?;intro j;rw[Rg.get?_toL (Rg.set_ok h i v),qg];have a:r.toL.length=r.n:=by simp[Rg.toL]
 rw[Rg.get?_toL h,a];unfold Rg.set;rw[dE]
 by_cases b:i<r.n
 ·simp only[b,decide_true,cond_true,Rg.get?,dE]
  by_cases c:j<r.n
  ·have h1:=h.2;rw[get_set v 9 _ _ _ h.1 (by omega) (by omega)]
   grind
  grind
 ·simp only[b,cond_false];split
  ·rename_i e;subst e;simp only[if_false,Rg.get?,dE,b,decide_false,cond_false]
  ·rfl
noncomputable def Rg.fill:List bc→Nat→Rg→Rg
 | [],_,r=>r
 |a::as,i,r=>Rg.fill as (i+1) (r.set i a)
noncomputable def Rg.frame(args:List bc)(n:Nat):Rg:=Rg.fill args 0 ⟨Bt.full bz 9,n⟩
theorem Aq:∀(as:List bc) (i:Nat) {r:Rg},r.Ok→(Rg.fill as i r).Ok
 | [],_,_,h=>h
 |a::as,i,_,h=>Aq as (i+1) (Rg.set_ok h i a)
theorem wL:∀(as:List bc) (i:Nat) {r:Rg},r.Ok→i+as.length≤r.n→(Rg.fill as i r).toL=r.toL.take i++as++r.toL.drop (i+as.length)
 | [],i,r,_,_=>by simp[Rg.fill]
 |a::as,i,r,h,hl=>by
  have c:(r.set i a).n=r.n:=by
   unfold Rg.set;grind
  have b:r.toL.length=r.n:=by simp[Rg.toL]
  simp at hl;simp only[Rg.fill];rw[wL as (i+1) (Rg.set_ok h i a) (by grind),Rg.set_toL h]
  have h1:(r.toL.set i a).take (i+1)=r.toL.take i++[a]:=by
   rw[List.take_set,List.take_succ_eq_append_getElem (by omega),List.set_append_right _ _ (by simp;omega)]
   simp;rw[show i-min i r.toL.length=0 by omega]
   rfl
  have d:(r.toL.set i a).drop (i+1+as.length)=r.toL.drop (i+(as.length+1)):=by
   rw[List.drop_set_of_lt (by omega)]
   congr 1;omega
  grind
theorem wN(args:List bc)(n:Nat)(a:n≤512):(Rg.frame args n).Ok:=Aq _ _ ⟨e9 _ _,a⟩
theorem tC(args:List bc)(n:Nat)(a:n≤512)(h:args.length≤n):(Rg.frame args n).toL=args++List.replicate (n-args.length) bz:=by
 unfold Rg.frame;rw[wL args 0 ⟨e9 _ _,a⟩ (by simpa using h)]
 have:(Rg.mk (Bt.full bz 9) n).toL=List.replicate n bz:=by
  apply List.ext_getElem?;intro i;rw[Rg.get?_toL ⟨e9 _ _,a⟩,List.getElem?_replicate];simp only[Rg.get?,dE]
  by_cases b:i<n<;>simp[b,kg]
 grind
structure Hp where
 t:Bt (Option cb)
 n:Nat
noncomputable def Hp.get(h:Hp)(b:Nat):Option (Option cb):=bif Nat.blt b h.n then h.t.get b else none
noncomputable def Hp.set(h:Hp)(b:Nat)(x:Option cb):Hp:=bif Nat.blt b h.n then⟨h.t.set x b,h.n⟩else h
noncomputable def Hp.push(h:Hp)(x:Option cb):Option Hp:=bif Nat.blt h.n 4096 then some ⟨h.t.set x h.n,h.n+1⟩else none
noncomputable def Hp.more(h:Hp)(k:Nat):Option Hp:=bif Nat.ble (h.n+k) 4096 then some ⟨h.t,h.n+k⟩else none
noncomputable def Hp.toL(h:Hp):bd:=(List.range h.n).map fun i=>(h.t.get i).getD none
noncomputable def Hp.empty:Hp:=⟨Bt.full none 12,0⟩
def Hp.Ok(h:Hp):Prop:=Full 12 h.t∧h.n≤4096∧∀i,h.n≤i→i<4096→h.t.get i=some none
theorem Hp.empty_ok:Hp.empty.Ok:=⟨e9 _ _,Nat.zero_le _,fun i _ _=>kg (none:Option cb) 12 i⟩
theorem Hp.empty_toL:Hp.empty.toL=[]:=rfl
theorem Hp.length_toL(h:Hp):h.toL.length=h.n:=by simp[Hp.toL]
variable {h:Hp}
theorem Hp.get_toL(e:h.Ok)(b:Nat):h.toL[b]?=h.get b:=by
 unfold Hp.toL;rw[List.getElem?_map];unfold Hp.get;rw[dE]
 by_cases c:b<h.n
 ·obtain⟨a,d⟩:=lm 12 h.t b e.1;simp[c,d]
 ·simp[c]
theorem Hp.set_ok(a:h.Ok)(b:Nat)(x:Option cb):(h.set b x).Ok:=by
 unfold Hp.set;rw[dE]
 by_cases c:b<h.n
 ·simp only[c,decide_true,cond_true];refine⟨iX x 12 _ _ a.1,a.2.1,fun i h1 d=>?_⟩
  have h1:h.n≤i:=h1;rw[get_set x 12 _ _ _ a.1 (by omega) (by omega),if_neg (by omega)]
  exact a.2.2 i h1 d
 grind
theorem Hp.set_toL(a:h.Ok)(b:Nat)(x:Option cb):(h.set b x).toL=h.toL.set b x:=by
 apply List.ext_getElem?;intro j;rw[Hp.get_toL (Hp.set_ok a b x),qg,Hp.get_toL a,Hp.length_toL];unfold Hp.set;rw[dE]
 by_cases c:b<h.n
 ·simp only[c,decide_true,cond_true,Hp.get,dE]
  by_cases d:j<h.n
  ·have h1:=a.2.1;rw[get_set x 12 _ _ _ a.1 (by omega) (by omega)]
   grind
  grind
 ·simp only[c,cond_false];split
  ·rename_i e;subst e;simp only[if_false,Hp.get,dE,c,decide_false,cond_false]
  ·rfl
variable {h':Hp}
theorem Hp.push_ok(a:h.Ok){x:Option cb}(e:h.push x=some h'):h'.Ok∧h'.toL=h.toL++[x]:=by
 unfold Hp.push at e;rw[dE]at e
 by_cases d:h.n<4096
 ·simp only[d,decide_true,cond_true,qa]at e;subst e;have b:Hp.Ok ⟨h.t.set x h.n,h.n+1⟩:=by
   refine⟨iX x 12 _ _ a.1,d,fun i h1 f=>?_⟩
   have h1:h.n+1≤i:=h1;rw[get_set x 12 _ _ _ a.1 (by omega) (by omega),if_neg (by omega)]
   exact a.2.2 i (by omega) f
  refine⟨b, ?_⟩;apply List.ext_getElem?;intro j;rw[Hp.get_toL b];simp only[Hp.get,dE];rcases Nat.lt_trichotomy j h.n with c|c|c
  ·rw[qf (by rw[Hp.length_toL];exact c),Hp.get_toL a]
   simp only[Hp.get,dE,c,cond_true,show j<h.n+1 by omega]
   rw[get_set x 12 _ _ _ a.1 (by omega) (by omega),if_neg (by omega)]
  ·subst c;rw[qj (by rw[Hp.length_toL];grind),Hp.length_toL]
   simp
   rw[get_set x 12 _ _ _ a.1 (by omega) (by omega),if_pos rfl]
  ·rw[List.getElem?_eq_none (by simp[Hp.length_toL];omega)]
   grind
 grind
theorem Hp.more_ok(b:h.Ok){k:Nat}(e:h.more k=some h'):h'.Ok∧h'.toL=h.toL++List.replicate k none:=by
 unfold Hp.more at e
 by_cases f:h.n+k≤4096
 ·have:Nat.ble (h.n+k) 4096=true:=by grind
  simp only[this,cond_true,qa]at e;subst e;have a:Hp.Ok ⟨h.t,h.n+k⟩:=⟨b.1,f,fun i h1 g=>b.2.2 i (by grind) g⟩
  refine⟨a, ?_⟩;apply List.ext_getElem?;intro j;rw[Hp.get_toL a];simp only[Hp.get,dE]
  by_cases d:j<h.n
  ·rw[qf (by rw[Hp.length_toL];exact d),Hp.get_toL b]
   simp only[Hp.get,dE,d,cond_true,show j<h.n+k by omega]
  ·rw[qj (by rw[Hp.length_toL];omega),Hp.length_toL,List.getElem?_replicate]
   by_cases c:j<h.n+k
   ·simp only[c,cond_true,show j-h.n<k by omega,if_true]
    exact b.2.2 j (by omega) (by omega)
   grind
 ·have:Nat.ble (h.n+k) 4096=false:=by
   rw[Bool.eq_false_iff];simp_all
  grind
end Go.Am
namespace Go.Am
abbrev ia:=Nat→Option (Option cb)
def atG(a:ia):bc→Option (List bc)
 | .ipt cs=>some cs
 | .eptr _ cs=>some cs
 | .ptr b off=>match a b with
  |some (some (.cells cs))=>some (cs.drop off)
  |_=>none
 |_=>none
theorem EW(H:bd)(x:bc):atG (fun b=>H[b]?) x=atA H x:=by cases x<;>rfl
section
variable (P:Program)
def Be(t:TypeId)(a:ia)(x:bc):Option bc:=(atG a x).bind fun cs=>fe P t cs 0
def zs(t:TypeId)(c:ia)(x:bc)(lo a mx:Option bc):Option bc:=
 match P.underlying t,x with
 |some (.array n e),.ptr b off=>
  if(P.info? e).isSome∧mx.isNone then
   match c b with
   |some (some (.cells cs))=>
    if off+n*bl P e≤cs.length then(bL n n a).bind fun h=>(bL 0 h lo).map fun l=>.sl (bl P e) b (off+l*bl P e) (h-l) (n-l) true
    else none
   |_=>none
  else none
 |_,_=>b9 P t [] x lo a mx
theorem CS(t:TypeId)(H:bd)(x:bc)(lo a mx:Option bc):zs P t (fun b=>H[b]?) x lo a mx=b9 P t H x lo a mx:=by
 unfold zs;split
 ·rename_i n e b off hu;simp only[b9,hu];rfl
 ·unfold b9;grind
def Sb(t:TypeId)(a:ia)(x:bc):Option bc:=
 match P.underlying t,x with
 |some .string,.str s=>some (.int .i64 s.length)
 |some (.array _ _),.mapr _=>none
 |some (.array n _),_=>some (.int .i64 n)
 |some (.slice _),.nils=>some (.int .i64 0)
 |some (.slice _),.list _ rows _=>some (.int .i64 rows.length)
 |some (.slice _),.sl _ _ _ len _ _=>some (.int .i64 len)
 |some (.map _ _),.nilm=>some (.int .i64 0)
 |some (.map _ _),.mapr b=>match a b with
  |some (some (.mp es))=>some (.int .i64 es.length)
  |_=>none
 |_,_=>none
def Im(t:TypeId)(a:ia)(m x:bc)(ok:Bool):Option bc:=
 match P.underlying t with
 |some (.map c d)=>
  match dS P c,eV P d with
  |some k,some z=>
   if o5 k x then
    match m with
    | .nilm=>some (if ok then .tup [z,.bool false]else z)
    | .mapr b=>
     match a b with
     |some (some (.mp es))=>
      match fT k x es 0 with
      |some (some (_,v))=>some (if ok then .tup [v,.bool true]else v)
      |some none=>some (if ok then .tup [z,.bool false]else z)
      |none=>none
     |_=>none
    |_=>none
   else none
  |_,_=>none
 |_=>none
inductive Ed where
 |nop
 |set (b:Nat) (x:Option cb)
 |push (x:cb)
 |mv (b:Nat) (x:cb)
def Ed.onL(H:bd):Ed→bd
 | .nop=>H
 | .set b x=>H.set b x
 | .push x=>H++[some x]
 | .mv b x=>H.set b none++[some x]
noncomputable def Ed.onH(h:Hp):Ed→Option Hp
 | .nop=>some h
 | .set b x=>some (h.set b x)
 | .push x=>h.push (some x)
 | .mv b x=>(h.set b none).push (some x)
theorem Ed.on_ok{h h':Hp}(a:h.Ok):∀{e:Ed},e.onH h=some h'→h'.Ok∧h'.toL=e.onL h.toL
 | .nop,e=>by simp only[Ed.onH,qa]at e;subst e;exact⟨a,rfl⟩
 | .set b x,e=>by
  simp only[Ed.onH,qa]at e;subst e;exact⟨Hp.set_ok a b x,Hp.set_toL a b x⟩
 | .push x,e=>Hp.push_ok a e
 | .mv b x,e=>by
  obtain⟨h1,c⟩:=Hp.push_ok (Hp.set_ok a b none) e;exact⟨h1,by rw[c,Hp.set_toL a];rfl⟩
def yy(lo:Nat)(t:TypeId)(a:ia)(x v:bc):Option Ed:=
 match x with
 | .ptr b off=>match a b with
  |some (some (.cells cs))=>
   if lo≤b∧v.cells.length=bl P t∧(P.info? t).isSome∧v.cells.all bc.one∧off+v.cells.length≤cs.length then
    some (.set b (some (.cells (splice cs off v.cells))))
   else none
  |_=>none
 |_=>none
theorem Dl(lo:Nat)(t:TypeId)(H:bd)(x v:bc):(yy P lo t (fun b=>H[b]?) x v).map (Ed.onL H)=fw P lo t H x v:=by
 unfold yy fw;cases x<;>first|rfl|skip
 rename_i b off;simp only;cases H[b]? with
 |none=>rfl
 |some o=>cases o with
  |none=>rfl
  |some blk=>cases blk with
   |mp es=>rfl
   |it s c=>rfl
   |mi b a seen last=>rfl
   |cells cs=>
    simp;rfl
def mj(lo:Nat)(t:TypeId)(a:ia)(m x v:bc):Option Ed:=
 match P.underlying t with
 |some (.map c _)=>
  match dS P c with
  |some k=>
   if o5 k x then
    match m with
    | .mapr b=>
     if lo≤b then
      match a b with
      |some (some (.mp es))=>
       match fT k x es 0 with
       |some (some (i,_))=>some (.set b (some (.mp (es.set i (x,v)))))
       |some none=>some (.set b (some (.mp (es++[(x,v)]))))
       |none=>none
      |_=>none
     else none
    |_=>none
   else none
  |none=>none
 |_=>none
theorem lS(lo:Nat)(t:TypeId)(H:bd)(m x v:bc):(mj P lo t (fun b=>H[b]?) m x v).map (Ed.onL H)=c9 P lo t H m x v:=by
 unfold mj c9;cases P.underlying t with
 |none=>rfl
 |some d=>
  cases d<;>first|rfl|skip
  rename_i c f;simp only;cases dS P c with
  |none=>rfl
  |some k=>
   simp only[apply_ite (Option.map (Ed.onL H))];cases m<;>first|rfl|skip
   rename_i b;simp only[apply_ite (Option.map (Ed.onL H))];cases H[b]? with
   |none=>rfl
   |some o=>cases o with
    |none=>rfl
    |some blk=>cases blk with
     |cells cs=>rfl
     |it s e=>rfl
     |mi b a seen last=>rfl
     |mp es=>
      simp only;cases fT k x es 0 with
      |none=>rfl
      |some q=>cases q with
       |none=>rfl
       |some y=>rfl
def qF(a:ia)(sz:Nat):bc→Option (List (List bc))
 | .nils=>some []
 | .list s rows _=>if s=sz then some rows else none
 | .str s=>if sz=1 then some (s.map fun b=>[.int .u8 b.toNat])else none
 | .sl s b off len _ _=>if s=sz then
  match a b with
  |some (some (.cells cs))=>if off+len*sz≤cs.length then some (cq sz len (cs.drop off))else none
  |_=>none
  else none
 |_=>none
theorem Ea(H:bd)(sz:Nat)(x:bc):qF (fun b=>H[b]?) sz x=ff H sz x:=by cases x<;>rfl
def uQ(lo:Nat)(t u:TypeId)(hl:Nat)(c:ia)(s x:bc):Option (bc×Ed):=
 match P.underlying t with
 |some (.slice e)=>
  let sz:=bl P e
  if(P.info? e).isSome∧sz≠0∧mP P u=true∧kG P e=true∧P.bytesOf e≠0 then
   match qF c sz x with
   |none=>none
   |some rows=>
    let new:=rows.flatten
    let n:=rows.length
    if !(new.all bc.one)then none else
    match s with
    | .nils=>
     if n=0 then some (.nils,.nop)
     else if n*P.bytesOf e≤140737488355328 then some (.sl sz hl 0 n n false,.push (.cells new))
     else none
    | .list a rs ex=>
     if a≠sz then none else
     if n=0 then some (.list a rs ex,.nop)
     else if ex∧(rs.flatten).all bc.one∧(rs.length+n)*P.bytesOf e≤140737488355328 then some (.sl sz hl 0 (rs.length+n) (rs.length+n) false,.push (.cells (rs.flatten++new)))
     else none
    | .sl a b off len cap ex=>
     if a≠sz then none else
     match c b with
     |some (some (.cells cs))=>
      if off+len*sz≤cs.length then
       if n=0 then some (.sl a b off len cap ex,.nop)
       else if len+n≤cap then
        if lo≤b∧off+(len+n)*sz≤cs.length then some (.sl sz b off (len+n) cap ex,.set b (some (.cells (splice cs (off+len*sz) new))))
        else none
       else if(len+n)*P.bytesOf e≤140737488355328 then
        if ex then some (.sl sz hl 0 (len+n) (len+n) false,.push (.cells ((cs.drop off).take (len*sz)++new)))
        else if lo≤b∧off+len*sz=cs.length then some (.sl sz hl 0 (len+n) (len+n) false,.mv b (.cells (cs.drop off++new)))
        else none
       else none
      else none
     |_=>none
    |_=>none
  else none
 |_=>none
theorem zG(lo:Nat)(t u:TypeId)(H:bd)(s x:bc):(uQ P lo t u H.length (fun b=>H[b]?) s x).map (fun r=>(r.1,r.2.onL H))=bM P lo t u H s x:=by
 unfold uQ bM;cases P.underlying t with
 |none=>rfl
 |some d=>
  cases d<;>first|rfl|skip
  rename_i e;simp only[Ea,apply_ite (Option.map fun r:bc×Ed=>(r.1,r.2.onL H))]
  cases ff H (bl P e) x with
  |none=>rfl
  |some rows=>
   simp only[apply_ite (Option.map fun r:bc×Ed=>(r.1,r.2.onL H))]
   cases s<;>first|rfl|skip
   ·simp only[apply_ite (Option.map fun r:bc×Ed=>(r.1,r.2.onL H)),Option.map_some]
    rfl
   ·simp only[apply_ite (Option.map fun r:bc×Ed=>(r.1,r.2.onL H)),Option.map_some]
    rfl
   ·rename_i f b off len cap ex;simp only[apply_ite (Option.map fun r:bc×Ed=>(r.1,r.2.onL H))]
    cases H[b]? with
    |none=>rfl
    |some o=>cases o with
     |none=>rfl
     |some blk=>cases blk with
      |mp es=>rfl
      |it s c=>rfl
      |mi b a seen last=>rfl
      |cells cs=>
       simp only[apply_ite (Option.map fun r:bc×Ed=>(r.1,r.2.onL H)),Option.map_some]
       rfl
end
def LJ(S:bh)(ev:Operand→bc):Op→Option (cb×(Nat→bc))
 | .alloc t=>vt S.P t
 | .box _ x=>IL (ev x)
 | .buildSlice t len a=>iq S.P t len (a.toList.map fun p=>(p.1,ev p.2))
 | .makeSlice t l c=>ib S.P t (ev l) (ev c)
 | .makeMap _ none=>some (.mp [],fun id=>.mapr id)
 | .range t x=>vC S.P t (ev x)
 |_=>none
theorem zW(S:bh)(ρ:List bc)(o:Op):LJ S (bj S ρ) o=lE S ρ o:=by
 cases o<;>first|rfl|(rename_i t r;cases r<;>rfl)
def OO(ev:Operand→bc)(c a b:Operand):Option bc:=
 match ev c with
 | .bool true=>some (ev a)
 | .bool false=>some (ev b)
 |_=>none
def KK(P:Program)(ev:Operand→bc)(t:TypeId)(a:Array (Nat×Operand)):Option bc:=oh P t (a.toList.map fun p=>(p.1,ev p.2))
def Q8(P:Program)(ev:Operand→bc)(op:BinOp)(t:TypeId)(x y:Operand):Option bc:=gx P op t (og x||og y) (ev x) (ev y)
def LM(P:Program)(ev:Operand→bc)(t:TypeId)(x:Operand):Option bc:=if uq P t then none else some (.iface t (ev x))
def P2(ev:Operand→bc)(f:Fn)(first a:Array Operand):Option bc:=some (.fn f (first.toList.map ev) (a.toList.map ev))
def Hh(P:Program)(ev:Operand→bc)(a:ia)(t:TypeId)(x:Operand)(lo b mx:Option Operand):Option bc:=zs P t a (ev x) (lo.map ev) (b.map ev) (mx.map ev)
def KY(P:Program)(s d:TypeId)(a:ia)(x:bc):Option bc:=
 match P.underlying s,P.underlying d with
 |some (.slice e),some .string=>
  match P.underlying e,x with
  |some (.int .u8),.nils=>some (.str [])
  |some (.int .u8),.list sz rows _=>if sz=1 then(df rows).map .str else none
  |some (.int .u8),.sl sz b off len _ _=>
   if sz=1 then
    match a b with
    |some (some (.cells cs))=>if off+len≤cs.length then(df (cq 1 len (cs.drop off))).map .str else none
    |_=>none
   else none
  |_,_=>none
 |_,_=>none
def P0(P:Program)(a:ia)(s d:TypeId)(x:bc):Option bc:=
 match iu P s d x with
 |some v=>some v
 |none=>KY P s d a x
def F6(ev:Operand→bc)(x:Operand)(i:Nat):Option bc:=
 match ev x with
 | .tup vs=>vs[i]?
 |_=>none
def TB(P:Program)(ev:Operand→bc)(a:ia)(args:Array Operand)(b:Array TypeId):Option bc:=
 match b[0]?,args[0]? with
 |some t,some x=>Sb P t a (ev x)
 |_,_=>none
def R8(ev:Operand→bc)(args:Array Operand):Option bc:=
 match args.toList.map ev with
 | [.int k x,.int _ y]=>some (.int k (if y<x then y else x))
 |_=>none
def QS(ev:Operand→bc)(args:Array Operand):Option bc:=
 match args.toList.map ev with
 | [.int k x,.int _ y]=>some (.int k (if x<y then y else x))
 |_=>none
def GP(P:Program)(ev:Operand→bc)(a:ia)(b:Builtin)(args:Array Operand)(c:Array TypeId):Option bc:=
 match b with
 | .len=>TB P ev a args c
 | .min=>R8 ev args
 | .max=>QS ev args
 |_=>none
def NI(P:Program)(ev:Operand→bc)(a:ia)(c:Call):Option bc:=
 match c.callee with
 | .builtin b=>GP P ev a b c.args c.argTypes
 |_=>none
def pY(S:bh)(ev:Operand→bc)(j:ia)(o:Op):Option bc:=
 match o with
 | .move x=>some (ev x)
 | .assign x=>some (ev x)
 | .pick c a b=>OO ev c a b
 | .build t g=>KK S.P ev t g
 | .load t x=>Be S.P t j (ev x)
 | .nilCheck x=>dZ (ev x)
 | .binOp op t x y _=>Q8 S.P ev op t x y
 | .unOp op _ x=>unA op (ev x)
 | .convert s d x=>P0 S.P j s d (ev x)
 | .makeInterface t x=>LM S.P ev t x
 | .makeFunc f first e=>P2 ev f first e
 | .slice t x lo k mx=>Hh S.P ev j t x lo k mx
 | .fieldAddr t x f=>fH S.P t (ev x) f
 | .field t x f=>oa S.P t (ev x) f
 | .indexAddr t x i=>cu S.P t (ev x) (ev i)
 | .index t x i=>jv S.P t (ev x) (ev i)
 | .lookup t m x ok=>Im S.P t j (ev m) (ev x) ok
 | .extract x i=>F6 ev x i
 | .call c=>NI S.P ev j c
 | .typeAssert x _ t ok=>eq S.P (ev x) t ok
 |_=>none
theorem t6(S:bh)(ρ:List bc)(H:bd)(o:Op):pY S (bj S ρ) (fun b=>H[b]?) o=bR S ρ H o:=by
 cases o with
 |load t x=>simp only[pY,bR,Be,hM,EW]
 |slice t x lo d mx=>simp only[pY,bR,Hh,CS]
 |call c=>
  obtain⟨callee,args,a⟩:=c;cases callee with
  |value f=>rfl
  |invoke r n=>rfl
  |builtin b=>cases b<;>rfl
 |_=>rfl
def FA(ev:Operand→bc):Op→Option Nat
 | .load _ x=>cN (ev x)
 | .lookup _ m _ _=>cN (ev m)
 | .slice _ x _ _ _=>cN (ev x)
 | .convert _ _ x=>pe (ev x)
 | .call { callee:=.builtin .len,args:=args,.. }=>
  match args[0]? with
  |some x=>match ev x with
   | .mapr b=>some b
   |_=>none
  |none=>none
 |_=>none
theorem CG(S:bh)(ρ:List bc)(o:Op):FA (bj S ρ) o=eQ S ρ o:=by
 cases o with
 |call c=>
  obtain⟨callee,args,a⟩:=c;cases callee with
  |value f=>rfl
  |invoke r n=>rfl
  |builtin b=>cases b<;>rfl
 |_=>rfl
def Gl(S:bh)(ev:Operand→bc):Op→Option (List Nat)
 | .store _ x _=>some (cN (ev x)).toList
 | .mapUpdate _ m _ _=>some (cN (ev m)).toList
 | .insert _ m _ _=>some (cN (ev m)).toList
 | .next x _=>some (cN (ev x)).toList
 | .call { callee:=.builtin .append,args:=args,.. }=>
  match args[0]? with
  |some x=>match ev x with
   | .sl _ b _ _ _ _=>some [b]
   |_=>some []
  |none=>none
 | .call { callee:=.value f,.. }=>
  match ev f with
  | .fn (.func g) _ _=>if ma S g then some []else none
  |_=>none
 |_=>none
def uy(S:bh)(ev:Operand→bc)(op:Op)(n:Nat)(g a:Nat→Option (Option cb)):Option (List Nat):=match Gl S ev op with
 |some l=>some l
 |none=>some (P5 n g a)
theorem BP(S:bh)(ρ:List bc)(o:Op):Gl S (bj S ρ) o=dJ S ρ o:=by
 cases o with
 |call c=>
  obtain⟨callee,args,a⟩:=c;cases callee with
  |value f=>rfl
  |invoke r n=>rfl
  |builtin b=>cases b<;>rfl
 |_=>rfl
noncomputable def eK(S:bh)(r:Rg):Operand→bc
 | .tmp t=>r.get t
 | .const v=>nY v
 | .global g=>match S.glob g with
  |some cs=>.ipt cs
  |none=>.junk
 | .func f=>.fn (.func f) [] []
variable {r:Rg}
theorem dW(S:bh)(h:r.Ok):eK S r=bj S r.toL:=by
 funext x;cases x with
 |tmp t=>exact(Rg.get_toL h t).symm
 |_=>rfl
variable {h:Hp}
theorem eO(a:h.Ok):h.get=fun b=>h.toL[b]?:=funext fun b=>(Hp.get_toL a b).symm
abbrev jl:=Nat→FuncId→List bc→Hp→Option (bc×Hp)
abbrev kC:=Nat→Code→Rg→Hp→Option (bT×Rg×Hp)
def kO(ct:jl)(cl:cJ):Prop:=∀lo f args h r h',h.Ok→ct lo f args h=some (r,h')→h'.Ok∧cl lo f args h.toL=some (r,h'.toL)
def pS(rt:kC)(rl:ic):Prop:=∀lo c r h x r' h',r.Ok→h.Ok→rt lo c r h=some (x,r',h')→r'.Ok∧h'.Ok∧rl lo c r.toL h.toL=some (x,r'.toL,h'.toL)
noncomputable def vk(ops:List Oper)(r:Rg)(o:Oper):Option Bool:=
 match o.guard with
 |none=>some true
 |some (j,a)=>
  match (ops[j]?).bind (·.dst)with
  |none=>some false
  |some d=>
   match r.get? d with
   |none=>some false
   |some (.bool b)=>some (b==a)
   |some .junk=>none
   |some _=>some false
theorem s7{ops:List Oper}(h:r.Ok)(o:Oper):vk ops r o=eD ops r.toL o:=by
 unfold vk eD;cases o.guard with
 |none=>rfl
 |some p=>
  obtain⟨j,w⟩:=p;simp only;cases(ops[j]?).bind (·.dst)with
  |none=>rfl
  |some d=>
   simp only[Rg.get?_toL h];rfl
noncomputable def xn(r:Rg)(dst:Option Tmp)(v:bc):Rg:=
 match dst with
 |some d=>r.set d v
 |none=>r
theorem lu(h:r.Ok)(dst:Option Tmp)(v:bc):(xn r dst v).Ok∧(xn r dst v).toL=fV r.toL dst v:=by
 cases dst with
 |none=>exact⟨h,rfl⟩
 |some d=>exact⟨Rg.set_ok h d v,Rg.set_toL h d v⟩
noncomputable def E4(S:bh)(lo:Nat)(r:Rg)(h:Hp)(t:TypeId)(x v:Operand):Option (bc×Hp):=
 (yy S.P lo t h.get (eK S r x) (eK S r v)).bind fun e=>(e.onH h).map fun h'=>(bz,h')
noncomputable def pR(S:bh)(lo:Nat)(r:Rg)(h:Hp)(t:TypeId)(m k v:Operand):Option (bc×Hp):=
 (mj S.P lo t h.get (eK S r m) (eK S r k) (eK S r v)).bind fun e=>(e.onH h).map fun h'=>(bz,h')
noncomputable def AU(S:bh)(lo:Nat)(r:Rg)(h:Hp)(args:Array Operand)(a:Array TypeId):Option (bc×Hp):=
 match args.toList.map (eK S r),a.toList with
 | [s,x],[t,u]=>(uQ S.P lo t u h.n h.get s x).bind fun e=>(e.2.onH h).map fun h'=>(e.1,h')
 |_,_=>none
noncomputable def Kk(S:bh)(call:jl)(lo:Nat)(r:Rg)(h:Hp)(f:Operand)(args:Array Operand):Option (bc×Hp):=
 match eK S r f with
 | .fn (.func g) first a=>
  match S.ext g (first++args.toList.map (eK S r)++a)with
  |some v=>some (v,h)
  |none=>call lo g (first++args.toList.map (eK S r)++a) h
 |_=>none
noncomputable def AN(S:bh)(call:jl)(lo:Nat)(r:Rg)(h:Hp)(x:Operand)(a:String)(args:Array Operand):Option (bc×Hp):=
 match eK S r x with
 | .iface t v=>
  match S.meth t a,nk v with
  |some g,some (.p,_)=>call lo g (v::args.toList.map (eK S r)) h
  |_,_=>match S.methV t a v with
   |some (g,b)=>(S.ext g (b::args.toList.map (eK S r))).map fun y=>(y,h)
   |none=>none
 |_=>none
noncomputable def x7(S:bh)(lo:Nat)(r:Rg)(h:Hp)(b:Builtin)(args:Array Operand)(a:Array TypeId):Option (bc×Hp):=
 match b with
 | .append=>AU S lo r h args a
 |_=>none
noncomputable def Qy(S:bh)(call:jl)(lo:Nat)(r:Rg)(h:Hp)(c:Call):Option (bc×Hp):=
 match c.callee with
 | .builtin b=>x7 S lo r h b c.args c.argTypes
 | .value f=>Kk S call lo r h f c.args
 | .invoke x a=>AN S call lo r h x a c.args
noncomputable def HG(S:bh)(call:jl)(lo:Nat)(r:Rg)(h:Hp)(o:Op):Option (bc×Hp):=
 match o with
 | .store t x v=>E4 S lo r h t x v
 | .mapUpdate t m k v=>pR S lo r h t m k v
 | .insert t m k v=>pR S lo r h t m k v
 | .call c=>Qy S call lo r h c
 |_=>none
variable {h':Hp}{v:bc}
theorem yQ{x:Option Ed}(b:h.Ok){u:bc}(e:(x.bind fun e=>(e.onH h).map fun h'=>(v,h'))=some (u,h')):
 u=v∧h'.Ok∧x.map (Ed.onL h.toL)=some h'.toL:=by
 rw[Option.bind_eq_some_iff]at e;obtain⟨c,rfl,e⟩:=e;rw[qd]at e;obtain⟨h1,a,d⟩:=e;obtain⟨f,g⟩:=Ed.on_ok b a;grind
variable {S:bh}{cl:cJ}{ct:jl}{lo:Nat}
theorem As(hc:kO ct cl)(j:r.Ok)(a:h.Ok){op:Op}(e:HG S ct lo r h op=some (v,h')):
 h'.Ok∧ek S cl lo r.toL h.toL op=some (v,h'.toL):=by
 unfold HG at e;split at e
 ·unfold E4 at e;rw[dW S j,eO a]at e;obtain⟨rfl,h1,c⟩:=yQ a e;rw[Dl]at c;exact⟨h1,by simp only[ek,c,Option.map_some]⟩
 ·unfold pR at e;rw[dW S j,eO a]at e;obtain⟨rfl,h1,c⟩:=yQ a e;rw[lS]at c;exact⟨h1,by simp only[ek,c,Option.map_some]⟩
 ·unfold pR at e;rw[dW S j,eO a]at e;obtain⟨rfl,h1,c⟩:=yQ a e;rw[lS]at c;exact⟨h1,by simp only[ek,c,Option.map_some]⟩
 ·rename_i cl;obtain⟨callee,args,B⟩:=cl;unfold Qy at e;simp only at e;cases callee with
  |builtin b=>
   simp only[x7]at e;split at e<;>first|grind|skip
   unfold AU at e;rw[dW S j,eO a]at e;split at e
   ·rename_i s x t u e1 e2;rw[Option.bind_eq_some_iff]at e;obtain⟨C,h1,e⟩:=e;rw[qd]at e;obtain⟨c,q,m⟩:=e;simp at m;obtain⟨rfl,rfl⟩:=m;obtain⟨k,l⟩:=Ed.on_ok a q;refine⟨k, ?_⟩;have:=zG S.P lo t u h.toL s x;rw[Hp.length_toL,h1]at this;simp only[ek,e1,e2,← this,Option.map_some,l]
   ·cases e
  |value f=>
   unfold Kk at e;rw[dW S j]at e;simp only at e;split at e
   ·rename_i g first d e1;simp only[ek];split at e
    ·grind
    ·rename_i y;obtain⟨k,l⟩:=hc _ _ _ _ _ _ a e;grind
   ·cases e
  |invoke x n=>
   unfold AN at e;rw[dW S j]at e;simp only at e;split at e
   ·rename_i t w e1;simp only[ek];split at e
    ·rename_i g z o A;obtain⟨k,l⟩:=hc _ _ _ _ _ _ a e;grind
    ·rename_i p;split at e
     ·rename_i g w1 o;rw[qd]at e;grind
     ·cases e
   ·cases e
 ·cases e
noncomputable def opF(S:bh)(call:jl)(lo:Nat)(r:Rg)(h:Hp)(o:Oper):Option (bc×Hp):=
 match pY S (eK S r) h.get o.op with
 |some v=>some (v,h)
 |none=>
  match LJ S (eK S r) o.op with
  |some (blk,mk)=>(h.push (some blk)).map fun h'=>(mk h.n,h')
  |none=>HG S call lo r h o.op
theorem KR(hc:kO ct cl)(d:r.Ok)(a:h.Ok){o:Oper}(e:opF S ct lo r h o=some (v,h')):
 h'.Ok∧opA S cl lo r.toL h.toL o=some (v,h'.toL):=by
 unfold opF at e;unfold opA;rw[← t6,← zW,← dW S d,← eO a];split at e
 ·grind
 ·rename_i f;simp only[f];split at e
  ·rename_i blk mk g;rw[qd]at e;obtain⟨h1,j,k⟩:=e;obtain⟨rfl,rfl⟩:=k;obtain⟨b,c⟩:=Hp.push_ok a j;exact⟨b,by simp only[g,c,Hp.length_toL]⟩
  ·obtain⟨b,c⟩:=As hc d a e;grind
noncomputable def Ez(S:bh)(call:jl)(lo:Nat)(ops:List Oper):List Oper→Rg→Hp→Option (Rg×Hp)
 | [],r,h=>some (r,h)
 |o::rest,r,h=>
  match vk ops r o with
  |none=>none
  |some false=>Ez S call lo ops rest (xn r o.dst bz) h
  |some true=>
   match opF S call lo r h o with
   |none=>none
   |some (v,h')=>Ez S call lo ops rest (xn r o.dst v) h'
theorem vD{S:bh}{ct:jl}{cl:cJ}(hc:kO ct cl){lo:Nat}{ops:List Oper}:∀{l:List Oper} {r r':Rg} {h h':Hp},r.Ok→h.Ok→Ez S ct lo ops l r h=some (r',h')→
 r'.Ok∧h'.Ok∧l7 S cl lo ops l r.toL h.toL=some (r'.toL,h'.toL)
 | [],r,r',h,h',a,b,e=>by
  obtain⟨rfl,rfl⟩:=e;exact⟨a,b,rfl⟩
 |o::l,r,r',h,h',a,b,e=>by
  simp only[Ez,s7 a]at e;simp only[l7];split at e
  ·cases e
  ·rename_i c;obtain⟨f,g⟩:=lu a o.dst bz;simp only[c];rw[← g];exact vD hc f b e
  ·rename_i c;simp only[c];split at e
   ·cases e
   ·rename_i v h1 d;obtain⟨j,k⟩:=KR hc a b d;obtain⟨f,g⟩:=lu a o.dst v;simp only[k];rw[← g];exact vD hc f j e
noncomputable def nv(h:Hp):List Nat→Hp
 | []=>h
 |b::a=>nv (h.set b none) a
noncomputable def mK(a h:Hp):List Nat→Hp
 | []=>h
 |b::c=>mK a (h.set b ((a.get b).getD none)) c
theorem xr:∀(a:List Nat) {h:Hp},h.Ok→(nv h a).Ok∧(nv h a).toL=hide h.toL a
 | [],_,c=>⟨c,rfl⟩
 |b::a,h,c=>by
  have:=xr a (Hp.set_ok c b none);rw[Hp.set_toL c]at this;exact this
theorem qy{h0:Hp}(c:h0.Ok):∀(a:List Nat) {h:Hp},h.Ok→(mK h0 h a).Ok∧(mK h0 h a).toL=unhide h0.toL h.toL a
 | [],_,d=>⟨d,rfl⟩
 |b::a,h,d=>by
  have:=qy c a (Hp.set_ok d b ((h0.get b).getD none));rw[Hp.set_toL d]at this;refine⟨this.1, ?_⟩;show(mK h0 (h.set b ((h0.get b).getD none)) a).toL=unhide h0.toL (h.toL.set b (h0.toL.getD b none)) a;rw[this.2,qh,Hp.get_toL c]
structure gb where
 reads:List (Nat×Nat)
 touches:List (Nat×Option (List Nat))
 r:Rg
 h:Hp
noncomputable def ix(S:bh)(call:jl)(lo a:Nat)(ops:Array Oper)(B:List Nat):List Oper→Nat→Rg→Hp→Option gb
 | [],_,r,h=>some ⟨[],[],r,h⟩
 |o::rest,k,r,h=>
  match vk ops.toList r o with
  |none=>none
  |some false=>ix S call lo a ops B rest (k+1) (xn r o.dst bz) h
  |some true=>
   if cz o.op then
    match LJ S (eK S r) o.op with
    |none=>none
    |some (blk,mk)=>
     match h.get (a+k)with
     |some none=>ix S call lo a ops B rest (k+1) (xn r o.dst (mk (a+k))) (h.set (a+k) (some blk))
     |_=>none
   else if dw o.op then
    match HG S call lo r (nv h (hidden ops B a k)) o.op with
    |none=>none
    |some (v,h')=>
     if h.n≤h'.n then
      match ix S call lo a ops B rest (k+1) (xn r o.dst v) (mK h h' (hidden ops B a k))with
      |none=>none
      |some x=>some { x with touches:=(k,uy S (eK S r) o.op (nv h (hidden ops B a k)).n (nv h (hidden ops B a k)).get h'.get)::x.touches }
     else none
   else
    match pY S (eK S r) h.get o.op with
    |none=>none
    |some v=>
     match ix S call lo a ops B rest (k+1) (xn r o.dst v) h with
     |none=>none
     |some x=>
      match FA (eK S r) o.op with
      |none=>some x
      |some b=>some { x with reads:=(k,b)::x.reads }
def gb.Ok(x:gb):Prop:=x.r.Ok∧x.h.Ok
noncomputable def gb.toL(x:gb):lr:=⟨x.reads,x.touches,x.r.toL,x.h.toL⟩
theorem hZ{S:bh}{ct:jl}{cl:cJ}(hc:kO ct cl){lo d:Nat}{ops:Array Oper}{B:List Nat}:∀{l:List Oper} {k:Nat} {r:Rg} {h:Hp} {x:gb},r.Ok→h.Ok→ix S ct lo d ops B l k r h=some x→
 x.Ok∧cy S cl lo d ops B l k r.toL h.toL=some x.toL
 | [],k,r,h,x,a,c,e=>by
  simp only[ix,qa]at e;subst e;exact⟨⟨a,c⟩,rfl⟩
 |o::l,k,r,h,x,a,c,e=>by
  simp only[ix,s7 a]at e;simp only[cy];split at e
  ·cases e
  ·rename_i s;obtain⟨j,m⟩:=lu a o.dst bz;simp only[s];rw[← m];exact hZ hc j c e
  ·rename_i s;simp only[s];split at e
   ·rename_i t;rw[if_pos t];split at e
    ·cases e
    ·rename_i blk mk f;rw[dW S a,zW]at f;simp only[f];rw[Hp.get_toL c];split at e
     ·rename_i G;simp only[G];obtain⟨j,m⟩:=lu a o.dst (mk (d+k));rw[← m,← Hp.set_toL c];exact hZ hc j (Hp.set_ok c _ _) e
     ·cases e
   ·rename_i t;rw[if_neg t];split at e
    ·rename_i u;rw[if_pos u];split at e
     ·cases e
     ·rename_i v h1 p;obtain⟨g1,z⟩:=xr (hidden ops B d k) c;obtain⟨D,E⟩:=As hc a g1 p;rw[z]at E;simp only[E];split at e
      ·rename_i w;rw[if_pos (by rw[Hp.length_toL,Hp.length_toL];exact w)]
       split at e
       ·cases e
       ·rename_i x1 g;simp at e;subst e;obtain⟨H,I⟩:=qy c (hidden ops B d k) D;obtain⟨j,m⟩:=lu a o.dst v;obtain⟨A,q⟩:=hZ hc j H g;rw[m,I]at q;refine⟨A, ?_⟩;simp only[q,gb.toL];rw[show uy S (eK S r) o.op (nv h (hidden ops B d k)).n (nv h (hidden ops B d k)).get h1.get=dG S r.toL o.op (hide h.toL (hidden ops B d k)) h1.toL by
         unfold uy dG;rw[dW S a,BP,eO g1,eO D,z,← Hp.length_toL (h:=nv h (hidden ops B d k)),z];grind]
      ·cases e
    ·rename_i u;rw[if_neg u];split at e
     ·cases e
     ·rename_i v C;rw[dW S a,eO c,t6]at C;simp only[C];split at e
      ·cases e
      ·rename_i x1 g;obtain⟨j,m⟩:=lu a o.dst v;obtain⟨A,q⟩:=hZ hc j c g;rw[m]at q;simp only[q];rw[dW S a,CG]at e;split at e
       ·grind
       ·rename_i b y;simp at e;subst e;exact⟨A,by simp only[y,gb.toL]⟩
noncomputable def Fq(S:bh)(call:jl)(lo:Nat)(ops:Array Oper)(r:Rg)(h:Hp):Option (Rg×Hp):=
 let B:=mz ops.toList []
 if jq ops B && decide (lo≤h.n)then
  match (if ops.any (fun o=>cz o.op)then h.more ops.size else some h)with
  |none=>none
  |some h1=>
   match ix S call lo h.n ops B ops.toList 0 r h1 with
   |none=>none
   |some x=>if apartB B x.reads x.touches then some (x.r,x.h)else none
 else none
theorem EO(hc:kO ct cl){ops:Array Oper}{r':Rg}(k:r.Ok)(l:h.Ok)(e:Fq S ct lo ops r h=some (r',h')):
 r'.Ok∧h'.Ok∧jV S cl lo ops r.toL h.toL=some (r'.toL,h'.toL):=by
 unfold Fq at e;unfold jV;simp only at e ⊢;split at e
 ·rename_i a;rw[Hp.length_toL,if_pos a];split at e
  ·cases e
  ·rename_i h1 b;have key:h1.Ok∧h1.toL=(if ops.any (fun o=>cz o.op)then h.toL++List.replicate ops.size none else h.toL):=by
    split at b
    ·rename_i c;rw[if_pos c];exact Hp.more_ok l b
    grind
   rw[← key.2];split at e
   ·cases e
   ·rename_i x d;obtain⟨⟨f,g⟩,j⟩:=hZ hc k key.1 d;simp only[j];split at e
    ·rename_i c;obtain⟨rfl,rfl⟩:=e;exact⟨f,g,if_pos c⟩
    ·cases e
 ·cases e
def rN(c:Nat)(d:ia):Bool→Nat→bc→Option bc
 |_,0,_=>none
 |top,k+1,a=>
  match a with
  | .agg cs=>(gm (rN c d top k) cs).map .agg
  | .tup cs=>(gm (rN c d top k) cs).map .tup
  | .iface t v=>(rN c d top k v).map (.iface t)
  | .fn f x y=>match gm (rN c d top k) x,gm (rN c d top k) y with
   |some e,some g=>some (.fn f e g)
   |_,_=>none
  | .ptr b off=>
   if b<c then(if top then some (.ptr b off)else none)else
   match d b with
   |some (some (.cells cs))=>(gm (rN c d false k) (cs.drop off)).map .ipt
   |_=>none
  | .sl sz b off len cap ex=>
   if b<c then(if top then some (.sl sz b off len cap ex)else none)else
   match d b with
   |some (some (.cells cs))=>
    if off+len*sz≤cs.length then(lR (rN c d false k) (cq sz len (cs.drop off))).map fun rows=>.list sz rows (ex && cap==len)else none
   |_=>none
  | .mapr b=>if b<c∧top then some (.mapr b)else none
  |a=>some a
theorem uz(c:Nat)(H:bd):∀(k:Nat) (top:Bool),rN c (fun b=>H[b]?) top k=frz c H top k
 |0,top=>by simp only[rN,frz]
 |k+1,top=>by
  funext a;cases a<;>simp only[rN,frz,uz c H k top,uz c H k false]<;>rfl
def pD(S:bh)(ev:Nat→bc)(b:ia):ResultVar→Option bc
 | .tmp t=>some (ev t)
 | .cell a t=>Be S.P t b (ev a)
def mH(S:bh)(ev:Nat→bc)(a:ia):List ResultVar→Option (List bc)
 | []=>some []
 |r::rs=>
  match pD S ev a r with
  |none=>none
  |some v=>match mH S ev a rs with
   |none=>none
   |some vs=>some (v::vs)
theorem pf(S:bh){r:Rg}(b:r.Ok){h:Hp}(c:h.Ok):∀l,mH S r.get h.get l=dv S r.toL h.toL l
 | []=>rfl
 |x::xs=>by
  have:pD S r.get h.get x=gt S r.toL h.toL x:=by
   cases x with
   |tmp t=>simp only[pD,gt,Rg.get_toL b]
   |cell a t=>simp only[pD,gt,Rg.get_toL b,eO c,Be,hM,EW]
  simp only[mH,this,pf S b c xs];rfl
def Pol.loN(p:Pol)(lo n:Nat):Nat:=
 match p with
 | .keep=>lo
 | .pure=>n
 | .fresh=>max lo n
noncomputable def uJ(p:Pol)(a:Hp)(v:bc)(h:Hp):Option (bc×Hp):=
 match p with
 | .keep=>some (v,h)
 | .pure=>(rN a.n h.get true 64 v).map fun b=>(b,a)
 | .fresh=>some (v,h)
theorem sG{p:Pol}{h0:Hp}{r:bc}(a:h0.Ok)(b:h.Ok)(e:uJ p h0 v h=some (r,h')):h'.Ok∧finish p h0.toL v h.toL=some (r,h'.toL):=by
 cases p with
 |keep=>
  obtain⟨rfl,rfl⟩:=e;exact⟨b,rfl⟩
 |pure=>
  simp only[uJ]at e;rw[qd]at e;obtain⟨v,e1,e2⟩:=e;obtain⟨rfl,rfl⟩:=e2;rw[eO b,uz,← Hp.length_toL]at e1;exact⟨a,by simp only[finish,e1,Option.map_some]⟩
 |fresh=>
  obtain⟨rfl,rfl⟩:=e;exact⟨b,rfl⟩
abbrev jT:=Nat→List bc→Hp→Option (bc×Hp)
noncomputable def AJ(S:bh)(HT:FuncId→Option jT)(a:kC):jl:=fun lo f args h=>
 match HT f with
 |some b=>b lo args h
 |none=>
  match S.P.funcs[f]? with
  |none=>none
  |some fn=>
   match fn.body with
   |none=>none
   |some body=>
    bif Nat.ble args.length fn.ntmps && Nat.ble fn.ntmps 512 then
     match a ((S.pol f).loN lo h.n) body (Rg.frame args fn.ntmps) h with
     |none=>none
     |some (.exit _,_,_)=>none
     |some (_,r,h')=>
      match mH S r.get h'.get fn.results.toList with
      |none=>none
      |some vs=>uJ (S.pol f) h (hB vs) h'
    else none
def gs(S:bh)(HT:FuncId→Option jT):Prop:=∀f,match HT f,S.hook f with
 |none,none=>True
 |some t,some l=>∀lo args h r h',h.Ok→t lo args h=some (r,h')→h'.Ok∧l lo args h.toL=some (r,h'.toL)
 |_,_=>False
variable {HT:FuncId→Option jT}{rl:ic}{rt:kC}
theorem vT(s:gs S HT)(t:pS rt rl):kO (AJ S HT rt) (co S rl):=by
 intro lo f args h r h' d e;unfold AJ at e;unfold co;have u:=s f;split at e
 ·grind
 ·rename_i m;cases hl:S.hook f with
  |some l=>grind
  |none=>
   split at e
   ·cases e
   ·rename_i fn g;simp only[g];split at e
    ·cases e
    ·rename_i body o;simp only[o];cases hcond:(Nat.ble args.length fn.ntmps && Nat.ble fn.ntmps 512)with
     |false=>grind
     |true=>
      rw[hcond]at e;simp at hcond;split at e
      ·cases e
      ·cases e
      ·rename_i x r1 h1 p b;obtain⟨q,j,k⟩:=t _ _ _ _ _ _ _ (wN args fn.ntmps hcond.2) d b;rw[tC args fn.ntmps hcond.2 hcond.1]at k;have c:(S.pol f).loN lo h.n=(S.pol f).lo lo h.toL:=by
        cases S.pol f<;>simp only[Pol.loN,Pol.lo,Hp.length_toL]
       rw[c]at k;simp only[k];rw[pf S q j]at e;cases x with
       |exit i=>grind
       |normal=>
        split at e
        ·cases e
        ·rename_i vs a;simp only[a];exact sG d j e
       |ret=>
        split at e
        ·cases e
        ·rename_i vs a;simp only[a];exact sG d j e
noncomputable def J8(c:kC)(lo:Nat)(a b:Code)(r:Rg)(h:Hp):Option (bT×Rg×Hp):=
 match c lo a r h with
 |some (.normal,d,h')=>c lo b d h'
 |x=>x
noncomputable def FL(S:bh)(c:kC)(lo:Nat)(x:Operand)(a b:Code)(r:Rg)(h:Hp):Option (bT×Rg×Hp):=
 match eK S r x with
 | .bool true=>c lo a r h
 | .bool false=>c lo b r h
 |_=>none
noncomputable def Bu(a:kC)(lo id:Nat)(b:Code)(r:Rg)(h:Hp):Option (bT×Rg×Hp):=
 match a lo b r h with
 |some (.exit i,c,h')=>if i=id then some (.normal,c,h')else some (.exit i,c,h')
 |x=>x
noncomputable def DA(a:kC)(lo:Nat)(b:Code)(r:Rg)(h:Hp):Option (bT×Rg×Hp):=
 match a lo b r h with
 |some (.normal,c,h')=>a lo (.loop b) c h'
 |x=>x
noncomputable def yf(S:bh)(HT:FuncId→Option jT)(a:kC)(lo:Nat)(ops:Array Oper)(b:Bool)(r:Rg)(h:Hp):Option (bT×Rg×Hp):=
 if b then(Fq S (AJ S HT a) lo ops r h).map fun x=>(.normal,x.1,x.2)
 else(Ez S (AJ S HT a) lo ops.toList ops.toList r h).map fun x=>(.normal,x.1,x.2)
noncomputable def G6(S:bh)(HT:FuncId→Option jT)(d:kC):kC:=fun lo c r h=>
 match c with
 | .skip=>some (.normal,r,h)
 | .label _=>some (.normal,r,h)
 | .ret=>some (.ret,r,h)
 | .exit id=>some (.exit id,r,h)
 | .seq a b=>J8 d lo a b r h
 | .cond x a b=>FL S d lo x a b r h
 | .block id b=>Bu d lo id b r h
 | .loop b=>DA d lo b r h
 | .region _ ops e=>yf S HT d lo ops e r h
 |_=>none
theorem GQ(m:gs S HT)(b:pS rt rl):pS (G6 S HT rt) (dT S rl):=by
 intro lo c r h x r' h' d f e;have a:∀{y:bT},some (y,r,h)=some (x,r',h')→r'.Ok∧h'.Ok∧(some (y,r.toL,h.toL):Option (bT×List bc×bd))=some (x,r'.toL,h'.toL):=by
  grind
 unfold G6 at e;unfold dT;split at e
 ·exact a e
 ·exact a e
 ·exact a e
 ·exact a e
 ·unfold J8 at e;split at e
  ·rename_i r1 h1 e1;obtain⟨g,j,k⟩:=b _ _ _ _ _ _ _ d f e1;simp only[k];exact b _ _ _ _ _ _ _ g j e
  ·obtain⟨g,j,k⟩:=b _ _ _ _ _ _ _ d f e;simp_all
 ·unfold FL at e;rw[dW S d]at e;split at e
  ·rename_i l;simp only[l];exact b _ _ _ _ _ _ _ d f e
  ·rename_i l;simp only[l];exact b _ _ _ _ _ _ _ d f e
  ·cases e
 ·unfold Bu at e;split at e
  ·rename_i i r1 h1 e1;obtain⟨g,j,k⟩:=b _ _ _ _ _ _ _ d f e1;grind
  ·obtain⟨g,j,k⟩:=b _ _ _ _ _ _ _ d f e;simp_all
 ·unfold DA at e;split at e
  ·rename_i r1 h1 e1;obtain⟨g,j,k⟩:=b _ _ _ _ _ _ _ d f e1;simp only[k];exact b _ _ _ _ _ _ _ g j e
  ·obtain⟨g,j,k⟩:=b _ _ _ _ _ _ _ d f e;simp_all
 ·unfold yf at e;split at e
  ·rw[qd]at e;obtain⟨⟨r1,h1⟩,e1,e2⟩:=e;obtain⟨g,j,k⟩:=EO (vT m b) d f e1;grind
  ·rw[qd]at e;obtain⟨⟨r1,h1⟩,e1,e2⟩:=e;obtain⟨g,j,k⟩:=vD (vT m b) d f e1;grind
 ·cases e
noncomputable def Ke(S:bh)(HT:FuncId→Option jT)(n:Nat):kC:=Nat.rec (fun _ _ _ _=>none) (fun _ a=>G6 S HT a) n
theorem rD{S:bh}{HT:FuncId→Option jT}(a:gs S HT):∀n,pS (Ke S HT n) (cB S n)
 |0=>fun _ _ _ _ _ _ _ _ _ e=>by cases e
 |n+1=>GQ a (rD a n)
end Go.Am
namespace Go.Am
open Go.RowKit
mutual
def bc.bare:bc→Bool
 | .agg cs=>jO cs
 | .tup cs=>jO cs
 | .iface _ v=>v.bare
 | .fn _ x y=>jO x && jO y
 | .ptr _ _=>false
 | .sl _ _ _ _ _ _=>false
 | .mapr _=>false
 |_=>true
def jO:List bc→Bool
 | []=>true
 |a::as=>a.bare && jO as
end
mutual
theorem uE{c c':Cx}(h:Ext c.pure c'.pure):∀(a:bc) (v:Value),a.bare=true→V c a v→V c' a v
 | .bool b,v,_,d=>by simpa[V]using d
 | .int k n,v,_,d=>by simpa[V]using d
 | .str s,v,_,d=>by simpa[V]using d
 | .agg cs,v,g,d=>by
  obtain⟨vs,e,h1⟩:=d;exact⟨vs,e,ly h cs vs g h1⟩
 | .nilp,v,_,d=>by simpa[V]using d
 | .ptr _ _,_,g,_=>by simp[bc.bare]at g
 | .ipt cs,v,_,d=>by
  obtain⟨B,off,vs,e,l,m,j⟩:=d;exact⟨B,off,vs,e,h.I _ l,At.ext h l m,cg h cs vs j⟩
 | .eptr id cs,v,_,d=>by
  simp only[V]at d ⊢;obtain⟨B,o,vs,z,e1,e,l,m,j,A,C,hc⟩:=d;have q:c'.θ=c.θ:=h.θ;rw[q];exact⟨B,o,vs,z,e1,e,h.I _ l,At.ext h l m,cg h cs vs j,A,C,by rw[show c'.w.heap[B]?=c.w.heap[B]? from h.kept _ l];exact hc⟩
 | .hnd b off,v,_,d=>by simpa[V]using d
 | .nils,v,_,d=>by simpa[V]using d
 | .list sz rows ex,v,_,d=>by
  obtain⟨a,cap,vs,e,hc,D,E,j⟩:=d;exact⟨a,cap,vs,e,hc,D,E.imp_right fun k=>⟨k.1,h.I _ k.2.1,At.ext h k.2.1 k.2.2⟩,kM h sz rows vs j⟩
 | .sl _ _ _ _ _ _,_,g,_=>by simp[bc.bare]at g
 | .nilm,v,_,d=>by simpa[V]using d
 | .mapr _,_,g,_=>by simp[bc.bare]at g
 | .fn f x y,v,g,d=>by
  simp only[bc.bare,qi]at g;obtain⟨vs,p,e,h1,G⟩:=d;exact⟨vs,p,e,ly h x vs g.1 h1,ly h y p g.2 G⟩
 | .nilf,v,_,d=>by simpa[V]using d
 | .iface t a,v,g,d=>by
  obtain⟨u,e,hu⟩:=d;exact⟨u,e,uE h a u g hu⟩
 | .nili,v,_,d=>by simpa[V]using d
 | .tup cs,v,g,d=>by
  obtain⟨vs,e,h1⟩:=d;exact⟨vs,e,ly h cs vs g h1⟩
 | .junk,v,_,_=>by simp[V]
theorem ly{c c':Cx}(h:Ext c.pure c'.pure):∀(as:List bc) (vs:List Value),jO as=true→Vs c as vs→Vs c' as vs
 | [],vs,_,b=>by simpa[Vs]using b
 |a::as,vs,d,b=>by
  simp only[jO,qi]at d;obtain⟨v,f,e,h1,g⟩:=b;exact⟨v,f,e,uE h a v d.1 h1,ly h as f d.2 g⟩
end
variable {H:bd}{c:Cx}
theorem FE(a:Rel c H):Rel c.pure [] where
 blk:=fun b blk h=>by simp at h
 inj:=fun b d blk blk' B base base' h=>by simp at h
 fresh:=fun _ _=>rfl
 lt:=a.lt
theorem tZ(c:Cx):Ext c.pure c.pure.pure:=⟨(fun _ _ h=>by cases h),rfl,fun _ h=>h,fun _ _=>rfl,fun _ _ _ h=>h⟩
variable {S:bh}
theorem BN(a:cV S c):cV S c.pure:=⟨fun g cs b=>uE (tZ c) _ _ rfl (a.v g cs b),a.t⟩
variable {r:bc}
theorem Db(g:Rel c H){c1:Cx}{H1:bd}(d:Tr c.pure [] c1 H1)(l:Rel c1 H1)(lo:Nat){v:Value}(k:r.bare=true)(s:V c1 r v):
 ∃c',c'.w=c1.w∧Rel c' H∧Tr c H c' H∧Low lo c H c' H∧V c' r v:=by
 have a:∀B,B<c.w.heap.size→c1.w.heap[B]?=c.w.heap[B]?:=fun B f=>d.frame B f (fun⟨b,blk,base,h,_⟩=>by simp at h)
 let c':Cx:={ c with w:=c1.w,I:=fun B=>c.I B∨(c.w.heap.size≤B∧c1.I B) }
 have e:Ext c c':=⟨fun _ _ h=>h,rfl,fun _ h=>.inl h,fun B f=>a B (g.lt B f),fun B t n h=>by
  have j:B<c.w.heap.size:=by
   rcases qk B c.w.heap.size with h1|h1
   ·exact h1
   ·simp[World.shape?,Array.getElem?_eq_none h1]at h
  rw[da (w:=c.w) (a B j)];exact h⟩
 refine⟨c',rfl,⟨?_,g.inj,g.fresh, ?_⟩,⟨e,d.size,fun B f _=>a B f,fun B _ h=>h, ?_,d.os,d.tape,d.output⟩,⟨?_,fun _ _ h=>h,qe _⟩, ?_⟩
 ·intro b blk k;obtain⟨B,base,h1,p,m,q⟩:=g.blk b blk k;refine⟨B,base,h1, ?_,qr m d.size,q.ext e (a B m)⟩;grind
 ·rintro B (h|⟨_,h⟩)
  ·exact qr (g.lt B h) d.size
  ·exact l.lt B h
 ·grind
 ·intro b blk _ o;obtain⟨u,base',h1,_,p,_⟩:=g.blk b blk o;grind
 ·refine uE (c:=c1) (c':=c') ⟨(fun _ _ h=>by cases h),d.ext.θ.symm, ?_,fun _ _=>rfl,fun _ _ _ h=>h⟩ r v k s
  intro B f;rcases qk B c.w.heap.size with h|h
  ·rcases d.imm B h f with h1|⟨b,blk,base,h1,_⟩
   ·exact .inl h1
   ·simp at h1
  ·exact .inr ⟨h,f⟩
theorem CY{f:FuncId}{av:List bc}(p:jO av=true)(q:r.bare=true)
 (h:∀c vs,Rel c []→cV S c→Vs c av vs→∃H1,Calls S.P f vs.toArray c.w (fk 0 c [] r H1)):
 ∀lo c H vs,Rel c H→cV S c→Vs c av vs→Calls S.P f vs.toArray c.w (fk lo c H r H):=by
 intro lo c H vs a b d;obtain⟨H1,h1⟩:=h c.pure vs (FE a) (BN b) (ly (tZ c) _ _ p d);refine h1.mono fun e w' o=>?_
 obtain⟨v,s,rfl,rfl,g1,g,_,j⟩:=o;obtain⟨c',e1,k,l,m,n⟩:=Db a g g1 lo q j;exact⟨v,c',rfl,e1,k,l,m,n⟩
end Go.Am
namespace Go.Am
open Go.RowKit
def Cx.behind(c:Cx)(w':World)(N:Nat→Prop):Cx:={ c with w:=w',I:=fun B=>c.I B∨N B }
variable {H:bd}{c:Cx}
theorem Rel.behind(e:Rel c H){w':World}(a:Below c.w.heap.size c.w w')(lo:Nat)(N:Nat→Prop)(u:∀B,N B→c.w.heap.size≤B∧B<w'.heap.size):
 Rel (c.behind w' N) H∧Tr c H (c.behind w' N) H∧Low lo c H (c.behind w' N) H:=by
 have d:Ext c (c.behind w' N):=by
  refine⟨fun _ _ h=>h,rfl,fun B h=>.inl h,fun B h=>a.block B (e.lt B h),fun B t n o=>?_⟩
  have m:B<c.w.heap.size:=by
   rcases qk B c.w.heap.size with h1|h1
   ·exact h1
   ·simp[World.shape?,Array.getElem?_eq_none h1]at o
  show w'.shape? B=some (t,n);rw[da (w:=c.w) (a.block B m)];exact o
 refine⟨⟨fun b blk j=>?_,e.inj,e.fresh,fun B k=>?_⟩,⟨d,a.size,fun B k _=>a.block B k,fun B _ h=>h,fun B k h=>?_,a.os,a.tape,a.output⟩,⟨fun b blk _ j=>⟨j,fun B base s=>?_⟩,fun b _ h=>h,qe _⟩⟩
 ·obtain⟨B,base,h1,v,g,q⟩:=e.blk b blk j;refine⟨B,base,h1, ?_,qr g a.size,q.ext d (a.block B g)⟩;rintro(p|p)
  all_goals grind
 ·rcases k with h|h
  ·exact qr (e.lt B h) a.size
  ·exact(u B h).2
 ·rcases h with h|h
  all_goals grind
 ·obtain⟨x,base',h1,_,g,_⟩:=e.blk b blk j;rw[s]at h1;cases h1;exact a.block B g
variable {f:FuncId}{lo:Nat}{r:bc}
theorem JK{P:Program}{vs:Array Value}(k:Rel c H)
 (h:Calls P f vs c.w fun e w'=>∃u N,e= .returned u∧Below c.w.heap.size c.w w'∧(∀B,N B→c.w.heap.size≤B∧B<w'.heap.size)∧V (c.behind w' N) r u):Calls P f vs c.w (fk lo c H r H):=by
 refine h.mono ?_;rintro e w' ⟨u,N,rfl,a,b,d⟩;obtain⟨h1,g,j⟩:=k.behind a lo N b;exact⟨u,_,rfl,rfl,h1,g,j,d⟩
open Go.Lib in
mutual
def Fe:bc→bc→Bool
 | .str a,.str b=>a==b
 | .int k a,.int j b=>k==j && a==b
 | .bool a,.bool b=>a==b
 | .agg a,.agg b=>iM a b
 | .ipt a,.ipt b=>iM a b
 | .tup a,.tup b=>iM a b
 | .list n a x,.list m b y=>Nat.beq n m && x==y && lf a b
 | .nils,.nils=>true
 | .nilp,.nilp=>true
 | .nili,.nili=>true
 |_,_=>false
def iM:List bc→List bc→Bool
 | [],[]=>true
 |a::as,b::d=>Fe a b && iM as d
 |_,_=>false
def lf:List (List bc)→List (List bc)→Bool
 | [],[]=>true
 |a::as,b::d=>iM a b && lf as d
 |_,_=>false
end
mutual
theorem DE:∀{a b:bc},Fe a b=true→a=b
 |a,b,h=>by
  unfold Fe at h;split at h
  ·grind
  ·grind
  ·grind
  ·rw[gF h]
  ·rw[gF h]
  ·rw[gF h]
  ·rw[qi,qi,beq_iff_eq]at h;rw[Nat.eq_of_beq_eq_true h.1.1,h.1.2,sh h.2]
  all_goals grind
theorem gF:∀{a b:List bc},iM a b=true→a=b
 | [],[],_=>rfl
 |a::as,b::d,h=>by
  simp only[iM,qi]at h;rw[DE h.1,gF h.2]
 | [],_::_,h=>by simp[iM]at h
 |_::_,[],h=>by simp[iM]at h
theorem sh:∀{a b:List (List bc)},lf a b=true→a=b
 | [],[],_=>rfl
 |a::as,b::d,h=>by
  simp only[lf,qi]at h;rw[gF h.1,sh h.2]
 | [],_::_,h=>by simp[lf]at h
 |_::_,[],h=>by simp[lf]at h
end
abbrev sU:=List (FuncId×List bc×bc)
def mm(l:sU)(f:FuncId):Nat→List bc→bd→Option (bc×bd):=
 fun _ args H=>(l.find? fun x=>x.1==f && iM x.2.1 args).map fun x=>(x.2.2,H)
def pV(l:sU)(f:FuncId):Option (Nat→List bc→bd→Option (bc×bd)):=if l.any fun x=>x.1==f then some (mm l f)else none
variable {l:sU}
theorem tV{args:List bc}{H':bd}(h:mm l f lo args H=some (r,H')):(f,args,r)∈l∧H'=H:=by
 unfold mm at h;rw[qd]at h;obtain⟨x,d,e⟩:=h;have a:=List.find?_some d;simp at a;obtain⟨rfl,b⟩:=a;have b:=gF b;grind
theorem yX{a:Nat→List bc→bd→Option (bc×bd)}(h:pV l f=some a):a=mm l f:=by
 unfold pV at h;grind
theorem zE(lo:Nat)(args:List bc)(H:bd)(r:bc)(H':bd)(h:mm l f lo args H=some (r,H')):H.length≤H'.length∧∀b,b<lo→b<H.length→H'[b]?=H[b]?:=by
 rw[(tV h).2];grind
end Go.Am
namespace Go.Am
open Go.RowKit
def xu(τ:List Nat)(b:Nat):Option Nat:=τ.idxOf? b
def nrm(c:Nat→Option (Option cb))(τ:List Nat):Bool→Nat→bc→Option bc
 |_,0,_=>none
 |top,k+1,a=>
  match a with
  | .agg cs=>(gm (nrm c τ top k) cs).map .agg
  | .tup cs=>(gm (nrm c τ top k) cs).map .tup
  | .iface t v=>(nrm c τ top k v).map (.iface t)
  | .fn f x y=>match gm (nrm c τ top k) x,gm (nrm c τ top k) y with
   |some e,some g=>some (.fn f e g)
   |_,_=>none
  | .ptr b off=>
   match xu τ b with
   |some d=>if top then some (.ptr d off)else none
   |none=>match c b with
    |some (some (.cells cs))=>(gm (nrm c τ false k) (cs.drop off)).map .ipt
    |_=>none
  | .sl sz b off len cap ex=>
   match xu τ b with
   |some d=>if top then some (.sl sz d off len cap ex)else none
   |none=>match c b with
    |some (some (.cells cs))=>
     if off+len*sz≤cs.length then(lR (nrm c τ false k) (cq sz len (cs.drop off))).map fun rows=>.list sz rows (ex && cap==len)else none
    |_=>none
  | .mapr b=>match xu τ b with
   |some d=>if top then some (.mapr d)else none
   |none=>none
  |a=>some a
def yh(f:bc→Option bc):List (bc×bc)→Option (List (bc×bc))
 | []=>some []
 |(k,v)::es=>match f k,f v with
  |some a,some c=>(yh f es).map ((a,c):: ·)
  |_,_=>none
def gW(c:Nat→Option (Option cb))(τ:List Nat):Option cb→Option (Option cb)
 |none=>some none
 |some (.cells cs)=>(gm (nrm c τ true 64) cs).map fun cs=>some (.cells cs)
 |some (.mp es)=>(yh (nrm c τ true 64) es).map fun es=>some (.mp es)
 |some (.it s a)=>some (some (.it s a))
 |some (.mi ..)=>none
def CT(a:Nat→Option (Option cb))(τ:List Nat):List Nat→Option bd
 | []=>some []
 |b::c=>match gW a τ ((a b).getD none),CT a τ c with
  |some x,some xs=>some (x::xs)
  |_,_=>none
def j3(c:Cx)(H:bd)(τ:List Nat)(top:Bool):Cx:=
 { c with
  ι:=fun j=>if top then(τ[j]?).bind c.ι else none
  I:=fun B=>c.I B∨∃b blk base,b∉τ∧H[b]?=some (some blk)∧c.ι b=some (B,base) }
theorem C0(c:Cx)(H:bd)(τ:List Nat)(top:Bool):(j3 c H τ top).pure=j3 c H τ false:=by
 simp[j3,Cx.pure]
theorem mU(c:Cx)(H:bd)(τ:List Nat)(top:Bool):Ext c.pure (j3 c H τ top).pure:=
 ⟨(fun _ _ h=>by cases h),rfl,(fun _ h=>.inl h),fun _ _=>rfl,fun _ _ _ h=>h⟩
variable {b:Nat}{τ:List Nat}
theorem Ch{j:Nat}(h:xu τ b=some j):τ[j]?=some b:=by
 unfold xu at h;rw[List.idxOf?_eq_some_iff]at h;grind
theorem tx(h:xu τ b=none):b∉τ:=by
 unfold xu at h
 grind
theorem kR{c:Cx}{H:bd}(z:Rel c H)(τ:List Nat):∀(k:Nat) (top:Bool) (a:bc) {b:bc},nrm (fun b=>H[b]?) τ top k a=some b→∀v,V c a v→V (j3 c H τ top) b v
 |0,_,_,_,h,_,_=>by cases h
 |k+1,top,a,b,h,v,e=>by
  have w:=fun a b h v e=>kR z τ k top a (b:=b) h v e
  have q:=fun a b h v e=>kR z τ k false a (b:=b) h v e
  have A:j3 c H τ false=(j3 c H τ top).pure:=(C0 c H τ top).symm;have old:∀x j B base,xu τ x=some j→top=true→c.ι x=some (B,base)→(j3 c H τ top).ι j=some (B,base):=by
   intro x j B base h1 g l;subst g;simp only[j3];rw[Ch h1];exact l
  unfold nrm at h;cases a<;>simp only at h
  case agg cs=>
   rw[qd]at h;obtain⟨G,h1,rfl⟩:=h;obtain⟨vs,rfl,g⟩:=e;exact⟨vs,rfl,dg w cs h1 vs g⟩
  case tup cs=>
   rw[qd]at h;obtain⟨G,h1,rfl⟩:=h;obtain⟨vs,rfl,g⟩:=e;exact⟨vs,rfl,dg w cs h1 vs g⟩
  case iface t x=>
   rw[qd]at h;obtain⟨y,h1,rfl⟩:=h;simp only[V]at e ⊢;grind
  case fn f x y=>
   split at h
   ·rename_i x' y' h1 g;simp at h;subst h;obtain⟨vs,L,rfl,l,Q⟩:=e;exact⟨vs,L,rfl,dg w x h1 vs l,dg w y g L Q⟩
   ·cases h
  case ptr x off=>
   obtain⟨B,base,p,rfl⟩:=e;split at h
   ·split at h
    ·simp at h;subst h;simp only[V];grind
    ·cases h
   ·rename_i s;split at h
    ·rename_i cs u;rw[qd]at h;obtain⟨G,h1,rfl⟩:=h;obtain⟨R,m,l,_,_,_,_,vs,n,d⟩:=z.blk x _ u;rw[p]at l;obtain⟨rfl,rfl⟩:=l;exact⟨B,base+off,vs.drop off,rfl,.inr ⟨x,_,base,tx s,u,p⟩,dF off n,dg q _ h1 _ (di off d)⟩
    ·cases h
  case sl sz x off len cap ex=>
   obtain⟨B,base,J,o,p,rfl,M,g1,U,W,X⟩:=e;split at h
   ·rename_i j s;split at h
    ·rename_i P;simp at h;subst h;exact⟨B,base,J,o,old x j B base s P p,rfl,M,g1,U,W,X⟩
    ·cases h
   ·rename_i s;split at h
    ·rename_i cs u;split at h
     ·rw[qd]at h;obtain⟨G,h1,rfl⟩:=h;obtain⟨R,m,l,_,_,_,_,vs,n,d⟩:=z.blk x _ u;rw[p]at l;obtain⟨rfl,rfl⟩:=l;have C:=fK (sz:=sz) len (di off d) (by simp;omega)
      obtain⟨N,Y⟩:=oJ q sz _ h1;rw[cY]at N;have D:(j3 c H τ top).I B:=.inr ⟨x,_,base,tx s,u,p⟩;simp only[V,N]
      by_cases O:0<J
      ·have E:=M O;subst E;refine⟨⟨B,base+off,none⟩,J,_,rfl,by omega, ?_,.inr ⟨rfl,D,gz _ (dF off n)⟩,Y _ C⟩
       grind
      grind
     ·cases h
    ·cases h
  case mapr x=>
   split at h
   ·split at h
    ·simp at h;subst h;simp only[V]at e ⊢;grind
    ·cases h
   ·cases h
  case ipt cs=>
   simp at h;subst h;obtain⟨B,off,vs,rfl,K,n,d⟩:=e;exact⟨B,off,vs,rfl,.inl K,n,cg (mU c H τ _) _ _ d⟩
  case eptr id cs=>
   simp at h;subst h;obtain⟨B,o,vs,Z,e1,rfl,K,n,d,hc⟩:=e;exact⟨B,o,vs,Z,e1,rfl,.inl K,n,cg (mU c H τ _) _ _ d,hc⟩
  case list sz rows ex=>
   simp at h;subst h;obtain⟨a,cap,vs,rfl,h1,g,hm,d⟩:=e;exact⟨a,cap,vs,rfl,h1,g,hm.imp_right fun h=>⟨h.1,.inl h.2.1,h.2.2⟩,kM (mU c H τ _) _ _ _ d⟩
  all_goals (simp only[qa]at h;subst h)
  all_goals (simp only[V]at e ⊢)
  all_goals grind
theorem tR{f:bc→Option bc}{c c':Cx}(e:∀a b,f a=some b→∀v,V c a v→V c' b v):∀(es:List (bc×bc)) {fs:List (bc×bc)},yh f es=some fs→∀ms,Es c es ms→Es c' fs ms
 | [],fs,h,ms,g=>by
  simp only[yh,qa]at h;subst h
  simpa[Es]using g
 |(k,v)::es,fs,h,ms,g=>by
  simp only[yh]at h;split at h
  ·rename_i j l n d;rw[qd]at h;obtain⟨s,h1,rfl⟩:=h;obtain⟨m,ns,rfl,o,p,q⟩:=g;exact⟨m,ns,rfl,e k j n _ o,e v l d _ p,tR e es h1 ns q⟩
  ·cases h
theorem si{H:bd}{τ:List Nat}:∀{l:List Nat} {H1:bd},CT (fun b=>H[b]?) τ l=some H1→H1.length=l.length∧∀(j:Nat) (x:Option cb),H1[j]?=some x→∃b:Nat,l[j]?=some b∧gW (fun b=>H[b]?) τ (H[b]?.getD none)=some x
 | [],H1,h=>by
  simp only[CT]at h;grind
 |b::e,H1,h=>by
  simp only[CT]at h;split at h
  ·rename_i x xs h1 a;simp at h;obtain⟨c,d⟩:=si a;grind
  ·cases h
variable {H:bd}
theorem AX{c:Cx}(l:Rel c H)(U:τ.Nodup){H1:bd}(h:CT (fun b=>H[b]?) τ τ=some H1):Rel (j3 c H τ true) H1:=by
 obtain⟨L,bF⟩:=si h;have f:∀(j:Nat) (d:cb),H1[j]?=some (some d)→∃(b:Nat) (blk:cb),τ[j]?=some b∧H[b]?=some (some blk)∧gW (fun b=>H[b]?) τ (some blk)=some (some d):=by
  intro j d k;obtain⟨b,h1,g⟩:=bF j _ k;cases hb:H[b]? with
  |none=>
   rw[hb]at g;simp[gW]at g
  |some x=>
   rw[hb]at g;cases x with
   |none=>simp[gW]at g
   |some blk=>grind
 have J:∀(j b:Nat),τ[j]?=some b→(j3 c H τ true).ι j=c.ι b:=by
  intro j b k;simp[j3,k]
 refine⟨?_, ?_, ?_, ?_⟩
 ·intro j d k;obtain⟨b,blk,h1,g,e⟩:=f j d k;obtain⟨B,base,n,O,P,C⟩:=l.blk b blk g;refine⟨B,base,by grind, ?_,P, ?_⟩
  ·rintro(M|⟨w,blk',base',X,z,A⟩)
   ·exact O M
   ·have:=l.inj b w blk blk' B base base' g z n A;grind
  ·cases blk with
   |cells cs=>
    simp only[gW,qd]at e;obtain⟨D,y,o⟩:=e;simp at o;subst o;obtain⟨g1,p,vs,E,q⟩:=C;have hl:D.length=cs.length:=by
     have e1:=bH q;have e2:=bH (dg (fun a b h v u=>kR l τ 64 true a h v u) cs y vs q)
     omega
    exact⟨g1,by rw[hl];exact p,vs,E,dg (fun a b h v u=>kR l τ 64 true a h v u) cs y vs q⟩
   |mp es=>
    simp only[gW,qd]at e;obtain⟨Q,y,o⟩:=e;simp at o;subst o;obtain⟨g1,ms,m,p,E,q⟩:=C;exact⟨g1,ms,m,p,tR (fun a b h v u=>kR l τ 64 true a h v u) es y _ E,q⟩
   |it s W=>
    simp only[gW,qa]at e;subst e;exact C
   |mi b I seen last=>simp[gW]at e
 ·intro j K blk blk' B base base' h1 g e n;obtain⟨b,x,g1,p,_⟩:=f j blk h1;obtain⟨w,R,t,G,_⟩:=f K blk' g;rw[J j b g1]at e;rw[J K w t]at n;have:=l.inj b w x R B base base' p G e n;subst this;have k:j<τ.length:=by
   grind
  exact(List.getElem?_inj k U).1 (g1.trans t.symm)
 ·intro j k;have:τ[j]?=none:=List.getElem?_eq_none (by omega)
  simp[j3,this]
 ·rintro B (N|⟨b,blk,base,_,h1,g⟩)
  ·exact l.lt B N
  ·obtain⟨Y,base',e,_,n,_⟩:=l.blk b blk h1;rw[g]at e;obtain⟨rfl,rfl⟩:=e;exact n
def vj(c:List Nat):Nat→List bc→List bc
 |_,[]=>[]
 |i,a::ρ=>(if c.contains i then a else .junk)::vj c (i+1) ρ
theorem pj{c:Cx}{d:List Nat}:∀{ρ:List bc} {i:Nat} {vs:List Value},Vs c ρ vs→Vs c (vj d i ρ) vs
 | [],_,_,h=>h
 |a::ρ,i,vs,h=>by
  obtain⟨v,e,rfl,h1,f⟩:=h;refine⟨v,e,rfl, ?_,pj f⟩;split
  ·exact h1
  ·simp[V]
def norm(a τ:List Nat)(ρ:List bc)(c:Nat→Option (Option cb)):Option (List bc×bd):=
 if τ.Nodup then
  match gm (nrm c τ true 64) (vj a 0 ρ),CT c τ τ with
  |some d,some H'=>some (d,H')
  |_,_=>none
 else none
structure Ent.Bare(E:Ent):Prop where
 H:E.H=[]
 lo:E.lo=0
 ι:∀b,E.c.ι b=none
theorem t1{S:bh}{E:Ent}(hE:E.Bare){m:List Nat}{ρ:List bc}{M:List bc}{H':bd}(h:norm m τ ρ (fun b=>H[b]?)=some (M,H')):gP S E ρ H M H':=by
 rintro tmps w ⟨c,rfl,s,u,d,W,y⟩;unfold norm at h;split at h
 ·rename_i C;split at h
  ·rename_i X H1 h1 z;obtain⟨rfl,rfl⟩:=h;have N:∀(b:Nat) (blk:cb),E.H[b]?≠some (some blk):=by
    intro b blk e;rw[hE.H]at e;simp at e
   have l:Ext E.c (j3 c H τ true):=⟨(fun b x K=>by rw[hE.ι b]at K;cases K),d.ext.θ,fun B f=>.inl (d.ext.I B f),d.ext.kept,d.ext.shape⟩
   refine⟨j3 c H τ true,rfl,AX s C z, ?_,⟨l,d.size,d.frame, ?_, ?_,d.os,d.tape,d.output⟩,⟨?_, ?_, ?_⟩, ?_⟩
   ·refine⟨fun g cs U=>?_,fun p L=>⟨.inl (u.t p L).1,(u.t p L).2⟩⟩
    have O:=u.v g cs U;obtain⟨B,off,vs,e,P,Q,A⟩:=O;exact⟨B,off,vs,e,.inl P,Q,cg (mU c H τ true) _ _ A⟩
   ·rintro B f ⟨j,blk,base,D,o⟩;obtain⟨Y,base',g1,G,Z,_⟩:=(AX s C z).blk j blk D;rw[o]at g1;obtain⟨J,bF⟩:=si z;obtain⟨b,R,q⟩:=bF j _ D;cases k:H[b]? with
    |none=>rw[k]at q;simp[gW]at q
    |some x=>
     cases x with
     |none=>rw[k]at q;simp[gW]at q
     |some n=>
      have:c.ι b=some (B,base):=by simpa[j3,R]using o
      exact d.img B f ⟨b,n,base,k,this⟩
   ·rintro B f (o|⟨b,blk,base,_,g1,G⟩)
    ·exact d.imm B f o
    ·exact .inr (d.img B f ⟨b,blk,base,g1,G⟩)
   ·grind
   ·intro b k;rw[hE.H]at k;simp at k
   ·rw[hE.H];simp
   ·exact dg (fun a b h v y=>kR s τ 64 true a h v y) _ h1 _ (pj y)
  ·cases h
 ·cases h
end Go.Am
namespace Go.Am
open Go.RowKit
noncomputable def Hp.ofL:bd→Hp→Option Hp
 | [],h=>some h
 |x::xs,h=>(h.push x).bind (Hp.ofL xs)
theorem Hp.ofL_ok:∀(H:bd) {h h':Hp},h.Ok→Hp.ofL H h=some h'→h'.Ok∧h'.toL=h.toL++H
 | [],h,h',a,e=>by
  simp only[Hp.ofL]at e;grind
 |x::xs,h,h',a,e=>by
  simp only[Hp.ofL,Option.bind_eq_some_iff]at e;obtain⟨h1,e1,e2⟩:=e;obtain⟨b,c⟩:=Hp.push_ok a e1;obtain⟨d,f⟩:=Hp.ofL_ok xs b e2;grind
noncomputable def pL(S:bh)(HT:FuncId→Option jT)(N:Nat):List Code→Rg→Hp→Option (bT×Rg×Hp)
 | [],r,h=>some (.normal,r,h)
 |c::l,r,h=>match Ke S HT N 0 c r h with
  |some (.normal,a,b)=>pL S HT N l a b
  |x=>x
theorem rp{S:bh}{HT:FuncId→Option jT}(d:gs S HT)(N:Nat):∀(l:List Code) {r:Rg} {h:Hp} {x:bT} {r':Rg} {h':Hp},r.Ok→h.Ok→pL S HT N l r h=some (x,r',h')→
 r'.Ok∧h'.Ok∧gp S N 0 l r.toL h.toL=some (x,r'.toL,h'.toL)
 | [],r,h,x,r',h',a,b,e=>by
  obtain⟨rfl,rfl,rfl⟩:=e;exact⟨a,b,rfl⟩
 |c::l,r,h,x,r',h',a,b,e=>by
  simp only[pL]at e;split at e
  ·rename_i r1 h1 e1;obtain⟨f,g,j⟩:=rD d N _ _ _ _ _ _ _ a b e1;obtain⟨g1,k,m⟩:=rp d N l f g e;exact⟨g1,k,by simp only[gp,j,m]⟩
  ·obtain⟨f,g,j⟩:=rD d N _ _ _ _ _ _ _ a b e;simp only[gp];simp_all
abbrev StA:=List bc×bd
noncomputable def jB(S:bh)(HT:FuncId→Option jT)(N:Nat)(l:List Code)(live τ:List Nat)(st:StA):Option (bT×StA):=
 bif Nat.ble st.1.length 512 then
  (Hp.ofL st.2 Hp.empty).bind fun h=>(pL S HT N l (Rg.frame st.1 st.1.length) h).bind fun y=>(norm live τ y.2.1.toL y.2.2.get).map fun z=>(y.1,z)
 else none
variable {HT:FuncId→Option jT}{N:Nat}{S:bh}{l:List Code}{live:List Nat}{st st':StA}{x:bT}{τ:List Nat}
theorem oH(j:gs S HT)(e:jB S HT N l live τ st=some (x,st')):
 ∃b H',gp S N 0 l st.1 st.2=some (x,b,H')∧∀E:Ent,E.Bare→gP S E b H' st'.1 st'.2:=by
 unfold jB at e;cases hc:Nat.ble st.1.length 512 with
 |false=>grind
 |true=>
  rw[hc]at e;simp only[cond_true,Option.bind_eq_some_iff,qd]at e;obtain⟨h,e1,⟨k,m,n⟩,e2,⟨o,H1⟩,e3,e4⟩:=e;obtain⟨rfl,rfl⟩:=e4;obtain⟨c,d⟩:=Hp.ofL_ok _ Hp.empty_ok e1;obtain⟨g1,f,a⟩:=rp j N l (wN st.1 st.1.length (Nat.le_of_ble_eq_true hc)) c e2;rw[tC _ _ (Nat.le_of_ble_eq_true hc) (qe _),Nat.sub_self,List.replicate_zero,List.append_nil,d,Hp.empty_toL,List.nil_append]at a;rw[eO f]at e3;exact⟨_,_,a,fun E g=>t1 g e3⟩
def uW(S:bh)(N:Nat)(l:List Code)(live τ:List Nat)(st:StA):Option (bT×StA):=
 (gp S N 0 l st.1 st.2).bind fun y=>(norm live τ y.2.1 (fun b=>y.2.2[b]?)).map fun z=>(y.1,z)
theorem CI(e:uW S N l live τ st=some (x,st')):
 ∃a H',gp S N 0 l st.1 st.2=some (x,a,H')∧∀E:Ent,E.Bare→gP S E a H' st'.1 st'.2:=by
 unfold uW at e;simp only[Option.bind_eq_some_iff,qd]at e;obtain⟨⟨c,a,H'⟩,e2,⟨d,H1⟩,e3,e4⟩:=e;obtain⟨rfl,rfl⟩:=e4;exact⟨_,_,e2,fun E b=>t1 b e3⟩
theorem WpL.run{S:bh}(b:dH S){E:Ent}{N:Nat}{l2:List Code}{Q:sO}:∀(l:List Code) {ρ:List bc} {H:bd} {x:bT} {a:List bc} {H':bd},gp S N E.lo l ρ H=some (x,a,H')→
 (x= .normal∧WpL S E l2 a H' Q)∨(x≠ .normal∧Q x a H')→WpL S E (l++l2) ρ H Q
 | [],ρ,H,x,a,H',e,h=>by
  simp only[gp,Prod.mk.injEq]at e;grind
 |c::l,ρ,H,x,a,H',e,h=>by
  simp only[gp]at e;split at e
  ·rename_i f H1 e1;exact Wp.run b ⟨N,e1⟩ (.inl ⟨rfl,WpL.run b l e h⟩)
  ·cases x with
   |normal=>grind
   |exit i=>
    rcases h with⟨h,_⟩|⟨h,d⟩
    ·cases h
    ·exact Wp.run b ⟨N,e⟩ (.inr ⟨h,d⟩)
   |ret=>
    rcases h with⟨h,_⟩|⟨h,d⟩
    ·cases h
    ·exact Wp.run b ⟨N,e⟩ (.inr ⟨h,d⟩)
variable {E:Ent}{Q:sO}
theorem WpL.round(c:dH S)(d:gs S HT)(a:E.Bare){l2:List Code}
 (e:jB S HT N l live τ st=some (.normal,st')) (h:WpL S E l2 st'.1 st'.2 Q):WpL S E (l++l2) st.1 st.2 Q:=by
 obtain⟨f,H',h1,b⟩:=oH d e;rw[← a.lo]at h1;exact WpL.run c l h1 (.inl ⟨rfl,WpL.weak (b E a) h⟩)
theorem WpL.last(d:dH S)(b:E.Bare)
 (e:uW S N l live τ st=some (.ret,st')) (h:Q .ret st'.1 st'.2):WpL S E l st.1 st.2 (fun x ρ H=>∃a H1,gP S E ρ H a H1∧Q x a H1):=by
 obtain⟨f,H',h1,c⟩:=CI e;rw[← b.lo]at h1;have:=WpL.run (l2:=[]) (Q:=fun x ρ H=>∃a H1,gP S E ρ H a H1∧Q x a H1) d l h1 (.inr ⟨by simp,_,_,c E b,h⟩)
 grind
theorem Wp.rounds(g:dH S)(j:gs S HT)(d:E.Bare){p:Code}{τs:Nat→List Nat}{st:Nat→StA}{n:Nat}{i:Nat}{stE:StA}
 (h:∀k,k<n→jB S HT N [p] live (τs k) (st k)=some (.normal,st (k+1))) {a q:List Nat} (s:jB S HT N [p] a q (st n)=some (.exit i,stE))
 (t:∀ρ H,gP S E ρ H stE.1 stE.2→Q (.exit i) ρ H):Wp S E (.loop p) (st 0).1 (st 0).2 Q:=by
 refine Wp.loop (σ:=Nat) (I:=fun k=>k≤n) (ρs:=fun k=>(st k).1) (Hs:=fun k=>(st k).2) (m:=fun k=>n-k) ?_ (Nat.zero_le n)
 intro k u;have one:∀{ρ:List bc} {H:bd} {x:bT} {b:List bc} {H':bd},gp S N 0 [p] ρ H=some (x,b,H')→cB S N 0 p ρ H=some (x,b,H'):=by
  intro ρ H x b H' e;simp only[gp]at e;grind
 rcases qk k n with c|o
 ·obtain⟨b,H',h1,f⟩:=oH j (h k c);exact Wp.run g ⟨N,by rw[d.lo];exact one h1⟩ (.inl ⟨rfl,k+1,c,by omega,f E d⟩)
 ·obtain rfl:k=n:=by omega
  obtain⟨b,H',h1,f⟩:=oH j s;exact Wp.run g ⟨N,by rw[d.lo];exact one h1⟩ (.inr ⟨by simp,t _ _ (f E d)⟩)
theorem Ix{c:Cx}(a:Rel c []):(Ent.mk 0 c []).Bare:=⟨rfl,rfl,fun b=>a.fresh b (Nat.zero_le _)⟩
end Go.Am
namespace Go.Am
open Go.RowKit
def intsOf:List (List bc)→Option (List Int)
 | []=>some []
 | [.int .i64 n]::r=>(intsOf r).map (n:: ·)
 |_=>none
def iA(f:bc→Option (List Int)):List (List bc)→Option (List (List Int))
 | []=>some []
 | [v]::r=>match f v,iA f r with
  |some l,some ls=>some (l::ls)
  |_,_=>none
 |_=>none
def rj(a:ia):bc→Option (List (List bc))
 | .str _=>none
 |x=>qF a 1 x
def q8(a:ia)(x:bc):Option (List Int):=(rj a x).bind intsOf
def uP(a:ia)(x:bc):Option (List (List Int)):=(rj a x).bind (iA (q8 a))
def IntsAt(w:World)(v:Value)(l:List Int):Prop:=
 ∃a cap,v= .slice a l.length cap∧(l≠[]→∃B o,a=some ⟨B,o,none⟩∧B<w.heap.size∧At w B o (l.map (Value.int .i64)))
def iz(w:World)(v:Value)(ls:List (List Int)):Prop:=
 ∃b cap,v= .slice b ls.length cap∧(ls≠[]→∃B o a,b=some ⟨B,o,none⟩∧B<w.heap.size∧At w B o a∧a.length=ls.length∧∀(j:Nat) u l,a[j]?=some u→ls[j]?=some l→IntsAt w u l)
variable {w w':World}
theorem At.below(b:Below w.heap.size w w'){B o:Nat}{a:List Value}(d:B<w.heap.size)(h:At w B o a):At w' B o a:=h.of_block (b.block B d)
variable {l:List Int}{v:Value}
theorem IntsAt.below(b:Below w.heap.size w w')(h:IntsAt w v l):IntsAt w' v l:=by
 obtain⟨d,cap,e,h⟩:=h;refine⟨d,cap,e,fun hl=>?_⟩
 obtain⟨B,o,h1,a,f⟩:=h hl;exact⟨B,o,h1,qr a b.size,f.below b a⟩
variable {ls:List (List Int)}
theorem iz.below(a:Below w.heap.size w w')(h:iz w v ls):iz w' v ls:=by
 obtain⟨d,cap,e,h⟩:=h;refine⟨d,cap,e,fun hl=>?_⟩
 obtain⟨B,o,f,h1,b,g,k,m⟩:=h hl;exact⟨B,o,f,h1,qr b a.size,g.below a b,k,fun j u l hu hl=>(m j u l hu hl).below a⟩
theorem ud{c:Cx}:∀{rows:List (List bc)} {l:List Int} {b:List Value},intsOf rows=some l→Vs c rows.flatten b→b=l.map (Value.int .i64)∧rows.length=l.length
 | [],l,b,h,a=>by
  simp only[intsOf]at h;simp only[List.flatten_nil,Vs]at a;grind
 |r::rows,l,b,h,a=>by
  unfold intsOf at h;split at h
  ·grind
  ·rename_i n f e;obtain⟨rfl,rfl⟩:=e;rw[qd]at h;obtain⟨g,h1,rfl⟩:=h;obtain⟨v,d,rfl,rfl,a⟩:=a;obtain⟨e1,e2⟩:=ud h1 a;grind
  ·cases h
variable {H:bd}{c:Cx}{x:bc}
theorem vS(u:Rel c H){rows:List (List bc)}(h:rj (fun b=>H[b]?) x=some rows)(j:V c x v):
 ∃t cap,v= .slice t rows.length cap∧(rows≠[]→∃B o g,t=some ⟨B,o,none⟩∧B<c.w.heap.size∧At c.w B o g∧Vs c rows.flatten g∧g.length=rows.length):=by
 cases x with
 |str s=>cases h
 |nils=>
  simp only[rj,qF]at h;simp only[V]at j;grind
 |list sz L ex=>
  simp only[rj,qF]at h;split at h
  ·rename_i n;subst n;simp at h;subst h;obtain⟨a,cap,vs,rfl,_,_,p,d⟩:=j;refine⟨some a,cap,rfl,fun e=>?_⟩
   rcases p with p|⟨h1,q,K⟩
   ·grind
   ·obtain⟨A,C,D⟩:=a;subst h1;have hl:=fI d;exact⟨A,C,vs,rfl,u.lt _ q,K,cg (Ext.of_pure c) _ _ (mY d),by omega⟩
  ·cases h
 |sl sz b off len cap ex=>
  simp only[rj,qF]at h;split at h
  ·rename_i n;split at h
   ·rename_i cs z;split at h
    ·simp at h;subst h;obtain⟨B,base,k,o,E,rfl,G,h1,q,_,_⟩:=j;rw[cY];refine⟨_,k,rfl,fun e=>?_⟩
     have m:0<len:=by
      rcases Nat.eq_zero_or_pos len with h|h
      ·subst h;exact absurd rfl e
      ·exact h
     obtain rfl:=G (by omega)
     obtain⟨M,base',g1,_,I,_,_,vs,J,d⟩:=u.blk b _ z;rw[E]at g1;obtain⟨rfl,rfl⟩:=g1;have hl:=bH d;have f:=fK (sz:=1) len (di off d) (by simp;omega)
     have y:=mY f;refine⟨B,_,_,rfl,I,gz _ (dF off J),y, ?_⟩;grind
    ·cases h
   ·cases h
  ·cases h
 |_=>simp[rj,qF]at h
theorem mM(m:Rel c H)(h:q8 (fun b=>H[b]?) x=some l)(j:V c x v):IntsAt c.w v l:=by
 unfold q8 at h;rw[Option.bind_eq_some_iff]at h;obtain⟨rows,h1,a⟩:=h;obtain⟨k,cap,rfl,g⟩:=vS m h1 j;have d:rows.length=l.length:=by
  clear g h1 j;induction rows generalizing l with
  |nil=>simp only[intsOf,qa]at a;subst a;rfl
  |cons r rows u=>
   unfold intsOf at a;split at a
   ·grind
   ·rename_i n p e;rw[qd]at a;grind
   ·cases a
 refine⟨k,cap,by rw[d],fun hl=>?_⟩
 obtain⟨B,o,q,e,s,t,f,_⟩:=g (by grind)
 obtain⟨rfl,_⟩:=ud a f;grind
theorem sI{c:Cx}{H:bd}(g:Rel c H):∀{rows:List (List bc)} {ls:List (List Int)} {d:List Value},iA (q8 fun b=>H[b]?) rows=some ls→Vs c rows.flatten d→
 rows.length=ls.length∧d.length=ls.length∧∀(j:Nat) u l,d[j]?=some u→ls[j]?=some l→IntsAt c.w u l
 | [],ls,d,h,a=>by
  simp only[iA]at h;simp only[List.flatten_nil,Vs]at a;grind
 |r::rows,ls,d,h,a=>by
  unfold iA at h;split at h
  ·grind
  ·rename_i v o e;obtain⟨rfl,rfl⟩:=e;split at h
   ·rename_i l k h1 m;simp at h;subst h;obtain⟨v,n,rfl,f,a⟩:=a;obtain⟨e1,e2,e3⟩:=sI g m a;refine⟨by simp[e1],by simp[e2],fun j u l hu hl=>?_⟩
    cases j with
    |zero=>
     simp at hu hl;subst hu hl;exact mM g h1 f
    |succ j=>
     grind
   ·cases h
  ·cases h
theorem o7{f:bc→Option (List Int)}:∀{rows:List (List bc)} {ls:List (List Int)},iA f rows=some ls→rows.length=ls.length
 | [],ls,h=>by
  simp only[iA,qa]at h;subst h;rfl
 |r::rows,ls,h=>by
  unfold iA at h;split at h
  ·grind
  ·rename_i v d e;obtain⟨rfl,rfl⟩:=e;split at h
   ·rename_i l a h1 b;simp at h;subst h;simp[o7 b]
   ·cases h
  ·cases h
theorem t7(g:Rel c H)(h:uP (fun b=>H[b]?) x=some ls)(m:V c x v):iz c.w v ls:=by
 unfold uP at h;rw[Option.bind_eq_some_iff]at h;obtain⟨rows,h1,f⟩:=h;obtain⟨j,cap,rfl,k⟩:=vS g h1 m;have a:=o7 f;refine⟨j,cap,by rw[a],fun hl=>?_⟩
 obtain⟨B,o,n,e,p,q,d,_⟩:=k (by grind)
 obtain⟨_,s,t⟩:=sI g f d;grind
end Go.Am
namespace Go.Am
open Go.RowKit
inductive Ty where
 |bool
 |int (k:IntKind)
 |str
 |slice (e:Ty)
 |row (fs:List Ty)
mutual
def Ty.size:Ty→Nat
 | .row fs=>nn fs
 | .bool=>1
 | .int _=>1
 | .str=>1
 | .slice _=>1
def nn:List Ty→Nat
 | []=>0
 |t::a=>t.size+nn a
end
mutual
def Ty.Is:Ty→List bc→Prop
 | .bool,cs=>∃b,cs=[.bool b]
 | .int k,cs=>∃n,cs=[.int k n]∧k.min≤n∧n≤k.max
 | .str,cs=>∃s:List UInt8,cs=[.str s]∧s.length≤maxLen
 | .slice e,cs=>cs=[.nils]∨∃rows ex,cs=[.list e.size rows ex]∧rows.length≤maxLen∧∀r∈rows,e.Is r
 | .row fs,cs=>IsL fs cs
def IsL:List Ty→List bc→Prop
 | [],cs=>cs=[]
 |t::c,cs=>∃a b,cs=a++b∧t.Is a∧IsL c b
end
mutual
def Ty.ok(P:Program):Ty→TypeId→Bool
 | .bool,t=>match P.underlying t with|some .bool=>true|_=>false
 | .int k,t=>match P.underlying t with|some (.int a)=>decide (a=k)|_=>false
 | .str,t=>match P.underlying t with|some .string=>true|_=>false
 | .slice e,t=>match P.underlying t with|some (.slice u)=>e.ok P u && P.cellsOf u==e.size && Nat.blt 0 e.size|_=>false
 | .row fs,t=>
  match P.underlying t with
  |some (.struct b)=>P.cellsOf t==nn fs && okL P fs (b.toList.map fun g=>(g.type,g.offset)) 0
  |some (.array n e)=>P.cellsOf t==nn fs && okL P fs ((List.range n).map fun i=>(e,i*P.cellsOf e)) 0
  |_=>false
def okL(P:Program):List Ty→List (TypeId×Nat)→Nat→Bool
 | [],[],_=>true
 |t::a,u::b,o=>t.ok P u.1 && u.2==o && P.cellsOf u.1==t.size && okL P a b (o+t.size)
 | [],_::_,_=>false
 |_::_,[],_=>false
end
theorem addr_add_add(a:Addr)(m n:Nat):(a.add m).add n=a.add (m+n):=by
 unfold Addr.add
 grind
section
variable {P:Program}{H:Type}{enc:TypeId×Value→H}{W:World}{θ:List (Nat×Nat)}{sp:Nat→Bool}{held:Bool}
theorem cell_lt{a:Addr}{v:Value}(h:W.cell? a=some v):a.spot=none∧a.block<W.heap.size:=by
 unfold World.cell? at h;split at h
 ·split at h
  ·cases h
  ·refine⟨by simp_all, ?_⟩
   grind
 ·cases h
theorem zh{e:TypeId}{sz:Nat}{Q:List bc→Prop}{a:Addr}{len m:Nat}
 (p:∀cs x,DataW.trod enc P W 0 sp held m e cs=some x→∃as,Vs (cx0 W θ) as cs∧Q as)
 (h:∀i,i<len→∃y,(W.cells? 0 (a.add (i*sz)) sz).bind (DataW.trod enc P W 0 sp held m e)=some y):
 ∀n i,i+n=len→∃rows vs,rows.length=n∧Vss (cx0 W θ) sz rows vs∧(∀r∈rows,Q r)∧∀j v,vs[j]?=some v→W.cell? (a.add (i*sz+j))=some v:=by
 intro n;induction n with
 |zero=>intro i _;exact⟨[],[],rfl,by simp[Vss],by simp,by simp⟩
 |succ n f=>
  intro i q;obtain⟨rows,vs,h1,s,u,w⟩:=f (i+1) (by omega)
  obtain⟨y,k⟩:=h i (by omega)
  rw[Option.bind_eq_some_iff]at k;obtain⟨cs,hc,l⟩:=k;obtain⟨_,hl,b⟩:=World.cells?_some hc;obtain⟨as,z,A⟩:=p cs y l;refine⟨as::rows,cs++vs,by simp[h1], ?_, ?_, ?_⟩
  ·simp only[Vss];grind
  ·grind
  ·intro j v g;rcases qk j sz with c|o
   ·rw[qf (by omega)]at g
    rw[← addr_add_add,b j c,g]
   grind
mutual
theorem nt:∀(ty:Ty) {fuel:Nat} {t:TypeId} {cs:List Value} {x:DataW H×List MemPlace},ty.ok P t=true→DataW.trod enc P W 0 sp held fuel t cs=some x→
 ∃as,Vs (cx0 W θ) as cs∧ty.Is as∧as.length=ty.size
 | .bool,fuel,t,cs,x,c,h=>by
  simp only[Ty.ok]at c;split at c
  ·rename_i f;obtain⟨b,rfl,_⟩:=DataW.trod_bool f h;exact⟨[.bool b],by simp[Vs,V],⟨b,rfl⟩,rfl⟩
  ·cases c
 | .int k,fuel,t,cs,x,c,h=>by
  simp only[Ty.ok]at c;split at c
  ·rename_i K f;simp at c;subst c;obtain⟨n,rfl,_,E⟩:=DataW.trod_int f h;simp only[Lit.wf,qi,decide_eq_true_eq]at E;exact⟨[.int K n],by simp[Vs,V],⟨n,rfl,E⟩,rfl⟩
  ·cases c
 | .str,fuel,t,cs,x,c,h=>by
  simp only[Ty.ok]at c;split at c
  ·rename_i f;obtain⟨s,rfl,_,w⟩:=DataW.trod_string f h;refine⟨[.str s.data.toList],by simp[Vs,V],⟨_,rfl, ?_⟩,rfl⟩
   simp_all
  ·cases c
 | .slice e,fuel,t,cs,x,c,h=>by
  simp only[Ty.ok]at c;split at c
  ·rename_i u f;simp at c;obtain⟨⟨c,z⟩,G⟩:=c;rcases DataW.trod_slice f h with⟨rfl,_⟩|⟨a,len,cap,l,rest,m,rfl,rfl,_,_,C,M,N,g,_⟩
   ·exact⟨[.nils],by simp[Vs,V],.inl rfl,rfl⟩
   ·obtain⟨rows,vs,h1,p,q,I⟩:=zh (θ:=θ) (Q:=e.Is) (a:=a) (len:=len) (sz:=P.cellsOf u) (fun cs x A=>by
     obtain⟨as,g1,X,_⟩:=nt e c A;grind) (fun i O=>⟨l[i],by rw[g i O];grind⟩) len 0 (by omega)
    subst h1;refine⟨[.list e.size rows (decide (cap=rows.length))], ?_,.inr ⟨rows,_,rfl,by omega,q⟩,rfl⟩
    refine⟨_,[],rfl, ?_,rfl⟩;rw[← z];refine⟨a,cap,vs,rfl,C,by simp, ?_,p⟩
    cases rows with
    |nil=>grind
    |cons r rows=>
     right;have y:∃v,vs[0]?=some v:=by
      have:=fI p;simp_all
     obtain⟨v,L⟩:=y;have D:=I 0 v L;simp at D;have w:=cell_lt D;have J:a.add 0=a:=by simp[Addr.add]
     refine⟨w.1,w.2,fun j v R=>?_⟩
     have:=I j v R;simp at this;obtain⟨B,o,s⟩:=a;obtain rfl:s=none:=w.1;rw[add_plain]at this;exact this
  ·cases c
 | .row fs,fuel,t,cs,x,c,h=>by
  simp only[Ty.ok]at c;split at c
  ·rename_i U f;simp at c;obtain⟨xs,n,rfl,_,hl,A,g⟩:=DataW.trod_struct f h;have:=oe fs (cs:=cs) (fuel:=n) c.2 (fun i u hu=>by
    grind) (by omega)
   obtain⟨as,h1,p,q⟩:=this;exact⟨as,h1,p,q⟩
  ·rename_i n e f;simp at c;obtain⟨xs,m,rfl,_,hl,A,g⟩:=DataW.trod_array f h;have:=oe fs (cs:=cs) (fuel:=m) c.2 (fun i u hu=>by
    grind) (by omega)
   obtain⟨as,h1,p,q⟩:=this;exact⟨as,h1,p,q⟩
  ·cases c
theorem oe:∀(a:List Ty) {fuel:Nat} {b:List (TypeId×Nat)} {o:Nat} {cs:List Value},okL P a b o=true→
 (∀(i:Nat) (u:TypeId×Nat),b[i]?=some u→∃y,DataW.trod enc P W 0 sp held fuel u.1 ((cs.drop u.2).take (P.cellsOf u.1))=some y)→cs.length=o+nn a→
 ∃as,Vs (cx0 W θ) as (cs.drop o)∧IsL a as∧as.length=nn a
 | [],fuel,b,o,cs,_,_,hl=>by
  refine⟨[], ?_,rfl,rfl⟩;simp only[Vs];simp only[nn]at hl;grind
 |t::a,fuel,[],o,cs,c,_,_=>by simp[okL]at c
 |t::a,fuel,u::b,o,cs,c,h,hl=>by
  simp only[okL,qi,beq_iff_eq]at c;obtain⟨⟨⟨h1,g⟩,j⟩,k⟩:=c;obtain⟨y,l⟩:=h 0 u rfl;obtain⟨as,g1,m,n⟩:=nt t h1 l;simp only[nn]at hl;obtain⟨f,p,q,s⟩:=oe a (cs:=cs) k (fun i u hu=>h (i+1) u hu) (by omega)
  refine⟨as++f, ?_,⟨as,f,rfl,m,q⟩,by simp[n,s,nn]⟩
  rw[g,j]at g1;have e:cs.drop o=(cs.drop o).take t.size++cs.drop (o+t.size):=by rw[← List.drop_drop,List.take_append_drop]
  rw[e];exact cm g1 p
end
variable {base:Nat}{d:DataW H}{ps:List MemPlace}{r:Reach}{t:TypeId}{v:Value}
theorem H3{fs:List Ty}(b:(Ty.row fs).ok P t=true)(e:Value.okWide P W r base t v)
 (h:DataW.Trod enc P W 0 sp held t v d ps):∃as,V (cx0 W θ) (.agg as) v∧IsL fs as:=by
 obtain⟨fuel,h⟩:=h;have a:∃cs,v= .agg cs:=by
  simp only[Ty.ok]at b;unfold Value.okWide at e;grind
 obtain⟨cs,rfl⟩:=a;obtain⟨as,h1,c,_⟩:=nt (θ:=θ) (.row fs) b h;refine⟨as, ?_,c⟩;exact⟨cs.toList,by simp,h1⟩
theorem z6{ty:Ty}(m:∀fs,ty≠ .row fs)(b:ty.ok P t=true)(f:Value.okWide P W r base t v)
 (h:DataW.Trod enc P W 0 sp held t v d ps):∃a,V (cx0 W θ) a v∧ty.Is [a]:=by
 obtain⟨fuel,h⟩:=h;have g:∀cs,v≠ .agg cs:=by
  rintro cs rfl;unfold Value.okWide at f;cases ty with
  |row fs=>grind
  |bool=>
   simp only[Ty.ok]at b;split at b
   ·rename_i c;simp[Cell.okWide,Cell.ok,c]at f
   ·cases b
  |int k=>
   simp only[Ty.ok]at b;split at b
   ·rename_i c;simp[Cell.okWide,Cell.ok,c]at f
   ·cases b
  |str=>
   simp only[Ty.ok]at b;split at b
   ·rename_i c;simp[Cell.okWide,Cell.ok,c]at f
   ·cases b
  |slice e=>
   simp only[Ty.ok]at b;split at b
   ·rename_i c;simp[Cell.okWide,Cell.ok,c]at f
   ·cases b
 have hc:v.cells.toList=[v]:=by
  cases v<;>first|rfl|grind
 rw[hc]at h;obtain⟨as,h1,j,l⟩:=nt (θ:=θ) ty b h;have:∃a,as=[a]:=by
  have hl:=bH h1
  match as,hl with
  | [a],_=>grind
 obtain⟨a,rfl⟩:=this;simp only[Vs]at h1;grind
end
end Go.Am
namespace Go.Sy
open Go.Am
inductive SV(T:Nat→Type) where
 |a (v:bc)
 |i (k:IntKind) (n:Int)
 |b (x:Bool)
 |s (x:List UInt8)
 |agg (cs:List (SV T))
 |tup (cs:List (SV T))
 |iface (t:TypeId) (v:SV T)
 |fn (f:Fn) (first captured:List (SV T))
 |ptr (id off:Nat)
 |ep (id:Nat) (i:Int) (off:Nat)
 |sl (sz id off len cap:Nat) (ex:Bool)
 |R (id:Nat)
 |mapr (id:Nat)
 |fp (cs:List (SV T))
 |tl (n:Nat) (l:List (T n))
 |any
structure bK where
 T:Nat→Type
 sz:Nat→Nat
 enc:(n:Nat)→T n→List (SV T)
 dec:(n:Nat)→List (SV T)→Option (T n)
 dflt:(n:Nat)→T n
 ofTy:TypeId→Option Nat
 shape:Nat→List (Option Nat)
 flat:Nat→Bool
 bytes:(n:Nat)→Option (List (T n)→List UInt8)
def bK.at(C:bK)(n:Nat)(l:List (C.T n))(i:Int):C.T n:=l.getD i.toNat (C.dflt n)
structure Env where
 β:Nat→Option Nat
 γ:Nat→Option bc
 ω:Nat→Option Nat
 Fr:Nat→List bc→Prop
def o8:bc→Bool
 | .nils=>true
 | .sl _ _ _ _ _ _=>true
 | .list _ _ _=>true
 |_=>false
variable {C:bK}
inductive Er(E:Env):SV C.T→bc→Prop
 |a (v:bc):Er E (.a v) v
 |i (k:IntKind) (n:Int):Er E (.i k n) (.int k n)
 |b (x:Bool):Er E (.b x) (.bool x)
 |s (x:List UInt8):Er E (.s x) (.str x)
 |agg {cs:List (SV C.T)} {as:List bc}:cs.length=as.length→(∀(i:Nat) (x:SV C.T) (a:bc),cs[i]?=some x→as[i]?=some a→Er E x a)→Er E (.agg cs) (.agg as)
 |tup {cs:List (SV C.T)} {as:List bc}:cs.length=as.length→(∀(i:Nat) (x:SV C.T) (a:bc),cs[i]?=some x→as[i]?=some a→Er E x a)→Er E (.tup cs) (.tup as)
 |iface {t:TypeId} {x:SV C.T} {a:bc}:Er E x a→Er E (.iface t x) (.iface t a)
 |fn {f:Fn} {cs ds:List (SV C.T)} {as bs:List bc}:cs.length=as.length→(∀(i:Nat) (x:SV C.T) (a:bc),cs[i]?=some x→as[i]?=some a→Er E x a)→
  ds.length=bs.length→(∀(i:Nat) (x:SV C.T) (a:bc),ds[i]?=some x→bs[i]?=some a→Er E x a)→Er E (.fn f cs ds) (.fn f as bs)
 |ptr {id b off:Nat}:E.β id=some b→Er E (.ptr id off) (.ptr b off)
 |ep {id:Nat} {i:Int} {off z b o len cap:Nat} {ex:Bool}:E.γ id=some (.sl z b o len cap ex)→Er E (.ep id i off) (.ptr b (o+i.toNat*z+off))
 |sl {sz id b off len cap:Nat} {ex:Bool}:E.β id=some b→Er E (.sl sz id off len cap ex) (.sl sz b off len cap ex)
 |R {id:Nat} {a:bc}:E.γ id=some a→o8 a=true→Er E (.R id) a
 |mapr {id b:Nat}:E.β id=some b→Er E (.mapr id) (.mapr b)
 |fpI {cs:List (SV C.T)} {as all rest:List bc}:all=as++rest→cs.length=as.length→(∀(i:Nat) (x:SV C.T) (a:bc),cs[i]?=some x→as[i]?=some a→Er E x a)→Er E (.fp cs) (.ipt all)
 |fpP {cs:List (SV C.T)} {as all rest:List bc} {b off:Nat}:E.Fr b all→all.drop off=as++rest→cs.length=as.length→(∀(i:Nat) (x:SV C.T) (a:bc),cs[i]?=some x→as[i]?=some a→Er E x a)→Er E (.fp cs) (.ptr b off)
 |tlN {n:Nat}:Er E (.tl n []) .nils
 |tlL {n z:Nat} {l:List (C.T n)} {rows:List (List bc)} {ex:Bool}:z=C.sz n→rows.length=l.length→(∀(i:Nat) (r:List bc),rows[i]?=some r→r.length=C.sz n)→
  (∀(i:Nat) (y:C.T n) (r:List bc) (j:Nat) (x:SV C.T) (a:bc),l[i]?=some y→rows[i]?=some r→(C.enc n y)[j]?=some x→r[j]?=some a→Er E x a)→Er E (.tl n l) (.list z rows ex)
 |tlS {n z b off len cap:Nat} {l:List (C.T n)} {as:List bc} {ex:Bool}:z=C.sz n→len=l.length→E.Fr b as→off+l.length*C.sz n≤as.length→l.length≤cap→
  (∀(i:Nat) (y:C.T n) (j:Nat) (x:SV C.T) (a:bc),l[i]?=some y→(C.enc n y)[j]?=some x→as[off+i*C.sz n+j]?=some a→Er E x a)→Er E (.tl n l) (.sl z b off len cap ex)
 |any {a:bc}:Er E .any a
def Ers(E:Env)(cs:List (SV C.T))(as:List bc):Prop:=cs.length=as.length∧∀(i:Nat) (x:SV C.T) (a:bc),cs[i]?=some x→as[i]?=some a→Er E x a
structure Env.le(E E':Env):Prop where
 β:∀id b,E.β id=some b→E'.β id=some b
 γ:∀id a,E.γ id=some a→E'.γ id=some a
 ω:∀b r,E.ω b=some r→E'.ω b=some r
 Fr:∀b cs,E.Fr b cs→E'.Fr b cs
theorem Env.le.refl(E:Env):E.le E:=⟨fun _ _ h=>h,fun _ _ h=>h,fun _ _ h=>h,fun _ _ h=>h⟩
variable {E E':Env}
theorem Env.le.trans{b:Env}(h:E.le E')(k:E'.le b):E.le b:=
 ⟨fun _ _ x=>k.β _ _ (h.β _ _ x),fun _ _ x=>k.γ _ _ (h.γ _ _ x),fun _ _ x=>k.ω _ _ (h.ω _ _ x),fun _ _ x=>k.Fr _ _ (h.Fr _ _ x)⟩
variable {a:bc}{x:SV C.T}
theorem Er.mono'(d:∀id b,E.β id=some b→E'.β id=some b)(m:∀id a,E.γ id=some a→E'.γ id=some a)(o:∀b cs,E.Fr b cs→E'.Fr b cs)(h:Er E x a):Er E' x a:=by
 induction h with
 |a v=>exact .a v
 |i k n=>exact .i k n
 |b x=>exact .b x
 |s x=>exact .s x
 |agg hl _ c=>exact .agg hl c
 |tup hl _ c=>exact .tup hl c
 |iface _ c=>exact .iface c
 |fn h1 _ p _ f g=>exact .fn h1 f p g
 |ptr h=>exact .ptr (d _ _ h)
 |ep h=>exact .ep (m _ _ h)
 |sl h=>exact .sl (d _ _ h)
 |R h q=>exact .R (m _ _ h) q
 |mapr h=>exact .mapr (d _ _ h)
 |fpI e hl _ c=>exact .fpI e hl c
 |fpP j e hl _ c=>exact .fpP (o _ _ j) e hl c
 |tlN=>exact .tlN
 |tlL l hl t _ c=>exact .tlL l hl t c
 |tlS l hl j u hc _ c=>exact .tlS l hl (o _ _ j) u hc c
 |any=>exact .any
theorem Er.mono(k:E.le E')(h:Er E x a):Er E' x a:=h.mono' k.β k.γ k.Fr
variable {as:List bc}{xs:List (SV C.T)}
theorem Ers.mono(k:E.le E')(h:Ers E xs as):Ers E' xs as:=⟨h.1,fun i x a h1 b=>(h.2 i x a h1 b).mono k⟩
theorem Ers.nil:Ers E ([]:List (SV C.T)) []:=⟨rfl,fun _ _ _ h=>by simp at h⟩
theorem Ers.cons(h:Er E x a)(c:Ers E xs as):Ers E (x::xs) (a::as):=by
 refine⟨by simp[c.1],fun i y b h1 d=>?_⟩
 cases i with
 |zero=>grind
 |succ i=>exact c.2 i y b h1 d
theorem Ers.inv_cons(h:Ers E (x::xs) as):∃a c,as=a::c∧Er E x a∧Ers E xs c:=by
 cases as with
 |nil=>simp[Ers]at h
 |cons a c=>
  refine⟨a,c,rfl,h.2 0 x a rfl rfl,by simpa using h.1,fun i y b h1 d=>h.2 (i+1) y b (by grind) (by grind)⟩
theorem Ers.inv_nil(h:Ers E ([]:List (SV C.T)) as):as=[]:=by
 cases as with
 |nil=>rfl
 |cons a as=>simp[Ers]at h
theorem Ers.append{b:List (SV C.T)}{c:List bc}(h:Ers E xs as)(k:Ers E b c):Ers E (xs++b) (as++c):=by
 induction xs generalizing as with
 |nil=>rw[h.inv_nil];exact k
 |cons x xs f=>
  obtain⟨a,d,rfl,h1,e⟩:=h.inv_cons;exact(f e).cons h1
theorem Ers.drop(h:Ers E xs as)(n:Nat):Ers E (xs.drop n) (as.drop n):=
 ⟨by simp[h.1],fun i x a h1 b=>h.2 (n+i) x a (by grind) (by grind)⟩
theorem Ers.take(h:Ers E xs as)(n:Nat):Ers E (xs.take n) (as.take n):=by
 refine⟨by simp[h.1],fun i x a h1 b=>?_⟩
 rw[List.getElem?_take]at h1 b;split at h1
 ·rename_i c;rw[if_pos c]at b;exact h.2 i x a h1 b
 ·cases h1
theorem Ers.get(h:Ers E xs as){i:Nat}(c:xs[i]?=some x):∃a,as[i]?=some a∧Er E x a:=by
 have hl:i<xs.length:=by
  grind
 have b:i<as.length:=by rw[← h.1];exact hl
 exact⟨as[i],qq b,h.2 i x _ c (qq b)⟩
theorem Ers.mapA{E:Env}(as:List bc):Ers (C:=C) E (as.map .a) as:=by
 refine⟨by simp,fun i x a h1 b=>?_⟩
 rw[List.getElem?_map,b]at h1;simp at h1;subst h1;exact .a a
inductive Obj(T:Nat→Type) where
 |cells (cs:List (SV T))
 |rows (n:Nat) (l:List (T n)) (full:Bool) (root:Nat)
 |mp (es:List (Int×SV T))
 |it (s:List UInt8) (pos:Nat)
abbrev SH(C:bK):=List (Option (Obj C.T))
def cI(E:Env)(n:Nat)(l:List (C.T n))(as:List bc)(off:Nat):Prop:=
 ∀(i:Nat) (y:C.T n) (j:Nat) (x:SV C.T) (a:bc),l[i]?=some y→(C.enc n y)[j]?=some x→as[off+i*C.sz n+j]?=some a→Er E x a
def gM(n:Int):List (bc×bc)→Option bc
 | []=>none
 |(.int .i64 m,v)::es=>if n=m then some v else gM n es
 |_::es=>gM n es
structure lC(E:Env)(es:List (Int×SV C.T))(as:List (bc×bc)):Prop where
 keys:∀p,p∈as→∃n,p.1= .int .i64 n
 nodup:(es.map (·.1)).Nodup
 val:∀n x,(n,x)∈es→(∃v,gM n as=some v∧Er E x v)∨(gM n as=none∧Er E x .nils)
 dom:∀n v,gM n as=some v→∃x,(n,x)∈es
theorem lC.mono(k:E.le E'){es:List (Int×SV C.T)}{as:List (bc×bc)}(h:lC E es as):lC E' es as:=
 ⟨h.keys,h.nodup,fun n x c=>(h.val n x c).imp (fun⟨v,h1,b⟩=>⟨v,h1,b.mono k⟩) (fun⟨h1,b⟩=>⟨h1,b.mono k⟩),h.dom⟩
def yM(E:Env)(z:Nat)(a:bc):Prop:=a= .nils∨a= .list z [] true
def eL(E:Env)(H:bd)(id:Nat):Obj C.T→Prop
 | .cells cs=>∃b as,E.β id=some b∧E.ω b=some id∧H[b]?=some (some (.cells as))∧Ers E cs as
 | .mp es=>∃b as,E.β id=some b∧E.ω b=some id∧H[b]?=some (some (.mp as))∧lC E es as
 | .it s c=>∃b,E.β id=some b∧E.ω b=some id∧H[b]?=some (some (.it s c))
 | .rows n l full root=>(l=[]∧E.β id=none∧∃a,E.γ id=some a∧yM E (C.sz n) a)∨
  ∃b off cap ex as,E.γ id=some (.sl (C.sz n) b off l.length cap ex)∧E.β id=some b∧E.ω b=some root∧H[b]?=some (some (.cells as))∧l.length≤cap∧off+cap*C.sz n≤as.length∧
   (ex=true∨off+cap*C.sz n=as.length)∧(full=true→ex=true∨cap=l.length)∧cI E n l as off
theorem eL.mono(k:E.le E'){H:bd}{id:Nat}{o:Obj C.T}(u:E.β id=none→E'.β id=none)(h:eL E H id o):eL E' H id o:=by
 cases o with
 |cells cs=>
  obtain⟨b,as,h1,d,c,e⟩:=h;exact⟨b,as,k.β _ _ h1,k.ω _ _ d,c,e.mono k⟩
 |mp es=>
  obtain⟨b,as,h1,d,c,e⟩:=h;exact⟨b,as,k.β _ _ h1,k.ω _ _ d,c,e.mono k⟩
 |it s v=>
  obtain⟨b,h1,d,c⟩:=h;exact⟨b,k.β _ _ h1,k.ω _ _ d,c⟩
 |rows n l full root=>
  rcases h with⟨h1,c,a,e,f⟩|⟨b,off,cap,ex,as,h1,c,d,e,f,g,m,p,q⟩
  ·refine .inl ⟨h1,u c,a,k.γ _ _ e, ?_⟩;exact f
  ·exact .inr ⟨b,off,cap,ex,as,k.γ _ _ h1,k.β _ _ c,k.ω _ _ d,e,f,g,m,p,fun i y j x a q1 q2 t=>(q i y j x a q1 q2 t).mono k⟩
structure bu(E:Env)(lo wlo:Nat)(h:SH C)(H:bd):Prop where
 obj:∀(id:Nat) (o:Obj C.T),h[id]?=some (some o)→eL E H id o
 inj:∀(id id':Nat) (o o':Obj C.T) (b:Nat),h[id]?=some (some o)→h[id']?=some (some o')→E.β id=some b→E.β id'=some b→id=id'
 fr:∀(b:Nat) (cs:List bc),E.Fr b cs→H[b]?=some (some (.cells cs))∧∀(id:Nat) (o:Obj C.T),h[id]?=some (some o)→E.β id≠some b
 fresh:∀(id:Nat),h.length≤id→E.β id=none∧E.γ id=none
 low:∀(id b:Nat),wlo≤id→E.β id=some b→lo≤b
 bnd:∀(id b:Nat),E.β id=some b→b<H.length
 own:∀(b r:Nat),E.ω b=some r→b<H.length∧∀cs,¬E.Fr b cs
 βω:∀(id b:Nat),E.β id=some b→∃r,E.ω b=some r
 wl:wlo≤h.length
 ll:lo≤H.length
inductive Tree:Type 1 where
 |ok
 |fork (b:Bool) (x y:Tree)
 |need (p:Prop) (x:Tree)
 |ex (α:Type) (f:α→Tree)
 |all (α:Type) (f:α→Tree)
 |imp (p:Prop) (x:Tree)
 |and (x y:Tree)
 |stuck (why:String)
def oY(_:String):Prop:=False
def Tree.holds:Tree→Prop
 | .ok=>True
 | .fork b x y=>(b=true→x.holds)∧(b=false→y.holds)
 | .need p x=>p∧x.holds
 | .ex α f=>∃a:α,(f a).holds
 | .all α f=>∀a:α,(f a).holds
 | .imp p x=>p→x.holds
 | .and x y=>x.holds∧y.holds
 | .stuck c=>oY c
theorem cf{s:String}(h:(Tree.stuck s).holds):False:=h
theorem qw{p:Prop}{s:String}(h:(Tree.stuck s).holds):p:=(cf h).elim
theorem eP{b:Bool}{x y:Tree}(h:(Tree.fork b x y).holds):(b=true∧x.holds)∨(b=false∧y.holds):=by
 cases b with
 |true=>exact .inl ⟨rfl,h.1 rfl⟩
 |false=>exact .inr ⟨rfl,h.2 rfl⟩
def opt{α:Type}(x:Option α)(b:String)(K:α→Tree):Tree:=
 match x with
 |some v=>K v
 |none=>.stuck b
theorem bI{α:Type}{x:Option α}{b:String}{K:α→Tree}(h:(opt x b K).holds):∃v,x=some v∧(K v).holds:=by
 cases x with
 |some v=>exact⟨v,rfl,h⟩
 |none=>exact qw h
end Go.Sy
namespace Go.Sy
open Go.Am
variable {C:bK}
structure SR(C:bK) where
 t:Bt (SV C.T)
 n:Nat
noncomputable def SR.get(r:SR C)(i:Nat):SV C.T:=bif Nat.blt i r.n then(r.t.get i).getD .any else .a bz
noncomputable def SR.set(r:SR C)(i:Nat)(v:SV C.T):SR C:=bif Nat.blt i r.n then⟨r.t.set v i,r.n⟩else r
noncomputable def SR.fill:List (SV C.T)→Nat→SR C→SR C
 | [],_,r=>r
 |a::as,i,r=>SR.fill as (i+1) (r.set i a)
noncomputable def SR.frame(args:List (SV C.T))(n:Nat):SR C:=SR.fill args 0 ⟨Bt.full (.a bz) 9,n⟩
noncomputable def SR.only(n:Nat):List (Nat×SV C.T)→SR C
 | []=>⟨Bt.full .any 9,n⟩
 |(i,v)::l=>(SR.only n l).set i v
def bF(h:SH C)(id:Nat):Option (Obj C.T):=match h[id]? with
 |some (some o)=>some o
 |_=>none
def dr{T:Nat→Type}:SV T→Option (List (SV T))
 | .agg cs=>some cs
 | .a (.agg as)=>some (as.map .a)
 | .any=>none
 |x=>some [x]
def qN{T:Nat→Type}:SV T→Bool
 | .agg _=>false
 | .tup _=>false
 | .any=>false
 | .a v=>v.one
 |_=>true
def Nm{T:Nat→Type}:SV T→Bool
 | .a _=>true
 | .i _ _=>true
 | .b _=>true
 | .s _=>true
 |_=>false
def lB{T:Nat→Type}:SV T→Bool
 | .a _=>true
 | .i _ _=>true
 | .b _=>true
 | .s _=>true
 | .tl _ _=>true
 |_=>false
def lH{T:Nat→Type}:bc→SV T
 | .int k n=>.i k n
 | .bool b=>.b b
 | .str s=>.s s
 |v=>.a v
def intOf{T:Nat→Type}:SV T→Option (IntKind×Int)
 | .i k n=>some (k,n)
 | .a (.int k n)=>some (k,n)
 |_=>none
def strOf{T:Nat→Type}:SV T→Option (List UInt8)
 | .s x=>some x
 | .a (.str x)=>some x
 |_=>none
def iP{T:Nat→Type}:SV T→Option Bool
 | .b x=>some x
 | .a (.bool x)=>some x
 |_=>none
def nkS{T:Nat→Type}:SV T→Option (NK×Bool)
 | .a v=>nk v
 | .iface _ _=>some (.i,false)
 | .ptr _ _=>some (.p,false)
 | .ep _ _ _=>some (.p,false)
 | .fp _=>some (.p,false)
 | .sl _ _ _ _ _ _=>some (.s,false)
 | .fn _ _ _=>some (.f,false)
 | .mapr _=>some (.m,false)
 |_=>none
section
variable (P:Program)
def pu{T:Nat→Type}(t:TypeId)(cs:List (SV T))(off:Nat):Option (SV T):=
 match P.underlying t with
 |some (.struct _)|some (.array _ _)=>
  if off+bl P t≤cs.length then some (.agg ((cs.drop off).take (bl P t)))else none
 |some _=>cs[off]?
 |none=>none
def chain(j:Int)(K:Nat→Tree):Nat→Tree
 |0=>.stuck "no such place"
 |1=>K 0
 |m+2=>.fork (j==((m+1:Nat):Int)) (K (m+1)) (chain j K (m+1))
def vq{T:Nat→Type}(x:SV T)(len:Nat)(K:Nat→Tree):Tree:=
 match x with
 | .a (.int _ n)=>match n with
  | .ofNat m=>bif Nat.blt m len then K m else .stuck "a place behind the end"
  |_=>.stuck "a place below nothing"
 | .i _ n=>.need (0≤n∧n<(len:Int)) (chain n K len)
 |_=>.stuck "a place that is no number"
def F7{T:Nat→Type}(op:BinOp)(k:IntKind)(m n:Int)(lit:Bool)(K:SV T→Tree):Tree:=
 bif lit then
  match n with
  | .ofNat 0=>.stuck "division by nothing"
  |_=>match op with
   | .quo=>K (.i k (k.wrap (m.tdiv n)))
   |_=>K (.i k (m.tmod n))
 else .need (n≠0) (match op with
  | .quo=>K (.i k (k.wrap (m.tdiv n)))
  |_=>K (.i k (m.tmod n)))
def shS{T:Nat→Type}(op:BinOp)(k:IntKind)(m n:Int)(K:SV T→Tree):Tree:=
 .need (0≤n) (match op with
  | .shl=>K (.i k (k.wrap (m*2^(min n.toNat k.bits))))
  |_=>K (.i k (m.fdiv (2^(min n.toNat k.bits)))))
def isLit{T:Nat→Type}:SV T→Bool
 | .a _=>true
 |_=>false
def up{T:Nat→Type}(op:BinOp)(k a:IntKind)(m n:Int)(lit:Bool)(K:SV T→Tree):Tree:=
 match op with
 | .shl=>shS .shl k m n K
 | .shr=>shS .shr k m n K
 | .quo=>if k=a then F7 .quo k m n lit K else .stuck "kinds"
 | .rem=>if k=a then F7 .rem k m n lit K else .stuck "kinds"
 |op=>if k=a then opt (gQ op k m n) "no such operation" fun v=>K (lH v)else .stuck "kinds"
def vI{T:Nat→Type}(op:BinOp)(x y:List UInt8)(K:SV T→Tree):Tree:=
 match op with
 | .add=>.need (((x.length+y.length:Nat):Int)≤IntKind.i64.max) (K (.s (x++y)))
 |op=>opt (l3 op x y) "no such operation" fun v=>K (lH v)
def qJ{T:Nat→Type}(op:BinOp)(t:TypeId)(x y:Bool)(K:SV T→Tree):Tree:=
 bif BD P t then
  match op with
  | .eql=>K (.b (x==y))
  | .neq=>K (.b (!(x==y)))
  |_=>.stuck "no such operation"
 else .stuck "no truth"
def kQ{T:Nat→Type}(op:BinOp)(t:TypeId)(lit:Bool)(x y:NK×Bool)(K:SV T→Tree):Tree:=
 if x.1=y.1∧(x.2=true∨y.2=true)∧yn P t x.1=true∧(lit=true∨x.1≠ .i∨x.2=false∨y.2=false)then
  match op with
  | .eql=>K (.a (.bool (x.2 && y.2)))
  | .neq=>K (.a (.bool (!(x.2 && y.2))))
  |_=>.stuck "no such operation"
 else .stuck "nil"
def toA{T:Nat→Type}:SV T→Option bc
 | .a v=>some v
 | .i k n=>some (.int k n)
 | .b x=>some (.bool x)
 | .s x=>some (.str x)
 |_=>none
def E9{T:Nat→Type}:List (SV T)→Option (List bc)
 | []=>some []
 |x::xs=>match toA x,E9 xs with
  |some a,some l=>some (a::l)
  |_,_=>none
def Id{T:Nat→Type}:SV T→Option (List bc)
 | .agg cs=>E9 cs
 | .a (.agg l)=>some l
 |_=>none
def zg{T:Nat→Type}(op:BinOp)(t:TypeId)(lit:Bool)(x y:SV T)(K:SV T→Tree):Tree:=
 match x,y with
 | .tl n l,.a .nils=>.and (.imp (l=[]) (kQ P op t lit (.s,true) (.s,true) K)) (kQ P op t lit (.s,false) (.s,true) K)
 |_,_=>.stuck "binop"
def Mo{T:Nat→Type}(op:BinOp)(t:TypeId)(lit:Bool)(x y:SV T)(K:SV T→Tree):Tree:=
 bif isLit x && isLit y then
  match x,y with
  | .a (.iface c v),.a (.iface d w)=>opt (gx P op t lit (.iface c v) (.iface d w)) "binop" fun r=>K (lH r)
  | .a v,.a w=>opt (gx P op t lit v w) "binop" fun r=>K (.a r)
  |_,_=>.stuck ""
 else
  match intOf x,intOf y with
  |some (k,m),some (e,n)=>up op k e m n (isLit y) K
  |_,_=>match strOf x,strOf y with
   |some s,some f=>vI op s f K
   |_,_=>match iP x,iP y with
    |some b,some g=>qJ P op t b g K
    |_,_=>match nkS x,nkS y with
     |some p,some q=>kQ P op t lit p q K
     |_,_=>match Id x,Id y with
      |some l,some h=>opt (gx P op t lit (.agg l) (.agg h)) "binop" fun r=>K (lH r)
      |_,_=>zg P op t lit x y K
def unS{T:Nat→Type}(op:UnOp)(x:SV T)(K:SV T→Tree):Tree:=
 match x with
 | .a v=>opt (unA op v) "unop" fun r=>K (.a r)
 | .i k n=>opt (unA op (.int k n)) "unop" fun r=>K (lH r)
 | .b t=>opt (unA op (.bool t)) "unop" fun r=>K (lH r)
 |_=>.stuck "unop"
def mg{T:Nat→Type}(t:TypeId)(x:SV T)(f:Nat)(K:SV T→Tree):Tree:=
 match P.underlying t with
 |some (.struct fs)=>
  match fs[f]? with
  |some b=>
   if(P.info? b.type).isSome∧bl P b.type≠0 then
    match x with
    | .ptr id off=>K (.ptr id (off+b.offset))
    | .ep id i off=>K (.ep id i (off+b.offset))
    | .fp cs=>if b.offset≤cs.length then K (.fp (cs.drop b.offset))else .stuck "fieldAddr"
    | .a (.ipt cs)=>K (.a (.ipt (cs.drop b.offset)))
    | .a (.eptr _ cs)=>K (.a (.ipt (cs.drop b.offset)))
    |_=>.stuck "fieldAddr"
   else .stuck "fieldAddr"
  |none=>.stuck "fieldAddr"
 |_=>.stuck "fieldAddr"
def zA{T:Nat→Type}(t:TypeId)(x:SV T)(f:Nat)(K:SV T→Tree):Tree:=
 match P.underlying t with
 |some (.struct fs)=>
  match fs[f]? with
  |some b=>if(P.info? b.type).isSome then
   match x with
   | .agg cs=>opt (pu P b.type cs b.offset) "field" K
   | .a (.agg as)=>opt (fe P b.type as b.offset) "field" fun v=>K (.a v)
   |_=>.stuck "field"
   else .stuck "field"
  |none=>.stuck "field"
 |_=>.stuck "field"
def mB(t:TypeId)(h:SH C)(x i:SV C.T)(K:SV C.T→Tree):Tree:=
 match P.underlying t with
 |some (.array len e)=>
  if(P.info? e).isSome then
   match x with
   | .ptr id off=>vq i len fun j=>K (.ptr id (off+j*bl P e))
   | .fp cs=>vq i len fun j=>if j*bl P e≤cs.length then K (.fp (cs.drop (j*bl P e)))else .stuck "indexAddr"
   | .a (.ipt cs)=>vq i len fun j=>K (.a (.ipt (cs.drop (j*bl P e))))
   |_=>.stuck "indexAddr"
  else .stuck "indexAddr"
 |some (.slice e)=>
  if(P.info? e).isSome then
   match x with
   | .tl n l=>if C.sz n=bl P e then
    match intOf i with
    |some (_,j)=>.need (0≤j∧j<(l.length:Int)) (K (.fp (C.enc n (C.at n l j))))
    |none=>.stuck "indexAddr"
    else .stuck "indexAddr"
   | .R id=>match bF h id with
    |some (.rows n l _ _)=>if C.sz n=bl P e then
     match intOf i with
     |some (_,j)=>.need (0≤j∧j<(l.length:Int)) (K (.ep id j 0))
     |none=>.stuck "indexAddr"
     else .stuck "indexAddr"
    |_=>.stuck "indexAddr: gone"
   | .sl sz id off len _ _=>if sz=bl P e then vq i len fun j=>K (.ptr id (off+j*sz))else .stuck "indexAddr"
   | .a (.list sz rows ex)=>if sz=bl P e then vq i rows.length fun j=>opt (rows[j]?) "indexAddr" fun r=>K (.a (.ipt r))else .stuck "indexAddr"
   |_=>.stuck "indexAddr"
  else .stuck "indexAddr"
 |_=>.stuck "indexAddr"
def yo{T:Nat→Type}(t:TypeId)(x i:SV T)(K:SV T→Tree):Tree:=
 match P.underlying t with
 |some (.array len e)=>
  if(P.info? e).isSome then
   match x with
   | .agg cs=>vq i len fun j=>opt (pu P e cs (j*bl P e)) "index" K
   | .a (.agg as)=>vq i len fun j=>opt (fe P e as (j*bl P e)) "index" fun v=>K (.a v)
   |_=>.stuck "index"
  else .stuck "index"
 |some .string=>
  match x,i with
  | .a (.str s),.a (.int _ n)=>match n with
   | .ofNat m=>opt (s[m]?) "index" fun b=>K (.a (.int .u8 b.toNat))
   |_=>.stuck "index"
  |_,_=>
   match strOf x,intOf i with
   |some s,some (_,j)=>.need (0≤j∧j<(s.length:Int)) (K (.i .u8 ((s.getD j.toNat 0).toNat)))
   |_,_=>.stuck "index"
 |_=>.stuck "index"
def IW(t:TypeId)(h:SH C)(x:SV C.T)(K:SV C.T→Tree):Tree:=
 match P.underlying t with
 |some .string=>match x with
  | .a (.str s)=>K (.a (.int .i64 s.length))
  | .s s=>K (.i .i64 s.length)
  |_=>.stuck "len"
 |some (.array n _)=>match x with
  | .mapr _=>.stuck "len"
  | .any=>.stuck "len"
  | .a (.mapr _)=>.stuck "len"
  |_=>K (.a (.int .i64 n))
 |some (.slice _)=>match x with
  | .a .nils=>K (.a (.int .i64 0))
  | .a (.list _ rows _)=>K (.a (.int .i64 rows.length))
  | .sl _ _ _ len _ _=>K (.a (.int .i64 len))
  | .tl _ l=>K (.i .i64 l.length)
  | .R id=>match bF h id with
   |some (.rows _ l _ _)=>K (.i .i64 l.length)
   |_=>.stuck "len: gone"
  |_=>.stuck "len"
 |_=>.stuck "len"
def xe(t:TypeId)(h:SH C)(x:SV C.T)(K:SV C.T→Tree):Tree:=
 match x with
 | .ptr id off=>match bF h id with
  |some (.cells cs)=>if off≤cs.length then opt (pu P t (cs.drop off) 0) "load" K else .stuck "load"
  |_=>.stuck "load: gone"
 | .ep id i off=>match bF h id with
  |some (.rows n l _ _)=>.need (0≤i∧i<(l.length:Int)) (if off≤C.sz n then opt (pu P t ((C.enc n (C.at n l i)).drop off) 0) "load" K else .stuck "load")
  |_=>.stuck "load: gone"
 | .fp cs=>opt (pu P t cs 0) "load" K
 | .a (.ipt cs)=>opt (fe P t cs 0) "load" fun v=>K (.a v)
 | .a (.eptr _ cs)=>opt (fe P t cs 0) "load" fun v=>K (.a v)
 |_=>.stuck "load"
def yi{T:Nat→Type}:SV T→Option bc
 | .a v=>some v
 | .i k n=>some (.int k n)
 | .b t=>some (.bool t)
 | .s x=>some (.str x)
 | .iface t (.a v)=>some (.iface t v)
 |_=>none
def r8{T:Nat→Type}:List (SV T)→Option (List UInt8)
 | []=>some []
 |x::xs=>match intOf x with
  |some (.u8,n)=>(r8 xs).map (UInt8.ofNat n.toNat:: ·)
  |_=>none
def A6(C:bK)(n:Nat)(y:C.T n):UInt8:=match C.enc n y with
 | [x]=>match intOf x with
  |some (_,m)=>UInt8.ofNat m.toNat
  |none=>0
 |_=>0
def Bd(s d:TypeId)(h:SH C)(x:SV C.T)(K:SV C.T→Tree):Tree:=
 match x with
 | .a v=>opt (ee P s d [] v) "convert" fun r=>K (.a r)
 | .i _ n=>match P.underlying s,P.underlying d with
  |some _,some (.int k)=>K (.i k (k.wrap n))
  |_,_=>.stuck "convert"
 | .s x=>match P.underlying s,P.underlying d with
  |some _,some .string=>K (.s x)
  |_,_=>.stuck "convert"
 | .sl sz id off len _ _=>match P.underlying s,P.underlying d,bF h id with
  |some (.slice e),some .string,some (.cells cs)=>match P.underlying e with
   |some (.int .u8)=>if sz=1∧off+len≤cs.length then
    match r8 ((cs.drop off).take len)with
    |some b=>K (.s b)
    |none=>.stuck "convert: bytes"
    else .stuck "convert"
   |_=>.stuck "convert"
  |_,_,_=>.stuck "convert"
 | .R id=>match P.underlying s,P.underlying d,bF h id with
  |some (.slice e),some .string,some (.rows n l _ _)=>match P.underlying e with
   |some (.int .u8)=>if C.sz n=1 then .need (∀y,y∈l→∃x m,C.enc n y=[x]∧intOf x=some (.u8,m)) (K (.s (l.map (A6 C n))))else .stuck "convert: rows"
   |_=>.stuck "convert"
  |_,_,_=>.stuck "convert"
 |_=>.stuck "convert"
def kD{T:Nat→Type}(x:SV T)(t:TypeId)(ok:Bool)(K:SV T→Tree):Tree:=
 match x with
 | .a v=>opt (eq P v t ok) "typeAssert" fun r=>K (.a r)
 | .iface u v=>
  match P.underlying t with
  |some (.interface b)=>
   match P.info? u with
   |some i=>
    if oT b i.methods then(if ok then opt (eV P t) "typeAssert" fun z=>K (.tup [.a z,.a (.bool false)])else .stuck "typeAssert")
    else K (if ok then .tup [.iface u v,.a (.bool true)]else .iface u v)
   |none=>.stuck "typeAssert"
  |some _=>
   if u=t then K (if ok then .tup [v,.a (.bool true)]else v)
   else if ok then opt (eV P t) "typeAssert" fun z=>K (.tup [.a z,.a (.bool false)])else .stuck "typeAssert"
  |none=>.stuck "typeAssert"
 |_=>.stuck "typeAssert"
def rk{T:Nat→Type}(a:Nat→Option (Nat×Nat))(cells:List (SV T)):List (Nat×SV T)→Option (List (SV T))
 | []=>some cells
 |(i,v)::rest=>
  match a i with
  |none=>none
  |some (off,size)=>
   match dr v with
   |none=>none
   |some vs=>if vs.length≠size∨off+vs.length>cells.length∨!vs.all qN then none
    else rk a (cells.take off++vs++cells.drop (off+vs.length)) rest
def yU{T:Nat→Type}(t:TypeId)(b:List (Nat×SV T))(K:SV T→Tree):Tree:=
 match eV P t with
 |none=>.stuck "build"
 |some z=>
  if !z.cells.all bc.one then .stuck "build" else
  match P.underlying t with
  |some (.struct fs)=>
   if fs.all (fun f=>(P.info? f.type).isSome)then opt (rk (fun i=>(fs[i]?).map fun f=>(f.offset,bl P f.type)) (z.cells.map .a) b) "build" fun cs=>K (.agg cs)else .stuck "build"
  |some (.array _ e)=>if(P.info? e).isSome then opt (rk (fun i=>some (i*bl P e,bl P e)) (z.cells.map .a) b) "build" fun cs=>K (.agg cs)else .stuck "build"
  |_=>.stuck "build"
end
def eg{C:bK}(S:bh)(g:Nat→SV C.T):Operand→SV C.T
 | .tmp t=>g t
 | .const v=>.a (nY v)
 | .global x=>match S.glob x with
  |some cs=>.a (.ipt cs)
  |none=>.any
 | .func f=>.a (.fn (.func f) [] [])
end Go.Sy
namespace Go.Sy
open Go.Am
variable {C:bK}{E:Env}
def Ret(E:Env)(r:Option bc)(K:SV C.T→Tree):Prop:=∃v sv,r=some v∧Er E sv v∧(K sv).holds
theorem Er.lift(v:bc):Er (C:=C) E (lH v) v:=by
 cases v<;>simp only[lH]<;>constructor
variable {a:bc}{x:SV C.T}
theorem oO{cs:List (SV C.T)}(h:Er E x a)(hc:dr x=some cs):Ers E cs a.cells:=by
 have one:∀{x:SV C.T} {a:bc},Er E x a→(∀as,a≠ .agg as)→Ers E [x] a.cells:=by
  intro x a h o;have:a.cells=[a]:=by cases a<;>first|rfl|grind
  rw[this];exact Ers.nil.cons h
 cases h with
 |a=>
  cases a<;>simp only[dr,qa]at hc<;>subst hc<;>first
   |exact Ers.mapA _
   |exact Ers.nil.cons (.a _)
 |agg hl g=>
  simp only[dr,qa]at hc;subst hc;exact⟨hl,g⟩
 |any=>cases hc
 |R h j=>
  simp only[dr,qa]at hc;subst hc;exact one (.R h j) (fun as e=>by subst e;simp[o8]at j)
 |tup hl g=>simp only[dr,qa]at hc;subst hc;exact one (.tup hl g) (by grind)
 |fn h1 c d f=>simp only[dr,qa]at hc;subst hc;exact one (.fn h1 c d f) (by grind)
 |tlL h1 c d f=>simp only[dr,qa]at hc;subst hc;exact one (.tlL h1 c d f) (by grind)
 |tlS h1 c d f l m=>simp only[dr,qa]at hc;subst hc;exact one (.tlS h1 c d f l m) (by grind)
 |fpI h1 c d=>simp only[dr,qa]at hc;subst hc;exact one (.fpI h1 c d) (by grind)
 |fpP h1 c d f=>simp only[dr,qa]at hc;subst hc;exact one (.fpP h1 c d f) (by grind)
 |tlN=>simp only[dr,qa]at hc;subst hc;exact one .tlN (by grind)
 |i k n=>simp only[dr,qa]at hc;subst hc;exact one (.i k n) (by grind)
 |b k=>simp only[dr,qa]at hc;subst hc;exact one (.b k) (by grind)
 |s k=>simp only[dr,qa]at hc;subst hc;exact one (.s k) (by grind)
 |iface k=>simp only[dr,qa]at hc;subst hc;exact one (.iface k) (by grind)
 |ptr k=>simp only[dr,qa]at hc;subst hc;exact one (.ptr k) (by grind)
 |ep k=>simp only[dr,qa]at hc;subst hc;exact one (.ep k) (by grind)
 |sl k=>simp only[dr,qa]at hc;subst hc;exact one (.sl k) (by grind)
 |mapr k=>simp only[dr,qa]at hc;subst hc;exact one (.mapr k) (by grind)
theorem Ig(h:Er E x a)(hc:qN x=true):a.one=true:=by
 cases h<;>simp only[qN]at hc<;>first
  |rfl
  |exact hc
  |(cases hc;done)
  |(rename_i b
    cases a<;>simp only[o8]at b<;>first|rfl|grind)
theorem jo{xs:List (SV C.T)}{as:List bc}(h:Ers E xs as)(hc:xs.all qN=true):as.all bc.one=true:=by
 rw[List.all_eq_true]at hc ⊢;intro a b;obtain⟨i,c⟩:=List.mem_iff_getElem?.1 b;have hl:i<xs.length:=by
  rw[h.1];grind
 exact Ig (h.2 i _ a (qq hl) c) (hc _ (List.getElem_mem hl))
section
variable {P:Program}
theorem ni{t:TypeId}{cs:List (SV C.T)}{as rest:List bc}{off:Nat}{x:SV C.T}(h:Ers E cs as)(b:pu P t cs off=some x):∃a,fe P t (as++rest) off=some a∧Er E x a:=by
 unfold pu at b;unfold fe;have c:∀{z:Nat},(if off+z≤cs.length then some (SV.agg ((cs.drop off).take z))else none)=some x→
  ∃a,(if off+z≤(as++rest).length then some (bc.agg (((as++rest).drop off).take z))else none)=some a∧Er E x a:=by
  intro z b;split at b
  ·simp at b;subst b;have hl:=h.1;rw[if_pos (by simp;omega)]
   refine⟨_,rfl, ?_⟩;rw[List.drop_append_of_le_length (by omega),List.take_append_of_le_length (by simp;omega)]
   have:=(h.drop off).take z;exact .agg this.1 this.2
  ·cases b
 split at b
 ·grind
 ·grind
 ·rename_i h1 d hu;obtain⟨a,e,f⟩:=h.get b;grind
 ·cases b
theorem oR{t:TypeId}{cs:List (SV C.T)}{as:List bc}{off:Nat}{x:SV C.T}(h:Ers E cs as)(b:pu P t cs off=some x):∃a,fe P t as off=some a∧Er E x a:=by
 obtain⟨a,h1,c⟩:=ni (rest:=[]) h b;grind
theorem xI{j:Int}{K:Nat→Tree}:∀{n:Nat},(chain j K n).holds→0≤j→j<(n:Int)→∃m:Nat,j=m∧m<n∧(K m).holds
 |0,h,_,_=>(cf h).elim
 |1,h,c,h1=>⟨0,by omega,by omega,h⟩
 |m+2,h,c,h1=>by
  rcases eP h with⟨e,b⟩|⟨e,b⟩
  ·grind
  ·have d:j≠((m+1:Nat):Int):=by grind
   obtain⟨k,f,g,l⟩:=xI b c (by omega)
   grind
theorem jM{x:SV C.T}{a:bc}{len:Nat}{K:Nat→Tree}(h:Er E x a)(b:(vq x len K).holds):∃j,iJ a=some j∧j<len∧(K j).holds:=by
 unfold vq at b;split at b
 ·cases h;split at b
  ·rename_i m;cases hb:Nat.blt m len with
   |true=>
    rw[hb]at b;exact⟨m,by simp[iJ],by simp_all,b⟩
   |false=>rw[hb]at b;exact qw b
  ·exact qw b
 ·cases h;obtain⟨⟨h1,c⟩,d⟩:=b;obtain⟨m,rfl,e,f⟩:=xI d h1 c;exact⟨m,by simp[iJ],e,f⟩
 ·exact qw b
theorem cr{x:SV C.T}{a:bc}{k:IntKind}{n:Int}(h:Er E x a)(b:intOf x=some (k,n)):a= .int k n:=by
 cases h<;>simp only[intOf]at b<;>first
  |grind
  |grind
  |grind
theorem ed{x:SV C.T}{a:bc}{s:List UInt8}(h:Er E x a)(b:strOf x=some s):a= .str s:=by
 cases h<;>simp only[strOf]at b<;>first
  |grind
  |grind
  |grind
theorem gK{x:SV C.T}{a:bc}{s:Bool}(h:Er E x a)(b:iP x=some s):a= .bool s:=by
 cases h<;>simp only[iP]at b<;>first
  |grind
  |grind
  |grind
theorem ng{x:SV C.T}{a v:bc}(h:Er E x a)(e:yi x=some v):a=v:=by
 unfold yi at e;split at e<;>first
  |(cases h;cases e;rfl)
  |(cases e;done)
  |skip
 cases e;cases h with
 |iface h=>cases h;rfl
theorem zx{x:SV C.T}{a:bc}{p:NK×Bool}(h:Er E x a)(b:nkS x=some p):nk a=some p:=by
 cases h<;>simp only[nkS]at b<;>first
  |exact b
  |grind
theorem Ju{op:BinOp}{k:IntKind}{m n:Int}{lit:Bool}{K:SV C.T→Tree}(h:(F7 op k m n lit K).holds)(c:op= .quo∨op= .rem):Ret E (gQ op k m n) K:=by
 unfold F7 at h;have key:n≠0→(match op with
  | .quo=>K (.i k (k.wrap (m.tdiv n)))
  |_=>K (.i k (m.tmod n))).holds→Ret E (gQ op k m n) K:=by
  intro b h;rcases c with rfl|rfl
  ·exact⟨_,_,by simp[gQ,b],.i _ _,h⟩
  ·exact⟨_,_,by simp[gQ,b],.i _ _,h⟩
 cases lit with
 |true=>
  split at h
  ·exact qw h
  grind
 |false=>
  exact key h.1 h.2
theorem yC{op:BinOp}{k b:IntKind}{m n:Int}{lit:Bool}{t:TypeId}{l:Bool}{K:SV C.T→Tree}(h:(up op k b m n lit K).holds):Ret E (gx P op t l (.int k m) (.int b n)) K:=by
 have c:∀{op:BinOp},(∀k m n,gx P op t l (.int k m) (.int b n)=if k=b then gQ op k m n else none)→(if k=b then opt (gQ op k m n) "no such operation" fun v=>K (lH v)else Tree.stuck "kinds").holds→Ret E (gx P op t l (.int k m) (.int b n)) K:=by
  intro op d h;rw[d];split at h
  ·rename_i e;rw[if_pos e];obtain⟨v,h1,f⟩:=bI h;exact⟨v,_,h1,.lift v,f⟩
  ·exact qw h
 have g:∀{op:BinOp},(op= .quo∨op= .rem)→(∀k m n,gx P op t l (.int k m) (.int b n)=if k=b then gQ op k m n else none)→(if k=b then F7 op k m n lit K else Tree.stuck "kinds").holds→Ret E (gx P op t l (.int k m) (.int b n)) K:=by
  intro op j d h;rw[d];split at h
  ·rename_i e;rw[if_pos e];exact Ju h j
  ·exact qw h
 cases op<;>simp only[up]at h<;>first
  |exact c (fun _ _ _=>rfl) h
  |exact g (.inl rfl) (fun _ _ _=>rfl) h
  |exact g (.inr rfl) (fun _ _ _=>rfl) h
  |(obtain⟨h1,f⟩:=h;refine⟨_,_, ?_,.i _ _,f⟩;simp only[gx,uI];grind)
theorem yK{op:BinOp}{x y:List UInt8}{t:TypeId}{l:Bool}{K:SV C.T→Tree}(h:(vI op x y K).holds):Ret E (gx P op t l (.str x) (.str y)) K:=by
 have b:∀{op:BinOp},gx P op t l (.str x) (.str y)=l3 op x y→(opt (l3 op x y) "no such operation" fun v=>K (lH v)).holds→Ret E (gx P op t l (.str x) (.str y)) K:=by
  intro op d h;obtain⟨v,h1,c⟩:=bI h;exact⟨v,_,h1,.lift v,c⟩
 cases op<;>simp only[vI]at h<;>first
  |exact b rfl h
  |(obtain⟨h1,c⟩:=h
    refine⟨_,_, ?_,.s _,c⟩;simp only[gx,l3];grind)
theorem xL{op:BinOp}{x y:Bool}{t:TypeId}{l:Bool}{K:SV C.T→Tree}(h:(qJ P op t x y K).holds):Ret E (gx P op t l (.bool x) (.bool y)) K:=by
 unfold qJ at h;cases hb:BD P t with
 |false=>rw[hb]at h;exact qw h
 |true=>
  rw[hb]at h;cases op<;>first
   |exact qw h
   |exact⟨_,_,by simp[gx,eqA,hb],.b _,h⟩
theorem Mv{t:TypeId}{l:Bool}{x y:bc}{p q:NK×Bool}(b:nk x=some p)(c:nk y=some q)(hc:p.1=q.1∧(p.2=true∨q.2=true)∧yn P t p.1=true∧(l=true∨p.1≠ .i∨p.2=false∨q.2=false)):eqA P t l x y=some (p.2 && q.2):=by
 unfold eqA;split
 ·cases b
 ·cases b
 ·simp only[nk,Prod.mk.injEq]at b c;grind
 grind
theorem qA{op:BinOp}{x y:bc}{p q:NK×Bool}{t:TypeId}{l:Bool}{K:SV C.T→Tree}(b:nk x=some p)(f:nk y=some q)(h:(kQ P op t l p q K).holds):Ret E (gx P op t l x y) K:=by
 unfold kQ at h;split at h
 ·rename_i hc;have g:=Mv b f hc;have c:∀k n,x≠ .int k n:=fun k n e=>by subst e;cases b
  have d:∀s,x≠ .str s:=fun s e=>by subst e;cases b
  cases op<;>first
   |exact qw h
   |(refine⟨_,_, ?_,.a _,h⟩
     unfold gx;grind)
 ·exact qw h
theorem KZ{x:SV C.T}{a v:bc}(h:Er E x a)(b:toA x=some v):a=v:=by
 cases h<;>simp only[toA]at b<;>first
  |grind
  |grind
theorem zY:∀{cs:List (SV C.T)} {l vs:List bc},cs.length=l.length→(∀(i:Nat) (x:SV C.T) (a:bc),cs[i]?=some x→l[i]?=some a→Er E x a)→E9 cs=some vs→l=vs
 | [],l,vs,hl,_,c=>by
  simp only[E9]at c;grind
 |x::cs,[],vs,hl,_,_=>by simp at hl
 |x::cs,a::l,vs,hl,d,c=>by
  simp only[E9]at c;split at c
  ·rename_i b m h1 e;simp at c;subst c;have e1:=KZ (d 0 x a rfl rfl) h1;have e2:=zY (l:=l) (by grind) (fun i y b f g=>d (i+1) y b (by grind) (by grind)) e
   rw[e1,e2]
  ·cases c
theorem AD{x:SV C.T}{a:bc}{l:List bc}(h:Er E x a)(b:Id x=some l):a= .agg l:=by
 unfold Id at b;split at b
 ·cases h with
  |agg h1 c=>rw[zY h1 c b]
 ·cases h;grind
 ·cases b
theorem C5{op:BinOp}{t:TypeId}{l:Bool}{x y:SV C.T}{a b:bc}{K:SV C.T→Tree}(e:Er E x a)(f:Er E y b)(h:(zg P op t l x y K).holds):Ret E (gx P op t l a b) K:=by
 unfold zg at h;split at h
 ·rename_i n rows;cases f;have key:∀q:Bool,nk a=some (.s,q)→(q=true→rows=[])→Ret E (gx P op t l a .nils) K:=by
   intro q d hl;have c:(kQ P op t l (.s,q) (.s,true) K).holds:=by
    cases q with
    |true=>exact h.1 (hl rfl)
    |false=>exact h.2
   exact qA (E:=E) (y:=.nils) d rfl c
  cases e with
  |tlN=>exact key true rfl fun _=>rfl
  |tlL h1 g j k=>exact key false rfl nofun
  |tlS h1 g j k m o=>exact key false rfl nofun
 ·exact qw h
theorem HM{op:BinOp}{t:TypeId}{l:Bool}{x y:SV C.T}{a b:bc}{K:SV C.T→Tree}(d:Er E x a)(e:Er E y b)(h:(Mo P op t l x y K).holds):Ret E (gx P op t l a b) K:=by
 unfold Mo at h;cases hl:isLit x && isLit y with
 |true=>
  rw[hl]at h;split at h
  ·cases d;cases e;obtain⟨v,h1,c⟩:=bI h;exact⟨v,_,h1,.lift v,c⟩
  ·cases d;cases e;obtain⟨v,h1,c⟩:=bI h;exact⟨v,_,h1,.a v,c⟩
  ·exact qw h
 |false=>
  rw[hl]at h;simp at h;split at h
  ·rename_i k m o n h1 c;rw[cr d h1,cr e c];exact yC h
  ·split at h
   ·rename_i s f h1 c;rw[ed d h1,ed e c];exact yK h
   ·split at h
    ·rename_i s f h1 c;rw[gK d h1,gK e c];exact xL h
    ·split at h
     ·rename_i p q h1 c;exact qA (zx d h1) (zx e c) h
     ·split at h
      ·rename_i u l2 h1 c;rw[AD d h1,AD e c];obtain⟨v,g,j⟩:=bI h;exact⟨v,_,g,.lift v,j⟩
      ·exact C5 d e h
theorem LX{op:UnOp}{x:SV C.T}{a:bc}{K:SV C.T→Tree}(c:Er E x a)(h:(unS op x K).holds):Ret E (unA op a) K:=by
 unfold unS at h;split at h
 ·cases c;obtain⟨v,h1,b⟩:=bI h;exact⟨v,_,h1,.a v,b⟩
 ·cases c;obtain⟨v,h1,b⟩:=bI h;exact⟨v,_,h1,.lift v,b⟩
 ·cases c;obtain⟨v,h1,b⟩:=bI h;exact⟨v,_,h1,.lift v,b⟩
 ·exact qw h
theorem sS{t:TypeId}{f:Nat}{x:SV C.T}{a:bc}{K:SV C.T→Tree}(b:Er E x a)(h:(mg P t x f K).holds):Ret E (fH P t a f) K:=by
 unfold mg at h;unfold fH;split at h
 ·rename_i fs hu;rw[hu];simp only;split at h
  ·rename_i d g;rw[g];simp only;split at h
   ·rename_i hc;rw[if_pos hc];split at h
    ·cases b with
     |ptr j=>exact⟨_,_,rfl,.ptr j,h⟩
    ·cases b with
     |ep j=>
      refine⟨_,_,rfl, ?_,h⟩;rw[Nat.add_assoc _ _ d.offset];exact .ep j
    ·split at h
     ·cases b with
      |fpI e hl k=>
       subst e;have c:Ers E _ _:=⟨hl,k⟩;have:=c.drop d.offset;refine⟨_,_,rfl,.fpI (List.drop_append_of_le_length (by omega)) this.1 this.2,h⟩
      |fpP g e hl k=>
       have c:Ers E _ _:=⟨hl,k⟩;have:=c.drop d.offset;exact⟨_,_,rfl,.fpP g (by rw[← List.drop_drop,e,List.drop_append_of_le_length (by omega)]) this.1 this.2,h⟩
     ·exact qw h
    ·cases b;exact⟨_,_,rfl,.a _,h⟩
    ·cases b;exact⟨_,_,rfl,.a _,h⟩
    ·exact qw h
   ·exact qw h
  ·exact qw h
 ·exact qw h
theorem BK{t:TypeId}{f:Nat}{x:SV C.T}{a:bc}{K:SV C.T→Tree}(d:Er E x a)(h:(zA P t x f K).holds):Ret E (oa P t a f) K:=by
 unfold zA at h;unfold oa;split at h
 ·rename_i fs hu;rw[hu];split at h
  ·rename_i k c;split at h
   ·rename_i hc;split at h
    ·cases d with
     |agg hl j=>
      obtain⟨v,h1,b⟩:=bI h;obtain⟨w,e,g⟩:=oR (E:=E) ⟨hl,j⟩ h1;simp only[c];rw[if_pos hc];exact⟨w,v,e,g,b⟩
    ·cases d;obtain⟨v,h1,b⟩:=bI h;simp only[c];rw[if_pos hc];exact⟨v,_,h1,.a v,b⟩
    ·exact qw h
   ·exact qw h
  ·exact qw h
 ·exact qw h
theorem bK.at_get{n:Nat}{l:List (C.T n)}{j:Int}(b:0≤j)(h1:j<(l.length:Int)):l[j.toNat]?=some (C.at n l j):=by
 unfold bK.at;grind
end
end Go.Sy

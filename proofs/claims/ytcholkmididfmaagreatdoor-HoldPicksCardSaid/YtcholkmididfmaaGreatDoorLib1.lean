import Derived.WalkKit
import Derived.LaidEql
import Derived.Laws.StructEq
import Derived.ChangeKeysEq
import Derived.Stop.Asserts
import Derived.Laws.BytesString
set_option linter.unusedVariables false
set_option linter.unusedSimpArgs false
namespace Go.Am
abbrev qa:=@Option.some.injEq
abbrev qb:=@of_decide_eq_true
abbrev qc:=@of_decide_eq_false
abbrev qd:=@Option.map_eq_some_iff
abbrev qe:=@Nat.le_refl
abbrev qf:=@List.getElem?_append_left
abbrev qg:=@List.getElem?_set
abbrev qh:=@List.getD_eq_getElem?_getD
abbrev qi:=@Bool.and_eq_true
abbrev qj:=@List.getElem?_append_right
abbrev qk:=@Nat.lt_or_ge
abbrev qm:=@List.length_cons
abbrev qn:=@List.length_append
abbrev qo:=@List.mem_of_getElem?
abbrev qp:=@List.eq_nil_of_length_eq_zero
abbrev qq:=@List.getElem?_eq_getElem
abbrev qr:=@Nat.lt_of_lt_of_le
abbrev qt:=@List.mem_singleton
abbrev qu:=@List.length_set
open Go.RowKit
inductive bc where
 |bool (b:Bool)
 |int (k:IntKind) (n:Int)
 |str (s:List UInt8)
 |agg (cs:List bc)
 |nilp
 |ptr (b off:Nat)
 |ipt (cs:List bc)
 |eptr (id:Nat) (cs:List bc)
 |hnd (b off:Nat)
 |nils
 |list (sz:Nat) (rows:List (List bc)) (ex:Bool)
 |sl (sz b off len cap:Nat) (ex:Bool)
 |nilm
 |mapr (b:Nat)
 |fn (f:Fn) (first captured:List bc)
 |nilf
 |iface (t:TypeId) (v:bc)
 |nili
 |tup (vs:List bc)
 |junk
 deriving Inhabited
inductive cb where
 |cells (cs:List bc)
 |mp (es:List (bc×bc))
 |it (s:List UInt8) (pos:Nat)
 |mi (b since:Nat) (seen:List Nat) (last:Nat)
 deriving Inhabited
abbrev bd:=List (Option cb)
structure Cx where
 ι:Nat→Option (Nat×Nat)
 θ:List (Nat×Nat)
 I:Nat→Prop
 w:World
def At(w:World)(B off:Nat)(vs:List Value):Prop:=∀j v,vs[j]?=some v→w.cell? ⟨B,off+j,none⟩=some v
def Room(w:World)(B n:Nat):Prop:=∃t m,w.shape? B=some (t,m)∧n≤m
def Cx.pure(c:Cx):Cx:={ c with ι:=fun _=>none }
mutual
def V:Cx→bc→Value→Prop
 |_,.bool b,v=>v= .bool b
 |_,.int k n,v=>v= .int k n
 |_,.str s,v=>∃t:ByteArray,v= .string t∧t.data.toList=s
 |c,.agg cs,v=>∃vs:List Value,v= .agg vs.toArray∧Vs c cs vs
 |_,.nilp,v=>v= .pointer none
 |c,.ptr b off,v=>∃B base,c.ι b=some (B,base)∧v= .pointer (some ⟨B,base+off,none⟩)
 |c,.ipt cs,v=>∃B off vs,v= .pointer (some ⟨B,off,none⟩)∧c.I B∧At c.w B off vs∧Vs c.pure cs vs
 |c,.eptr id cs,v=>∃B o vs,c.θ.Nodup∧c.θ[id]?=some (B,o)∧v= .pointer (some ⟨B,o,none⟩)∧c.I B∧At c.w B o vs∧Vs c.pure cs vs∧∃g h,c.w.heap[B]?=some (.cells g h (0,0))
 |_,.hnd b off,v=>v= .pointer (some ⟨b,off,none⟩)
 |_,.nils,v=>v= .slice none 0 0
 |c,.list sz rows ex,v=>∃a cap vs,v= .slice (some a) rows.length cap∧rows.length≤cap∧(ex=true→cap=rows.length)∧(rows=[]∨(a.spot=none∧c.I a.block∧At c.w a.block a.off vs))∧Vss c.pure sz rows vs
 |c,.sl sz b off len cap ex,v=>∃B base k o,c.ι b=some (B,base)∧v= .slice (some ⟨B,o,none⟩) len k∧(0<k→o=base+off)∧len≤cap∧cap≤k∧(ex=true→k=cap)∧Room c.w B (base+off+k*sz)
 |_,.nilm,v=>v= .map none
 |c,.mapr b,v=>∃B,c.ι b=some (B,0)∧v= .map (some B)
 |c,.fn f first d,v=>∃vs e,v= .func f vs.toArray e.toArray∧Vs c first vs∧Vs c d e
 |_,.nilf,v=>v= .nilFunc
 |c,.iface t a,v=>∃u,v= .iface t u∧V c a u
 |_,.nili,v=>v= .nilIface
 |c,.tup as,v=>∃vs:List Value,v= .tuple vs.toArray∧Vs c as vs
 |_,.junk,_=>True
def Vs:Cx→List bc→List Value→Prop
 |_,[],vs=>vs=[]
 |c,a::as,vs=>∃v b,vs=v::b∧V c a v∧Vs c as b
def Vss:Cx→Nat→List (List bc)→List Value→Prop
 |_,_,[],vs=>vs=[]
 |c,sz,r::rs,vs=>∃a b,vs=a++b∧a.length=sz∧Vs c r a∧Vss c sz rs b
end
theorem bH{c:Cx}:∀{as:List bc} {vs:List Value},Vs c as vs→as.length=vs.length
 | [],_,h=>by simp[Vs]at h;simp[h]
 |_::as,_,h=>by
  obtain⟨v,a,rfl,_,h⟩:=h;simp[bH h]
structure Ext(c c':Cx):Prop where
 ι:∀b x,c.ι b=some x→c'.ι b=some x
 θ:c'.θ=c.θ
 I:∀B,c.I B→c'.I B
 kept:∀B,c.I B→c'.w.heap[B]?=c.w.heap[B]?
 shape:∀B t n,c.w.shape? B=some (t,n)→c'.w.shape? B=some (t,n)
theorem Ext.refl(c:Cx):Ext c c:=⟨fun _ _ h=>h,rfl,fun _ h=>h,fun _ _=>rfl,fun _ _ _ h=>h⟩
theorem Ext.trans{a b c:Cx}(h:Ext a b)(k:Ext b c):Ext a c:=
 ⟨fun x y e=>k.ι x y (h.ι x y e),k.θ.trans h.θ,fun B d=>k.I B (h.I B d),fun B d=>(k.kept B (h.I B d)).trans (h.kept B d),fun B t n f=>k.shape B t n (h.shape B t n f)⟩
theorem Ext.pure{c c':Cx}(h:Ext c c'):Ext c.pure c'.pure:=⟨(fun _ _ h=>by cases h),h.θ,h.I,h.kept,h.shape⟩
theorem Ext.of_pure(c:Cx):Ext c.pure c:=⟨(fun _ _ h=>by cases h),rfl,fun _ h=>h,fun _ _=>rfl,fun _ _ _ h=>h⟩
theorem At.ext{c c':Cx}(h:Ext c c'){B off:Nat}{vs:List Value}(b:c.I B)(d:At c.w B off vs):At c'.w B off vs:=
 fun j v a=>by rw[World.cell?_of_block (w:=c.w) (h.kept B b)];exact d j v a
theorem Room.ext{c c':Cx}(h:Ext c c'){B n:Nat}(d:Room c.w B n):Room c'.w B n:=by
 obtain⟨t,m,a,b⟩:=d;exact⟨t,m,h.shape B t m a,b⟩
mutual
theorem o9{c c':Cx}(h:Ext c c'):∀(a:bc) (v:Value),V c a v→V c' a v
 | .bool b,v,d=>by simpa[V]using d
 | .int k n,v,d=>by simpa[V]using d
 | .str s,v,d=>by simpa[V]using d
 | .agg cs,v,d=>by
  obtain⟨vs,e,g⟩:=d;exact⟨vs,e,cg h cs vs g⟩
 | .nilp,v,d=>by simpa[V]using d
 | .ptr b off,v,d=>by
  obtain⟨B,base,m,e⟩:=d;exact⟨B,base,h.ι _ _ m,e⟩
 | .ipt cs,v,d=>by
  obtain⟨B,off,vs,e,l,p,g⟩:=d;exact⟨B,off,vs,e,h.I _ l,p.ext h l,cg h.pure cs vs g⟩
 | .eptr id cs,v,d=>by
  simp only[V,h.θ]at d ⊢;obtain⟨B,o,vs,y,e1,e,l,p,g,z,A,hc⟩:=d;exact⟨B,o,vs,y,e1,e,h.I _ l,p.ext h l,cg h.pure cs vs g,z,A,by rw[h.kept _ l];exact hc⟩
 | .hnd b off,v,d=>by simpa[V]using d
 | .nils,v,d=>by simpa[V]using d
 | .list sz rows ex,v,d=>by
  obtain⟨a,cap,vs,e,hc,C,q,g⟩:=d;refine⟨a,cap,vs,e,hc,C, ?_,kM h.pure sz rows vs g⟩;rcases q with q|⟨H,l,p⟩
  ·exact .inl q
  ·exact .inr ⟨H,h.I _ l,p.ext h l⟩
 | .sl sz b off len cap ex,v,d=>by
  obtain⟨B,base,k,o,m,e,D,h1,w,E,G⟩:=d;exact⟨B,base,k,o,h.ι _ _ m,e,D,h1,w,E,G.ext h⟩
 | .nilm,v,d=>by simpa[V]using d
 | .mapr b,v,d=>by
  obtain⟨B,m,e⟩:=d;exact⟨B,h.ι _ _ m,e⟩
 | .fn f first j,v,d=>by
  obtain⟨vs,x,e,h1,w⟩:=d;exact⟨vs,x,e,cg h first vs h1,cg h j x w⟩
 | .nilf,v,d=>by simpa[V]using d
 | .iface t a,v,d=>by
  obtain⟨u,e,hu⟩:=d;exact⟨u,e,o9 h a u hu⟩
 | .nili,v,d=>by simpa[V]using d
 | .tup as,v,d=>by
  obtain⟨vs,e,g⟩:=d;exact⟨vs,e,cg h as vs g⟩
 | .junk,v,_=>by simp[V]
theorem cg{c c':Cx}(h:Ext c c'):∀(as:List bc) (vs:List Value),Vs c as vs→Vs c' as vs
 | [],vs,b=>by simpa[Vs]using b
 |a::as,vs,b=>by
  obtain⟨v,d,e,h1,f⟩:=b;exact⟨v,d,e,o9 h a v h1,cg h as d f⟩
theorem kM{c c':Cx}(h:Ext c c')(sz:Nat):∀(rs:List (List bc)) (vs:List Value),Vss c sz rs vs→Vss c' sz rs vs
 | [],vs,a=>by simpa[Vss]using a
 |r::rs,vs,a=>by
  obtain⟨b,d,e,hl,h1,f⟩:=a;exact⟨b,d,e,hl,cg h r b h1,kM h sz rs d f⟩
end
end Go.Am
namespace Go.Am
open Go.RowKit
def Es(c:Cx):List (bc×bc)→List MapEntry→Prop
 | [],ms=>ms=[]
 |(k,v)::es,ms=>∃m ns,ms=m::ns∧V c k m.key∧V c v m.val∧Es c es ns
theorem yt{c c':Cx}(h:Ext c c'):∀(es:List (bc×bc)) (ms:List MapEntry),Es c es ms→Es c' es ms
 | [],ms,a=>by simpa[Es]using a
 |(k,v)::es,ms,a=>by
  obtain⟨m,ns,e,h1,d,f⟩:=a;exact⟨m,ns,e,o9 h _ _ h1,o9 h _ _ d,yt h es ns f⟩
theorem jm{c:Cx}:∀{es:List (bc×bc)} {ms:List MapEntry},Es c es ms→es.length=ms.length
 | [],_,h=>by simp[Es]at h;simp[h]
 |(_,_)::es,_,h=>by
  obtain⟨v,a,rfl,_,_,h⟩:=h;simp[jm h]
def Std(ms:Array MapEntry)(a:Nat):Prop:=a=ms.size∧∀(j:Nat) (m:MapEntry),ms[j]?=some m→m.born=j
def fm(c:Cx)(B base:Nat):cb→Prop
 | .cells cs=>(∀off,Room c.w B (off+1)→c.w.frozen? ⟨B,off,none⟩=false)∧Room c.w B (base+cs.length)∧∃vs,At c.w B base vs∧Vs c cs vs
 | .mp es=>base=0∧∃ms a,c.w.heap[B]?=some (.map ms a)∧Es c es ms.toList∧Std ms a
 | .it s e=>base=0∧∃t:ByteArray,c.w.heap[B]?=some (.stringIter t e)∧t.data.toList=s
 | .mi b d seen last=>base=0∧∃f,c.ι b=some (f,0)∧c.w.heap[B]?=some (.mapIter (some f) d seen.toArray last)
variable {B:Nat}{w w':World}
theorem At.of_block{off:Nat}{vs:List Value}(h:w'.heap[B]?=w.heap[B]?)(d:At w B off vs):At w' B off vs:=
 fun j v a=>by rw[World.cell?_of_block (w:=w) h];exact d j v a
theorem da(h:w'.heap[B]?=w.heap[B]?):w'.shape? B=w.shape? B:=by simp[World.shape?,h]
theorem Room.of_block{n:Nat}(h:w'.heap[B]?=w.heap[B]?)(e:Room w' B n):Room w B n:=by
 obtain⟨t,m,a,d⟩:=e;exact⟨t,m,by rw[← da h];exact a,d⟩
variable {base:Nat}{blk:cb}{c c':Cx}
theorem fm.ext(h:Ext c c')(j:c'.w.heap[B]?=c.w.heap[B]?)(f:fm c B base blk):fm c' B base blk:=by
 cases blk with
 |cells cs=>
  obtain⟨h1,e,vs,d,g⟩:=f;exact⟨fun off m=>by rw[World.frozen?_of_block (w:=c.w) j];exact h1 off (m.of_block j),e.ext h,vs,d.of_block j,cg h _ _ g⟩
 |mp es=>
  obtain⟨h1,ms,a,e,d,g⟩:=f;exact⟨h1,ms,a,by grind,yt h _ _ d,g⟩
 |it s n=>
  obtain⟨h1,t,e,d⟩:=f;exact⟨h1,t,by grind,d⟩
 |mi b k seen last=>
  obtain⟨h1,l,e,d⟩:=f;exact⟨h1,l,h.ι _ _ e,by grind⟩
structure Rel(c:Cx)(H:bd):Prop where
 blk:∀b blk,H[b]?=some (some blk)→∃B base,c.ι b=some (B,base)∧¬c.I B∧B<c.w.heap.size∧fm c B base blk
 inj:∀b b' blk blk' B base base',H[b]?=some (some blk)→H[b']?=some (some blk')→c.ι b=some (B,base)→c.ι b'=some (B,base')→b=b'
 fresh:∀b,H.length≤b→c.ι b=none
 lt:∀B,c.I B→B<c.w.heap.size
def Img(c:Cx)(H:bd)(B:Nat):Prop:=∃b blk base,H[b]?=some (some blk)∧c.ι b=some (B,base)
structure Tr(c:Cx)(H:bd)(c':Cx)(H':bd):Prop where
 ext:Ext c c'
 size:c.w.heap.size≤c'.w.heap.size
 frame:∀B,B<c.w.heap.size→¬Img c H B→c'.w.heap[B]?=c.w.heap[B]?
 img:∀B,B<c.w.heap.size→Img c' H' B→Img c H B
 imm:∀B,B<c.w.heap.size→c'.I B→c.I B∨Img c H B
 os:c'.w.os=c.w.os
 tape:c'.w.tape=c.w.tape
 output:c'.w.output=c.w.output
structure Low(lo:Nat)(c:Cx)(H:bd)(c':Cx)(H':bd):Prop where
 low:∀(b:Nat) (blk:cb),b<lo→H[b]?=some (some blk)→H'[b]?=some (some blk)∧∀B base,c.ι b=some (B,base)→c'.w.heap[B]?=c.w.heap[B]?
 dom:∀b,b<H.length→c.ι b=none→c'.ι b=none
 len:H.length≤H'.length
theorem Low.refl(lo:Nat)(c:Cx)(H:bd):Low lo c H c H:=⟨fun _ _ _ h=>⟨h,fun _ _ _=>rfl⟩,fun _ _ h=>h,qe _⟩
variable {H H' H'':bd}{c'':Cx}{lo:Nat}
theorem Low.trans(l:Ext c c')(h:Low lo c H c' H')(k:Low lo c' H' c'' H''):Low lo c H c'' H'':=by
 refine⟨?_,fun b a d=>k.dom b (qr a h.len) (h.dom b a d),Nat.le_trans h.len k.len⟩
 intro b blk a e;obtain⟨h1,f⟩:=h.low b blk a e;obtain⟨g,j⟩:=k.low b blk a h1;exact⟨g,fun B base d=>(j B base (l.ι _ _ d)).trans (f B base d)⟩
theorem Low.mono{a:Nat}(hl:a≤lo)(h:Low lo c H c' H'):Low a c H c' H':=
 ⟨fun b blk d e=>h.low b blk (qr d hl) e,h.dom,h.len⟩
theorem Tr.refl(c:Cx)(H:bd):Tr c H c H:=
 ⟨Ext.refl c,qe _,fun _ _ _=>rfl,fun _ _ h=>h,fun _ _ h=>.inl h,rfl,rfl,rfl⟩
theorem Tr.trans(h:Tr c H c' H')(k:Tr c' H' c'' H''):Tr c H c'' H'' where
 ext:=h.ext.trans k.ext
 size:=Nat.le_trans h.size k.size
 frame:=fun B a e=>(k.frame B (qr a h.size) fun d=>e (h.img B a d)).trans (h.frame B a e)
 img:=fun B a d=>h.img B a (k.img B (qr a h.size) d)
 imm:=fun B a d=>by
  rcases k.imm B (qr a h.size) d with h1|h1
  ·exact h.imm B a h1
  ·exact .inr (h.img B a h1)
 os:=k.os.trans h.os
 tape:=k.tape.trans h.tape
 output:=k.output.trans h.output
theorem Rel.step(s:Rel c H)(X:Nat→Prop)(K:∀B,X B→Img c H B)
 (A:∀b x,c.ι b=some x→c'.ι b=some x) (L:c'.θ=c.θ) (M:c'.I=c.I)
 (a:c.w.heap.size≤c'.w.heap.size) (e:∀B,B<c.w.heap.size→¬X B→c'.w.heap[B]?=c.w.heap[B]?)
 (g:∀B t n,c.w.shape? B=some (t,n)→c'.w.shape? B=some (t,n))
 (C:c'.w.os=c.w.os) (l:c'.w.tape=c.w.tape) (p:c'.w.output=c.w.output)
 (f:Ext c c'→∀b blk,H'[b]?=some (some blk)→
  (H[b]?=some (some blk)∧∃B base,c.ι b=some (B,base)∧¬X B)∨
  (∃B base,c'.ι b=some (B,base)∧¬c.I B∧B<c'.w.heap.size∧fm c' B base blk∧(B<c.w.heap.size→Img c H B)))
 (q:∀b z blk blk' B base base',H'[b]?=some (some blk)→H'[z]?=some (some blk')→c'.ι b=some (B,base)→c'.ι z=some (B,base')→b=z)
 (h:∀b,H'.length≤b→c'.ι b=none):Rel c' H'∧Tr c H c' H':=by
 have u:∀B,c.I B→¬Img c H B:=by
  rintro B j ⟨b,blk,base,h1,m⟩;obtain⟨v,base',o,k,_⟩:=s.blk b blk h1;grind
 have d:Ext c c':=⟨A,L,fun B j=>by grind,fun B j=>e B (s.lt B j) fun J=>u B j (K B J),g⟩
 refine⟨⟨?_,q,h, ?_⟩,⟨d,a, ?_, ?_, ?_,C,l,p⟩⟩
 ·intro b blk G;rcases f d b blk G with⟨h1,B,base,m,o⟩|⟨B,base,h1,m,o,k,_⟩
  ·obtain⟨v,base',k,D,y,E⟩:=s.blk b blk h1;rw[m]at k;obtain⟨rfl,rfl⟩:=k;exact⟨B,base,A _ _ m,by grind,qr y a,E.ext d (e B y o)⟩
  grind
 ·intro B j;rw[M]at j;exact qr (s.lt B j) a
 ·grind
 ·rintro B j ⟨b,blk,base,h1,m⟩;rcases f d b blk h1 with⟨o,v,base',k,D⟩|⟨v,base',o,k,D,y,E⟩
  ·have:=A _ _ k;rw[m]at this;obtain⟨rfl,rfl⟩:=this;exact⟨b,blk,base,o,k⟩
  grind
 grind
def Cx.put(c:Cx)(b B base:Nat)(w:World):Cx:={ c with ι:=fun x=>if x=b then some (B,base)else c.ι x,w:=w }
theorem pc(w:World)(o:Obj)(B:Nat)(t:TypeId)(n:Nat)(h:w.shape? B=some (t,n)):(w.alloc o).shape? B=some (t,n):=by
 have a:B<w.heap.size:=by
  rcases qk B w.heap.size with h1|h1
  ·exact h1
  ·simp[World.shape?,Array.getElem?_eq_none h1]at h
 rw[da (w:=w)]
 ·exact h
 ·exact Below.heap_alloc w o B a
theorem Rel.add(d:Rel c H)(b:Nat)(o:Obj)(blk:cb)(I:c.ι b=none)(G:b<H'.length)(v:H.length≤H'.length)
 (u:∀x y,H'[x]?=some (some y)→(x=b∧y=blk)∨(x≠b∧H[x]?=some (some y)))
 (j:Ext c (c.put b c.w.heap.size 0 (c.w.alloc o))→fm (c.put b c.w.heap.size 0 (c.w.alloc o)) c.w.heap.size 0 blk):
 Rel (c.put b c.w.heap.size 0 (c.w.alloc o)) H'∧Tr c H (c.put b c.w.heap.size 0 (c.w.alloc o)) H':=by
 refine d.step (fun _=>False) (fun _ h=>h.elim) ?_ rfl rfl ?_ ?_ ?_ rfl rfl rfl ?_ ?_ ?_
 ·simp only[Cx.put];grind
 ·simp[Cx.put]
 ·exact fun B E _=>Below.heap_alloc _ _ _ E
 ·exact fun B t n h=>pc _ _ _ _ _ h
 ·intro e x y k;rcases u x y k with⟨rfl,rfl⟩|⟨h1,l⟩
  ·refine .inr ⟨c.w.heap.size,0,by simp[Cx.put],fun f=>?_,by simp[Cx.put],j e,fun h=>absurd h (Nat.lt_irrefl _)⟩
   exact absurd (d.lt _ f) (Nat.lt_irrefl _)
  ·obtain⟨B,base,g,_⟩:=d.blk x y l;grind
 ·intro x m y p B base base' k q f a;simp only[Cx.put]at f a;rcases u x y k with⟨rfl,rfl⟩|⟨h1,l⟩<;>rcases u m p q with⟨g,s⟩|⟨g,s⟩
  ·exact g.symm
  ·obtain⟨z,A,C,_,D,_⟩:=d.blk m p s;grind
  ·subst g;obtain⟨z,A,C,_,D,_⟩:=d.blk x y l;grind
  ·rw[if_neg h1]at f;rw[if_neg g]at a;exact d.inj x m y p B base base' l s f a
 ·intro x k;simp only[Cx.put];rw[if_neg (by omega)]
  exact d.fresh x (by omega)
theorem Rel.add_low(f:Rel c H)(lo b:Nat)(o:Obj)(k:H.length≤b)(hl:H.length≤H'.length)(g:∀(x:Nat) (y:cb),H[x]?=some (some y)→H'[x]?=some (some y)):
 Low lo c H (c.put b c.w.heap.size 0 (c.w.alloc o)) H':=by
 refine⟨?_,fun x a h=>?_,hl⟩
 ·intro x y _ a;refine⟨g x y a,fun B base e=>?_⟩
  obtain⟨j,base',h1,_,d,_⟩:=f.blk x y a;rw[e]at h1;obtain⟨rfl,rfl⟩:=h1;exact Below.heap_alloc _ _ _ d
 ·simp only[Cx.put];grind
theorem Rel.update{c:Cx}{H:bd}(g:Rel c H){b B base:Nat}{blk blk':cb}(u:H[b]?=some (some blk))(k:c.ι b=some (B,base))(w':World)
 (v:w'.heap.size=c.w.heap.size) (A:∀X,X≠B→w'.heap[X]?=c.w.heap[X]?) (a:∀B t n,c.w.shape? B=some (t,n)→w'.shape? B=some (t,n))
 (C:w'.os=c.w.os) (e:w'.tape=c.w.tape) (l:w'.output=c.w.output)
 (K:Ext c { c with w:=w' }→fm { c with w:=w' } B base blk'):
 Rel { c with w:=w' } (H.set b (some blk'))∧Tr c H { c with w:=w' } (H.set b (some blk')):=by
 have j:Img c H B:=⟨b,blk,base,u,k⟩;obtain⟨P,p,M,Q,R,_⟩:=g.blk b blk u;rw[k]at M;have bF:∀x y,(H.set b (some blk'))[x]?=some (some y)→(x=b∧y=blk')∨(x≠b∧H[x]?=some (some y)):=by
  grind
 refine g.step (fun X=>X=B) (fun _ h=>h▸j) (fun _ _ h=>h) rfl rfl ?_ ?_ a C e l ?_ ?_ ?_
 ·grind
 ·grind
 ·intro D x y f;rcases bF x y f with⟨rfl,rfl⟩|⟨h1,s⟩
  ·grind
  ·obtain⟨G,I,J,_,_,_⟩:=g.blk x y s;refine .inl ⟨s,G,I,J, ?_⟩;rintro rfl;exact h1 (g.inj x b y blk G I base s u J k)
 ·intro x E y L B base base' f m k o;have d:∀(x:Nat) (y:cb),(H.set b (some blk'))[x]?=some (some y)→∃z:cb,H[x]?=some (some z):=by
   grind
  obtain⟨z,N⟩:=d x y f;obtain⟨O,q⟩:=d E L m;exact g.inj x E z O B base base' N q k o
 ·intro x f;rw[qu]at f;exact g.fresh x f
variable {b:Nat}
theorem Rel.set_low(h:Rel c H)(j:lo≤b)(k:H[b]?=some (some blk))(l:c.ι b=some (B,base))
 (a:∀X,X≠B→c'.w.heap[X]?=c.w.heap[X]?) (m:∀(x:Nat) (y:cb),x≠b→H[x]?=some (some y)→H'[x]?=some (some y))
 (e:∀b,b<H.length→c.ι b=none→c'.ι b=none) (hl:H.length≤H'.length):Low lo c H c' H':=by
 refine⟨?_,e,hl⟩;intro x y n d;refine⟨m x y (by omega) d,fun g base' f=>a g ?_⟩
 rintro rfl;have:=h.inj x b y blk g base' base d k f l;omega
variable {blk':cb}
theorem Rel.renew(j:Rel c H){base':Nat}(C:H[b]?=some (some blk))(D:c.ι b=some (B,base))(w':World)
 (L:w'.heap.size=c.w.heap.size) (o:∀X,X≠B→w'.heap[X]?=c.w.heap[X]?) (f:∀B t n,c.w.shape? B=some (t,n)→w'.shape? B=some (t,n))
 (M:w'.os=c.w.os) (p:w'.tape=c.w.tape) (u:w'.output=c.w.output)
 (v:Ext c (c.put H.length B base' w')→fm (c.put H.length B base' w') B base' blk'):
 Rel (c.put H.length B base' w') (H.set b none++[some blk'])∧Tr c H (c.put H.length B base' w') (H.set b none++[some blk']):=by
 have g:Img c H B:=⟨b,blk,base,C,D⟩;obtain⟨U,I,s,J,W,_⟩:=j.blk b blk C;rw[D]at s;obtain⟨rfl,rfl⟩:=s;have bF:∀x y,(H.set b none++[some blk'])[x]?=some (some y)→(x=H.length∧y=blk')∨(x≠b∧x<H.length∧H[x]?=some (some y)):=by
  grind
 refine j.step (fun X=>X=B) (fun _ h=>h▸g) ?_ rfl rfl ?_ ?_ f M p u ?_ ?_ ?_
 ·intro x y d;simp only[Cx.put];rw[if_neg]
  ·exact d
  ·rintro rfl;rw[j.fresh _ (qe _)]at d;cases d
 ·show c.w.heap.size≤w'.heap.size;omega
 ·exact fun X _ R=>o X R
 ·intro q x y d;rcases bF x y d with⟨rfl,rfl⟩|⟨h1,hl,m⟩
  ·exact .inr ⟨B,base',by simp[Cx.put],J,by show B<w'.heap.size;omega,v q,fun _=>g⟩
  ·obtain⟨z,P,A,_,_,_⟩:=j.blk x y m;refine .inl ⟨m,z,P,A, ?_⟩;rintro rfl;exact h1 (j.inj x b y blk z P base m C A D)
 ·intro x N y O z k e d G l a;simp only[Cx.put]at l a;have E:∀x y K,x≠b→H[x]?=some (some y)→c.ι x=some (B,K)→False:=fun x y K h1 m A=>h1 (j.inj x b y blk B K base m C A D)
  rcases bF x y d with⟨rfl,rfl⟩|⟨h1,hl,m⟩<;>rcases bF N O G with⟨s,_⟩|⟨s,Q,J⟩
  ·exact s.symm
  ·grind
  ·grind
  ·rw[if_neg (by omega)]at l
   rw[if_neg (by omega)]at a
   exact j.inj x N y O z k e m J l a
 ·intro x d;simp at d;simp only[Cx.put];rw[if_neg (by omega)]
  exact j.fresh x (by omega)
theorem Rel.drop(a:Rel c H)(b:Nat):Rel c (H.set b none)∧Tr c H c (H.set b none):=by
 have bF:∀(x:Nat) (y:cb),(H.set b none)[x]?=some (some y)→H[x]?=some (some y):=by
  grind
 refine⟨⟨fun x y e=>a.blk x y (bF x y e),fun x f y g B j k h1 d=>a.inj x f y g B j k (bF _ _ h1) (bF _ _ d),fun x e=>a.fresh x (by grind),a.lt⟩,
  ⟨Ext.refl c,qe _,fun _ _ _=>rfl, ?_,fun _ _ h=>.inl h,rfl,rfl,rfl⟩⟩
 rintro B _ ⟨x,y,base,h1,d⟩;exact⟨x,y,base,bF x y h1,d⟩
end Go.Am
namespace Go.Am
def eI:Value→bc
 | .bool b=>.bool b
 | .int k n=>.int k n
 | .string s=>.str s.data.toList
 | .pointer none=>.nilp
 | .slice none 0 0=>.nils
 | .map none=>.nilm
 | .nilFunc=>.nilf
 | .nilIface=>.nili
 | .iface t v=>.iface t (eI v)
 | .func f first a=>if first.isEmpty && a.isEmpty then .fn f [] []else .junk
 |_=>.junk
def nY:Value→bc
 | .agg cs=>.agg (cs.toList.map eI)
 |v=>eI v
def bc.cells:bc→List bc
 | .agg cs=>cs
 |v=>[v]
def bc.one:bc→Bool
 | .agg _| .tup _| .junk=>false
 |_=>true
def bz:bc:=.tup []
inductive Pol where
 |keep|pure|fresh
 deriving DecidableEq,Inhabited
structure bh where
 P:Program
 glob:Nat→Option (List bc)
 tab:List (Nat×Array Value):=[]
 pol:FuncId→Pol
 hook:FuncId→Option (Nat→List bc→bd→Option (bc×bd))
 meth:TypeId→String→Option FuncId
 methV:TypeId→String→bc→Option (FuncId×bc):=fun _ _ _=>none
 methVOk:∀t name a g b,methV t name a=some (g,b)→∀(c:Cx) (u:Value),V c a u→∃u',(method (P.types.size+Made.depth) t u name).run P c.w= .ok (g,u') c.w∧V c b u':=by intro t name a g b h;cases h
 ext:FuncId→List bc→Option bc:=fun _ _=>none
 extOk:∀f as r,ext f as=some r→∀(c:Cx) (vs:List Value),Vs c as vs→∃u,(callFunc f vs.toArray).run P c.w= .ok (.value u) c.w∧V c r u:=by intro f as r h;cases h
 quiet:FuncId→Bool:=fun _=>false
 quietOk:∀f,quiet f=true→∃hk,hook f=some hk∧∀lo args H r H',hk lo args H=some (r,H')→H'=H:=by intro f h;cases h
def ma(S:bh)(g:FuncId):Bool:=S.quiet g||((S.hook g).isNone && (S.pol g== .pure||S.pol g== .fresh))
variable (P:Program)
def bl(t:TypeId):Nat:=P.cellsOf t
def eV(t:TypeId):Option bc:=((P.info? t).bind (·.zero)).map nY
def fe(t:TypeId)(cs:List bc)(off:Nat):Option bc:=
 match P.underlying t with
 |some (.struct _)|some (.array _ _)=>
  if off+bl P t≤cs.length then some (.agg ((cs.drop off).take (bl P t)))else none
 |some _=>cs[off]?
 |none=>none
def gQ(op:BinOp)(k:IntKind)(x y:Int):Option bc:=
 match op with
 | .add=>some (.int k (k.wrap (x+y)))
 | .sub=>some (.int k (k.wrap (x-y)))
 | .mul=>some (.int k (k.wrap (x*y)))
 | .quo=>if y=0 then none else some (.int k (k.wrap (x.tdiv y)))
 | .rem=>if y=0 then none else some (.int k (x.tmod y))
 | .and=>some (.int k (k.wrap ((BitVec.ofInt k.bits x &&& BitVec.ofInt k.bits y).toNat)))
 | .or=>some (.int k (k.wrap ((BitVec.ofInt k.bits x|||BitVec.ofInt k.bits y).toNat)))
 | .xor=>some (.int k (k.wrap ((BitVec.ofInt k.bits x^^^BitVec.ofInt k.bits y).toNat)))
 | .andNot=>some (.int k (k.wrap ((BitVec.ofInt k.bits x &&& ~~~(BitVec.ofInt k.bits y)).toNat)))
 | .eql=>some (.bool (x==y))
 | .neq=>some (.bool (x !=y))
 | .lss=>some (.bool (decide (x<y)))
 | .leq=>some (.bool (decide (x≤y)))
 | .gtr=>some (.bool (decide (x>y)))
 | .geq=>some (.bool (decide (x≥y)))
 |_=>none
def uI(op:BinOp)(k:IntKind)(x y:Int):Option bc:=
 if y<0 then none else
 match op with
 | .shl=>some (.int k (k.wrap (x*2^(min y.toNat k.bits))))
 | .shr=>some (.int k (x.fdiv (2^(min y.toNat k.bits))))
 |_=>none
def l3(op:BinOp)(x y:List UInt8):Option bc:=
 match op with
 | .add=>if((x.length+y.length:Nat):Int)>IntKind.i64.max then none else some (.str (x++y))
 | .eql=>some (.bool (x==y))
 | .neq=>some (.bool (!(x==y)))
 | .lss=>some (.bool (Op.bytesLess x y))
 | .leq=>some (.bool (Op.bytesLess x y||x==y))
 | .gtr=>some (.bool (!(Op.bytesLess x y||x==y)))
 | .geq=>some (.bool (!(Op.bytesLess x y)))
 |_=>none
inductive NK where
 |p|i|s|f|m
 deriving DecidableEq
def nk:bc→Option (NK×Bool)
 | .nilp=>some (.p,true)
 | .ptr _ _=>some (.p,false)
 | .ipt _=>some (.p,false)
 | .eptr _ _=>some (.p,false)
 | .nili=>some (.i,true)
 | .iface _ _=>some (.i,false)
 | .nils=>some (.s,true)
 | .list _ _ _=>some (.s,false)
 | .sl _ _ _ _ _ _=>some (.s,false)
 | .nilf=>some (.f,true)
 | .fn _ _ _=>some (.f,false)
 | .nilm=>some (.m,true)
 | .mapr _=>some (.m,false)
 |_=>none
def yn(t:TypeId):NK→Bool
 | .p=>match P.underlying t with|some (.pointer _)=>true|_=>false
 | .i=>match P.underlying t with|some (.interface _)=>true|_=>false
 | .s=>match P.underlying t with|some (.slice _)=>true|_=>false
 | .f=>match P.underlying t with|some (.func _ _ _)=>true|_=>false
 | .m=>match P.underlying t with|some (.map _ _)=>true|_=>false
def BD(t:TypeId):Bool:=match P.underlying t with|some .bool=>true|_=>false
def ui(t:TypeId):bc→bc→Option Bool
 | .iface u x,.iface v y=>
  match P.underlying t with
  |some (.interface _)=>
   if u≠v then some false else
   match P.underlying u,x,y with
   |some (.pointer e),.eptr i _,.eptr j _=>
    match P.info? u,P.info? e with
    |some a,some b=>if a.comparable=true∧b.size≠0 then some (i==j)else none
    |_,_=>none
   |_,_,_=>none
  |_=>none
 |_,_=>none
def EL(f:TypeId→bc→bc→Option Bool)(xs c:List bc):List Field→Option Bool
 | []=>some true
 |fd::fs=>
  if fd.name== "_" then none else
  match fe P fd.type xs fd.offset,fe P fd.type c fd.offset with
  |some a,some b=>match f fd.type a b,EL f xs c fs with
   |some r,some d=>some (r && d)
   |_,_=>none
  |_,_=>none
def FU(f:bc→bc→Option Bool)(e:TypeId)(xs c:List bc):List Nat→Option Bool
 | []=>some true
 |i::is=>
  match fe P e xs (i*bl P e),fe P e c (i*bl P e)with
  |some a,some b=>match f a b,FU f e xs c is with
   |some r,some d=>some (r && d)
   |_,_=>none
  |_,_=>none
def eqV:Nat→TypeId→bc→bc→Option Bool
 |0,_,_,_=>none
 |d+1,t,x,y=>
  match P.underlying t with
  |some .bool=>match x,y with
   | .bool a,.bool b=>some (a==b)
   |_,_=>none
  |some (.int _)=>match x,y with
   | .int k a,.int f b=>if k=f then some (a==b)else none
   |_,_=>none
  |some .string=>match x,y with
   | .str a,.str b=>some (a==b)
   |_,_=>none
  |some (.struct fs)=>match x,y with
   | .agg xs,.agg c=>if P.stoodInHeld t then none else EL P (eqV d) xs c fs.toList
   |_,_=>none
  |some (.array n e)=>match x,y with
   | .agg xs,.agg c=>if(P.info? e).isSome then FU P (eqV d e) e xs c (List.range n)else none
   |_,_=>none
  |_=>none
def eqA(t:TypeId)(lit:Bool)(x y:bc):Option Bool:=
 match x,y with
 | .bool a,.bool b=>if BD P t then some (a==b)else none
 | .agg xs,.agg f=>if P.eqGuardType P.depth t=false then eqV P 8 t (.agg xs) (.agg f)else none
 | .iface u a,.iface v b=>ui P t (.iface u a) (.iface v b)
 |x,y=>
  match nk x,nk y with
  |some (c,d),some (g,e)=>
   if c=g∧(d=true∨e=true)∧yn P t c=true∧(lit=true∨c≠ .i∨d=false∨e=false)then some (d && e)else none
  |_,_=>none
def gx(op:BinOp)(t:TypeId)(lit:Bool)(x y:bc):Option bc:=
 match x,y with
 | .int k a,.int c b=>
  match op with
  | .shl| .shr=>uI op k a b
  |_=>if k=c then gQ op k a b else none
 | .str a,.str b=>l3 op a b
 |x,y=>
  match op with
  | .eql=>(eqA P t lit x y).map .bool
  | .neq=>(eqA P t lit x y).map fun b=>.bool (!b)
  |_=>none
def unA(op:UnOp)(x:bc):Option bc:=
 match op,x with
 | .neg,.int k n=>some (.int k (k.wrap (0-n)))
 | .xor,.int k n=>some (.int k (k.wrap ((BitVec.ofInt k.bits (if k.signed then-1 else k.max)^^^BitVec.ofInt k.bits n).toNat)))
 | .not,.bool b=>some (.bool (!b))
 |_,_=>none
def iJ:bc→Option Nat
 | .int _ n=>if 0≤n then some n.toNat else none
 |_=>none
def cq(sz:Nat):Nat→List bc→List (List bc)
 |0,_=>[]
 |n+1,cs=>cs.take sz::cq sz n (cs.drop sz)
def jQ(a:Nat→Option (Nat×Nat))(cells:List bc):List (Nat×bc)→Option (List bc)
 | []=>some cells
 |(i,v)::rest=>
  match a i with
  |none=>none
  |some (off,size)=>
   if v.cells.length≠size∨off+v.cells.length>cells.length∨!v.cells.all bc.one then none
   else jQ a (cells.take off++v.cells++cells.drop (off+v.cells.length)) rest
def atA(H:bd):bc→Option (List bc)
 | .ipt cs=>some cs
 | .eptr _ cs=>some cs
 | .ptr b off=>match H[b]? with
  |some (some (.cells cs))=>some (cs.drop off)
  |_=>none
 |_=>none
def hM(t:TypeId)(H:bd)(x:bc):Option bc:=(atA H x).bind fun cs=>fe P t cs 0
def splice(cs:List bc)(off:Nat)(new:List bc):List bc:=cs.take off++new++cs.drop (off+new.length)
def fw(lo:Nat)(t:TypeId)(H:bd)(x v:bc):Option bd:=
 match x with
 | .ptr b off=>match H[b]? with
  |some (some (.cells cs))=>
   if lo≤b∧v.cells.length=bl P t∧(P.info? t).isSome∧v.cells.all bc.one∧off+v.cells.length≤cs.length then
    some (H.set b (some (.cells (splice cs off v.cells))))
   else none
  |_=>none
 |_=>none
def fH(t:TypeId)(x:bc)(f:Nat):Option bc:=
 match P.underlying t with
 |some (.struct fs)=>
  match fs[f]? with
  |some a=>
   if(P.info? a.type).isSome∧bl P a.type≠0 then
    match x with
    | .ptr b off=>some (.ptr b (off+a.offset))
    | .ipt cs=>some (.ipt (cs.drop a.offset))
    | .eptr _ cs=>some (.ipt (cs.drop a.offset))
    |_=>none
   else none
  |none=>none
 |_=>none
def oa(t:TypeId)(x:bc)(f:Nat):Option bc:=
 match P.underlying t,x with
 |some (.struct fs),.agg cs=>
  match fs[f]? with
  |some a=>if(P.info? a.type).isSome then fe P a.type cs a.offset else none
  |none=>none
 |_,_=>none
def cu(t:TypeId)(x i:bc):Option bc:=
 match iJ i with
 |none=>none
 |some i=>
  match P.underlying t with
  |some (.array len e)=>
   if i<len∧(P.info? e).isSome then
    match x with
    | .ptr b off=>some (.ptr b (off+i*bl P e))
    | .ipt cs=>some (.ipt (cs.drop (i*bl P e)))
    |_=>none
   else none
  |some (.slice e)=>
   if(P.info? e).isSome then
    match x with
    | .list sz rows _=>if sz=bl P e then(rows[i]?).map .ipt else none
    | .sl sz b off len _ _=>if sz=bl P e∧i<len then some (.ptr b (off+i*sz))else none
    |_=>none
   else none
  |_=>none
def jv(t:TypeId)(x i:bc):Option bc:=
 match iJ i with
 |none=>none
 |some i=>
  match P.underlying t,x with
  |some (.array len e),.agg cs=>if i<len∧(P.info? e).isSome then fe P e cs (i*bl P e)else none
  |some .string,.str s=>(s[i]?).map fun b=>.int .u8 b.toNat
  |_,_=>none
def bL(d y:Nat):Option bc→Option Nat
 |none=>some d
 |some v=>match iJ v with
  |some i=>if i≤y then some i else none
  |none=>none
def b9(t:TypeId)(H:bd)(x:bc)(lo a mx:Option bc):Option bc:=
 match P.underlying t with
 |some .string=>
  match x,mx with
  | .str s,none=>(bL s.length s.length a).bind fun h=>(bL 0 h lo).map fun l=>.str ((s.drop l).take (h-l))
  |_,_=>none
 |some (.slice e)=>
  if(P.info? e).isSome then
   match x,mx with
   | .nils,none=>(bL 0 0 a).bind fun h=>(bL 0 h lo).map fun _=>.nils
   | .nils,some m=>if a.isSome then(bL 0 0 (some m)).bind fun m=>(bL 0 m a).bind fun h=>(bL 0 h lo).map fun _=>.nils else none
   | .list sz rows ex,none=>
    if sz=bl P e then
     (bL rows.length rows.length a).bind fun h=>(bL 0 h lo).map fun l=>.list sz ((rows.drop l).take (h-l)) (ex && h==rows.length)
    else none
   | .list sz rows _,some m=>
    if sz=bl P e∧a.isSome then
     (bL 0 rows.length (some m)).bind fun m=>(bL 0 m a).bind fun h=>(bL 0 h lo).map fun l=>.list sz ((rows.drop l).take (h-l)) (h==m)
    else none
   | .sl sz b off len cap ex,none=>
    if sz=bl P e then
     (bL len cap a).bind fun h=>(bL 0 h lo).map fun l=>.sl sz b (off+l*sz) (h-l) (cap-l) ex
    else none
   | .sl sz b off _ cap _,some m=>
    if sz=bl P e∧a.isSome then
     (bL 0 cap (some m)).bind fun m=>(bL 0 m a).bind fun h=>(bL 0 h lo).map fun l=>if m≤l then .list sz [] true else .sl sz b (off+l*sz) (h-l) (m-l) true
    else none
   |_,_=>none
  else none
 |some (.array n e)=>
  if(P.info? e).isSome∧mx.isNone then
   match x with
   | .ptr b off=>match H[b]? with
    |some (some (.cells cs))=>
     if off+n*bl P e≤cs.length then(bL n n a).bind fun h=>(bL 0 h lo).map fun l=>.sl (bl P e) b (off+l*bl P e) (h-l) (n-l) true
     else none
    |_=>none
   | .ipt cs=>if n*bl P e≤cs.length then(bL n n a).bind fun h=>(bL 0 h lo).map fun l=>.list (bl P e) (cq (bl P e) (h-l) (cs.drop (l*bl P e))) (h==n)else none
   |_=>none
  else none
 |_=>none
def ff(H:bd)(sz:Nat):bc→Option (List (List bc))
 | .nils=>some []
 | .list s rows _=>if s=sz then some rows else none
 | .str s=>if sz=1 then some (s.map fun b=>[.int .u8 b.toNat])else none
 | .sl s b off len _ _=>if s=sz then
  match H[b]? with
  |some (some (.cells cs))=>if off+len*sz≤cs.length then some (cq sz len (cs.drop off))else none
  |_=>none
  else none
 |_=>none
def jJ(t:TypeId)(H:bd)(x:bc):Option bc:=
 match P.underlying t,x with
 |some .string,.str s=>some (.int .i64 s.length)
 |some (.array _ _),.mapr _=>none
 |some (.array n _),_=>some (.int .i64 n)
 |some (.slice _),.nils=>some (.int .i64 0)
 |some (.slice _),.list _ rows _=>some (.int .i64 rows.length)
 |some (.slice _),.sl _ _ _ len _ _=>some (.int .i64 len)
 |some (.map _ _),.nilm=>some (.int .i64 0)
 |some (.map _ _),.mapr b=>match H[b]? with
  |some (some (.mp es))=>some (.int .i64 es.length)
  |_=>none
 |_,_=>none
def kG(e:TypeId):Bool:=
 match eV P e with
 |some z=>z.cells.length==bl P e && z.cells.all bc.one
 |none=>false
def mP(u:TypeId):Bool:=
 match P.underlying u with
 |some (.int _)|none=>false
 |_=>true
def bM(lo:Nat)(t u:TypeId)(H:bd)(s x:bc):Option (bc×bd):=
 match P.underlying t with
 |some (.slice e)=>
  let sz:=bl P e
  if(P.info? e).isSome∧sz≠0∧mP P u=true∧kG P e=true∧P.bytesOf e≠0 then
   match ff H sz x with
   |none=>none
   |some rows=>
    let new:=rows.flatten
    let n:=rows.length
    if !(new.all bc.one)then none else
    match s with
    | .nils=>
     if n=0 then some (.nils,H)
     else if n*P.bytesOf e≤140737488355328 then some (.sl sz H.length 0 n n false,H++[some (.cells new)])
     else none
    | .list a rs ex=>
     if a≠sz then none else
     if n=0 then some (.list a rs ex,H)
     else if ex∧(rs.flatten).all bc.one∧(rs.length+n)*P.bytesOf e≤140737488355328 then some (.sl sz H.length 0 (rs.length+n) (rs.length+n) false,H++[some (.cells (rs.flatten++new))])
     else none
    | .sl a b off len cap ex=>
     if a≠sz then none else
     match H[b]? with
     |some (some (.cells cs))=>
      if off+len*sz≤cs.length then
       if n=0 then some (.sl a b off len cap ex,H)
       else if len+n≤cap then
        if lo≤b∧off+(len+n)*sz≤cs.length then some (.sl sz b off (len+n) cap ex,H.set b (some (.cells (splice cs (off+len*sz) new))))
        else none
       else if(len+n)*P.bytesOf e≤140737488355328 then
        if ex then some (.sl sz H.length 0 (len+n) (len+n) false,H++[some (.cells ((cs.drop off).take (len*sz)++new))])
        else if lo≤b∧off+len*sz=cs.length then some (.sl sz H.length 0 (len+n) (len+n) false,H.set b none++[some (.cells (cs.drop off++new))])
        else none
       else none
      else none
     |_=>none
    |_=>none
  else none
 |_=>none
def ib(t:TypeId)(l c:bc):Option (cb×(Nat→bc)):=
 match P.underlying t,iJ l,iJ c with
 |some (.slice e),some l,some c=>
  match eV P e with
  |some z=>
   if l≤c∧c*P.bytesOf e≤281474976710656∧c≤9223372036854775807∧z.cells.length=bl P e∧bl P e≠0∧z.cells.all bc.one then
    some (.cells ((List.replicate c z.cells).flatten),fun id=>.sl (bl P e) id 0 l c false)
   else none
  |none=>none
 |_,_,_=>none
def iu(a dst:TypeId)(x:bc):Option bc:=
 match P.underlying a,P.underlying dst,x with
 |some _,some (.int k),.int _ n=>some (.int k (k.wrap n))
 |some _,some .string,.str s=>some (.str s)
 |_,_,_=>none
def pe:bc→Option Nat
 | .sl _ b _ _ _ _=>some b
 |_=>none
def df:List (List bc)→Option (List UInt8)
 | []=>some []
 | [.int .u8 n]::rs=>(df rs).map (UInt8.ofNat n.toNat:: ·)
 |_=>none
def fj(s d:TypeId)(H:bd)(x:bc):Option bc:=
 match P.underlying s,P.underlying d with
 |some (.slice e),some .string=>
  match P.underlying e,x with
  |some (.int .u8),.nils=>some (.str [])
  |some (.int .u8),.list sz rows _=>if sz=1 then(df rows).map .str else none
  |some (.int .u8),.sl sz b off len _ _=>
   if sz=1 then
    match H[b]? with
    |some (some (.cells cs))=>if off+len≤cs.length then(df (cq 1 len (cs.drop off))).map .str else none
    |_=>none
   else none
  |_,_=>none
 |_,_=>none
def qW(s d:TypeId)(H:bd)(x:bc):Option (bc×bd):=
 match P.underlying s,P.underlying d,x with
 |some .string,some (.slice e),.str t=>
  match P.underlying e with
  |some (.int .u8)=>some (.sl 1 H.length 0 t.length t.length false,H++[some (.cells (t.map fun b=>.int .u8 b.toNat))])
  |_=>none
 |_,_,_=>none
def ee(s d:TypeId)(H:bd)(x:bc):Option bc:=
 match iu P s d x with
 |some v=>some v
 |none=>fj P s d H x
def vt(t:TypeId):Option (cb×(Nat→bc)):=
 match eV P t with
 |some z=>if z.cells.all bc.one then some (.cells z.cells,fun id=>.ptr id 0)else none
 |none=>none
def IL(x:bc):Option (cb×(Nat→bc)):=
 if x.cells.all bc.one then some (.cells x.cells,fun id=>.ptr id 0)else none
def oh(t:TypeId)(a:List (Nat×bc)):Option bc:=
 match eV P t with
 |none=>none
 |some z=>
  if !z.cells.all bc.one then none else
  match P.underlying t with
  |some (.struct fs)=>
   if fs.all (fun f=>(P.info? f.type).isSome)then(jQ (fun i=>(fs[i]?).map fun f=>(f.offset,bl P f.type)) z.cells a).map .agg else none
  |some (.array _ e)=>if(P.info? e).isSome then(jQ (fun i=>some (i*bl P e,bl P e)) z.cells a).map .agg else none
  |_=>none
def iq(t:TypeId)(len:Nat)(a:List (Nat×bc)):Option (cb×(Nat→bc)):=
 match P.underlying t with
 |some (.slice e)=>
  match eV P e with
  |none=>none
  |some z=>
   if z.cells.length=bl P e∧bl P e≠0∧z.cells.all bc.one∧len*bl P e≤16777216 then
    (jQ (fun i=>some (i*bl P e,bl P e)) ((List.replicate len z.cells).flatten) a).map fun cs=>(.cells cs,fun id=>.sl (bl P e) id 0 len len false)
   else none
 |_=>none
def jL:List bc→List bc→Option Bool
 | [],[]=>some true
 | .int k x::xs,.int a y::b=>if k=a then(if x=y then jL xs b else some false)else none
 |_,_=>none
def Nf:bc→Bool
 | .int _ _=>true
 |_=>false
inductive iD where
 |int|str|ints (n:Nat) (e:TypeId)
def dS(t:TypeId):Option iD:=
 match P.underlying t with
 |some (.int _)=>some .int
 |some .string=>some .str
 |some (.array n e)=>
  match P.underlying e with
  |some (.int _)=>if bl P e=1 then some (.ints n e)else none
  |_=>none
 |_=>none
def o5:iD→bc→Bool
 | .int,.int _ _=>true
 | .str,.str _=>true
 | .ints n _,.agg cs=>cs.length==n && cs.all Nf
 |_,_=>false
def jc:iD→bc→bc→Option Bool
 | .int,.int k x,.int b y=>if k=b then some (x==y)else none
 | .str,.str x,.str y=>some (x==y)
 | .ints n _,.agg xs,.agg a=>if xs.length=n∧a.length=n then jL xs a else none
 |_,_,_=>none
def fT(k:iD)(x:bc):List (bc×bc)→Nat→Option (Option (Nat×bc))
 | [],_=>some none
 |(y,v)::es,i=>
  match jc k x y with
  |none=>none
  |some true=>some (some (i,v))
  |some false=>fT k x es (i+1)
def gy(t:TypeId)(H:bd)(m x:bc)(ok:Bool):Option bc:=
 match P.underlying t with
 |some (.map a c)=>
  match dS P a,eV P c with
  |some k,some z=>
   if o5 k x then
    match m with
    | .nilm=>some (if ok then .tup [z,.bool false]else z)
    | .mapr b=>
     match H[b]? with
     |some (some (.mp es))=>
      match fT k x es 0 with
      |some (some (_,v))=>some (if ok then .tup [v,.bool true]else v)
      |some none=>some (if ok then .tup [z,.bool false]else z)
      |none=>none
     |_=>none
    |_=>none
   else none
  |_,_=>none
 |_=>none
def c9(lo:Nat)(t:TypeId)(H:bd)(m x v:bc):Option bd:=
 match P.underlying t with
 |some (.map a _)=>
  match dS P a with
  |some k=>
   if o5 k x then
    match m with
    | .mapr b=>
     if lo≤b then
      match H[b]? with
      |some (some (.mp es))=>
       match fT k x es 0 with
       |some (some (i,_))=>some (H.set b (some (.mp (es.set i (x,v)))))
       |some none=>some (H.set b (some (.mp (es++[(x,v)]))))
       |none=>none
      |_=>none
     else none
    |_=>none
   else none
  |none=>none
 |_=>none
def uq(t:TypeId):Bool:=
 match P.underlying t with
 |some (.interface _)=>true
 |none=>true
 |_=>false
def og:Operand→Bool
 | .const _=>true
 |_=>false
def oT(a:Array (String×TypeId))(b:Array Method):Bool:=
 a.toList.any fun m=>!b.any fun n=>n.name==m.1 && n.sig==m.2
def eq(x:bc)(t:TypeId)(ok:Bool):Option bc:=
 match x with
 | .nili=>if ok∧(P.underlying t).isSome then(eV P t).map fun z=>.tup [z,.bool false]else none
 | .iface u v=>
  match P.underlying t with
  |some (.interface a)=>
   match P.info? u with
   |some i=>
    if oT a i.methods then(if ok then(eV P t).map fun z=>.tup [z,.bool false]else none)
    else some (if ok then .tup [.iface u v,.bool true]else .iface u v)
   |none=>none
  |some _=>
   if u=t then some (if ok then .tup [v,.bool true]else v)
   else if ok then(eV P t).map fun z=>.tup [z,.bool false]else none
  |none=>none
 |_=>none
def bj(S:bh)(ρ:List bc):Operand→bc
 | .tmp t=>ρ.getD t bz
 | .const v=>nY v
 | .global g=>match S.glob g with
  |some cs=>.ipt cs
  |none=>.junk
 | .func f=>.fn (.func f) [] []
def vC(P:Program)(t:TypeId)(x:bc):Option (cb×(Nat→bc)):=
 match P.underlying t,x with
 |some .string,.str s=>some (.it s 0,fun id=>.ptr id 0)
 |_,_=>none
def qL(lo:Nat)(H:bd)(x:bc)(a:Bool):Option (bc×bd):=
 match x,a with
 | .ptr b 0,true=>
  match H[b]? with
  |some (some (.it s e))=>
   if lo≤b then
    match s[e]? with
    |none=>some (.tup [.bool false],H)
    |some c=>if c<128 then some (.tup [.bool true,.int .i64 e,.int .i32 c.toNat],H.set b (some (.it s (e+1))))else none
   else none
  |_=>none
 | .ptr b 0,false=>
  match H[b]? with
  |some (some (.mi m d seen last))=>
   match H[m]? with
   |some (some (.mp es))=>
    if lo≤b∧(seen=[]∨es=[]∨0<last)then
     match (List.range' 0 es.length).filter fun j=>!seen.contains j with
     | []=>some (.tup [.bool false],H)
     | [j]=>if j<d then(match es[j]? with
      |some (k,v)=>some (.tup [.bool true,k,v],H.set b (some (.mi m d (seen++[j]) es.length)))
      |none=>none)else none
     |_=>none
    else none
   |_=>none
  |_=>none
 |_,_=>none
def pE(P:Program)(t:TypeId)(H:bd)(x:bc):Option (bc×bd):=
 match P.underlying t,x with
 |some (.map _ _),.mapr b=>
  match H[b]? with
  |some (some (.mp es))=>some (.ptr H.length 0,H++[some (.mi b es.length [] es.length)])
  |_=>none
 |_,_=>none
def yD(H:bd)(x:bc):Option bc:=
 match x with
 | .ptr b 0=>
  match H[b]? with
  |some (some (.mi m a seen last))=>
   match seen.getLast?,H[m]? with
   |some j,some (some (.mp es))=>if last=es.length then(es[j]?).map fun p=>.tup [p.1,p.2]else none
   |_,_=>none
  |_=>none
 |_=>none
def lE(S:bh)(ρ:List bc):Op→Option (cb×(Nat→bc))
 | .alloc t=>vt S.P t
 | .box _ x=>IL (bj S ρ x)
 | .buildSlice t len a=>iq S.P t len (a.toList.map fun p=>(p.1,bj S ρ p.2))
 | .makeSlice t l c=>ib S.P t (bj S ρ l) (bj S ρ c)
 | .makeMap _ none=>some (.mp [],fun id=>.mapr id)
 | .range t x=>vC S.P t (bj S ρ x)
 |_=>none
def dZ:bc→Option bc
 | .ptr b off=>some (.ptr b off)
 | .ipt cs=>some (.ipt cs)
 | .eptr id cs=>some (.eptr id cs)
 | .fn (.func f) a b=>some (.fn (.func f) a b)
 |_=>none
def bR(S:bh)(ρ:List bc)(H:bd):Op→Option bc
 | .move x| .assign x=>some (bj S ρ x)
 | .pick c a b=>match bj S ρ c with
  | .bool true=>some (bj S ρ a)
  | .bool false=>some (bj S ρ b)
  |_=>none
 | .build t g=>oh S.P t (g.toList.map fun p=>(p.1,bj S ρ p.2))
 | .load t x=>hM S.P t H (bj S ρ x)
 | .nilCheck x=>dZ (bj S ρ x)
 | .binOp op t x y _=>gx S.P op t (og x||og y) (bj S ρ x) (bj S ρ y)
 | .unOp op _ x=>unA op (bj S ρ x)
 | .convert s d x=>ee S.P s d H (bj S ρ x)
 | .makeInterface t x=>if uq S.P t then none else some (.iface t (bj S ρ x))
 | .makeFunc f first e=>some (.fn f (first.toList.map (bj S ρ)) (e.toList.map (bj S ρ)))
 | .slice t x lo h mx=>b9 S.P t H (bj S ρ x) (lo.map (bj S ρ)) (h.map (bj S ρ)) (mx.map (bj S ρ))
 | .fieldAddr t x f=>fH S.P t (bj S ρ x) f
 | .field t x f=>oa S.P t (bj S ρ x) f
 | .indexAddr t x i=>cu S.P t (bj S ρ x) (bj S ρ i)
 | .index t x i=>jv S.P t (bj S ρ x) (bj S ρ i)
 | .lookup t m x ok=>gy S.P t H (bj S ρ m) (bj S ρ x) ok
 | .extract x i=>match bj S ρ x with
  | .tup vs=>vs[i]?
  |_=>none
 | .call { callee:=.builtin .len,args:=args,argTypes:=ts }=>
  match ts[0]?,args[0]? with
  |some t,some x=>jJ S.P t H (bj S ρ x)
  |_,_=>none
 | .call { callee:=.builtin .min,args:=args,.. }=>
  match args.toList.map (bj S ρ)with
  | [.int k x,.int _ y]=>some (.int k (if y<x then y else x))
  |_=>none
 | .call { callee:=.builtin .max,args:=args,.. }=>
  match args.toList.map (bj S ρ)with
  | [.int k x,.int _ y]=>some (.int k (if x<y then y else x))
  |_=>none
 | .typeAssert x _ t ok=>eq S.P (bj S ρ x) t ok
 |_=>none
end Go.Am
namespace Go.Am
open Go.RowKit
theorem jZ{c:Cx}:∀{as:List bc} {vs:List Value} {i:Nat} {a:bc},Vs c as vs→as[i]?=some a→∃v,vs[i]?=some v∧V c a v
 | [],_,_,_,_,h=>by simp at h
 |x::as,_,0,a,b,h=>by
  simp only[Vs]at b;grind
 |x::as,_,i+1,a,b,h=>by
  obtain⟨v,g,rfl,_,e⟩:=b;obtain⟨u,j,k⟩:=jZ e h;grind
theorem ld{c:Cx}:∀{as:List bc} {vs:List Value} (n:Nat),Vs c as vs→Vs c (as.take n) (vs.take n)
 | [],_,n,h=>by subst h;simp[Vs]
 |a::as,_,0,_=>by simp[Vs]
 |a::as,_,n+1,h=>by
  obtain⟨v,e,rfl,h1,b⟩:=h;exact⟨v,_,rfl,h1,ld n b⟩
theorem di{c:Cx}:∀{as:List bc} {vs:List Value} (n:Nat),Vs c as vs→Vs c (as.drop n) (vs.drop n)
 | [],_,n,h=>by subst h;simp[Vs]
 |a::as,_,0,h=>by simpa using h
 |a::as,_,n+1,h=>by
  obtain⟨v,e,rfl,h1,b⟩:=h
  simpa using di n b
theorem cm{c:Cx}:∀{as e:List bc} {vs b:List Value},Vs c as vs→Vs c e b→Vs c (as++e) (vs++b)
 | [],_,_,_,h,k=>by simp[Vs]at h;grind
 |a::as,_,_,_,h,k=>by
  obtain⟨v,b,rfl,h1,g⟩:=h;exact⟨v,_,rfl,h1,cm g k⟩
theorem DZ{c:Cx}:∀{as:List bc} {vs:List Value} {i:Nat} {a:bc} {v:Value},Vs c as vs→V c a v→Vs c (as.set i a) (vs.set i v)
 | [],_,_,_,_,h,_=>by subst h;simp[Vs]
 |x::as,_,0,a,v,h,k=>by
  obtain⟨u,e,rfl,h1,b⟩:=h;simp only[List.set_cons_zero,Vs];grind
 |x::as,_,i+1,a,v,h,k=>by
  simp only[Vs]at h;obtain⟨u,e,rfl,h1,b⟩:=h;simp;exact⟨u,_,rfl,h1,DZ b k⟩
theorem Ex{c:Cx}{β:Type}(f:β→bc)(g:β→Value)(h:∀x,V c (f x) (g x)):∀l:List β,Vs c (l.map f) (l.map g)
 | []=>by simp[Vs]
 |x::l=>by
  exact⟨_,_,rfl,h x,Ex f g h l⟩
theorem jE{c:Cx}{a:bc}{v:Value}(h:V c a v):∀n,Vs c (List.replicate n a) (List.replicate n v)
 |0=>by simp[Vs]
 |n+1=>by
  exact⟨_,_,rfl,h,jE h n⟩
theorem vJ(c:Cx):∀v:Value,V c (eI v) v
 | .bool b=>by simp[eI,V]
 | .int k n=>by simp[eI,V]
 | .string s=>by simp only[eI,V];grind
 | .pointer none=>by simp[eI,V]
 | .pointer (some a)=>by simp[eI,V]
 | .slice a n m=>by
  unfold eI;split<;>simp_all[V]
 | .map none=>by simp[eI,V]
 | .map (some a)=>by simp[eI,V]
 | .nilFunc=>by simp[eI,V]
 | .nilIface=>by simp[eI,V]
 | .iface t v=>by
  exact⟨v,rfl,vJ c v⟩
 | .func f a b=>by
  simp only[eI];split
  ·rename_i h;simp at h;obtain⟨rfl,rfl⟩:=h;exact⟨[],[],rfl,by simp[Vs],by simp[Vs]⟩
  ·simp[V]
 | .float _ _=>by simp[eI,V]
 | .complex _ _ _=>by simp[eI,V]
 | .chan _=>by simp[eI,V]
 | .agg _=>by simp[eI,V]
 | .tuple _=>by simp[eI,V]
theorem ra(c:Cx)(v:Value):V c (nY v) v:=by
 cases v with
 |agg cs=>
  refine⟨cs.toList,rfl, ?_⟩;have:=Ex (c:=c) eI id (fun x=>vJ c x) cs.toList
  simp_all
 |_=>exact vJ c _
structure cV(S:bh)(c:Cx):Prop where
 v:∀g cs,S.glob g=some cs→V c (.ipt cs) (.pointer (some ⟨g,0,none⟩))
 t:∀p∈S.tab,c.I p.1∧∃t fr,c.w.heap[p.1]?=some (.cells p.2 t fr)
variable {S:bh}{c:Cx}
theorem cV.ext{c':Cx}(h:Ext c c')(b:cV S c):cV S c':=
 ⟨fun g cs j=>o9 h _ _ (b.v g cs j),fun p k=>by
  obtain⟨h1,e⟩:=b.t p k;exact⟨h.I _ h1,by rw[h.kept _ h1];exact e⟩⟩
variable {vs:List Value}
theorem uF{as:List bc}(h:Vs c as vs)(i:Nat):V c (as.getD i bz) (vs.getD i undef):=by
 cases ha:as[i]? with
 |none=>
  have hl:=bH h;have:vs[i]?=none:=by
   grind
  simp only[List.getD,ha,this,bz,V];exact⟨[],rfl,by simp[Vs]⟩
 |some a=>
  obtain⟨v,h1,b⟩:=jZ h ha
  grind
theorem ut{ρ:List bc}{a:Act}(b:cV S c)(e:Vs c ρ a.tmps.toList)(x:Operand):V c (bj S ρ x) (a.eval x):=by
 cases x with
 |tmp t=>
  have:=uF e t
  simpa[bj,Act.eval,Array.getD_eq_getD_getElem?,List.getD]using this
 |const v=>exact ra c v
 |global g=>
  simp only[bj];split
  ·rename_i cs h;exact b.v g cs h
  ·simp[V]
 |func f=>
  exact⟨[],[],rfl,by simp[Vs],by simp[Vs]⟩
variable {a:bc}{v:Value}
theorem fW(h:V c a v)(b:a.cells.all bc.one=true):Vs c a.cells v.cells.toList:=by
 cases a with
 |agg cs=>
  obtain⟨vs,rfl,h⟩:=h
  simpa[bc.cells,Value.cells]using h
 |tup _=>simp[bc.cells,bc.one]at b
 |junk=>simp[bc.cells,bc.one]at b
 |_=>
  have:v.cells= #[v]:=by
   simp only[V]at h;rcases v with _|_|_|_|_|_|_|_|_|_|_|_|_|_|_<;>first|rfl|grind
  simp only[bc.cells,Vs];grind
theorem DJ(h:V c a v)(b:a.one=true):v.oneCell'=true:=by
 cases a<;>simp[bc.one]at b<;>simp only[V]at h<;>
  rcases v with _|_|_|_|_|_|_|_|_|_|_|_|_|_|_<;>first|rfl|grind
theorem l5{c:Cx}:∀{as:List bc} {vs:List Value},Vs c as vs→as.all bc.one=true→∀v∈vs,v.oneCell'=true
 | [],_,h,_,v,b=>by simp[Vs]at h;grind
 |a::as,_,h,e,v,b=>by
  obtain⟨u,j,rfl,h1,g⟩:=h;simp only[List.all_cons,qi]at e;rcases List.mem_cons.1 b with rfl|b
  ·exact DJ h1 e.1
  ·exact l5 g e.2 v b
variable {P:Program}
def C6:TypeDesc→Bool
 | .struct _=>true
 | .array _ _=>true
 |_=>false
variable {d:TypeDesc}{t:TypeId}
theorem ja(h:P.underlying t=some d)(w:World):(isAgg t).run P w= .ok (C6 d) w:=by
 simp only[isAgg,Sem.run_bind,run_underlying h];cases d<;>rfl
theorem run_typeInfo{i:TypeInfo}(h:P.info? t=some i)(w:World):(typeInfo t).run P w= .ok i w:=by
 simp[typeInfo,h]
theorem cM{z:bc}(h:eV P t=some z)(w:World):∃v,(zeroValue t).run P w= .ok v w∧V c z v:=by
 unfold eV at h;rw[qd]at h;obtain⟨v,b,rfl⟩:=h;rw[Option.bind_eq_some_iff]at b;obtain⟨i,e,g⟩:=b;exact⟨v,by simp[zeroValue,run_typeInfo e,g],ra c v⟩
theorem run_sizeOf(h:(P.info? t).isSome=true)(w:World):(sizeOf t).run P w= .ok (bl P t) w:=by
 obtain⟨i,b⟩:=Option.isSome_iff_exists.1 h;simp[sizeOf,run_typeInfo b,bl,Program.cellsOf,b]
theorem info_of_underlying(h:P.underlying t=some d):(P.info? t).isSome=true:=by
 unfold Program.underlying at h;grind
variable {cs:List bc}{r:bc}
theorem gH{off:Nat}(h:fe P t cs off=some r)(k:Vs c cs vs)(w:World):
 ∃v,(part t vs.toArray off).run P w= .ok v w∧V c r v:=by
 unfold fe at h;have agg:∀d,P.underlying t=some d→C6 d=true→(if off+bl P t≤cs.length then some (bc.agg ((cs.drop off).take (bl P t)))else none)=some r→
  ∃v,(part t vs.toArray off).run P w= .ok v w∧V c r v:=by
  intro d b j g;split at g
  ·simp at g;subst g;refine⟨.agg ((vs.drop off).take (bl P t)).toArray, ?_, ?_⟩
   ·simp only[part,Sem.run_bind,ja b,Result.andThen_ok,j,if_true,run_sizeOf (info_of_underlying b),Sem.run_pure];grind
   ·exact⟨_,rfl,ld _ (di _ k)⟩
  ·cases g
 split at h
 ·rename_i fs b;exact agg _ b rfl h
 ·rename_i n e b;exact agg _ b rfl h
 ·rename_i d l m b;obtain⟨v,h1,p⟩:=jZ k h;refine⟨v, ?_,p⟩;have j:C6 d=false:=by
   cases d<;>first|rfl|grind|grind
  simp[part,ja b,j,h1]
 ·cases h
theorem add_plain(B o n:Nat):(⟨B,o,none⟩:Addr).add n=⟨B,o+n,none⟩:=by
 unfold Addr.add;grind
variable {B o:Nat}{w:World}
theorem pw(h:fe P t cs 0=some r)(m:Vs c cs vs)(p:At w B o vs):
 ∃v,(loadVar t ⟨B,o,none⟩).run P w= .ok v w∧V c r v:=by
 unfold fe at h;have agg:∀d,P.underlying t=some d→C6 d=true→(if 0+bl P t≤cs.length then some (bc.agg ((cs.drop 0).take (bl P t)))else none)=some r→
  ∃v,(loadVar t ⟨B,o,none⟩).run P w= .ok v w∧V c r v:=by
  intro d b l g;split at g
  ·simp at g;subst g;have hl:=bH m;refine⟨.agg (vs.take (bl P t)).toArray, ?_, ?_⟩
   ·have hc:=run_loadCells_list (P:=P) w ⟨B,o,none⟩ (vs.take (bl P t)) (by
     intro j v k;rw[List.getElem?_take]at k;split at k
     ·rw[add_plain];exact p j v k
     ·cases k)
    have e:(vs.take (bl P t)).length=bl P t:=by simp;omega
    rw[e]at hc;simp only[loadVar,Sem.run_bind,ja b,Result.andThen_ok,l,if_true,run_sizeOf (info_of_underlying b),hc,Sem.run_pure]
   ·exact⟨_,rfl,ld _ m⟩
  ·cases g
 split at h
 ·rename_i fs b;exact agg _ b rfl h
 ·rename_i n e b;exact agg _ b rfl h
 ·rename_i d q s b;obtain⟨v,h1,u⟩:=jZ m h;refine⟨v, ?_,u⟩;have l:C6 d=false:=by
   cases d<;>first|rfl|grind|grind
  have:=p 0 v h1;simp at this;simp[loadVar,ja b,l,this]
 ·cases h
theorem dF(n:Nat)(h:At w B o vs):At w B (o+n) (vs.drop n):=by
 intro j v b;rw[List.getElem?_drop]at b;have:=h (n+j) v b;grind
theorem gz(n:Nat)(h:At w B o vs):At w B o (vs.take n):=by
 intro j v b;rw[List.getElem?_take]at b;split at b
 ·exact h j v b
 ·cases b
variable {H:bd}{x:bc}
theorem Ab(p:Rel c H)(h:atA H x=some cs)(k:V c x v):
 ∃B o vs,v= .pointer (some ⟨B,o,none⟩)∧At c.w B o vs∧Vs c cs vs:=by
 cases x<;>simp only[atA]at h<;>first|cases h|skip
 case ipt=>
  obtain⟨B,off,vs,e,_,j,g⟩:=k;exact⟨B,off,vs,e,j,cg (Ext.of_pure c) _ _ g⟩
 case eptr=>
  obtain⟨B,o,vs,_,_,e,_,j,g,_⟩:=k;exact⟨B,o,vs,e,j,cg (Ext.of_pure c) _ _ g⟩
 case ptr b off=>
  split at h
  ·rename_i cs' l;simp at h;subst h;obtain⟨B,base,m,e⟩:=k;obtain⟨q,base',h1,_,_,n⟩:=p.blk b _ l;rw[m]at h1;obtain⟨rfl,rfl⟩:=h1;obtain⟨_,_,vs,j,g⟩:=n;exact⟨B,base+off,vs.drop off,e,dF off j,di off g⟩
  ·cases h
theorem B5(l:Rel c H)(h:hM P t H x=some r)(m:V c x v):
 ∃u,(Instr.loadAt t v).run P c.w= .ok u c.w∧V c r u:=by
 unfold hM at h;rw[Option.bind_eq_some_iff]at h;obtain⟨cs,h1,e⟩:=h;obtain⟨B,o,vs,rfl,g,b⟩:=Ab l h1 m;obtain⟨u,j,k⟩:=pw e b g;exact⟨u,by simp[Instr.loadAt,Instr.sureAddr,j],k⟩
variable {f:Nat}
theorem rY(h:fH P t x f=some r)(q:V c x v)(w:World):
 ∃u,(Instr.fieldAt t v f).run P w= .ok u w∧V c r u:=by
 unfold fH at h;split at h
 ·rename_i fs l;split at h
  ·rename_i e m;split at h
   ·rename_i k;have g:∀B o,(fieldPlace ⟨B,o,none⟩ e).run P w= .ok ⟨B,o+e.offset,none⟩ w:=by
     simp[fieldPlace,run_sizeOf k.1,k.2,add_plain]
    split at h
    ·rename_i b off;simp at h;subst h;obtain⟨B,base,s,rfl⟩:=q;refine⟨.pointer (some ⟨B,base+(off+e.offset),none⟩), ?_, ?_⟩
     ·simp[Instr.fieldAt,run_underlying l,m,Instr.sureAddr,g]
     ·simp only[V];grind
    ·simp at h;subst h;obtain⟨B,o,vs,rfl,n,p,j⟩:=q;refine⟨.pointer (some ⟨B,o+e.offset,none⟩), ?_, ?_⟩
     ·simp[Instr.fieldAt,run_underlying l,m,Instr.sureAddr,g]
     ·exact⟨B,o+e.offset,vs.drop e.offset,rfl,n,dF _ p,di _ j⟩
    ·simp at h;subst h;obtain⟨B,o,vs,_,_,rfl,n,p,j,_⟩:=q;refine⟨.pointer (some ⟨B,o+e.offset,none⟩), ?_, ?_⟩
     ·simp[Instr.fieldAt,run_underlying l,m,Instr.sureAddr,g]
     ·exact⟨B,o+e.offset,vs.drop e.offset,rfl,n,dF _ p,di _ j⟩
    ·cases h
   ·cases h
  ·cases h
 ·cases h
theorem yk(h:oa P t x f=some r)(k:V c x v)(w:World):
 ∃u,(Instr.field t v f).run P w= .ok u w∧V c r u:=by
 unfold oa at h;split at h
 ·rename_i fs cs e;split at h
  ·rename_i l g;split at h
   ·obtain⟨vs,rfl,b⟩:=k;obtain⟨u,h1,j⟩:=gH h b w;exact⟨u,by simp[Instr.field,run_underlying e,g,asAgg,h1],j⟩
   ·cases h
  ·cases h
 ·cases h
theorem kp{i:Nat}(h:iJ x=some i)(b:V c x v):∃k n,v= .int k n∧0≤n∧n.toNat=i:=by
 unfold iJ at h;split at h
 ·split at h
  ·simp only[V]at b;grind
  ·cases h
 ·cases h
theorem Af{c:Cx}{sz:Nat}:∀{rows:List (List bc)} {vs:List Value} {i:Nat} {r:List bc},Vss c sz rows vs→rows[i]?=some r→Vs c r ((vs.drop (i*sz)).take sz)∧i*sz+sz≤vs.length
 | [],_,_,_,_,h=>by simp at h
 |x::rows,_,0,r,b,h=>by
  simp only[Vss]at b;grind
 |x::rows,_,i+1,r,b,h=>by
  obtain⟨g,l,rfl,hl,h1,j⟩:=b;obtain⟨k,m⟩:=Af j h;have e:(i+1)*sz=g.length+i*sz:=by grind
  refine⟨?_, ?_⟩
  ·rw[e,← List.drop_drop,List.drop_left];exact k
  grind
theorem fI{c:Cx}{sz:Nat}:∀{rows:List (List bc)} {vs:List Value},Vss c sz rows vs→vs.length=rows.length*sz
 | [],_,h=>by simp[Vss]at h;simp[h]
 |x::rows,_,h=>by
  obtain⟨e,g,rfl,hl,h1,b⟩:=h;rw[qn,fI b,hl,qm,Nat.succ_mul,Nat.add_comm]
variable {i:bc}{vi:Value}
theorem rZ(h:cu P t x i=some r)(y:V c x v)(R:V c i vi)(w:World):
 ∃u,(Instr.indexAt t v vi).run P w= .ok u w∧V c r u:=by
 unfold cu at h;split at h
 ·cases h
 ·rename_i j K;obtain⟨k,n,rfl,A,rfl⟩:=kp K R;split at h
  ·rename_i len e p;split at h
   ·rename_i l;have g:(0≤n∧n<(len:Int)):=⟨A,by omega⟩
    split at h
    ·rename_i b off;simp at h;subst h;obtain⟨B,base,L,rfl⟩:=y;refine⟨.pointer (some ⟨B,base+(off+n.toNat*bl P e),none⟩), ?_, ?_⟩
     ·simp[Instr.indexAt,asIntOf,run_underlying p,Instr.sureAddr,g,run_sizeOf l.2,add_plain]
     ·simp only[V];grind
    ·simp at h;subst h;obtain⟨B,o,vs,rfl,C,D,m⟩:=y;refine⟨.pointer (some ⟨B,o+n.toNat*bl P e,none⟩), ?_, ?_⟩
     ·simp[Instr.indexAt,asIntOf,run_underlying p,Instr.sureAddr,g,run_sizeOf l.2,add_plain]
     ·exact⟨B,_,_,rfl,C,dF _ D,di _ m⟩
    ·cases h
   ·cases h
  ·rename_i e p;split at h
   ·rename_i l;split at h
    ·rename_i sz rows ex;split at h
     ·rename_i q;subst q;rw[qd]at h;obtain⟨row,s,rfl⟩:=h;obtain⟨a,cap,vs,rfl,G,_,M,m⟩:=y;obtain⟨h1,N⟩:=Af m s;have z:a.spot=none∧c.I a.block∧At c.w a.block a.off vs:=M.resolve_left fun e=>by grind
      obtain⟨O,C,D⟩:=z;obtain⟨B,o,U⟩:=a;subst O;have E:n.toNat<rows.length:=by
       grind
      have g:(0≤n∧n<(rows.length:Int)):=⟨A,by omega⟩
      refine⟨.pointer (some ⟨B,o+n.toNat*bl P e,none⟩), ?_, ?_⟩
      ·simp[Instr.indexAt,asIntOf,run_underlying p,g,run_sizeOf l,add_plain]
      ·exact⟨B,_,_,rfl,C,gz _ (dF _ D),h1⟩
     ·cases h
    ·rename_i sz b off len cap ex;split at h
     ·rename_i q;simp at h;subst h;obtain⟨B,base,W,o,L,rfl,Q,h1,N,X,Y⟩:=y;have g:(0≤n∧n<(len:Int)):=⟨A,by omega⟩
      have J:=Q (by omega)
      refine⟨.pointer (some ⟨B,base+(off+n.toNat*bl P e),none⟩), ?_, ?_⟩
      ·simp[Instr.indexAt,asIntOf,run_underlying p,g,run_sizeOf l,add_plain]
      ·simp only[V];grind
     ·cases h
    ·cases h
   ·cases h
  ·cases h
theorem yu(h:jv P t x i=some r)(z:V c x v)(G:V c i vi)(w:World):
 ∃u,(Instr.index t v vi).run P w= .ok u w∧V c r u:=by
 unfold jv at h;split at h
 ·cases h
 ·rename_i j A;obtain⟨k,n,rfl,y,rfl⟩:=kp A G;split at h
  ·rename_i len e cs m;split at h
   ·rename_i p;obtain⟨vs,rfl,q⟩:=z;obtain⟨u,h1,C⟩:=gH h q w;have g:(0≤n∧n<(len:Int)):=⟨y,by omega⟩
    exact⟨u,by simp[Instr.index,asIntOf,run_underlying m,g,run_sizeOf p.2,h1],C⟩
   ·cases h
  ·rename_i s m;rw[qd]at h;obtain⟨b,D,rfl⟩:=h;obtain⟨E,rfl,rfl⟩:=z;have l:E[n.toNat]?=some b:=by
    rw[← D,Array.getElem?_toList];rfl
   refine⟨.int .u8 b.toNat, ?_,by simp[V]⟩
   simp[Instr.index,asIntOf,run_underlying m,y,l]
  ·cases h
end Go.Am
namespace Go.Am
open Go.RowKit
variable {P:Program}
variable {c:Cx}{k:IntKind}{op:BinOp}{r:bc}
theorem y1{a b:Int}(h:gQ op k a b=some r)(d:op≠ .shl∧op≠ .shr)(t:TypeId)(w:World):
 ∃u,(binOp op t (.int k a) (.int k b)).run P w= .ok u w∧V c r u:=by
 cases op<;>simp only[gQ]at h<;>first
  |(exact absurd rfl d.1)
  |(exact absurd rfl d.2)
  |(simp at h;subst h;exact⟨_,by simp[binOp,Op.intBits,Op.intCmp];rfl,by simp[V]⟩)
  |(split at h
    ·cases h
    ·rename_i e;simp at h;subst h;exact⟨_,by simp[binOp,Op.intDiv,e];rfl,by simp[V]⟩)
theorem rG{a:Int}{e:IntKind}{b:Int}(h:uI op k a b=some r)(t:TypeId)(w:World):
 ∃u,(binOp op t (.int k a) (.int e b)).run P w= .ok u w∧V c r u:=by
 unfold uI at h;split at h
 ·cases h
 ·rename_i d;cases op<;>simp only at h<;>first
   |grind
   |(simp at h;subst h;exact⟨_,by simp[binOp,Op.shift,d];rfl,by simp[V]⟩)
theorem yp{x y:List UInt8}(h:l3 op x y=some r){a b:ByteArray}(d:a.data.toList=x)(e:b.data.toList=y)(t:TypeId)(w:World):
 ∃u,(binOp op t (.string a) (.string b)).run P w= .ok u w∧V c r u:=by
 subst d e;cases op<;>simp only[l3]at h<;>first
  |(cases h;done)
  |(split at h
    ·cases h
    ·simp at h;subst h;refine⟨.string (a++b), ?_, ?_⟩
     ·simp only[binOp,Op.stringOp];simp_all
     ·simp only[V];simp_all)
  |(simp at h;subst h;exact⟨_,by simp only[binOp,Op.stringOp,ByteArray.toList_eq];rfl,by simp[V]⟩)
def vnk:Value→Option (NK×Bool)
 | .pointer a=>some (.p,a.isNone)
 | .nilIface=>some (.i,true)
 | .iface _ _=>some (.i,false)
 | .slice a _ _=>some (.s,a.isNone)
 | .nilFunc=>some (.f,true)
 | .func _ _ _=>some (.f,false)
 | .map a=>some (.m,a.isNone)
 |_=>none
variable {x:bc}
theorem lY{k:NK×Bool}(h:nk x=some k){v:Value}(d:V c x v):vnk v=some k:=by
 cases x<;>simp only[nk,qa]at h<;>first
  |(cases h;done)
  |(subst h
    simp only[V]at d;rcases v with _|_|_|_|_|a|⟨a,_,_⟩|a|_|_|_|_|_|_|_<;>first
     |rfl
     |grind
     |(cases a<;>simp_all[vnk];done))
variable {a b:Value}{t:TypeId}
theorem y3{k:NK}{g h:Bool}(n:vnk a=some (k,g))(o:vnk b=some (k,h))(j:g=true∨h=true)(l:yn P t k=true)(d:Nat)(w:World):
 (Op.equalIn (d+1) t a b).run P w= .ok (g && h) w:=by
 have key:∀D,P.underlying t=some D→yn P t k=(match D,k with| .pointer _,.p=>true| .interface _,.i=>true| .slice _,.s=>true| .func _ _ _,.f=>true| .map _ _,.m=>true|_,_=>false):=by
  intro D e;cases k<;>cases D<;>simp[yn,e]
 cases e:P.underlying t with
 |none=>cases k<;>simp[yn,e]at l
 |some D=>
  rw[key D e]at l;cases k<;>cases D<;>simp only[Bool.false_eq_true]at l<;>
   rcases a with _|_|_|_|_|x|⟨x,_,_⟩|x|_|_|_|_|_|_|_<;>simp only[vnk,qa,Prod.mk.injEq,reduceCtorEq,false_and,true_and]at n<;>subst n<;>
   rcases b with _|_|_|_|_|y|⟨y,_,_⟩|y|_|_|_|_|_|_|_<;>simp only[vnk,qa,Prod.mk.injEq,reduceCtorEq,false_and,true_and]at o<;>subst o<;>
   first
    |(simp at j;done)
    |(simp[Op.equalIn,run_underlying e];done)
    |(cases x<;>cases y<;>first|grind|(simp[Op.equalIn,run_underlying e];done))
    |(cases x<;>first|(simp at j;done)|(simp[Op.equalIn,run_underlying e];done))
    |(cases y<;>first|(simp at j;done)|(simp[Op.equalIn,run_underlying e];done))
theorem wE{c:Cx}{f:TypeId→bc→bc→Option Bool}{d:Nat}{w:World}
 (g:∀t x y r,f t x y=some r→∀a b,V c x a→V c y b→(Op.equalIn d t a b).run P w= .ok r w) {xs j:List bc} {l vs:List Value} (m:Vs c xs l) (n:Vs c j vs):
 ∀(fs:List Field) {r:Bool},EL P f xs j fs=some r→(Op.eqFields d l.toArray vs.toArray fs).run P w= .ok r w
 | [],r,h=>by
  simp only[EL,qa]at h;subst h;simp[Op.eqFields]
 |s::fs,r,h=>by
  simp only[EL]at h;split at h
  ·cases h
  ·split at h
   ·rename_i a b h1 o;split at h
    ·rename_i r1 r2 p q;simp at h;obtain⟨u,e1,v1⟩:=gH (P:=P) h1 m w;obtain⟨v,e2,v2⟩:=gH (P:=P) o n w;have e3:=g _ _ _ _ p u v v1 v2;have e4:=wE g m n fs q;have e:s.name≠ "_" :=by grind
     subst h;simp only[Op.eqFields];rw[if_pos e];cases r1<;>simp[e1,e2,e3,e4]
    ·cases h
   ·cases h
theorem wP{c:Cx}{f:bc→bc→Option Bool}{d:Nat}{w:World}{e:TypeId}
 (g:∀x y r,f x y=some r→∀a b,V c x a→V c y b→(Op.equalIn d e a b).run P w= .ok r w) {xs j:List bc} {l vs:List Value} (m:Vs c xs l) (n:Vs c j vs):
 ∀(is:List Nat) {r:Bool},FU P f e xs j is=some r→(Op.eqItems d e (P.cellsOf e) l.toArray vs.toArray is).run P w= .ok r w
 | [],r,h=>by
  simp only[FU,qa]at h;subst h;simp[Op.eqItems]
 |i::is,r,h=>by
  simp only[FU]at h;split at h
  ·rename_i a b h1 o;split at h
   ·rename_i r1 r2 p q;simp at h;obtain⟨u,e1,v1⟩:=gH (P:=P) h1 m w;obtain⟨v,e2,v2⟩:=gH (P:=P) o n w;have e3:=g _ _ _ p u v v1 v2;have e4:=wP g m n is q;subst h;simp only[bl]at e1 e2;simp only[Op.eqItems];cases r1<;>simp[e1,e2,e3,e4]
   ·cases h
  ·cases h
theorem vw{c:Cx}:∀(k:Nat) {t:TypeId} {x y:bc} {r:Bool},eqV P k t x y=some r→∀{a b:Value},V c x a→V c y b→∀{d:Nat},k≤d→∀w:World,(Op.equalIn d t a b).run P w= .ok r w
 |0,_,_,_,_,h,_,_,_,_,_,_,_=>by cases h
 |k+1,t,x,y,r,h,a,b,g,j,d,v,w=>by
  obtain⟨d,rfl⟩:∃e,d=e+1:=⟨d-1,by omega⟩
  simp only[eqV]at h;split at h
  ·rename_i hu;split at h
   ·subst g j;simp at h;subst h;simp[Op.equalIn,run_underlying hu]
   ·cases h
  ·rename_i hu;split at h
   ·subst g j;split at h
    ·rename_i o;subst o;simp at h;subst h;simp[Op.equalIn,run_underlying hu]
    ·cases h
   ·cases h
  ·rename_i hu;split at h
   ·obtain⟨s,rfl,rfl⟩:=g;obtain⟨q,rfl,rfl⟩:=j;simp only[qa]at h;subst h;have:=run_equalIn_string (P:=P) w d t s q hu;rw[ByteArray.toList_eq,ByteArray.toList_eq]at this;exact this
   ·cases h
  ·rename_i fs hu;split at h
   ·split at h
    ·cases h
    ·obtain⟨m,rfl,h1⟩:=g;obtain⟨vs,rfl,f⟩:=j;have l:P.fieldsOf t=fs:=by simp[Program.fieldsOf,hu]
     have:=run_equalIn_struct (P:=P) w d t m.toArray vs.toArray (by grind) (by grind)
     rw[this,l];exact wE (fun t x y r h a b h1 f=>vw k h h1 f (by omega) w) h1 f _ h
   ·cases h
  ·rename_i n e hu;split at h
   ·split at h
    ·rename_i p;obtain⟨m,rfl,h1⟩:=g;obtain⟨vs,rfl,f⟩:=j;obtain⟨i,u⟩:=Option.isSome_iff_exists.1 p;rw[run_equalIn_array w d m.toArray vs.toArray hu u];exact wP (fun x y r h a b h1 f=>vw k h h1 f (by omega) w) h1 f _ h
    ·cases h
   ·cases h
  ·cases h
variable {y:bc}
theorem vO{r:Bool}(h:ui P t x y=some r)(l:V c x a)(m:V c y b)(d:Nat):
 (Op.equalIn (d+2) t a b).run P c.w= .ok r c.w:=by
 unfold ui at h;split at h
 ·rename_i u x v y;simp only[V]at l m;obtain⟨a,rfl,l⟩:=l;obtain⟨b,rfl,m⟩:=m;split at h
  ·rename_i ms hu;split at h
   ·rename_i f;simp only[qa]at h;subst h;simp[Op.equalIn,run_underlying hu,f]
   ·have f:u=v:=by grind
    subst f;split at h
    ·rename_i e i _ j _ n;split at h
     ·rename_i A C h1 p;split at h
      ·rename_i hc;obtain⟨B,o,_,s,e1,rfl,_,_,_,D,E,g1⟩:=l;obtain⟨G,o',_,_,e2,rfl,_,_,_,H,I,z⟩:=m
       by_cases g:i=j
       ·subst g;rw[e1]at e2;cases e2;have:r=true:=by grind
        subst this;exact run_equalIn_iface_ptr_same c.w d _ hu n h1 hc.1 p
       ·have:r=false:=by grind
        subst this;refine run_equalIn_iface_ptr_other c.w d hu n h1 hc.1 p hc.2 ?_ g1 z;intro e;obtain⟨rfl,rfl⟩:=e;have q:i<c.θ.length:=by
         grind
        exact g ((List.getElem?_inj q s).1 (e1.trans e2.symm))
      ·cases h
     ·cases h
    ·cases h
  ·cases h
 ·cases h
variable {lit:Bool}
theorem ya{r:Bool}(h:eqA P t lit x y=some r)(f:V c x a)(g:V c y b)(d:Nat):
 (Op.equalIn (d+8) t a b).run P c.w= .ok r c.w:=by
 unfold eqA at h;split at h
 ·split at h
  ·rename_i p q e;simp at h;subst h;subst f g;unfold BD at e;split at e
   ·rename_i j;exact run_equalIn_bool' c.w (d+7) t p q j
   ·cases e
  ·cases h
 ·split at h
  ·exact vw 8 h f g (by omega) c.w
  ·cases h
 ·exact vO h f g (d+6)
 ·split at h
  ·rename_i o s u v h1 l;split at h
   ·rename_i hc;obtain⟨rfl,m,n,_⟩:=hc;simp at h;subst h;exact y3 (lY h1 f) (lY l g) m n (d+7) c.w
   ·cases h
  ·cases h
theorem ki{r:Bool}(h:eqA P t lit x y=some r)(d:V c x a)(e:V c y b):
 (binOp .eql t a b).run P c.w= .ok (.bool r) c.w∧(binOp .neq t a b).run P c.w= .ok (.bool (!r)) c.w:=by
 have f:(Op.equal t a b).run P c.w= .ok r c.w:=ya h d e 9992;unfold eqA at h;split at h
 ·simp only[V]at d e;subst d e;simp[binOp,f]
 ·simp only[V]at d e;obtain⟨m,rfl,h1⟩:=d;obtain⟨vs,rfl,g⟩:=e;simp[binOp,f]
 ·simp only[V]at d e;obtain⟨m,rfl,h1⟩:=d;obtain⟨vs,rfl,g⟩:=e;simp[binOp,f]
 ·split at h
  ·rename_i n o _ q h1 g;have j:=lY h1 d;have l:=lY g e;rcases a with _|_|_|_|_|x|⟨x,_,_⟩|x|_|_|_|_|_|_|_<;>simp only[vnk,reduceCtorEq]at j<;>
    rcases b with _|_|_|_|_|y|⟨y,_,_⟩|y|_|_|_|_|_|_|_<;>simp only[vnk,reduceCtorEq]at l<;>simp[binOp,f]
  ·cases h
end Go.Am
namespace Go.Am
open Go.RowKit
variable {P:Program}
variable {op:BinOp}
theorem fo(t:TypeId)(x y:Operand)(a b:Value)(w:World)
 (h1:a≠ .nilIface∨b≠ .nilIface∨(og x||og y)=true) (e:(∀cs,a≠ .agg cs)∨(∀cs,b≠ .agg cs)):(eqGuard op t x y a b).run P w= .ok () w:=by
 cases op<;>first
  |rfl
  |(cases a<;>cases b<;>first
   |rfl
   |(rcases h1 with h1|h1|h1
     ·exact absurd rfl h1
     ·exact absurd rfl h1
     ·cases x<;>cases y<;>first|rfl|(simp[og]at h1;done))
   |(rcases e with e|e
     ·exact absurd rfl (e _)
     ·exact absurd rfl (e _)))
variable {c:Cx}{r:bc}{t:TypeId}
theorem Ei{x y:Operand}{C D:bc}{a b:Value}(h:gx P op t (og x||og y) C D=some r)(g:V c C a)(j:V c D b):
 ∃u,(do eqGuard op t x y a b;binOp op t a b:Sem Value).run P c.w= .ok u c.w∧V c r u:=by
 generalize hw:c.w=w;unfold gx at h;split at h
 ·rename_i k p G q;subst g j;have n:(eqGuard op t x y (.int k p) (.int G q)).run P w= .ok () w:=fo _ _ _ _ _ _ (.inl (by simp)) (.inl (by simp))
  simp only[Sem.run_bind,n];split at h
  ·exact rG h t w
  ·exact rG h t w
  ·rename_i h1 A;split at h
   ·rename_i H;subst H;exact y1 h ⟨fun e=>h1 e,fun e=>A e⟩ t w
   ·cases h
 ·obtain⟨s,rfl,I⟩:=g;obtain⟨J,rfl,B⟩:=j;have n:(eqGuard op t x y (.string s) (.string J)).run P w= .ok () w:=fo _ _ _ _ _ _ (.inl (by simp)) (.inl (by simp))
  simp only[Sem.run_bind,n];exact yp h I B t w
 ·have guard:∀z,eqA P t (og x||og y) C D=some z→(eqGuard op t x y a b).run P w= .ok () w:=by
   intro z f;unfold eqA at f;split at f
   ·subst g j;exact fo _ _ _ _ _ _ (.inl (by simp)) (.inl (by simp))
   ·split at f
    ·rename_i n;obtain⟨K,rfl,h1⟩:=g;obtain⟨vs,rfl,A⟩:=j;exact run_eqGuard_agg w op t x y _ _ n
    ·cases f
   ·obtain⟨K,rfl,h1⟩:=g;exact fo _ _ _ _ _ _ (.inl (by simp)) (.inl (by simp))
   ·split at f
    ·rename_i M N O Q h1 A;have E:=lY h1 g;have L:=lY A j;split at f
     ·rename_i hc;refine fo _ _ _ _ _ _ ?_ (.inl fun cs e=>by subst e;simp[vnk]at E)
      obtain⟨rfl,_,_,o⟩:=hc;rcases o with o|o|o|o
      ·grind
      ·refine .inl fun e=>?_
       simp only[vnk,Prod.mk.injEq]at E;grind
      all_goals grind
     ·cases f
    ·cases f
  split at h
  ·rw[qd]at h;obtain⟨z,f,rfl⟩:=h;exact⟨.bool z,by simp[guard z f,(hw▸ki f g j).1],by simp[V]⟩
  ·rw[qd]at h;obtain⟨z,f,rfl⟩:=h;exact⟨.bool (!z),by simp[guard z f,(hw▸ki f g j).2],by simp[V]⟩
  ·cases h
variable {v:Value}{x:bc}
theorem JY{op:UnOp}(h:unA op x=some r)(a:V c x v)(w:World):∃u,(Op.unary op v).run P w= .ok u w∧V c r u:=by
 unfold unA at h;split at h<;>first
  |(cases h;done)
  |(simp at h
    subst h;subst a;exact⟨_,by rfl,by simp[V]⟩)
theorem Cg{s d:TypeId}(h:iu P s d x=some r)(e:V c x v)(w:World):∃u,(convert s d v).run P w= .ok u w∧V c r u:=by
 unfold iu at h;split at h
 ·rename_i D k _ n a b;simp at h;subst h;subst e;refine⟨.int k (k.wrap n), ?_,by simp[V]⟩
  cases D<;>simp[convert,run_underlying a,run_underlying b,Conv.intToInt]
 ·rename_i D l a b;simp at h;subst h;obtain⟨t,rfl,f⟩:=e;refine⟨.string t, ?_,by simp only[V];grind⟩
  cases D<;>simp[convert,run_underlying a,run_underlying b]
 ·cases h
variable {d y:Nat}
theorem f7{r:Nat}(h:bL d y (some x)=some r)(a:V c x v):∃k n,v= .int k n∧0≤n∧n≤(y:Int)∧n.toNat=r:=by
 unfold bL at h;split at h
 ·grind
 ·rename_i b e;cases e;split at h
  ·rename_i i hi;obtain⟨k,n,rfl,f,rfl⟩:=kp hi a;grind
  ·cases h
theorem dV{k:IntKind}{n:Int}(a:Go.BoundsCode)(b:0≤n)(h1:n≤(y:Int))(w:World):(Instr.sliceBound (.int k n) y a).run P w= .ok n.toNat w:=by
 simp[Instr.sliceBound,asIntOf,b,h1]
def xo(c:Cx):Option bc→Option Value→Prop
 |none,none=>True
 |some a,some v=>V c a v
 |_,_=>False
variable {cap cap' h:Nat}{hi:Option bc}{hi':Option Value}{isS:Bool}{l len:Nat}{lo:Option bc}{lo':Option Value}
theorem eY{a:Nat}(hl:xo c lo lo')(e:xo c hi hi')
 (e1:bL a cap' hi=some h) (e2:bL 0 h lo=some l) (f:a=len) (g:cap'≤cap) (w:World):
 (Instr.sliceBounds isS len cap lo' hi' none).run P w= .ok (l,h,cap) w:=by
 have H:(match hi' with|some v=>Instr.sliceBound v cap (if isS then .sliceAcap else .sliceAlen)|none=>pure a:Sem Nat).run P w= .ok h w:=by
  cases hi with
  |none=>
   cases hi' with
   |none=>simp only[bL,qa]at e1;subst e1;rfl
   |some _=>exact e.elim
  |some x=>
   cases hi' with
   |none=>exact e.elim
   |some v=>
    obtain⟨k,n,rfl,b,h1,rfl⟩:=f7 e1 e;exact dV _ b (by omega) w
 have L:(match lo' with|some v=>Instr.sliceBound v h .sliceB|none=>pure 0:Sem Nat).run P w= .ok l w:=by
  cases lo with
  |none=>
   cases lo' with
   |none=>simp only[bL,qa]at e2;subst e2;rfl
   |some _=>exact hl.elim
  |some x=>
   cases lo' with
   |none=>exact hl.elim
   |some v=>
    obtain⟨k,n,rfl,b,h1,rfl⟩:=f7 e2 hl;exact dV _ b (by omega) w
 unfold Instr.sliceBounds;cases hi'<;>cases lo'<;>simp_all
variable {m:Nat}
theorem kB{mx:bc}{b:Value}(hl:xo c lo lo')(o:xo c hi hi')(D:V c mx b)(E:hi.isSome=true)
 (G:bL 0 cap' (some mx)=some m) (e1:bL 0 m hi=some h) (e2:bL 0 h lo=some l) (p:cap'≤cap) (w:World):
 (Instr.sliceBounds isS len cap lo' hi' (some b)).run P w= .ok (l,h,m) w:=by
 obtain⟨q,j,rfl,e,s,rfl⟩:=f7 G D;cases hi with
 |none=>simp at E
 |some x=>
  cases hi' with
  |none=>exact o.elim
  |some v=>
   obtain⟨k,n,rfl,z,h1,rfl⟩:=f7 e1 o;have M:=fun a=>dV (P:=P) (k:=q) (n:=j) (y:=cap) a e (by omega) w
   have g:=fun a=>dV (P:=P) (k:=k) (n:=n) (y:=j.toNat) a z (by omega) w
   cases lo with
   |none=>
    cases lo' with
    |none=>
     simp only[bL,qa]at e2;subst e2;simp[Instr.sliceBounds,M,g]
    |some _=>exact hl.elim
   |some y=>
    cases lo' with
    |none=>exact hl.elim
    |some u=>
     obtain⟨A,B,rfl,f,C,rfl⟩:=f7 e2 hl;have L:=fun a=>dV (P:=P) (k:=A) (n:=B) (y:=n.toNat) a f (by omega) w
     simp[Instr.sliceBounds,M,g,L]
theorem cc{r:Nat}{x:Option bc}(h:bL d y x=some r):r=d∨r≤y:=by
 unfold bL at h;grind
theorem rM{c:Cx}{sz:Nat}:∀{rows:List (List bc)} {vs:List Value} (n:Nat),Vss c sz rows vs→Vss c sz (rows.drop n) (vs.drop (n*sz))
 | [],_,n,h=>by subst h;simp[Vss]
 |x::rows,_,0,h=>by simpa using h
 |x::rows,_,n+1,h=>by
  obtain⟨a,b,rfl,hl,h1,f⟩:=h;have e:(a++b).drop ((n+1)*sz)=b.drop (n*sz):=by
   rw[show(n+1)*sz=a.length+n*sz by grind,← List.drop_drop,List.drop_left]
  rw[e]
  simpa using rM n f
theorem ri{c:Cx}{sz:Nat}:∀{rows:List (List bc)} {vs:List Value} (n:Nat),Vss c sz rows vs→Vss c sz (rows.take n) (vs.take (n*sz))
 | [],_,n,h=>by subst h;simp[Vss]
 |x::rows,_,0,_=>by simp[Vss]
 |x::rows,_,n+1,h=>by
  obtain⟨a,f,rfl,hl,h1,b⟩:=h;have e:(n+1)*sz=a.length+n*sz:=by grind
  rw[e,List.take_length_add_append];exact⟨a,_,rfl,hl,h1,ri n b⟩
theorem fK{c:Cx}{sz:Nat}:∀(n:Nat) {cs:List bc} {vs:List Value},Vs c cs vs→n*sz≤cs.length→Vss c sz (cq sz n cs) (vs.take (n*sz))
 |0,_,_,_,_=>by simp[cq,Vss]
 |n+1,cs,vs,h,hl=>by
  have e:(n+1)*sz=sz+n*sz:=by grind
  have a:=bH h;refine⟨vs.take sz,(vs.drop sz).take (n*sz), ?_,by simp;omega,ld _ h, ?_⟩
  ·grind
  ·exact fK n (di sz h) (by simp;omega)
theorem cY(sz:Nat):∀(n:Nat) (cs:List bc),(cq sz n cs).length=n
 |0,_=>rfl
 |n+1,cs=>by simp[cq,cY sz n]
theorem Room.mono{w:World}{B n:Nat}(h:Room w B n)(b:m≤n):Room w B m:=by
 obtain⟨t,k,h1,a⟩:=h;exact⟨t,k,h1,by omega⟩
theorem zP{H:bd}(hR:Rel c H){mx:Option bc}{f:Option Value}(h:b9 P t H x lo hi mx=some r)(p:V c x v)
 (hl:xo c lo lo') (R:xo c hi hi') (Q:xo c mx f) (w:World):
 ∃u,(Instr.sliceAt t v lo' hi' f).run P w= .ok u w∧V c r u:=by
 unfold b9 at h;split at h
 ·rename_i hd;split at h
  ·rename_i s;rw[Option.bind_eq_some_iff]at h;obtain⟨b,e1,h⟩:=h;rw[qd]at h;obtain⟨l,e2,rfl⟩:=h;simp only[V]at p;obtain⟨s',rfl,rfl⟩:=p;cases f with
   |some _=>exact Q.elim
   |none=>
    have g:s'.size=s'.data.toList.length:=Array.length_toList.symm;have:=eY (P:=P) (isS:=false) (len:=s'.size) (cap:=s'.size) hl R e1 e2 g.symm (by omega) w
    refine⟨.string (s'.extract l b), ?_, ?_⟩
    ·simp only[Instr.sliceAt,Sem.run_bind,run_underlying hd,Result.andThen_ok,Instr.slice];simp[this]
    ·simp only[V];refine⟨_,rfl, ?_⟩;rw[ByteArray.data_extract];simp
  ·cases h
 ·rename_i e hd;split at h
  ·rename_i E;have U:∀(a:Option Addr) (len cap:Nat) (l q:Nat),(Instr.sliceBounds true len cap lo' hi' none).run P w= .ok (l,q,cap) w→f=none→
    (Instr.sliceAt t (.slice a len cap) lo' hi' f).run P w= .ok (.slice (if cap=l then a else a.map (·.add (l*bl P e))) (q-l) (cap-l)) w:=by
    intro a len cap l q A K;subst K;simp[Instr.sliceAt,Instr.slice,run_underlying hd,A,run_sizeOf E]
   have W:∀(a:Option Addr) (len cap:Nat) (l q m:Nat) (z:Value),(Instr.sliceBounds true len cap lo' hi' (some z)).run P w= .ok (l,q,m) w→f=some z→
    (Instr.sliceAt t (.slice a len cap) lo' hi' f).run P w= .ok (.slice (if m=l then a else a.map (·.add (l*bl P e))) (q-l) (m-l)) w:=by
    intro a len cap l q m z A K;subst K;simp[Instr.sliceAt,Instr.slice,run_underlying hd,A,run_sizeOf E]
   split at h
   ·rw[Option.bind_eq_some_iff]at h;obtain⟨b,e1,h⟩:=h;rw[qd]at h;obtain⟨l,e2,rfl⟩:=h;simp only[V]at p;subst p;cases f with
    |some _=>exact Q.elim
    |none=>
     have C:=cc e1;have D:=cc e2;have q:b=0:=by omega
     have Z:l=0:=by omega
     subst q Z;have:=eY (P:=P) (isS:=true) (len:=0) (cap:=0) hl R e1 e2 rfl (qe _) w;exact⟨.slice none 0 0,by grind,by simp[V]⟩
   ·rename_i m;split at h
    case isFalse=>cases h
    rename_i L;rw[Option.bind_eq_some_iff]at h;obtain⟨m',X,h⟩:=h;rw[Option.bind_eq_some_iff]at h;obtain⟨b,e1,h⟩:=h;rw[qd]at h;obtain⟨l,e2,rfl⟩:=h;simp only[V]at p;subst p;cases f with
    |none=>exact Q.elim
    |some z=>
     have ad:=cc X;have C:=cc e1;have D:=cc e2;have ag:m'=0:=by omega
     have q:b=0:=by omega
     have Z:l=0:=by omega
     subst ag q Z;have:=kB (P:=P) (isS:=true) (len:=0) (cap:=0) hl R Q L X e1 e2 (qe _) w;exact⟨.slice none 0 0,by grind,by simp[V]⟩
   ·rename_i sz rows ex;split at h
    ·rename_i g;subst g;rw[Option.bind_eq_some_iff]at h;obtain⟨b,e1,h⟩:=h;rw[qd]at h;obtain⟨l,e2,rfl⟩:=h;simp only[V]at p;obtain⟨a,cap,vs,rfl,M,hx,N,G⟩:=p;cases f with
     |some _=>exact Q.elim
     |none=>
      have C:=cc e1;have D:=cc e2;have:=eY (P:=P) (isS:=true) (len:=rows.length) (cap:=cap) hl R e1 e2 rfl M w;refine⟨_,U _ _ _ _ _ this rfl, ?_⟩;have I:((rows.drop l).take (b-l)).length=b-l:=by simp;omega
      simp only[V,I]
      by_cases hc:cap=l
      ·have:b-l=0:=by omega
       rw[if_pos hc];refine⟨a,cap-l,[],rfl,by omega, ?_,.inl (qp (by omega)), ?_⟩
       ·omega
       ·rw[this];simp[Vss]
      ·rw[if_neg hc];refine⟨a.add (l*bl P e),cap-l,(vs.drop (l*bl P e)).take ((b-l)*bl P e),rfl,by omega, ?_, ?_,ri _ (rM _ G)⟩
       rotate_left
       ·rcases N with N|⟨hs,Y,ha⟩
        ·grind
        ·obtain⟨B,off,sp⟩:=a;simp only at hs Y ha;subst hs;right;rw[add_plain];exact⟨rfl,Y,gz _ (dF _ ha)⟩
       grind
    ·cases h
   ·rename_i sz rows ex m0;split at h
    ·rename_i g;obtain⟨rfl,L⟩:=g;rw[Option.bind_eq_some_iff]at h;obtain⟨m,X,h⟩:=h;rw[Option.bind_eq_some_iff]at h;obtain⟨b,e1,h⟩:=h;rw[qd]at h;obtain⟨l,e2,rfl⟩:=h;simp only[V]at p;obtain⟨a,cap,vs,rfl,M,hx,N,G⟩:=p;cases f with
     |none=>exact Q.elim
     |some z=>
      have ad:=cc X;have C:=cc e1;have D:=cc e2;have:=kB (P:=P) (isS:=true) (len:=rows.length) (cap:=cap) hl R Q L X e1 e2 M w;refine⟨_,W _ _ _ _ _ _ z this rfl, ?_⟩;have I:((rows.drop l).take (b-l)).length=b-l:=by simp;omega
      simp only[V,I]
      by_cases hc:m=l
      ·have:b-l=0:=by omega
       rw[if_pos hc];refine⟨a,m-l,[],rfl,by omega, ?_,.inl (qp (by omega)), ?_⟩
       ·omega
       ·rw[this];simp[Vss]
      ·rw[if_neg hc];refine⟨a.add (l*bl P e),m-l,(vs.drop (l*bl P e)).take ((b-l)*bl P e),rfl,by omega, ?_, ?_,ri _ (rM _ G)⟩
       rotate_left
       ·rcases N with N|⟨hs,Y,ha⟩
        ·grind
        ·obtain⟨B,off,sp⟩:=a;simp only at hs Y ha;subst hs;right;rw[add_plain];exact⟨rfl,Y,gz _ (dF _ ha)⟩
       grind
    ·cases h
   ·rename_i sz b0 off len cap ex;split at h
    ·rename_i g;subst g;rw[Option.bind_eq_some_iff]at h;obtain⟨b,e1,h⟩:=h;rw[qd]at h;obtain⟨l,e2,rfl⟩:=h;simp only[V]at p;obtain⟨B,base,k,o,hi,rfl,ho,h1,h2,h3,h4⟩:=p;cases f with
     |some _=>exact Q.elim
     |none=>
      have C:=cc e1;have D:=cc e2;have:=eY (P:=P) (isS:=true) (len:=len) (cap:=k) hl R e1 e2 rfl h2 w;refine⟨_,U _ _ _ _ _ this rfl, ?_⟩;have J:l*bl P e+(k-l)*bl P e=k*bl P e:=by
       rw[← Nat.add_mul];grind
      simp only[V]
      by_cases hc:k=l
      ·rw[if_pos hc];grind
      ·rw[if_neg hc];have aa:=ho (by omega)
       subst aa;refine⟨B,base,k-l,base+off+l*bl P e,hi,by simp[add_plain],by omega,by omega,by omega,fun al=>by grind,h4.mono (by omega)⟩
    ·cases h
   ·rename_i sz b0 off len cap ex m0;split at h
    ·rename_i g;obtain⟨rfl,L⟩:=g;rw[Option.bind_eq_some_iff]at h;obtain⟨m,X,h⟩:=h;rw[Option.bind_eq_some_iff]at h;obtain⟨b,e1,h⟩:=h;rw[qd]at h;obtain⟨l,e2,rfl⟩:=h;simp only[V]at p;obtain⟨B,base,k,o,hi,rfl,ho,h1,h2,h3,h4⟩:=p;cases f with
     |none=>exact Q.elim
     |some z=>
      have ad:=cc X;have C:=cc e1;have D:=cc e2;have:=kB (P:=P) (isS:=true) (len:=len) (cap:=k) hl R Q L X e1 e2 h2 w;refine⟨_,W _ _ _ _ _ _ z this rfl, ?_⟩;have J:l*bl P e+(k-l)*bl P e=k*bl P e:=by
       rw[← Nat.add_mul];grind
      have ab:(m-l)*bl P e≤(k-l)*bl P e:=Nat.mul_le_mul_right _ (by omega)
      by_cases ae:m≤l
      ·rw[if_pos ae];have af:m=l:=by omega
       subst af;rw[if_pos rfl,Nat.sub_self,show b-m=0 by omega]
       simp only[V];exact⟨_,0,[],rfl,qe _,fun _=>rfl,.inl trivial,by simp[Vss]⟩
      rw[if_neg ae];simp
      by_cases hc:m=l
      ·grind
      ·rw[if_neg hc];have aa:=ho (by omega)
       subst aa;refine⟨B,base,m-l,base+off+l*bl P e,hi,by simp[add_plain],by omega,by omega,by omega,fun _=>rfl,h4.mono (by omega)⟩
    ·cases h
   ·cases h
  ·cases h
 ·rename_i n e hd;split at h
  ·rename_i E;obtain⟨E,K⟩:=E;cases mx with
   |some _=>simp at K
   |none=>
    cases f with
    |some _=>exact Q.elim
    |none=>
     have ro:∀(B o l q:Nat),(Instr.sliceBounds false n n lo' hi' none).run P w= .ok (l,q,n) w→
      (Instr.sliceAt t (.pointer (some ⟨B,o,none⟩)) lo' hi' none).run P w= .ok (.slice (some (if n=l then⟨B,o,none⟩else⟨B,o+l*bl P e,none⟩)) (q-l) (n-l)) w:=by
      intro B o l q A;simp[Instr.sliceAt,Instr.sureAddr,run_underlying hd,A,run_sizeOf E,add_plain]
     split at h
     ·rename_i b0 off;split at h
      ·rename_i cs q;split at h
       ·rename_i aj;rw[Option.bind_eq_some_iff]at h;obtain⟨b,e1,h⟩:=h;rw[qd]at h;obtain⟨l,e2,rfl⟩:=h;simp only[V]at p;obtain⟨B,base,hi,rfl⟩:=p;have C:=cc e1;have D:=cc e2;obtain⟨B',base',ac,_,_,_,O,_⟩:=hR.blk b0 _ q;rw[hi]at ac;simp at ac;obtain⟨rfl,rfl⟩:=ac;have:=eY (P:=P) (isS:=false) (len:=n) (cap:=n) hl R e1 e2 rfl (qe _) w;refine⟨_,ro _ _ _ _ this, ?_⟩;have J:l*bl P e+(n-l)*bl P e=n*bl P e:=by
         rw[← Nat.add_mul];grind
        simp only[V]
        by_cases hc:n=l
        ·rw[if_pos hc];exact⟨B,base,n-l,base+off,hi,rfl,by omega,by omega,by omega,fun _=>rfl,O.mono (by omega)⟩
        ·rw[if_neg hc];exact⟨B,base,n-l,base+off+l*bl P e,hi,rfl,by omega,by omega,by omega,fun _=>rfl,O.mono (by omega)⟩
       ·cases h
      ·cases h
     ·rename_i cs;split at h
      ·rename_i aj;rw[Option.bind_eq_some_iff]at h;obtain⟨b,e1,h⟩:=h;rw[qd]at h;obtain⟨l,e2,rfl⟩:=h;simp only[V]at p;obtain⟨B,off,vs,rfl,Y,ha,G⟩:=p;have C:=cc e1;have D:=cc e2;have:=eY (P:=P) (isS:=false) (len:=n) (cap:=n) hl R e1 e2 rfl (qe _) w;refine⟨_,ro _ _ _ _ this, ?_⟩;have J:l*bl P e+(n-l)*bl P e=n*bl P e:=by
        rw[← Nat.add_mul];grind
       have ab:(b-l)*bl P e≤(n-l)*bl P e:=Nat.mul_le_mul_right _ (by omega)
       have ak:=bH G;have ah:=fK (sz:=bl P e) (b-l) (di (l*bl P e) G) (by simp;omega)
       simp only[V,cY]
       by_cases hc:n=l
       ·rw[if_pos hc];refine⟨⟨B,off,none⟩,n-l,[],rfl,by omega,by grind,.inr ⟨rfl,Y,by intro j v hj;simp at hj⟩, ?_⟩
        simp_all
       ·rw[if_neg hc];refine⟨⟨B,off+l*bl P e,none⟩,n-l,_,rfl,by omega,by grind,.inr ⟨rfl,Y,gz _ (dF _ ha)⟩,ah⟩
      ·cases h
     ·cases h
  ·cases h
 ·cases h
end Go.Am
namespace Go.Am
open Go.RowKit
variable {P:Program}
theorem JV{a:bc}(h:Nf a=true):∃k n,a= .int k n:=by
 cases a<;>simp[Nf]at h
 grind
variable {v:Value}
theorem jN{e:TypeId}{d:IntKind}(f:P.underlying e=some (.int d)){xs:Array Value}{i:Nat}(h:xs[i]?=some v)(w:World):(part e xs i).run P w= .ok v w:=by
 simp[part,ja f,C6,h]
variable {c:Cx}
theorem QH{a:bc}{as:List bc}{vs:List Value}:Vs c (a::as) vs↔∃v d,vs=v::d∧V c a v∧Vs c as d:=by simp[Vs]
variable {clock:Nat}{es:Array MapEntry}{w:World}
theorem IP{r:Nat}(d:w.heap[r]?=some (.map es clock)):(getObj r).run P w= .ok (.map es clock) w:=by
 simp[getObj,Sem.run,d]
theorem PC{r:Nat}(o:Obj)(d:w.heap[r]?=some (.map es clock)):(setObj r o).run P w= .ok () { w with heap:=w.heap.setIfInBounds r o }:=by
 simp[setObj,Sem.run,d]
variable {kt:TypeId}
theorem Qr{d:TypeDesc}{k:Value}{l:List MapEntry}{a:Option (Nat×Value)}(e:P.underlying kt=some d)(h:Instr.findNow d k l 0=some a):(Instr.findKey kt k l).run P w= .ok a w:=by
 simp[Instr.findKey,run_underlying e,h]
theorem EP{r:Nat}{o o':Obj}(e:w.heap[r]?=some o):(w.heap.setIfInBounds r o')[r]?=some o'∧∀d,d≠r→(w.heap.setIfInBounds r o')[d]?=w.heap[d]?:=by
 grind
theorem pa{c:Cx}{e:TypeId}{s:IntKind}(n:P.underlying e=some (.int s))(d:Nat)(w:World):∀(as g:List bc) (i:Nat) (l vs:List Value) (xs f:Array Value) {r:Bool},
 jL as g=some r→Vs c as l→Vs c g vs→(∀j,l[j]?=xs[i+j]?)→(∀j,vs[j]?=f[i+j]?)→
 (Op.eqItems (d+1) e 1 xs f (List.range' i as.length)).run P w= .ok r w
 | [],[],i,l,vs,xs,f,r,h,_,_,_,_=>by
  simp only[jL,qa]at h;subst h;simp[Op.eqItems]
 | .int k x::as,.int L y::g,i,l,vs,xs,f,r,h,hu,J,z,A=>by
  simp only[jL]at h;split at h
  ·rename_i K;obtain⟨u,p,rfl,h1,E⟩:=hu;obtain⟨v,q,rfl,G,I⟩:=J;subst h1 G;have B:=jN (P:=P) n (xs:=xs) (i:=i) (v:=.int k x) (by have:=z 0;grind) w
   have C:=jN (P:=P) n (xs:=f) (i:=i) (v:=.int k y) (by have:=A 0;grind) w
   have D:=run_equalIn_int w d e k s x y n;simp only[qm,List.range'_succ,Op.eqItems,Nat.mul_one,Sem.run_bind,B,C,D,Result.andThen_ok];split at h
   ·rename_i o;subst o;simp;have:=pa n d w as g (i+1) p q xs f h E I (fun j=>by have:=z (j+1);grind) (fun j=>by have:=A (j+1);grind)
    exact this
   simp_all
  ·cases h
variable {a b:Value}{k:iD}{x y:bc}
theorem tg(d:dS P kt=some k){r:Bool}(h:jc k x y=some r)(A:V c x a)(B:V c y b)(w:World):
 (Op.equal kt a b).run P w= .ok r w∧Instr.sameBits 10000 b a=true∨(Op.equal kt a b).run P w= .ok r w∧r=false:=by
 have g:(Op.equal kt a b).run P w= .ok r w:=by
  unfold dS at d;split at d
  ·rename_i U C;simp at d;subst d;unfold jc at h;split at h<;>first|(rename_i e;cases e;done)|skip
   ·split at h
    ·rename_i z;subst z;simp at h;subst h;subst A B;exact run_equalIn_int w 9999 kt _ _ _ _ C
    ·cases h
   ·cases h
  ·rename_i C;simp at d;subst d;unfold jc at h;split at h<;>first|(rename_i e;cases e;done)|skip
   ·simp at h;subst h;obtain⟨s,rfl,rfl⟩:=A;obtain⟨E,rfl,rfl⟩:=B;have:=run_equalIn_string (P:=P) w 9999 kt s E C;rw[ByteArray.toList_eq,ByteArray.toList_eq]at this;exact this
   ·cases h
  ·rename_i n e C;split at d
   ·rename_i U Q;split at d
    ·rename_i G;simp at d;subst d;unfold jc at h;split at h<;>first|(rename_i e;cases e;done)|skip
     ·rename_i n' e' xs W X;cases X;split at h
      ·rename_i hl;obtain⟨f,rfl,h1⟩:=A;obtain⟨vs,rfl,K⟩:=B;obtain⟨i,Y⟩:=Option.isSome_iff_exists.1 (info_of_underlying Q);have:=run_equalIn_array (P:=P) w 9999 f.toArray vs.toArray C Y;have q:P.cellsOf e=1:=G;rw[q]at this;have O:=pa (P:=P) Q 9998 w xs W 0 f vs f.toArray vs.toArray h h1 K (fun j=>by simp) (fun j=>by simp)
       rw[hl.1,← List.range_eq_range']at O;exact this.trans O
      ·cases h
     ·cases h
    ·cases d
   ·cases d
  ·cases d
 cases r with
 |false=>exact .inr ⟨g,rfl⟩
 |true=>
  refine .inl ⟨g, ?_⟩;unfold jc at h;split at h
  ·split at h
   ·rename_i z;subst z;simp at h;subst h;subst A B;simp[Instr.sameBits]
   ·cases h
  ·simp at h;subst h;obtain⟨s,rfl,R⟩:=A;obtain⟨E,rfl,D⟩:=B;have:s=E:=by
    obtain⟨⟨l⟩⟩:=s;obtain⟨⟨l'⟩⟩:=E;simp only at R D;rw[R,D]
   subst this;simp only[Instr.sameBits];rw[beq_toListBytes];simp
  ·split at h
   ·obtain⟨f,rfl,h1⟩:=A;obtain⟨vs,rfl,K⟩:=B;have key:∀(as o:List bc) (f vs:List Value),jL as o=some true→Vs c as f→Vs c o vs→vs.length=f.length∧(vs.zip f).all (fun p=>Instr.sameBits 9999 p.1 p.2)=true:=by
     intro as;induction as with
     |nil=>
      intro o f vs h hu I;cases o with
      |nil=>subst hu I;simp
      |cons _ _=>simp[jL]at h
     |cons a as ih=>
      intro o f vs h hu I;cases o with
      |nil=>cases a<;>simp[jL]at h
      |cons b o=>
       cases a<;>cases b<;>simp only[jL]at h<;>first|(cases h;done)|skip
       split at h
       ·rename_i d;subst d;split at h
        ·rename_i J;subst J;obtain⟨u,L,rfl,g1,M⟩:=hu;obtain⟨v,N,rfl,Z,g4⟩:=I;subst g1 Z;obtain⟨g5,g6⟩:=ih o L N h M g4;refine⟨by simp[g5], ?_⟩
         rw[List.zip_cons_cons,List.all_cons,g6];simp[Instr.sameBits]
        ·cases h
       ·cases h
    obtain⟨g1,M⟩:=key _ _ f vs h h1 K;have:Instr.sameBits (9999+1) (.agg vs.toArray) (.agg f.toArray)=true:=by
     simp only[Instr.sameBits,List.size_toArray,g1,BEq.rfl];exact M
    exact this
   ·cases h
  ·cases h
theorem tS(d:dS P kt=some k){r:Bool}(h:jc k x y=some r)(e:V c x a)(f:V c y b)(w:World):
 (Op.equal kt a b).run P w= .ok r w:=by
 rcases tg d h e f w with⟨h1,_⟩|⟨h1,_⟩<;>exact h1
def iD.wide:iD→Bool
 | .ints _ _=>true
 |_=>false
def hJ(ms:List MapEntry)(i:Nat):Option (Nat×bc)→Option (Nat×Value)
 |none=>none
 |some (j,_)=>(ms[j-i]?).map fun m=>(j,m.val)
theorem kV{c:Cx}{kt:TypeId}{k:iD}(d:dS P kt=some k){x:bc}{a:Value}(A:V c x a)(w:World):∀(es:List (bc×bc)) (ms:List MapEntry) (i:Nat) {r:Option (Nat×bc)},
 fT k x es i=some r→Es c es ms→
 ((Instr.findAsking kt a ms i).run P w= .ok (hJ ms i r) w∧
  (∀D,P.underlying kt=some D→(k.wide=true→ms=[])→Instr.findNow D a ms i=some (hJ ms i r)))∧
 (∀j v,r=some (j,v)→i≤j∧∃m,ms[j-i]?=some m∧V c v m.val∧∃y,es[j-i]?=some (y,v)∧jc k x y=some true∧V c y m.key)
 | [],ms,i,r,h,I=>by
  simp only[fT,qa]at h;subst h;subst I;exact⟨⟨by simp[Instr.findAsking,hJ],fun D _ _=>by simp[Instr.findNow,hJ]⟩,(fun j v e=>by cases e)⟩
 |(y,v)::es,ms,i,r,h,I=>by
  obtain⟨m,ns,rfl,z,K,E⟩:=I;simp only[fT]at h;have u:∀D b,P.underlying kt=some D→k.wide=false→jc k x y=some b→Instr.sameNow D a m.key=some b:=by
   intro D b n l f;unfold dS at d;rw[n]at d;cases D<;>simp only at d<;>first|(cases d;done)|skip
   ·simp at d;subst d;unfold jc at f;split at f<;>first|(rename_i e;cases e;done)|skip
    ·split at f
     ·rename_i C;subst C;simp at f;subst f;subst A;rw[z];simp[Instr.sameNow]
     ·cases f
    ·cases f
   ·simp at d;subst d;unfold jc at f;split at f<;>first|(rename_i e;cases e;done)|skip
    ·simp at f;subst f;obtain⟨s,rfl,rfl⟩:=A;obtain⟨X,G,rfl⟩:=z;rw[G];simp[Instr.sameNow,beq_toListBytes,ByteArray.toList_eq]
    ·cases f
   ·split at d
    ·split at d
     ·simp at d;subst d;cases l
     ·cases d
    ·cases d
  split at h
  ·cases h
  ·rename_i o;simp at h;subst h;have g:=tS d o A z w;refine⟨⟨?_,fun D n l=>?_⟩, ?_⟩
   ·simp only[Instr.findAsking,Sem.run_bind,g,Result.andThen_ok,if_true,Sem.run_pure,hJ,Nat.sub_self,List.getElem?_cons_zero,Option.map_some]
   ·have:k.wide=false:=by cases q:k.wide with|false=>rfl|true=>(have:=l q;cases this)
    simp only[Instr.findNow,u D true n this o,hJ,Nat.sub_self,List.getElem?_cons_zero,Option.map_some]
   ·intro j B e;obtain⟨rfl,rfl⟩:=e;exact⟨qe _,m,by simp,K,y,by simp,o,z⟩
  ·rename_i o;have g:=tS d o A z w;obtain⟨⟨h1,L⟩,J⟩:=kV d A w es ns (i+1) h E;have conv:(hJ ns (i+1) r)=(hJ (m::ns) i r):=by
    cases r with
    |none=>rfl
    |some p=>
     obtain⟨j,B⟩:=p;obtain⟨M,_⟩:=J j B rfl;simp only[hJ];rw[show j-i=(j-(i+1))+1 by omega,List.getElem?_cons_succ]
   refine⟨⟨?_,fun D n l=>?_⟩, ?_⟩
   ·simp only[Instr.findAsking,Sem.run_bind,g,Result.andThen_ok,Bool.false_eq_true,if_false,h1,conv]
   ·have:k.wide=false:=by cases q:k.wide with|false=>rfl|true=>(have:=l q;cases this)
    rw[← conv];simp only[Instr.findNow,u D false n this o];exact L D n (fun q=>by rw[this]at q;cases q)
   ·intro j B e;obtain⟨M,N,g1,O,Q,R,U,W⟩:=J j B e;refine⟨by omega,N, ?_,O,Q, ?_,U,W⟩
    ·rw[show j-i=(j-(i+1))+1 by omega,List.getElem?_cons_succ];exact g1
    ·rw[show j-i=(j-(i+1))+1 by omega,List.getElem?_cons_succ];exact R
theorem sr{e:TypeId}{q:IntKind}(g:P.underlying e=some (.int q))(o:Bool)(d:Nat)(xs:Array Value)(p:∀j,j<xs.size→∃k n,xs[j]?=some (.int k n))(w:World):∀l:List Nat,(∀j∈l,j<xs.size)→
 (forIn l PUnit.unit (fun i _=>do Instr.checkKey o (d+1) e (← part e xs i);pure (ForInStep.yield PUnit.unit)):Sem PUnit).run P w= .ok PUnit.unit w
 | [],_=>rfl
 |j::l,h=>by
  obtain⟨k,n,f⟩:=p j (h j (List.mem_cons_self ..));have s:=jN (P:=P) g f w;have u:(Instr.checkKey o (d+1) e (.int k n)).run P w= .ok () w:=by simp[Instr.checkKey,run_underlying g]
  have z:=sr g o d xs p w l fun j f=>h j (List.mem_cons_of_mem _ f)
  simp_all
theorem je(d:dS P kt=some k)(h:o5 k x=true)(D:V c x a)(f:Bool)(w:World):(Instr.checkKey f 10000 kt a).run P w= .ok () w:=by
 unfold dS at d;split at d
 ·rename_i K o;simp at d;subst d;unfold o5 at h;split at h<;>first|(rename_i e;cases e;done)|skip
  ·subst D;rename_i L nx _;have:∀n,(Instr.checkKey f (n+1) kt (.int L nx)).run P w= .ok () w:=fun n=>by simp[Instr.checkKey,run_underlying o]
   exact this 9999
  ·cases h
 ·rename_i o;simp at d;subst d;unfold o5 at h;split at h<;>first|(rename_i e;cases e;done)|skip
  ·obtain⟨s,rfl,_⟩:=D;have:∀n,(Instr.checkKey f (n+1) kt (.string s)).run P w= .ok () w:=fun n=>by simp[Instr.checkKey,run_underlying o]
   exact this 9999
  ·cases h
 ·rename_i n e o;split at d
  ·rename_i K G;split at d
   ·rename_i B;simp at d;subst d;unfold o5 at h;split at h<;>first|(rename_i e;cases e;done)|skip
    ·rename_i O Q cs M;cases M;simp only[qi,beq_iff_eq]at h;obtain⟨hl,p⟩:=h;obtain⟨vs,rfl,q⟩:=D;have E:=bH q;have I:∀j,j<vs.toArray.size→∃k n,vs.toArray[j]?=some (.int k n):=by
      intro j C;simp at C;have g:j<cs.length:=by omega
      obtain⟨v,h1,z⟩:=jZ q (qq g);obtain⟨k,n,e⟩:=JV (List.all_eq_true.1 p _ (List.getElem_mem g));rw[e]at z;subst z;exact⟨k,n,by simpa using h1⟩
     unfold Instr.checkKey;have J:bl P e=1:=B;simp only[Sem.run_bind,run_underlying o,Result.andThen_ok];simp only[Std.Legacy.Range.forIn_eq_forIn_range',Std.Legacy.Range.size,Nat.sub_zero,Nat.add_one_sub_one,Nat.div_one];have:=sr (P:=P) G f 9998 vs.toArray I w (List.range' 0 n) (by intro j C;rw[List.mem_range']at C;simp;omega)
     have A:∀w,(sizeOf e).run P w= .ok 1 w:=fun w=>by rw[run_sizeOf (info_of_underlying G),J]
     have conv:∀(l:List Nat) w,(forIn l PUnit.unit (fun i _=>do Instr.checkKey f 9999 e (← part e vs.toArray (i*(← sizeOf e)));pure (ForInStep.yield PUnit.unit)):Sem PUnit).run P w=
      (forIn l PUnit.unit (fun i _=>do Instr.checkKey f (9998+1) e (← part e vs.toArray i);pure (ForInStep.yield PUnit.unit)):Sem PUnit).run P w:=by
      intro l;induction l with
      |nil=>intro w;rfl
      |cons j l N=>
       intro w;simp;simp only[Sem.run_bind,A,Result.andThen_ok,Nat.mul_one];cases hp:(part e vs.toArray j).run P w with
       |halt x w1=>simp
       |ok v w1=>
        simp;cases hq:(Instr.checkKey f 9999 e v).run P w1 with
        |halt x w2=>simp
        |ok u w2=>
         exact N w2
     have z:=(conv (List.range' 0 n) w).trans this;rw[z];rfl
    ·cases h
   ·cases d
  ·cases d
 ·cases d
theorem fb(d:dS P kt=some k)(n:V c x a)(w:World){es:List (bc×bc)}{ms:List MapEntry}{r:Option (Nat×bc)}
 (h:fT k x es 0=some r) (g:Es c es ms):(Instr.findKey kt a ms).run P w= .ok (hJ ms 0 r) w:=by
 obtain⟨⟨h1,l⟩,_⟩:=kV d n w es ms 0 h g;cases hw:k.wide with
 |true=>
  have f:(match P.underlying kt with|some (.array _ _)|some (.struct _)=>true|_=>false)=true:=by
   unfold dS at d;split at d
   ·simp at d;subst d;cases hw
   ·simp at d;subst d;cases hw
   all_goals grind
  rw[run_findKey_eq w f];exact h1
 |false=>
  obtain⟨D,j⟩:∃D,P.underlying kt=some D:=by
   unfold dS at d;grind
  exact Qr j (l D j (fun e=>by grind))
variable {H:bd}{m r:bc}{t:TypeId}{vm vx:Value}
theorem vX(K:Rel c H){ok:Bool}(h:gy P t H m x ok=some r)(C:V c m vm)(l:V c x vx):
 ∃u,(Instr.lookup t vm vx ok).run P c.w= .ok u c.w∧V c r u:=by
 unfold gy at h;split at h
 case h_2=>cases h
 rename_i kt L q;split at h
 case h_2=>cases h
 rename_i k z e D;split at h
 case isFalse=>cases h
 rename_i f;obtain⟨G,s,A⟩:=cM (P:=P) (c:=c) D c.w;have fin:∀(v:Value) (a:bc) (b:Bool),V c a v→V c (if ok then .tup [a,.bool b]else a) (if ok then .tuple #[v,.bool b]else v):=by
  intro v a b M;cases ok
  ·grind
  ·exact⟨[v,.bool b],rfl,by simp only[Vs,V];grind⟩
 split at h
 ·simp at h;subst h;subst C;refine⟨_, ?_,fin G z false A⟩;have n:=fb (P:=P) e l c.w (es:=[]) (ms:=[]) (r:=none) (by simp[fT]) (by simp[Es])
  simp only[Instr.lookup,Sem.run_bind,run_underlying q,Result.andThen_ok,je e f l];simp only[n,hJ,Result.andThen_ok,Sem.run_bind,s,Sem.run_pure]
 ·rename_i b;obtain⟨B,I,rfl⟩:=C;split at h
  ·rename_i es E;obtain⟨N,base',o,_,_,_,ms,clock,p,g,_⟩:=K.blk b _ E;rw[I]at o;obtain⟨rfl,rfl⟩:=o;split at h
   ·rename_i j v n;simp at h;subst h;obtain⟨_,J⟩:=kV e l c.w es ms.toList 0 n g;obtain⟨_,O,g1,Q,_⟩:=J j v rfl;have d:=fb (P:=P) e l c.w n g;simp only[hJ,g1,Option.map_some]at d;simp only[Instr.lookup,Sem.run_bind,run_underlying q,Result.andThen_ok,IP p,je e f l];simp_all
   ·rename_i n;simp at h;subst h;have d:=fb (P:=P) e l c.w n g;simp only[hJ]at d;simp only[Instr.lookup,Sem.run_bind,run_underlying q,Result.andThen_ok,IP p,je e f l];simp_all
   ·cases h
  ·cases h
 ·cases h
theorem FV{c:Cx}:∀{es:List (bc×bc)} {ms:List MapEntry} {i:Nat} {k v:bc} {m:MapEntry},Es c es ms→V c k m.key→V c v m.val→Es c (es.set i (k,v)) (ms.set i m)
 | [],_,_,_,_,_,h,_,_=>by subst h;simp[Es]
 |(l,n)::es,_,0,k,v,m,h,f,g=>by
  obtain⟨d,ns,rfl,_,_,e⟩:=h;simp only[List.set_cons_zero,Es];grind
 |(l,n)::es,_,i+1,k,v,m,h,f,g=>by
  simp only[Es]at h;obtain⟨d,ns,rfl,h1,j,e⟩:=h;simp;exact⟨d,_,rfl,h1,j,FV e f g⟩
theorem AH{c:Cx}:∀{es:List (bc×bc)} {ms:List MapEntry} {k v:bc} {m:MapEntry},Es c es ms→V c k m.key→V c v m.val→Es c (es++[(k,v)]) (ms++[m])
 | [],_,_,_,m,h,d,e=>by
  subst h;simp only[List.nil_append,Es];grind
 |(l,n)::es,_,k,v,m,h,d,e=>by
  simp only[Es]at h;obtain⟨f,ns,rfl,h1,g,j⟩:=h;simp;exact⟨f,_,rfl,h1,g,AH j d e⟩
variable {H':bd}{lo:Nat}
theorem kh(hR:Rel c H){v:bc}{G:Value}(h:c9 P lo t H m x v=some H')(hm:V c m vm)(A:V c x vx)(hv:V c v G):
 ∃c',Rel c' H'∧Tr c H c' H'∧Low lo c H c' H'∧(Instr.mapUpdate t vm vx G).run P c.w= .ok () c'.w:=by
 unfold c9 at h;split at h
 case h_2=>cases h
 rename_i kt et hd;split at h
 case h_2=>cases h
 rename_i k E;split at h
 case isFalse=>cases h
 rename_i K;split at h
 case h_2=>cases h
 rename_i b;split at h
 case isFalse=>cases h
 rename_i R;split at h
 case h_2=>cases h
 rename_i es U;obtain⟨B,W,rfl⟩:=hm;obtain⟨B',base',N,_,aa,_,ms,clock,o,u,p⟩:=hR.blk b _ U;rw[W]at N;obtain⟨rfl,rfl⟩:=N;have upd:∀(l:List (bc×bc)) (f:Array MapEntry) (d:Nat),Es c l f.toList→Std f d→
  Rel { c with w:={ c.w with heap:=c.w.heap.setIfInBounds B (.map f d) } } (H.set b (some (.mp l)))∧Tr c H { c with w:={ c.w with heap:=c.w.heap.setIfInBounds B (.map f d) } } (H.set b (some (.mp l)))∧
  Low lo c H { c with w:={ c.w with heap:=c.w.heap.setIfInBounds B (.map f d) } } (H.set b (some (.mp l))):=by
  intro l f d L M;obtain⟨g1,Y⟩:=EP (w:=c.w) (o':=.map f d) o;obtain⟨h1,h2⟩:=hR.update (blk':=.mp l) U W { c.w with heap:=c.w.heap.setIfInBounds B (.map f d) } (by simp) (fun X I=>Y X I) (fun X t n hs=>by
   by_cases I:X=B
   ·subst I;simp[World.shape?,o]at hs
   ·rw[da (w:=c.w)]
    all_goals grind) rfl rfl rfl (fun hE=>⟨rfl,f,d,g1,yt hE _ _ L,M⟩)
  exact⟨h1,h2,hR.set_low R U W (fun X I=>Y X I) (fun y z hy ab=>by grind) (fun _ _ h=>h) (by simp)⟩
 split at h
 ·rename_i j v0 O;simp at h;subst h;obtain⟨_,h3⟩:=kV E A c.w es ms.toList 0 O u;obtain⟨_,Q,g1,Y,y,g3,g4,g5⟩:=h3 j v0 rfl;simp only[Nat.sub_zero]at g1;have g:=fb (P:=P) E A c.w O u;simp only[hJ,Nat.sub_zero,g1]at g;have C:Instr.sameBits 10000 Q.key vx=true:=by
   rcases tg (P:=P) E g4 A g5 c.w with⟨_,hs⟩|⟨_,hs⟩
   all_goals grind
  have D:ms[j]?=some Q:=by grind
  have J:(ms.modify j fun e=>{ e with key:=vx,val:=G }).toList=ms.toList.set j { Q with key:=vx,val:=G }:=by
   apply List.ext_getElem?;grind
  obtain⟨Z,h5,h6⟩:=upd (es.set j (x,v)) (ms.modify j fun e=>{ e with key:=vx,val:=G }) clock (by rw[J];exact FV u A hv) ⟨by rw[Array.size_modify];exact p.1,fun q m s=>by
   rw[Array.getElem?_modify]at s;split at s
   ·rename_i e;subst e;rw[D]at s;simp at s;rw[← s];exact p.2 j Q D
   ·exact p.2 q m s⟩
  refine⟨_,Z,h5,h6, ?_⟩;simp only[Instr.mapUpdate,Sem.run_bind,run_underlying hd,Result.andThen_ok,IP o,je E K A,g,D,Option.map_some,Option.getD_some,Instr.keyThatStays,C,if_true,Sem.run_pure];rw[PC _ o]
 ·rename_i O;simp at h;subst h;have g:=fb (P:=P) E A c.w O u;simp only[hJ]at g;obtain⟨Z,h5,h6⟩:=upd (es++[(x,v)]) (ms.push { key:=vx,val:=G,born:=clock }) (clock+1) (by rw[Array.toList_push];exact AH u A hv) ⟨by rw[Array.size_push,p.1],fun q m s=>by
   rw[Array.getElem?_push]at s;split at s
   ·rename_i e;simp at s;rw[← s,e];exact p.1
   ·exact p.2 q m s⟩
  refine⟨_,Z,h5,h6, ?_⟩;simp only[Instr.mapUpdate,Sem.run_bind,run_underlying hd,Result.andThen_ok,IP o,je E K A,g];rw[PC _ o]
 ·cases h
theorem decode_ascii{t:ByteArray}{d:Nat}{c:UInt8}(h:t.data.toList[d]?=some c)(hc:c<128):d<t.size∧Utf8.decode t d=(c.toNat,1):=by
 have e:d<t.data.toList.length:=by
  grind
 have f:d<t.size:=by simp_all
 have g:t.get! d=c:=by
  show t.data[d]! =c;grind
 have j:c.toNat<0x80:=by simpa[UInt8.lt_iff_toNat_lt]using hc
 unfold Utf8.decode;grind
theorem D6{c:Cx}:∀{es:List (bc×bc)} {ms:List MapEntry} {j:Nat} {k v:bc},Es c es ms→es[j]?=some (k,v)→∃m,ms[j]?=some m∧V c k m.key∧V c v m.val
 | [],_,_,_,_,_,h=>by simp at h
 |(n,o)::es,ms,j,k,v,h,e=>by
  obtain⟨m,ns,rfl,h1,f,d⟩:=h;cases j with
  |zero=>
   grind
  |succ j=>
   obtain⟨g,g1,l⟩:=D6 d e;grind
theorem tU(p:Nat→Bool):∀(l:List MapEntry) (k:Nat),(∀(j:Nat) (m:MapEntry),l[j]?=some m→m.born=k+j)→l.filter (fun e=>p e.born)=((List.range' k l.length).filter p).filterMap (fun j=>l[j-k]?)
 | [],k,_=>rfl
 |e::l,k,h=>by
  have d:e.born=k:=h 0 e rfl;have f:=tU p l (k+1) (fun j m q=>by have:=h (j+1) m (by grind);omega)
  rw[qm,List.range'_succ,List.filter_cons,List.filter_cons,d,f];have e2:∀L:List Nat,(∀j∈L,k+1≤j)→L.filterMap (fun j=>l[j-(k+1)]?)=L.filterMap (fun j=>(e::l)[j-k]?):=fun L g=>by
   induction L with
   |nil=>rfl
   |cons a L n=>
    have o:=g a List.mem_cons_self;grind
  grind
variable {ms:Array MapEntry}
theorem Ji{last:Nat}{seen:List Nat}(d:Std ms clock)(h:seen=[]∨ms.size=0∨0<last):(!seen.toArray.isEmpty && !ms.isEmpty && ms.all fun e=>decide (e.born≥last))=false:=by
 rcases h with h|h|h
 ·subst h;rfl
 ·grind
 ·by_cases f:ms.size=0
  ·grind
  ·have g:=d.2 0 ms[0] (by grind)
   grind
theorem GK(d:Std ms clock)(seen:List Nat):ms.filter (fun e=>!seen.toArray.contains e.born)=(((List.range' 0 ms.size).filter fun j=>!seen.contains j).filterMap fun j=>ms[j]?).toArray:=by
 apply Array.ext';rw[Array.toList_filter];have:=tU (fun j=>!seen.contains j) ms.toList 0 (fun j m f=>by have:=d.2 j m (by grind);omega)
 grind
theorem Cj(G:Rel c H){g:Bool}(h:qL lo H x g=some (r,H'))(hx:V c x v):
 ∃c' u,Rel c' H'∧Tr c H c' H'∧Low lo c H c' H'∧V c' r u∧(Instr.next v g t).run P c.w= .ok u c'.w:=by
 unfold qL at h;split at h
 case h_3=>cases h
 case h_2=>
  rename_i b;split at h
  case h_2=>cases h
  rename_i m d seen last Q;split at h
  case h_2=>cases h
  rename_i es Z;split at h
  case isFalse=>cases h
  rename_i R;obtain⟨B,base,U,rfl⟩:=hx;obtain⟨B',base',C,_,ab,q,Bm,ac,D⟩:=G.blk b _ Q;rw[U]at C;obtain⟨rfl,rfl⟩:=C;subst q;obtain⟨M',base',ad,_,_,_,ms,clock,ak,ae,E⟩:=G.blk m _ Z;rw[ac]at ad;obtain⟨rfl,_⟩:=ad;have aa:es.length=ms.size:=by rw[jm ae,Array.length_toList]
  have get:(getObj B).run P c.w= .ok (.mapIter (some Bm) d seen.toArray last) c.w:=by simp[getObj,Sem.run,D]
  have I:(getObj Bm).run P c.w= .ok (.map ms clock) c.w:=by simp[getObj,Sem.run,ak]
  have set:∀o,(setObj B o).run P c.w= .ok () { c.w with heap:=c.w.heap.setIfInBounds B o }:=fun o=>by simp[setObj,Sem.run,D]
  have J:=Ji E (seen:=seen) (last:=last) (by
   grind)
  have f:=GK E seen;rw[aa]at h;split at h
  ·rename_i K;obtain⟨rfl,rfl⟩:=h;rw[K]at f;refine⟨c,.tuple #[.bool false],G,Tr.refl _ _,Low.refl _ _ _,by exact⟨[.bool false],rfl,by simp[Vs,V]⟩, ?_⟩
   simp only[Instr.next,Sem.run_bind,get,I,Result.andThen_ok,J,if_false];generalize hL:Array.filter (fun e=>!seen.toArray.contains e.born) ms=L
   rw[f]at hL;subst hL;simp[Sem.run,Question.forced]
  ·rename_i j K;split at h
   case isFalse=>cases h
   split at h
   case h_2=>cases h
   rename_i kk vv hj;obtain⟨rfl,rfl⟩:=h;obtain⟨l,M,af⟩:=D6 ae hj;have M:ms[j]?=some l:=by grind
   have N:=E.2 j l M;rw[K]at f;simp only[List.filterMap_cons,M,List.filterMap_nil]at f;obtain⟨g1,g2⟩:=EP (w:=c.w) (o':=.mapIter (some Bm) d (seen++[j]).toArray clock) D;obtain⟨h1,h2⟩:=G.update (blk':=.mi m d (seen++[j]) clock) Q U { c.w with heap:=c.w.heap.setIfInBounds B (.mapIter (some Bm) d (seen++[j]).toArray clock) } (by simp) (fun X A=>g2 X A) (fun X t n Y=>by
    by_cases A:X=B
    ·subst A;simp[World.shape?,D]at Y
    ·rw[da (w:=c.w)]
     all_goals grind) rfl rfl rfl (fun hE=>⟨rfl,Bm,hE.ι _ _ ac,g1⟩)
   rw[show ms.size=clock from E.1.symm]
   refine⟨_,.tuple #[.bool true,l.key,l.val],h1,h2,G.set_low R.1 Q U (fun X A=>g2 X A) (fun y z hy al=>by grind) (fun _ _ h=>h) (by simp), ?_, ?_⟩
   ·exact⟨[.bool true,l.key,l.val],rfl,by
     exact⟨_,_,rfl,by simp[V],_,_,rfl,o9 h2.ext _ _ af.1,_,_,rfl,o9 h2.ext _ _ af.2,rfl⟩⟩
   ·have O:l.born<d:=by omega
    have ah:¬l.born≥d:=by omega
    simp only[Instr.next,Sem.run_bind,get,I,Result.andThen_ok,J,Bool.false_eq_true,if_false];generalize hL:Array.filter (fun e=>!seen.toArray.contains e.born) ms=L
    rw[f]at hL;subst hL;have e1:Array.filter (fun x:MapEntry=>decide (x.born<d)) [l].toArray= #[l]:=by simp[O]
    have e2:Array.filter (fun x:MapEntry=>decide (x.born≥d)) [l].toArray= #[]:=by simp[ah]
    rw[e1,e2];have hC:((if(#[l]:Array MapEntry).isEmpty=true then #[none]else #[])++Array.map some (#[l]++ #[]):Array (Option MapEntry))= #[some l]:=by simp
    rw[hC];have e3:(choose (Question.mapNext 1)).run P c.w= .ok 0 c.w:=by simp[Sem.run,Question.forced]
    show Result.andThen ((choose (Question.mapNext 1)).run P c.w) _=_;rw[e3,Result.andThen_ok];have e4:(#[some l]:Array (Option MapEntry))[0]?=some (some l):=rfl;rw[e4];simp only[Sem.run_bind,set,Result.andThen_ok,Sem.run_pure,N,List.push_toArray]
  ·cases h
 rename_i b;split at h
 case h_2=>cases h
 rename_i s p Q;split at h
 case isFalse=>cases h
 rename_i R;obtain⟨B,base,U,rfl⟩:=hx;obtain⟨B',base',C,_,ab,q,W,Z,Y⟩:=G.blk b _ Q;rw[U]at C;obtain⟨rfl,rfl⟩:=C;subst q;have get:(getObj B).run P c.w= .ok (.stringIter W p) c.w:=by simp[getObj,Sem.run,Z]
 have set:∀o,(setObj B o).run P c.w= .ok () { c.w with heap:=c.w.heap.setIfInBounds B o }:=fun o=>by simp[setObj,Sem.run,Z]
 split at h
 ·rename_i K;obtain⟨rfl,rfl⟩:=h;have aj:¬p<W.size:=by
   rw[← Y,List.getElem?_eq_none_iff]at K;have:W.data.toList.length=W.size:=Array.length_toList;omega
  refine⟨c,.tuple #[.bool false],G,Tr.refl _ _,Low.refl _ _ _,by exact⟨[.bool false],rfl,by simp[Vs,V]⟩, ?_⟩
  simp only[Instr.next,Sem.run_bind,get,Result.andThen_ok,if_neg aj,Sem.run_pure]
 ·rename_i ch K;split at h
  case isFalse=>cases h
  rename_i hc;obtain⟨rfl,rfl⟩:=h;rw[← Y]at K;obtain⟨O,ag⟩:=decode_ascii K hc;obtain⟨g1,g2⟩:=EP (w:=c.w) (o':=.stringIter W (p+1)) Z;obtain⟨h1,h2⟩:=G.update (blk':=.it s (p+1)) Q U { c.w with heap:=c.w.heap.setIfInBounds B (.stringIter W (p+1)) } (by simp) (fun X A=>g2 X A) (fun X t n Y=>by
   by_cases A:X=B
   ·subst A;simp[World.shape?,Z]at Y
   ·rw[da (w:=c.w)]
    all_goals grind) rfl rfl rfl (fun hE=>⟨rfl,W,g1,Y⟩)
  refine⟨_,.tuple #[.bool true,.int .i64 p,.int .i32 ch.toNat],h1,h2,G.set_low R Q U (fun X A=>g2 X A) (fun y z hy al=>by grind) (fun _ _ h=>h) (by simp), ?_, ?_⟩
  ·exact⟨[.bool true,.int .i64 p,.int .i32 ch.toNat],rfl,by simp[Vs,V]⟩
  ·simp only[Instr.next,Sem.run_bind,get,Result.andThen_ok,if_pos O,ag,set];rfl
theorem wg(j:Rel c H)(h:pE P t H x=some (r,H'))(C:V c x v):
 ∃c' u,Rel c' H'∧Tr c H c' H'∧Low lo c H c' H'∧V c' r u∧(Instr.range t v).run P c.w= .ok u c'.w:=by
 unfold pE at h;split at h
 case h_2=>cases h
 rename_i kt D b q;split at h
 case h_2=>cases h
 rename_i es s;obtain⟨rfl,rfl⟩:=h;obtain⟨B,p,rfl⟩:=C;obtain⟨E,base',g,_,_,_,ms,clock,l,n,o⟩:=j.blk b _ s;rw[p]at g;obtain⟨rfl,_⟩:=g;have e:es.length=clock:=by rw[jm n,Array.length_toList,o.1]
 rw[e];have d:=j.add (H':=H++[some (.mi b clock [] clock)]) H.length (.mapIter (some B) clock #[] clock) (.mi b clock [] clock) (j.fresh _ (qe _)) (by simp) (by simp) (by
  grind) (fun z=>⟨rfl,B,z.ι _ _ p,by show(c.w.heap.push _)[c.w.heap.size]?=_;simp⟩)
 refine⟨_,.pointer (some ⟨c.w.heap.size,0,none⟩),d.1,d.2, ?_, ?_, ?_⟩
 ·refine j.add_low lo _ _ (qe _) (by simp) fun x y A=>?_
  grind
 ·exact⟨c.w.heap.size,0,by simp[Cx.put],rfl⟩
 ·have f:(getObj B).run P c.w= .ok (.map ms clock) c.w:=by simp[getObj,Sem.run,l]
  simp only[Instr.range,Sem.run_bind,run_underlying q,Result.andThen_ok,f];rfl
theorem zM(M:Rel c H)(h:yD H x=some r)(X:V c x v):∃u,V c r u∧(Instr.entry v).run P c.w= .ok u c.w:=by
 unfold yD at h;split at h
 case h_2=>cases h
 rename_i b;split at h
 case h_2=>cases h
 rename_i m f seen last O;split at h
 case h_2=>cases h
 rename_i j es Y Q;split at h
 case isFalse=>cases h
 rw[qd]at h;obtain⟨⟨k,w⟩,R,rfl⟩:=h;obtain⟨B,base,U,rfl⟩:=X;obtain⟨Z,base',s,_,K,g,L,E,G⟩:=M.blk b _ O;rw[U]at s;obtain⟨rfl,rfl⟩:=s;subst g;obtain⟨M',base',z,_,_,_,ms,clock,I,A,l⟩:=M.blk m _ Q;rw[E]at z;obtain⟨rfl,_⟩:=z;have J:es.length=clock:=by rw[jm A,Array.length_toList,l.1]
 obtain⟨n,o,W⟩:=D6 A R;have o:ms[j]?=some n:=by grind
 have get:(getObj B).run P c.w= .ok (.mapIter (some L) f seen.toArray last) c.w:=by simp[getObj,Sem.run,G]
 have p:(getObj L).run P c.w= .ok (.map ms clock) c.w:=by simp[getObj,Sem.run,I]
 have d:seen.toArray.back?=some j:=by grind
 have e:ms.find? (fun x=>x.born==j)=some n:=by
  rw[← Array.find?_toList,List.find?_eq_some_iff_getElem];have C:j<ms.toList.length:=by
   grind
  refine⟨by rw[l.2 j n o];grind,j,C, ?_,fun q hq=>?_⟩
  ·grind
  ·have N:q<ms.size:=by grind
   have:=l.2 q ms[q] (by grind)
   grind
 refine⟨.tuple #[n.key,n.val], ?_, ?_⟩
 ·exact⟨[n.key,n.val],rfl,by simp only[Vs];grind⟩
 ·have D:(clock !=last)=false:=by grind
  simp only[Instr.entry,Sem.run_bind,get,Result.andThen_ok,d,p,D,Bool.false_eq_true,if_false,e,Sem.run_pure]
end Go.Am
namespace Go.Am
open Go.RowKit
variable {P:Program}
theorem sX:∀(xs:List Value) (k off:Nat) (cells:Array Value),off+k+xs.length≤cells.size→
 ((xs.zipIdx k).foldl (fun cs (p:Value×Nat)=>cs.setIfInBounds (off+p.2) p.1) cells).toList=cells.toList.take (off+k)++xs++cells.toList.drop (off+k+xs.length)
 | [],k,off,cells,_=>by simp
 |x::xs,k,off,cells,h=>by
  simp at h;simp;rw[sX xs (k+1) off _ (by simp;omega)]
  rw[Array.toList_setIfInBounds,← Nat.add_assoc];have b:cells.toList.length=cells.size:=Array.length_toList;rw[List.take_succ_eq_append_getElem (by grind)]
  rw[List.drop_set_of_lt (by omega)]
  have e:off+k+1+xs.length=off+k+(xs.length+1):=by omega
  simp only[List.getElem_set_self,List.take_set_of_le (qe _),qm,List.append_assoc,List.cons_append,List.nil_append,e]
theorem vH(v:Value)(off:Nat)(cells:Array Value)(h:off+v.cells.size≤cells.size):
 (v.cells.zipIdx.foldl (fun cs (p:Value×Nat)=>cs.setIfInBounds (off+p.2) p.1) cells).toList=cells.toList.take off++v.cells.toList++cells.toList.drop (off+v.cells.size):=by
 have:=sX v.cells.toList 0 off cells (by simpa using h)
 rw[← Array.foldl_toList,Array.toList_zipIdx]
 grind
def Ps(c:Cx):List (Nat×bc)→List (Nat×Value)→Prop
 | [],vs=>vs=[]
 |(i,a)::as,vs=>∃v b,vs=(i,v)::b∧V c a v∧Ps c as b
theorem lA{c:Cx}{d:Nat→Option (Nat×Nat)}{place':Nat→Option (Nat×Nat)}(o:∀i,d i=place' i):∀{b:List (Nat×bc)} {parts':List (Nat×Value)} {cs cs':List bc} {vs:Array Value},
 jQ d cs b=some cs'→Vs c cs vs.toList→Ps c b parts'→∃e,Instr.fill place' vs parts'=some e∧Vs c cs' e.toList
 | [],_,cs,cs',vs,h,j,g=>by
  subst g;simp only[jQ,qa]at h;subst h;exact⟨vs,rfl,j⟩
 |(i,a)::b,_,cs,cs',vs,h,j,g=>by
  obtain⟨v,q,rfl,n,g⟩:=g;simp only[jQ]at h;split at h
  ·cases h
  ·rename_i off size m;split at h
   ·cases h
   ·rename_i hc;simp at hc;obtain⟨h1,s,u⟩:=hc;have f:=fW n (by grind)
    have hl:=bH f;have k:=bH j;simp at hl k;have l:off+v.cells.size≤vs.size:=by omega
    obtain⟨e,w,y⟩:=lA o (vs:=v.cells.zipIdx.foldl (fun cs (p:Value×Nat)=>cs.setIfInBounds (off+p.2) p.1) vs) h (by
     rw[vH v off vs l];refine cm (cm (ld _ j) f) ?_;rw[hl];exact di _ j) g
    rw[Instr.fill,← o,m];grind
def xk(S:bh)(c:Cx)(ρ:List bc)(a:Act)(xs:Array Operand):Prop:=∀x∈xs,V c (bj S ρ x) (a.eval x)
theorem zV{S:bh}{c:Cx}{ρ:List bc}{a:Act}:∀l:List (Nat×Operand),(∀p∈l,V c (bj S ρ p.2) (a.eval p.2))→Ps c (l.map fun p=>(p.1,bj S ρ p.2)) (l.map fun p=>(p.1,a.eval p.2))
 | [],_=>by simp[Ps]
 |(i,x)::l,h=>by
  exact⟨_,_,rfl,h (i,x) (List.mem_cons_self ..),zV l fun p b=>h p (List.mem_cons_of_mem _ b)⟩
theorem fR{S:bh}{c:Cx}{ρ:List bc}{a:Act}:∀(l:List Operand),(∀x∈l,V c (bj S ρ x) (a.eval x))→Vs c (l.map (bj S ρ)) (l.map a.eval)
 | [],_=>by simp[Vs]
 |x::l,h=>by
  exact⟨_,_,rfl,h x (List.mem_cons_self ..),fR l fun p b=>h p (List.mem_cons_of_mem _ b)⟩
theorem run_places(fs:Array Field)(h:fs.all (fun f=>(P.info? f.type).isSome)=true)(w:World):
 (fs.mapM (fun f=>Prod.mk f.offset<$>sizeOf f.type):Sem (Array (Nat×Nat))).run P w= .ok (fs.map fun f=>(f.offset,bl P f.type)) w:=by
 have key:∀l:List Field,l.all (fun f=>(P.info? f.type).isSome)=true→(l.mapM (fun f=>Prod.mk f.offset<$>sizeOf f.type):Sem (List (Nat×Nat))).run P w= .ok (l.map fun f=>(f.offset,bl P f.type)) w:=by
  intro l;induction l with
  |nil=>intro _;rfl
  |cons f l b=>
   intro h;simp only[List.all_cons,qi]at h;simp[run_sizeOf h.1,b h.2]
 rw[Array.mapM_eq_mapM_toList];simp only[Sem.run_map,key fs.toList (by simpa using h),Result.andThen_ok]
 congr 1;grind
variable {c:Cx}{r:bc}{t:TypeId}
theorem yP{b:List (Nat×bc)}{parts':Array (Nat×Value)}(h:oh P t b=some r)(s:Ps c b parts'.toList)(w:World):
 ∃u,(Instr.build t parts').run P w= .ok u w∧V c r u:=by
 unfold oh at h;split at h
 ·cases h
 ·rename_i z y;obtain⟨B,k,o⟩:=cM (P:=P) (c:=c) y w;split at h
  ·cases h
  ·rename_i q;have g:=fW o (by grind)
   split at h
   ·rename_i fs l;split at h
    ·rename_i j;rw[qd]at h;obtain⟨cs,p,rfl⟩:=h;obtain⟨d,h1,A⟩:=lA (place':=fun i=>Option.map (fun f=>(f.offset,bl P f.type)) fs[i]?) (fun _=>rfl) p g s
     refine⟨.agg d, ?_, ?_⟩
     ·simp[Instr.build,k,run_underlying l,run_places fs j,h1]
     ·simp only[V];grind
    ·cases h
   ·rename_i n e l;split at h
    ·rename_i m;rw[qd]at h;obtain⟨cs,p,rfl⟩:=h;obtain⟨d,h1,A⟩:=lA (place':=fun i=>some (i*bl P e,bl P e)) (fun _=>rfl) p g s
     refine⟨.agg d, ?_, ?_⟩
     ·simp[Instr.build,k,run_underlying l,run_sizeOf m,h1]
     ·simp only[V];grind
    ·cases h
   ·cases h
theorem y5{r:Nat}{ms:Array MapEntry}{b:Nat}{w:World}(h:w.heap[r]?=some (.map ms b)):(getObj r).run P w= .ok (.map ms b) w:=by
 simp[getObj,Sem.run,h]
variable {H:bd}{v:Value}{x:bc}
theorem Gi(E:Rel c H)(h:jJ P t H x=some r)(g:V c x v)(p:Array TypeId)(ty:TypeId)(f:p[0]?=some t):
 ∃u,(Builtin.len_ p ty #[v]).run P c.w= .ok u c.w∧V c r u:=by
 unfold jJ at h;split at h
 ·rename_i s d;simp at h;subst h;obtain⟨A,rfl,rfl⟩:=g;exact⟨.int .i64 A.size,by simp[Builtin.len_,f,run_underlying d,goInt],by rfl⟩
 ·cases h
 ·rename_i y n e d _;simp at h;subst h;exact⟨.int .i64 n,by simp[Builtin.len_,f,run_underlying d,goInt],by simp[V]⟩
 ·rename_i e d;simp at h;subst h;subst g;exact⟨.int .i64 0,by simp[Builtin.len_,f,run_underlying d,goInt],by simp[V]⟩
 ·rename_i e sz rows ex d;simp at h;subst h;obtain⟨a,cap,vs,rfl,_⟩:=g;exact⟨.int .i64 rows.length,by simp[Builtin.len_,f,run_underlying d,goInt],by simp[V]⟩
 ·rename_i e sz b off len cap ex d;simp at h;subst h;obtain⟨B,base,k,o,_,rfl,_⟩:=g;exact⟨.int .i64 len,by simp[Builtin.len_,f,run_underlying d,goInt],by simp[V]⟩
 ·rename_i q e d;simp at h;subst h;subst g;exact⟨.int .i64 0,by simp[Builtin.len_,f,run_underlying d,goInt],by simp[V]⟩
 ·rename_i q e b d;split at h
  ·rename_i es z;simp at h;subst h;obtain⟨B,C,rfl⟩:=g;obtain⟨G,base',j,_,_,_,ms,l,D,m,_⟩:=E.blk b _ z;rw[C]at j;obtain⟨rfl,rfl⟩:=j;have hl:=jm m;refine⟨.int .i64 ms.size, ?_, ?_⟩
   ·simp[Builtin.len_,f,run_underlying d,y5 D,goInt]
   ·simp[V,hl]
  ·cases h
 ·cases h
theorem sN(h:dZ x=some r)(b:V c x v):V c r v∧((∃a,v= .pointer (some a))∨∃f p q,v= .func (.func f) p q):=by
 unfold dZ at h;split at h<;>first
  |(cases h;done)
  |(simp only[qa]at h;subst h;refine⟨b, ?_⟩;simp only[V]at b)
 all_goals grind
variable {S:bh}{a:Act}{ρ:List bc}
theorem sD(x:Option Operand)(h:∀y∈x,V c (bj S ρ y) (a.eval y)):xo c (x.map (bj S ρ)) (x.map a.eval):=by
 cases x with
 |none=>trivial
 |some x=>exact h x rfl
theorem pt{c:Cx}:∀{rows:List (List bc)} {l:List UInt8} {vs:List Value},df rows=some l→Vss c 1 rows vs→
 ∃ns:List Int,vs=ns.map (Value.int .u8)∧l=ns.map fun n=>UInt8.ofNat n.toNat
 | [],l,vs,h,b=>by
  simp only[df]at h;simp only[Vss]at b;simp_all
 |r::rs,l,vs,h,b=>by
  unfold df at h;split at h
  ·grind
  ·rename_i n d e;cases e;rw[qd]at h;obtain⟨g,h1,rfl⟩:=h;obtain⟨j,k,rfl,_,⟨_,_,rfl,rfl,rfl⟩,f⟩:=b;obtain⟨ns,rfl,rfl⟩:=pt h1 f;exact⟨n::ns,rfl,rfl⟩
  ·cases h
theorem yR(ns:List Int):∀s:ByteArray,(ns.foldl (fun(r:ByteArray) n=>r.push (UInt8.ofNat n.toNat)) s).data.toList=s.data.toList++ns.map fun n=>UInt8.ofNat n.toNat:=by
 induction ns with
 |nil=>simp
 |cons n ns b=>
  simp_all
theorem zB(O:Rel c H){s d:TypeId}(h:fj P s d H x=some r)(K:V c x v):∃u,(convert s d v).run P c.w= .ok u c.w∧V c r u:=by
 have g:∀{e:TypeId} {B o len cap:Nat} {rows:List (List bc)} {vs:List Value} {l:List UInt8},P.underlying s=some (.slice e)→P.underlying d=some .string→P.underlying e=some (.int .u8)→
  df rows=some l→rows.length=len→At c.w B o vs→Vss c 1 rows vs→∃u,(convert s d (.slice (some ⟨B,o,none⟩) len cap)).run P c.w= .ok u c.w∧V c (.str l) u:=by
  intro e B o len cap rows vs l n p m G q y f;obtain⟨ns,rfl,rfl⟩:=pt G f;have hl:=fI f;have hc:(loadCells ⟨B,o,none⟩ len).run P c.w= .ok (ns.map (Value.int .u8)).toArray c.w:=by
   have:=run_loadCells_list (P:=P) c.w ⟨B,o,none⟩ (ns.map (Value.int .u8)) fun j v A=>by rw[add_plain];exact y j v A
   grind
  refine⟨_,by rw[run_convert_bytes_string c.w s d e _ _ _ n m p,run_bytesToString c.w _ _ _ ns hc], ?_⟩
  exact⟨_,rfl,by rw[yR];rfl⟩
 unfold fj at h;split at h
 ·rename_i e n p;split at h
  ·rename_i m;simp at h;subst h;subst K;refine⟨.string .empty, ?_,by simp only[V];simp_all⟩
   rw[run_convert_bytes_string c.w s d e _ _ _ n m p];simp[Conv.bytesToString]
  ·rename_i sz rows ex m;split at h
   ·rename_i z;subst z;rw[qd]at h;obtain⟨l,h1,rfl⟩:=h;obtain⟨a,cap,vs,rfl,_,_,I,f⟩:=K;rcases I with I|⟨J,_,y⟩
    ·subst I;simp only[df]at h1;refine⟨.string .empty, ?_,by simp only[V];simp_all⟩
     rw[run_convert_bytes_string c.w s d e _ _ _ n m p];have hc:(loadCells a ([]:List Int).length).run P c.w= .ok ((([]:List Int).map (Value.int .u8)).toArray) c.w:=run_loadCells_list (P:=P) c.w a (([]:List Int).map (Value.int .u8)) fun j v A=>by simp at A
     exact run_bytesToString c.w _ _ _ [] hc
    ·obtain⟨B,o,Q⟩:=a;subst J;exact g n p m h1 rfl y (kM (Ext.of_pure c) _ _ _ f)
   ·cases h
  ·rename_i sz b off len cap ex m;split at h
   ·rename_i z;split at h
    ·rename_i cs G;split at h
     ·rw[qd]at h;obtain⟨l,h1,rfl⟩:=h;obtain⟨B,base,k,o,M,rfl,N,q,R,_,_⟩:=K;obtain⟨U,base',g1,_,_,_,_,vs,y,f⟩:=O.blk b _ G;rw[M]at g1;obtain⟨rfl,rfl⟩:=g1;have C:=fK (sz:=1) len (di off f) (by grind)
      by_cases D:0<k
      ·have L:=N D;subst L;exact g n p m h1 (cY _ _ _) (gz (len*1) (dF off y)) C
      ·have E:len=0:=by omega
       subst E;simp only[cq,df,qa]at h1;subst h1;refine g (rows:=[]) (vs:=[]) n p m rfl rfl (fun j v A=>by simp at A) (by simp[Vss])
     ·cases h
    ·cases h
   ·cases h
  ·cases h
 ·cases h
variable {got:Array Method}{want:Array (String×TypeId)}
theorem Gu:oT want got=false→lacking want got=[]:=by
 intro h;unfold oT at h;unfold lacking;rw[List.any_eq_false]at h;simp_all
theorem Cw:oT want got=true→lacking want got≠[]:=by
 intro h;unfold oT at h;unfold lacking;rw[List.any_eq_true]at h;simp_all
theorem px{xT:TypeId}{ok:Bool}(h:eq P x t ok=some r)(s:V c x v)(w:World):
 ∃u,(Instr.typeAssert v xT t ok).run P w= .ok u w∧V c r u:=by
 unfold eq at h;split at h
 ·subst s;split at h
  ·rename_i hc;obtain⟨rfl,A⟩:=hc;obtain⟨d,b⟩:=Option.isSome_iff_exists.1 A;rw[qd]at h;obtain⟨z,k,rfl⟩:=h;obtain⟨u,h1,y⟩:=cM (P:=P) (c:=c) k w;refine⟨.tuple #[u,.bool false], ?_,by simp only[V,Vs];grind⟩
   cases d<;>simp[Instr.typeAssert,run_underlying b,h1]
  ·cases h
 ·rename_i n a;simp only[V]at s;obtain⟨u,rfl,hu⟩:=s;split at h
  ·rename_i want b;split at h
   ·rename_i i o;split at h
    ·rename_i hl;split at h
     ·rename_i g;subst g;rw[qd]at h;obtain⟨z,k,rfl⟩:=h;obtain⟨q,h1,y⟩:=cM (P:=P) (c:=c) k w;obtain⟨m,l⟩:=Go.missingMethod_some (Cw hl);refine⟨.tuple #[q,.bool false], ?_,by simp only[V,Vs];grind⟩
      simp[Instr.typeAssert,run_underlying b,run_typeInfo o,l,h1]
     ·cases h
    ·rename_i hl;simp at h;subst h;have l:=Go.missingMethod_none (Gu (by simpa using hl))
     cases ok
     ·refine⟨.iface n u, ?_,by show V c (.iface n a) _;simp only[V];grind⟩
      simp[Instr.typeAssert,run_underlying b,run_typeInfo o,l]
     ·refine⟨.tuple #[.iface n u,.bool true], ?_,by show V c (.tup [.iface n a,.bool true]) _;simp only[V,Vs];grind⟩
      simp[Instr.typeAssert,run_underlying b,run_typeInfo o,l]
   ·cases h
  ·rename_i d p b;have f:∀ms,d≠ .interface ms:=fun ms e=>p ms e
   split at h
   ·rename_i j;subst j;simp at h;subst h;cases ok
    ·exact⟨u,by cases d<;>first|exact absurd rfl (f _)|simp[Instr.typeAssert,run_underlying b],hu⟩
    ·refine⟨.tuple #[u,.bool true], ?_,by show V c (.tup [a,.bool true]) _;simp only[V,Vs];grind⟩
     cases d<;>first|exact absurd rfl (f _)|simp[Instr.typeAssert,run_underlying b]
   ·rename_i j;split at h
    ·rename_i g;subst g;rw[qd]at h;obtain⟨z,k,rfl⟩:=h;obtain⟨q,h1,y⟩:=cM (P:=P) (c:=c) k w;refine⟨.tuple #[q,.bool false], ?_,by simp only[V,Vs];grind⟩
     cases d<;>first|exact absurd rfl (f _)|simp[Instr.typeAssert,run_underlying b,j,h1]
    ·cases h
  ·cases h
 ·cases h
theorem qQ(A:Rel c H)(o:Oper)(b:xk S c ρ a o.op.operands)(h:bR S ρ H o.op=some r):
 ∃u,(execOp a.eval o).run S.P c.w= .ok (.value u) c.w∧V c r u:=by
 obtain⟨dst,op,type,M,E,guard⟩:=o;simp only at h b;unfold bR at h;split at h
 ·simp at h;subst h;exact⟨_,rfl,b _ (by simp[Op.operands])⟩
 ·simp at h;subst h;exact⟨_,rfl,b _ (by simp[Op.operands])⟩
 ·rename_i C x y;have hc:=b C (by simp[Op.operands])
  split at h
  ·rename_i e;simp at h;subst h
   rw[e]at hc;simp only[V]at hc;exact⟨a.eval x,by simp[execOp,hc,asBool],b x (by simp[Op.operands])⟩
  ·rename_i e;simp at h;subst h
   rw[e]at hc;simp only[V]at hc;exact⟨a.eval y,by simp[execOp,hc,asBool],b y (by simp[Op.operands])⟩
  ·cases h
 ·rename_i t l;obtain⟨u,h1,g⟩:=yP (parts':=l.map fun p=>(p.1,a.eval p.2)) h (by simpa using zV (c:=c) (S:=S) (ρ:=ρ) (a:=a) l.toList (fun p Q=>b p.2 (by simp[Op.operands];grind))) c.w
  exact⟨u,by simp only[execOp,Sem.run_bind];rw[h1];rfl,g⟩
 ·rename_i t x;obtain⟨u,h1,g⟩:=B5 A h (b x (by simp[Op.operands]))
  exact⟨u,by simp[execOp,h1],g⟩
 ·rename_i x;obtain⟨h1,g⟩:=sN h (b x (by simp[Op.operands]))
  refine⟨a.eval x, ?_,h1⟩;rcases g with⟨p,e⟩|⟨f,p,q,e⟩<;>simp[execOp,e]
 ·rename_i op t x y N;obtain⟨u,h1,g⟩:=Ei h (b x (by simp[Op.operands])) (b y (by simp[Op.operands]))
  exact⟨u,by simp only[execOp];rw[Sem.run_bind,h1];rfl,g⟩
 ·rename_i op t x;obtain⟨u,h1,g⟩:=JY (P:=S.P) h (b x (by simp[Op.operands])) c.w
  exact⟨u,by simp[execOp,h1],g⟩
 ·rename_i s d x;unfold ee at h;split at h
  ·rename_i v I;simp at h;subst h;obtain⟨u,h1,g⟩:=Cg I (b x (by simp[Op.operands])) c.w
   exact⟨u,by simp[execOp,h1],g⟩
  ·obtain⟨u,h1,g⟩:=zB A h (b x (by simp[Op.operands]))
   exact⟨u,by simp[execOp,h1],g⟩
 ·rename_i t x;split at h
  ·cases h
  ·rename_i D;simp at h;subst h
   refine⟨.iface t (a.eval x), ?_,by exact⟨_,rfl,b x (by simp[Op.operands])⟩⟩
   have:S.P.concrete t=true:=by
    unfold uq at D;unfold Program.concrete;grind
   simp[execOp,run_makeInterface c.w t _ this]
 ·rename_i f first j;simp at h;subst h
  refine⟨.func f (first.map a.eval) (j.map a.eval),rfl, ?_⟩;exact⟨first.toList.map a.eval,j.toList.map a.eval,by congr 1<;>(grind),fR _ (fun x n=>b x (by simp[Op.operands];grind)),fR _ (fun x n=>b x (by simp[Op.operands];grind))⟩
 ·rename_i t x lo J mx;obtain⟨u,h1,g⟩:=zP A h (b x (by simp[Op.operands])) (sD lo fun y z=>b y (by cases z;simp[Op.operands])) (sD J fun y z=>b y (by cases z;simp[Op.operands])) (sD mx fun y z=>b y (by cases z;simp[Op.operands])) c.w
  exact⟨u,by simp[execOp,h1],g⟩
 ·rename_i t x f;obtain⟨u,h1,g⟩:=rY h (b x (by simp[Op.operands])) c.w
  exact⟨u,by simp[execOp,h1],g⟩
 ·rename_i t x f;obtain⟨u,h1,g⟩:=yk h (b x (by simp[Op.operands])) c.w
  exact⟨u,by simp[execOp,h1],g⟩
 ·rename_i t x i;obtain⟨u,h1,g⟩:=rZ h (b x (by simp[Op.operands])) (b i (by simp[Op.operands])) c.w
  exact⟨u,by simp[execOp,h1],g⟩
 ·rename_i t x i;obtain⟨u,h1,g⟩:=yu h (b x (by simp[Op.operands])) (b i (by simp[Op.operands])) c.w
  exact⟨u,by simp[execOp,h1],g⟩
 ·rename_i t m x ok;obtain⟨u,h1,g⟩:=vX A h (b m (by simp[Op.operands])) (b x (by simp[Op.operands]))
  exact⟨u,by simp[execOp,h1],g⟩
 ·rename_i x i;split at h
  ·rename_i vs e;have n:=b x (by simp[Op.operands])
   rw[e]at n;obtain⟨O,e2,G⟩:=n;obtain⟨u,h1,g⟩:=jZ G h;exact⟨u,by simp[execOp,e2,Instr.extract,h1],g⟩
  ·cases h
 ·rename_i args B;split at h
  ·rename_i t x K n;obtain⟨u,h1,g⟩:=Gi A h (b x (by simp[Op.operands,Call.operands];grind)) B type K
   refine⟨u, ?_,g⟩;have:(Builtin.len_ B type (args.map a.eval)).run S.P c.w= .ok u c.w:=by
    rw[← h1];simp[Builtin.len_,n]
   simp[execOp,resolve,invoke,builtin,this]
  ·cases h
 ·rename_i args B;split at h
  ·rename_i k p L q e;simp at h;subst h
   have hl:=fR (c:=c) (S:=S) (ρ:=ρ) (a:=a) args.toList (fun x n=>b x (by simp[Op.operands,Call.operands];grind))
   rw[e]at hl;obtain⟨_,_,e1,rfl,_,_,rfl,rfl,rfl⟩:=hl;refine⟨.int k (if q<p then q else p), ?_,by simp only[V]⟩
   simp[execOp,resolve,invoke,builtin,Builtin.min_,e1,Builtin.min2]
  ·cases h
 ·rename_i args B;split at h
  ·rename_i k p L q e;simp at h;subst h
   have hl:=fR (c:=c) (S:=S) (ρ:=ρ) (a:=a) args.toList (fun x n=>b x (by simp[Op.operands,Call.operands];grind))
   rw[e]at hl;obtain⟨_,_,e1,rfl,_,_,rfl,rfl,rfl⟩:=hl;refine⟨.int k (if p<q then q else p), ?_,by simp only[V]⟩
   simp[execOp,resolve,invoke,builtin,Builtin.max_,e1,Builtin.max2]
  ·cases h
 ·rename_i x xT t ok;obtain⟨u,h1,g⟩:=px (xT:=xT) h (b x (by simp[Op.operands])) c.w
  exact⟨u,by simp[execOp,h1],g⟩
 ·cases h
theorem wF{S:bh}{c:Cx}{ρ:List bc}{a:Act}(o:Oper)(d:xk S c ρ a o.op.operands){f:Operand}{args:Array Operand}{q:Array TypeId}(k:o.op= .call { callee:=.value f,args:=args,argTypes:=q })
 {g:FuncId} {first b:List bc} (e1:bj S ρ f= .fn (.func g) first b) {r:bc} (h:S.ext g (first++args.toList.map (bj S ρ)++b)=some r):
 ∃u,(execOp a.eval o).run S.P c.w= .ok (.value u) c.w∧V c r u:=by
 have j:=d f (by simp[k,Op.operands,Call.operands])
 rw[e1]at j;obtain⟨vs,s,e2,h1,l⟩:=j;have hl:=fR (c:=c) (S:=S) (ρ:=ρ) (a:=a) args.toList (fun x y=>d x (by simp[Op.operands,Call.operands];grind))
 obtain⟨u,m,n⟩:=S.extOk _ _ _ h c _ (cm (cm h1 hl) l);refine⟨u, ?_,n⟩;rw[← m];obtain⟨dst,op,type,p,e,guard⟩:=o;subst k;simp only[execOp,Sem.run_bind,resolve,e2,Deferred.ofValue,Sem.run_pure,Result.andThen_ok,invoke];congr 2;grind
theorem zo{S:bh}{c:Cx}{ρ:List bc}{a:Act}(o:Oper)(f:xk S c ρ a o.op.operands){d:Operand}{b:String}{args:Array Operand}{z:Array TypeId}(k:o.op= .call { callee:=.invoke d b,args:=args,argTypes:=z })
 {t:TypeId} {m:bc} (e1:bj S ρ d= .iface t m) {g:FuncId} {v1:bc} (A:S.methV t b m=some (g,v1)) {r:bc} (h:S.ext g (v1::args.toList.map (bj S ρ))=some r):
 ∃u,(execOp a.eval o).run S.P c.w= .ok (.value u) c.w∧V c r u:=by
 have l:=f d (by simp[k,Op.operands,Call.operands])
 rw[e1]at l;obtain⟨u,e2,hu⟩:=l;have hl:=fR (c:=c) (S:=S) (ρ:=ρ) (a:=a) args.toList (fun x C=>f x (by simp[Op.operands,Call.operands];grind))
 obtain⟨n,e,p⟩:=S.methVOk _ _ _ _ _ A c u hu;obtain⟨q,B,s⟩:=S.extOk _ _ _ h c (n::args.toList.map a.eval) (by simp only[Vs];grind)
 refine⟨q, ?_,s⟩;have e3: #[Value.iface t u]++args.map a.eval=(Value.iface t u::args.toList.map a.eval).toArray:=by
  grind
 have e4:((Value.iface t u::args.toList.map a.eval).toArray.extract 1 (Value.iface t u::args.toList.map a.eval).toArray.size)=(args.toList.map a.eval).toArray:=by
  grind
 obtain⟨dst,op,type,y,j,guard⟩:=o;simp only at k;subst k;simp only[execOp,Sem.run_bind,resolve,e2,Sem.run_pure,invoke,e3];simp only[List.getElem?_toArray,List.getElem?_cons_zero,callMethod,Sem.run_bind,run_program,Result.andThen_ok,e];grind
end Go.Am
namespace Go.Am
open Go.RowKit
variable {P:Program}
theorem ku(z:Array Value)(c:0<z.size):∀n,((List.range (n*z.size)).map fun i=>z[i%z.size]!)=(List.replicate n z.toList).flatten
 |0=>by simp
 |n+1=>by
  have b:((List.range z.size).map fun i=>z[i%z.size]!)=z.toList:=by
   apply List.ext_getElem?;intro i
   by_cases a:i<z.size
   ·simp[a,Nat.mod_eq_of_lt a]
   ·simp[a]
  rw[Nat.succ_mul,Nat.add_comm,List.range_add,List.map_append,b,List.map_map,List.replicate_succ,List.flatten_cons,← ku z c n];simp_all
theorem hV(f:Nat→Value):(Array.range 0).map f= #[]:=by
 grind
theorem nd{c:Cx}{b:Nat}{a:Array Value}{t:TypeId}{cs:List bc}(f:Ext c (c.put b c.w.heap.size 0 (c.w.alloc (.cells a t))))(e:Vs c cs a.toList):
 fm (c.put b c.w.heap.size 0 (c.w.alloc (.cells a t))) c.w.heap.size 0 (.cells cs)∧Room (c.w.alloc (.cells a t)) c.w.heap.size a.size:=by
 have d:(c.w.alloc (.cells a t)).shape? c.w.heap.size=some (t,a.size):=by
  have:(c.w.alloc (.cells a t)).heap[c.w.heap.size]?=some (.cells a t):=by
   show(c.w.heap.push _)[c.w.heap.size]?=_;simp
  simp only[World.shape?];rw[this]
 have hl:=bH e;simp at hl;refine⟨⟨fun off _=>World.frozen?_alloc_new _ _ _ _,⟨t,a.size,d,by omega⟩,a.toList,fun j v g=>?_,cg f _ _ e⟩,⟨t,a.size,d,qe _⟩⟩
 simp only[Cx.put,World.cell?_alloc_new]
 grind
structure Py(S:bh)(c:Cx)(a:Act)(o:Oper)(blk:cb)(mk:Nat→bc):Prop where
 run:∃obj u,(execOp a.eval o).run S.P c.w= .ok (.value u) (c.w.alloc obj)∧
  ∀b,Ext c (c.put b c.w.heap.size 0 (c.w.alloc obj))→fm (c.put b c.w.heap.size 0 (c.w.alloc obj)) c.w.heap.size 0 blk∧V (c.put b c.w.heap.size 0 (c.w.alloc obj)) (mk b) u
theorem nq(c:Cx)(b B base:Nat)(w:World):(c.put b B base w).ι b=some (B,base):=by simp[Cx.put]
theorem xl{S:bh}{c:Cx}{ρ:List bc}{a:Act}(o:Oper)(q:xk S c ρ a o.op.operands){blk:cb}{mk:Nat→bc}(h:lE S ρ o.op=some (blk,mk)):
 Py S c a o blk mk:=by
 obtain⟨dst,op,type,af,aa,guard⟩:=o;simp only at h q;unfold lE at h;split at h
 ·rename_i t;unfold vt at h;split at h
  ·rename_i z J;split at h
   ·rename_i f;obtain⟨rfl,rfl⟩:=h;obtain⟨v,h1,L⟩:=cM (c:=c) J c.w;refine⟨.cells v.cells t,.pointer (some ⟨c.w.heap.size,0,none⟩), ?_,fun b B=>?_⟩
    ·simp[execOp,Instr.alloc,h1,newVar,newRow]
    ·exact⟨(nd B (fW L f)).1,by exact⟨_,0,nq _ _ _ _ _,rfl⟩⟩
   ·cases h
  ·cases h
 ·rename_i t x;unfold IL at h;split at h
  ·rename_i f;obtain⟨rfl,rfl⟩:=h;refine⟨.cells (a.eval x).cells t,.pointer (some ⟨c.w.heap.size,0,none⟩), ?_,fun b B=>?_⟩
   ·simp[execOp,Instr.box,newVar,newRow]
   ·exact⟨(nd B (fW (q x (by simp[Op.operands])) f)).1,by exact⟨_,0,nq _ _ _ _ _,rfl⟩⟩
  ·cases h
 ·rename_i t len d;unfold iq at h;split at h
  ·rename_i e X;split at h
   ·cases h
   ·rename_i z J;split at h
    ·rename_i hc;obtain⟨M,ab,f,ac⟩:=hc;rw[qd]at h;obtain⟨cs,hf,h⟩:=h;obtain⟨rfl,rfl⟩:=h;obtain⟨v,h1,L⟩:=cM (c:=c) J c.w;have u:=fW L f;have E:=bH u;simp at E;have g:(S.P.info? e).isSome=true:=by
      unfold eV at J;cases R:S.P.info? e with
      |none=>grind
      |some i=>rfl
     have C:∀n,Vs c ((List.replicate n z.cells).flatten) ((List.replicate n v.cells.toList).flatten):=by
      intro n;induction n with
      |zero=>simp[Vs]
      |succ n U=>exact cm u U
     have G:v.cells.size=bl S.P e:=by omega
     have D:((Array.range (len*bl S.P e)).map (v.cells[· %v.cells.size]!)).toList=(List.replicate len v.cells.toList).flatten:=by
      rw[← ku v.cells (by omega) len,G]
      simp
     obtain⟨A,h3,h4⟩:=lA (c:=c) (place':=fun i=>some (i*bl S.P e,bl S.P e)) (fun _=>rfl) (vs:=(Array.range (len*bl S.P e)).map (v.cells[· %v.cells.size]!)) hf (by grind) (zV (c:=c) (S:=S) (ρ:=ρ) (a:=a) d.toList (fun p hp=>q p.2 (by simp[Op.operands];grind)))
     have H:A.size=len*bl S.P e:=by
      have:=bH h4;simp at this;rw[← this];have fl:∀{d:List (Nat×bc)} {cs cs':List bc},jQ (fun i=>some (i*bl S.P e,bl S.P e)) cs d=some cs'→cs'.length=cs.length:=by
       intro d;induction d with
       |nil=>intro cs cs' h;simp only[jQ,qa]at h;rw[h]
       |cons p d U=>
        intro cs cs' h;simp only[jQ]at h;grind
      rw[fl hf];simp[M]
     refine⟨.cells A e,.slice (some ⟨c.w.heap.size,0,none⟩) len len, ?_,fun b B=>?_⟩
     ·have K:¬(len*bl S.P e>2^24):=by
       grind
      simp only[execOp,Sem.run_bind];have:(Instr.buildSlice t len (d.map fun p=>(p.1,a.eval p.2))).run S.P c.w= .ok (.slice (some ⟨c.w.heap.size,0,none⟩) len len) (c.w.alloc (.cells A e)):=by
       unfold Instr.buildSlice;simp only[Sem.run_bind,run_underlying X,Result.andThen_ok,run_sizeOf g];rw[if_neg K]
       by_cases y:len*bl S.P e=0
       ·have W:len=0:=by
         rcases Nat.mul_eq_zero.1 y with h|h
         all_goals grind
        subst W;simp only[Nat.zero_mul]at h3 ⊢;have I:Instr.fill (fun i=>some (i*bl S.P e,bl S.P e)) #[] ((d.map fun p=>(p.1,a.eval p.2)).toList)=some A:=by
         rw[hV]at h3
         simp_all
        simp only[Sem.run_bind,Result.andThen_ok,hV];rw[I];simp[newRow]
       ·have I:Instr.fill (fun i=>some (i*bl S.P e,bl S.P e)) ((Array.range (len*bl S.P e)).map (v.cells[· %v.cells.size]!)) ((d.map fun p=>(p.1,a.eval p.2)).toList)=some A:=by
         simp_all
        rw[if_neg y];simp only[Sem.run_bind,h1,Result.andThen_ok,Sem.run_pure];rw[I];simp[newRow]
      rw[this];rfl
     ·obtain⟨h5,h6⟩:=nd (t:=e) B h4;refine⟨h5, ?_⟩;refine⟨_,0,len,0,nq _ _ _ _ _,rfl,fun _=>rfl,qe _,qe _,(fun h=>by cases h), ?_⟩
      simpa[Cx.put,H]using h6
    ·cases h
  ·cases h
 ·rename_i t l cp;unfold ib at h;split at h
  ·rename_i e ln cn X hl Y;split at h
   ·rename_i z J;split at h
    ·rename_i Z;obtain⟨ag,Q,ad,M,ab,f⟩:=Z;obtain⟨rfl,rfl⟩:=h;obtain⟨k1,N,e1,ah,rfl⟩:=kp hl (q l (by simp[Op.operands]))
     obtain⟨k2,k,e2,aj,rfl⟩:=kp Y (q cp (by simp[Op.operands]))
     obtain⟨v,h1,L⟩:=cM (c:=c) J c.w;have u:=fW L f;have E:=bH u;simp at E;have G:v.cells.size=bl S.P e:=by omega
     have g:(S.P.info? e).isSome=true:=by
      unfold eV at J;cases R:S.P.info? e with
      |none=>grind
      |some i=>rfl
     obtain⟨i,R⟩:=Option.isSome_iff_exists.1 g;have ae:S.P.bytesOf e=i.bytes:=by simp[Program.bytesOf,R]
     have D:((Array.range (k.toNat*bl S.P e)).map (v.cells[· %v.cells.size]!)).toList=(List.replicate k.toNat v.cells.toList).flatten:=by
      rw[← ku v.cells (by omega) k.toNat,G]
      simp
     have C:∀n,Vs c ((List.replicate n z.cells).flatten) ((List.replicate n v.cells.toList).flatten):=by
      intro n;induction n with
      |zero=>simp[Vs]
      |succ n U=>exact cm u U
     have w1:IntKind.i64.wrap N=N:=Go.IntWalk.i64_in N (by omega)
     have w2:IntKind.i64.wrap k=k:=Go.IntWalk.i64_in k (by omega)
     refine⟨.cells ((Array.range (k.toNat*bl S.P e)).map (v.cells[· %v.cells.size]!)) e,.slice (some ⟨c.w.heap.size,0,none⟩) N.toNat k.toNat, ?_,fun b B=>?_⟩
     ·have run:(Instr.makeSlice t (a.eval l) (a.eval cp)).run S.P c.w= .ok (.slice (some ⟨c.w.heap.size,0,none⟩) N.toNat k.toNat) (c.w.alloc (.cells ((Array.range (k.toNat*bl S.P e)).map (v.cells[· %v.cells.size]!)) e)):=by
       rw[e1,e2];unfold Instr.makeSlice;simp only[Sem.run_bind,run_underlying X,Result.andThen_ok,asInt,asIntOf,Sem.run_pure,run_typeInfo R,w1,w2];rw[if_neg (by grind)]
       simp only[Sem.run_bind,Result.andThen_ok,run_sizeOf g]
       by_cases y:k.toNat*bl S.P e=0
       ·simp only[y,Sem.run_bind,Result.andThen_ok,hV];simp[newRow]
       ·rw[if_neg y];simp[h1,newRow]
      simp only[execOp,Sem.run_bind,run];rfl
     ·obtain⟨h5,h6⟩:=nd (t:=e) B (by rw[D];exact C k.toNat)
      refine⟨h5, ?_⟩;refine⟨_,0,k.toNat,0,nq _ _ _ _ _,rfl,fun _=>rfl,by omega,qe _,fun _=>rfl, ?_⟩
      simpa[Cx.put]using h6
    ·cases h
   ·cases h
  ·cases h
 ·obtain⟨rfl,rfl⟩:=h;refine⟨.map #[] 0,.map (some c.w.heap.size), ?_,fun b B=>⟨⟨rfl,#[],0,by show(c.w.heap.push _)[c.w.heap.size]?=_;simp,by simp[Es],rfl,fun j m h=>by simp at h⟩,by exact⟨_,nq _ _ _ _ _,rfl⟩⟩⟩
  simp[execOp,Instr.makeMap]
 ·rename_i t x;unfold vC at h;split at h
  ·rename_i s hu hx;obtain⟨rfl,rfl⟩:=h;have O:=q x (by simp[Op.operands])
   rw[hx]at O;obtain⟨tt,O,hs⟩:=O;refine⟨.stringIter tt 0,.pointer (some ⟨c.w.heap.size,0,none⟩), ?_,fun b B=>⟨⟨rfl,tt,by show(c.w.heap.push _)[c.w.heap.size]?=_;simp,hs⟩,by exact⟨_,0,nq _ _ _ _ _,rfl⟩⟩⟩
   simp[execOp,Instr.range,O,run_underlying hu,newObj];rfl
  ·cases h
 ·cases h
end Go.Am

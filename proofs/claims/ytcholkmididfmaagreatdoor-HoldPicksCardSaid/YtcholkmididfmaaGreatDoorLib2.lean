import Derived.Laws.IdiomStrings
import Derived.Orders
import Derived.ProofKit
import Derived.OpenShut
import Derived.Test.YtcholkmididfmaaGreatDoorLib1
set_option linter.unusedVariables false
set_option linter.unusedSimpArgs false
namespace Go.Am
open Go.RowKit
variable {P:Program}
structure Wrote(w w':World)(B o:Nat)(vs:List Value):Prop where
 size:w'.heap.size=w.heap.size
 keep:∀X,X≠B→w'.heap[X]?=w.heap[X]?
 shape:∀X,w'.shape? X=w.shape? X
 frozen:∀a,w'.frozen? a=w.frozen? a
 os:w'.os=w.os
 tape:w'.tape=w.tape
 output:w'.output=w.output
 new:At w' B o vs
 old:∀off,off<o∨o+vs.length≤off→w'.cell? ⟨B,off,none⟩=w.cell? ⟨B,off,none⟩
theorem Wrote.nil(w:World)(B o:Nat):Wrote w w B o []:=
 ⟨rfl,fun _ _=>rfl,fun _=>rfl,fun _=>rfl,rfl,rfl,rfl,(fun j v a=>by simp at a),fun _ _=>rfl⟩
theorem iT(w:World)(a:Addr)(v:Value)(X:Nat):(w.setCell a v).shape? X=w.shape? X:=by
 simp only[World.shape?,World.setCell]
 grind
variable {B n off:Nat}{w:World}
theorem uo(h:Room w B n)(g:off<n):∃u,w.cell? ⟨B,off,none⟩=some u:=by
 obtain⟨t,m,a,f⟩:=h;unfold World.shape? at a;split at a
 ·rename_i cs e d b;obtain⟨_,rfl⟩:=a;exact⟨cs[off],by simp[World.cell?,b]⟩
 ·cases a
theorem mr(B:Nat):∀(vs:List Value) (o i:Nat) (w:World),Room w B (o+i+vs.length)→(∀off,Room w B (off+1)→w.frozen? ⟨B,off,none⟩=false)→(∀v∈vs,v.oneCell'=true)→
 ∃w',(storeCells ⟨B,o,none⟩ vs i).run P w= .ok () w'∧Wrote w w' B (o+i) vs
 | [],o,i,w,_,_,_=>⟨w,rfl,Wrote.nil _ _ _⟩
 |v::vs,o,i,w,k,s,e=>by
  simp at k;obtain⟨u,hu⟩:=uo k (off:=o+i) (by omega)
  have l:=s (o+i) (k.mono (by omega))
  have d:(store ⟨B,o+i,none⟩ v).run P w= .ok () (w.setCell ⟨B,o+i,none⟩ v):=by
   rw[run_store P w _ v .plain (e v (List.mem_cons_self ..)),hu];simp[l]
  have f:∀n,Room w B n↔Room (w.setCell ⟨B,o+i,none⟩ v) B n:=fun n=>by simp only[Room,iT]
  obtain⟨w',h1,b⟩:=mr B vs o (i+1) (w.setCell ⟨B,o+i,none⟩ v) ((f _).1 (k.mono (by omega)))
   (fun off h=>by simp_all) (fun x q=>e x (List.mem_cons_of_mem _ q))
  refine⟨w', ?_, ?_⟩
  ·simp only[storeCells,Sem.run_bind,add_plain,d];exact h1
  ·refine⟨by rw[b.size];simp,fun X p=>by rw[b.keep X p];exact Below.heap_setCell _ _ _ _ p,fun X=>by rw[b.shape,iT],fun a=>by rw[b.frozen];simp,b.os,b.tape,b.output, ?_, ?_⟩
   ·intro j x m;cases j with
    |zero=>
     simp at m;subst m;rw[Nat.add_zero,b.old (o+i) (.inl (by omega))]
     exact World.cell?_setCell_same _ _ _ hu
    |succ j=>
     have:=b.new j x m;grind
   ·intro off g;simp at g;rw[b.old off (by omega)]
    exact World.cell?_setCell_other _ _ _ _ (by grind)
variable {base:Nat}{vs:List Value}{w':World}
theorem BJ{new:List Value}(d:Wrote w w' B (base+off) new)(f:At w B base vs)(g:off+new.length≤vs.length):
 At w' B base (vs.take off++new++vs.drop (off+new.length)):=by
 intro j v a;rw[List.append_assoc]at a;rcases qk j off with h1|h1
 ·rw[qf (by simp;omega),List.getElem?_take,if_pos h1]at a
  rw[d.old (base+j) (.inl (by omega))]
  exact f j v a
 ·rw[qj (by simp;omega)]at a
  have e:(vs.take off).length=off:=by simp;omega
  rw[e]at a;rcases qk (j-off) new.length with b|b
  ·rw[qf b]at a;have:=d.new (j-off) v a;grind
  ·rw[qj b,List.getElem?_drop]at a;rw[show off+new.length+(j-off-new.length)=j by omega]at a
   rw[d.old (base+j) (.inr (by omega))]
   exact f j v a
theorem Wrote.room{o:Nat}(h:Wrote w w' B o vs){X:Nat}:Room w' X n↔Room w X n:=by simp only[Room,h.shape]
variable {H:bd}{c:Cx}
theorem Rel.write(l:Rel c H){b:Nat}{cs new:List bc}{f:List Value}(m:H[b]?=some (some (.cells cs)))(p:c.ι b=some (B,base))
 (a:Wrote c.w w' B (base+off) f) (q:Vs c new f) (z:off+new.length≤cs.length):
 Rel { c with w:=w' } (H.set b (some (.cells (splice cs off new))))∧Tr c H { c with w:=w' } (H.set b (some (.cells (splice cs off new)))):=by
 obtain⟨A,g,k,_,_,v⟩:=l.blk b _ m;rw[p]at k;obtain⟨rfl,rfl⟩:=k;obtain⟨x,d,vs,y,e⟩:=v;have hl:=bH e;have s:=bH q;refine l.update m p w' a.size a.keep (fun X t n h=>by rw[a.shape];exact h) a.os a.tape a.output fun j=>⟨?_, ?_,vs.take off++f++vs.drop (off+f.length), ?_, ?_⟩
 ·intro o u;rw[a.frozen];exact x o (a.room.1 u)
 ·refine a.room.2 (d.mono ?_);simp[splice];omega
 ·exact BJ a y (by omega)
 ·unfold splice;rw[s];exact cm (cm (ld _ (cg j _ _ e)) (cg j _ _ q)) (di _ (cg j _ _ e))
def Does(S:bh)(lo:Nat)(c:Cx)(H:bd)(a:Act)(o:Oper)(r:bc)(H':bd):Prop:=
 ∃c' u,Rel c' H'∧Tr c H c' H'∧Low lo c H c' H'∧V c' r u∧
  ((execOp a.eval o).run S.P c.w= .ok (.value u) c'.w∨((execOp a.eval o).run S.P c.w= .ok .skip c'.w∧u=undef))
theorem yT{S:bh}{ρ:List bc}{a:Act}(A:Rel c H)(o:Oper)(l:xk S c ρ a o.op.operands){lo:Nat}{t:TypeId}{x v:Operand}{H':bd}
 (N:o.op= .store t x v) (h:fw S.P lo t H (bj S ρ x) (bj S ρ v)=some H'):Does S lo c H a o bz H':=by
 obtain⟨dst,op,type,E,q,guard⟩:=o;subst N;unfold fw at h;split at h
 ·rename_i b off ex;split at h
  ·rename_i cs p;split at h
   ·rename_i hc;obtain⟨s,G,g,d,I⟩:=hc;simp at h;subst h;have m:=l x (by simp[Op.operands])
    rw[ex]at m;obtain⟨B,base,u,e⟩:=m;obtain⟨O,z,C,_,_,J,j,_⟩:=A.blk b _ p;rw[u]at C;obtain⟨rfl,rfl⟩:=C;have f:=fW (l v (by simp[Op.operands])) d
    have hl:=bH f;obtain⟨w',h1,D⟩:=mr (P:=S.P) B (a.eval v).cells.toList (base+off) 0 c.w (j.mono (by omega)) J (l5 f d)
    obtain⟨K,L⟩:=A.write p u D f (by omega)
    refine⟨_,undef,K,L,A.set_low s p u D.keep (fun x y m M=>by grind) (fun _ _ h=>h) (by simp),by exact⟨[],rfl,by simp[Vs]⟩,.inr ⟨?_,rfl⟩⟩
    have k:(a.eval v).cells.size=bl S.P t:=by
     grind
    simp[execOp,Instr.storeAt,Instr.sureAddr,e,storeVar,run_sizeOf g,k,h1]
   ·cases h
  ·cases h
 ·cases h
end Go.Am
namespace Go.Am
open Go.RowKit
variable {P:Program}
theorem mY{c:Cx}{sz:Nat}:∀{rows:List (List bc)} {vs:List Value},Vss c sz rows vs→Vs c rows.flatten vs
 | [],_,h=>by subst h;simp[Vs]
 |r::rows,_,h=>by
  obtain⟨d,f,rfl,_,h1,a⟩:=h;exact cm h1 (mY a)
variable {w:World}
theorem mI{B o:Nat}{vs:List Value}(h:At w B o vs):(loadCells ⟨B,o,none⟩ vs.length).run P w= .ok vs.toArray w:=
 run_loadCells_list w ⟨B,o,none⟩ vs fun j v a=>by rw[add_plain];exact h j v a
variable {H:bd}{c:Cx}
theorem nX(M:Rel c H){sz:Nat}{x:bc}{rows:List (List bc)}{v:Value}(h:ff H sz x=some rows)(m:V c x v):
 (∀w,(Builtin.lenOf v).run P w= .ok rows.length w)∧∃arr,(∀w,w.heap=c.w.heap→(Builtin.firstCells sz rows.length v).run P w= .ok arr w)∧Vs c rows.flatten arr.toList∧arr.size=rows.length*sz:=by
 unfold ff at h;split at h
 ·simp at h;subst h;subst m;exact⟨fun _=>rfl,#[],fun _ _=>by simp[Builtin.firstCells],by simp[Vs],by simp⟩
 ·split at h
  ·rename_i j;subst j;simp at h;subst h;obtain⟨a,cap,vs,rfl,_,_,z,d⟩:=m;have hl:=fI d;refine⟨fun _=>rfl,vs.toArray,fun w E=>?_,cg (Ext.of_pure c) _ _ (mY d),by simp[hl]⟩
   rcases z with z|⟨D,_,C⟩
   ·subst z;have p:vs=[]:=by simp_all
    subst p;simp[Builtin.firstCells,loadCells,loadCellsFrom]
   ·obtain⟨B,off,O⟩:=a;subst D;have:=mI (P:=P) (w:=w) (C.of_block (by rw[E]))
    rw[hl]at this;simp[Builtin.firstCells,this]
  ·cases h
 ·split at h
  ·rename_i j;simp at h;subst h;obtain⟨t,rfl,rfl⟩:=m;have hl:(t.data.toList.map fun b=>[bc.int .u8 b.toNat]).length=t.size:=by
    simp_all
   rw[hl];refine⟨fun _=>rfl,(t.extract 0 t.size).data.map (fun b=>.int .u8 b.toNat),fun _ _=>by simp[Builtin.firstCells], ?_, ?_⟩
   ·have e:(t.extract 0 t.size).data=t.data:=by simp
    simp;generalize t.data.toList=l;induction l with
    |nil=>simp[Vs]
    |cons b l N=>
     exact⟨_,_,rfl,by simp[V],N⟩
   simp_all
  ·cases h
 ·rename_i s b off len cap ex;split at h
  ·rename_i j;subst j;split at h
   ·rename_i cs J;split at h
    ·simp at h;subst h;obtain⟨B,base,k,o,K,rfl,L,h1,Q,_,_⟩:=m;obtain⟨R,A,G,_,_,_,_,vs,C,d⟩:=M.blk b _ J;rw[K]at G;obtain⟨rfl,rfl⟩:=G;have f:=fK (sz:=s) len (di off d) (by simp;omega)
     rw[cY];have g:=fI f;rw[cY]at g;refine⟨fun _=>rfl,((vs.drop off).take (len*s)).toArray,fun w E=>?_,mY f,by grind⟩
     by_cases I:0<k
     ·have q:=L I;subst q;have:=mI (P:=P) (w:=w) ((gz (len*s) (dF off C)).of_block (by rw[E]))
      rw[g]at this;simp[Builtin.firstCells,this]
     ·have y:len=0:=by omega
      subst y;simp[Builtin.firstCells,loadCells,loadCellsFrom]
    ·cases h
   ·cases h
  ·cases h
 ·cases h
theorem lK(sz:Nat):∀(n:Nat) (cs:List bc),n*sz≤cs.length→(cq sz n cs).flatten=cs.take (n*sz)
 |0,cs,_=>by simp[cq]
 |n+1,cs,h=>by
  have e:(n+1)*sz=sz+n*sz:=by grind
  simp only[cq,List.flatten_cons];rw[lK sz n (cs.drop sz) (by simp;omega),e,List.take_add]
theorem Rel.drew(a:Rel c H):Rel { c with w:=c.w.drew } H∧Tr c H { c with w:=c.w.drew } H:=
 a.step (fun _=>False) (fun _ h=>h.elim) (fun _ _ h=>h) rfl rfl (qe _) (fun _ _ _=>rfl) (fun _ _ _ h=>h) rfl rfl rfl
  (fun _ b blk d=>by obtain⟨B,base,h1,_⟩:=a.blk b blk d;grind) a.inj a.fresh
variable {base:Option Addr}{e:TypeId}{i:TypeInfo}{n:Nat}{new:Array Value}{sCap sLen:Nat}{t ty u:TypeId}{x:Value}
theorem nP{z:Value}(p:P.underlying t=some (.slice e))(hu:∃d,P.underlying u=some d∧∀k,d≠ .int k)(f:P.info? e=some i)(q:i.zero=some z){old:Array Value}(s:(Builtin.lenOf x).run P w= .ok n w)
 (hold:(Builtin.firstCells i.size sLen (.slice base sLen sCap)).run P w.drew= .ok old w.drew) (a:(Builtin.firstCells i.size n x).run P w.drew= .ok new w.drew)
 (h:sCap<sLen+n) (v:(sLen+n)*i.bytes≤140737488355328) (j:i.bytes≠0):
 ∃k,sLen+n≤k∧(Builtin.append_ #[t,u] ty #[.slice base sLen sCap,x]).run P w= .ok (.slice (some ⟨w.heap.size,0,none⟩) (sLen+n) k) (w.drew.alloc (.cells (old++new++Builtin.zeroCells z.cells (k-(sLen+n))) e)):=by
 obtain⟨d,o,g⟩:=hu;have m:(Question.appendCap (sLen+n) sCap e).forced=false:=rfl;refine⟨(Question.appendCap (sLen+n) sCap e).cut (w.tape w.drawn (.appendCap (sLen+n) sCap e)),Nat.le_add_right _ _, ?_⟩;have l:=growslice_fits h v;unfold Builtin.append_;simp only[List.getElem?_toArray,List.getElem?_cons_zero,List.getElem?_cons_succ,Sem.run_bind,run_underlying p,Result.andThen_ok,sizeOf,run_typeInfo f,Sem.run_pure,run_underlying o];cases d<;>first
  |(exact absurd rfl (g _))
  |(simp only[Sem.run_bind,s,Result.andThen_ok,Bool.false_eq_true,if_false]
    rw[if_neg (show ¬(sLen+n≤sCap)by omega)]
    simp only[Sem.run_bind,Result.andThen_ok,run_typeInfo f];rw[if_neg (by simp[j])]
    simp only[Sem.run_bind,Result.andThen_ok,run_typeInfo f];rw[if_neg (show ¬(Builtin.nextslicecap (sLen+n) sCap*i.bytes>2^48)by grind)]
    simp only[Sem.run_bind,run_choose,m,Bool.false_eq_true,if_false,Result.andThen_ok,run_askRoom,World.drew_eq,run_typeInfo f,hold,a,Bool.not_false,if_true,zeroValue,q,newRow,run_newObj,World.alloc_eq];rfl)
theorem ez(j:P.underlying t=some (.slice e))(hu:∃d,P.underlying u=some d∧∀k,d≠ .int k)(l:P.info? e=some i){w':World}(m:(Builtin.lenOf x).run P w= .ok n w)(g:(Builtin.firstCells i.size n x).run P w= .ok new w)
 (o:sLen+n≤sCap) (p:match base with|none=>w'=w|some a=>(storeCells (a.add (sLen*i.size)) new.toList).run P w= .ok () w'):
 (Builtin.append_ #[t,u] ty #[.slice base sLen sCap,x]).run P w= .ok (.slice base (sLen+n) sCap) w':=by
 obtain⟨d,h,f⟩:=hu;unfold Builtin.append_;simp only[List.getElem?_toArray,List.getElem?_cons_zero,List.getElem?_cons_succ,Sem.run_bind,run_underlying j,Result.andThen_ok,sizeOf,run_typeInfo l,Sem.run_pure,run_underlying h];cases d<;>first
  |(exact absurd rfl (f _))
  |(simp only[Sem.run_bind,m,Result.andThen_ok,Bool.false_eq_true,if_false]
    cases base with
    |none=>simp_all
    |some a=>simp_all)
theorem LZ(cs:List bc)(off:Nat):splice cs off []=cs:=by simp[splice]
theorem r5(z:Array Value)(n:Nat):(Builtin.zeroCells z n).size=n*z.size:=by simp[Builtin.zeroCells]
variable {arr:Array Value}{b:Nat}{cs:List bc}{rest:Array Value}
theorem lI(f:Ext c (c.put b c.w.heap.size 0 (c.w.alloc (.cells (arr++rest) t))))(d:Vs c cs arr.toList):
 fm (c.put b c.w.heap.size 0 (c.w.alloc (.cells (arr++rest) t))) c.w.heap.size 0 (.cells cs)∧Room (c.w.alloc (.cells (arr++rest) t)) c.w.heap.size (arr.size+rest.size):=by
 have a:(c.w.alloc (.cells (arr++rest) t)).shape? c.w.heap.size=some (t,(arr++rest).size):=by
  have:(c.w.alloc (.cells (arr++rest) t)).heap[c.w.heap.size]?=some (.cells (arr++rest) t):=by
   show(c.w.heap.push _)[c.w.heap.size]?=_;simp
  simp only[World.shape?];rw[this]
 have hl:=bH d;simp at hl;refine⟨⟨fun off _=>World.frozen?_alloc_new _ _ _ _,⟨t,_,a,by simp;omega⟩,arr.toList,fun j v g=>?_,cg f _ _ d⟩,⟨t,_,a,by simp⟩⟩
 simp only[Cx.put,World.cell?_alloc_new];grind
theorem lO(k:Ext c (c.put b c.w.heap.size 0 (c.w.alloc (.cells (arr++rest) t ((arr++rest).size,(arr++rest).size+1)))))(d:Vs c cs arr.toList):
 fm (c.put b c.w.heap.size 0 (c.w.alloc (.cells (arr++rest) t ((arr++rest).size,(arr++rest).size+1)))) c.w.heap.size 0 (.cells cs)∧Room (c.w.alloc (.cells (arr++rest) t ((arr++rest).size,(arr++rest).size+1))) c.w.heap.size (arr.size+rest.size):=by
 have f:(c.w.alloc (.cells (arr++rest) t ((arr++rest).size,(arr++rest).size+1))).heap[c.w.heap.size]?=some (.cells (arr++rest) t ((arr++rest).size,(arr++rest).size+1)):=by
  show(c.w.heap.push _)[c.w.heap.size]?=_;simp
 have a:(c.w.alloc (.cells (arr++rest) t ((arr++rest).size,(arr++rest).size+1))).shape? c.w.heap.size=some (t,(arr++rest).size):=by
  simp only[World.shape?];rw[f]
 have hl:=bH d;simp at hl;refine⟨⟨fun off h=>?_,⟨t,_,a,by simp;omega⟩,arr.toList,fun j v o=>?_,cg k _ _ d⟩,⟨t,_,a,by simp⟩⟩
 ·obtain⟨g,m,h1,l⟩:=h;have h1:(c.w.alloc (.cells (arr++rest) t ((arr++rest).size,(arr++rest).size+1))).shape? c.w.heap.size=some (g,m):=h1;rw[a]at h1;show World.frozen? (c.w.alloc (.cells (arr++rest) t ((arr++rest).size,(arr++rest).size+1))) ⟨c.w.heap.size,off,none⟩=false;unfold World.frozen?;grind
 ·show World.cell? (c.w.alloc (.cells (arr++rest) t ((arr++rest).size,(arr++rest).size+1))) ⟨c.w.heap.size,0+j,none⟩=some v;unfold World.cell?;grind
theorem vV{c:Cx}:∀l:List UInt8,Vs c (l.map fun b=>bc.int .u8 b.toNat) (l.map fun b=>Value.int .u8 b.toNat)
 | []=>by simp[Vs]
 |b::l=>by
  exact⟨_,_,rfl,by simp[V],vV l⟩
variable {H':bd}{lo:Nat}{r xa:bc}
theorem zj(A:Rel c H){s d:TypeId}(h:qW P s d H xa=some (r,H'))(J:V c xa x):
 ∃c' v,Rel c' H'∧Tr c H c' H'∧Low lo c H c' H'∧V c' r v∧(convert s d x).run P c.w= .ok v c'.w:=by
 unfold qW at h;split at h
 ·rename_i e t C D;split at h
  ·rename_i E;obtain⟨rfl,rfl⟩:=h;obtain⟨f,rfl,z⟩:=J;have a:=run_bytes_of_string (P:=P) c.w s d e f C D E;have B:f.size≤grownCap c.w f.size 0 e:=by exact Nat.le_add_right _ _
   generalize grownCap c.w f.size 0 e=k at a B;unfold bytesRow at a;have hl:f.size=t.length:=by rw[← z];simp
   have j:=A.drew.1;have m:=A.drew.2;have o:Vs { c with w:=c.w.drew } (t.map fun b=>bc.int .u8 b.toNat) (f.data.map fun b=>Value.int .u8 b.toNat).toList:=by
    rw[Array.toList_map,z];exact vV t
   have p:(f.data.map fun b=>Value.int .u8 b.toNat).size=f.size:=by simp
   have q:(Array.replicate (k-f.size) (Value.int .u8 0)).size=k-f.size:=by simp
   generalize (f.data.map fun b=>Value.int .u8 b.toNat)=arr at a o p
   generalize Array.replicate (k-f.size) (Value.int .u8 0)=rest at a q;have g:=j.add (H':=H++[some (.cells (t.map fun b=>.int .u8 b.toNat))]) H.length (.cells (arr++rest) e ((arr++rest).size,(arr++rest).size+1)) (.cells (t.map fun b=>.int .u8 b.toNat))
    (j.fresh _ (qe _)) (by simp) (by simp) (by
     grind) (fun G=>(lO G o).1)
   refine⟨_,_,g.1,m.trans g.2, ?_, ?_,a⟩
   ·refine Low.trans m.ext ⟨fun _ _ _ h=>⟨h,fun _ _ _=>rfl⟩,fun _ _ h=>h,qe _⟩ (j.add_low lo _ _ (qe _) (by simp) fun x y I=>?_)
    grind
   ·have l:=(lO g.2.ext o).2;refine⟨c.w.heap.size,0,k,0,nq _ _ _ _ _, ?_,fun _=>rfl,qe _,by omega,(fun h=>by cases h), ?_⟩
    ·rw[← hl]
    ·refine l.mono ?_;omega
  ·cases h
 ·cases h
theorem xm(A:Rel c H){sa:bc}{s:Value}(h:bM P lo t u H sa xa=some (r,H'))(hs:V c sa s)(hx:V c xa x):
 ∃c' v,Rel c' H'∧Tr c H c' H'∧Low lo c H c' H'∧V c' r v∧(Builtin.append_ #[t,u] ty #[s,x]).run P c.w= .ok v c'.w:=by
 unfold bM at h;split at h
 case h_2=>cases h
 rename_i e hd;simp only at h;split at h
 case isFalse=>cases h
 rename_i hc;obtain⟨am,aJ,hu,hz,aw⟩:=hc;have M:∃d,P.underlying u=some d∧∀k,d≠ .int k:=by
  unfold mP at hu;cases hU:P.underlying u with
  |none=>grind
  |some d=>
   grind
 obtain⟨i,hi⟩:=Option.isSome_iff_exists.1 am;have ax:bl P e=i.size:=by simp[bl,Program.cellsOf,hi]
 have ay:P.bytesOf e=i.bytes:=by simp[Program.bytesOf,hi]
 rw[ay]at aw h;have az:∃z,i.zero=some z∧z.cells.size=i.size:=by
  unfold kG at hz;split at hz
  ·rename_i za aB;simp only[qi,beq_iff_eq]at hz;obtain⟨zv,h1,h2⟩:=cM (c:=c) aB c.w;have hl:=bH (fW h2 hz.2);have:i.zero=some zv:=by
    simp only[zeroValue,Sem.run_bind,run_typeInfo hi,Result.andThen_ok]at h1;cases hzi:i.zero with
    |none=>rw[hzi]at h1;simp at h1
    |some y=>rw[hzi]at h1;simp at h1;rw[h1]
   grind
  ·cases hz
 obtain⟨z,aK,aL⟩:=az;rw[ax]at h aJ;split at h
 case h_1=>cases h
 rename_i rows aj;split at h
 case isTrue=>cases h
 rename_i Y;have Y:rows.flatten.all bc.one=true:=by grind
 obtain⟨E,new,G,U,aM⟩:=nX (P:=P) A aj hx;have aA:=bH U;simp only[Array.length_toList]at aA
 -- an append that grows
 have L:∀(base:Option Addr) (sLen sCap:Nat) (f:List bc) (old:Array Value),s= .slice base sLen sCap→Vs c f old.toList→
  (∀w,w.heap=c.w.heap→(Builtin.firstCells i.size sLen (.slice base sLen sCap)).run P w= .ok old w)→old.size=sLen*i.size→sCap<sLen+rows.length→(sLen+rows.length)*i.bytes≤140737488355328→
  ∀(H1:bd),Rel { c with w:=c.w.drew } H1→Tr c H { c with w:=c.w.drew } H1→Low lo c H { c with w:=c.w.drew } H1→H1.length=H.length→
  ∃c' v,Rel c' (H1++[some (.cells (f++rows.flatten))])∧Tr c H c' (H1++[some (.cells (f++rows.flatten))])∧Low lo c H c' (H1++[some (.cells (f++rows.flatten))])∧V c' (.sl i.size H.length 0 (sLen+rows.length) (sLen+rows.length) false) v∧
   (Builtin.append_ #[t,u] ty #[s,x]).run P c.w= .ok v c'.w:=by
  intro base sLen sCap f old C D hold K aC p H1 ak W aD aE;subst C;obtain⟨k,hk,g⟩:=nP (ty:=ty) hd M hi aK (w:=c.w) (E c.w) (hold _ rfl) (G _ rfl) aC p aw;have aQ:=cm (cg W.ext _ _ D) (cg W.ext _ _ U);have N:Vs { c with w:=c.w.drew } (f++rows.flatten) (old++new).toList:=by grind
  have O:=ak.add (H':=H1++[some (.cells (f++rows.flatten))]) H1.length (.cells (old++new++Builtin.zeroCells z.cells (k-(sLen+rows.length))) e) (.cells (f++rows.flatten))
   (ak.fresh _ (qe _)) (by simp) (by simp) (by
    grind) (fun hE=>(lI hE N).1)
  refine⟨_,.slice (some ⟨c.w.heap.size,0,none⟩) (sLen+rows.length) k,O.1,W.trans O.2,aD.trans W.ext (ak.add_low lo _ _ (qe _) (by simp) fun x y ar=>by grind), ?_,g⟩
  have Q:=(lI (O.2.ext) N).2;refine⟨c.w.heap.size,0,k,0, ?_,rfl,fun _=>rfl,qe _,hk,(fun h=>by cases h), ?_⟩
  ·rw[← aE];exact nq _ _ _ _ _
  ·refine Q.mono ?_;rw[r5,aL,Array.size_append,K,aM,← Nat.add_mul,← Nat.add_mul];grind
 split at h
 ·-- nil
  subst hs;split at h
  ·rename_i h0;obtain⟨rfl,rfl⟩:=h;refine⟨c,.slice none 0 0,A,Tr.refl _ _,Low.refl _ _ _,by simp[V], ?_⟩
   have:=ez (ty:=ty) (w':=c.w) hd M hi (base:=none) (sLen:=0) (sCap:=0) (E c.w) (G c.w rfl) (by omega) rfl
   grind
  ·split at h
   ·obtain⟨c',v,h1,h2,aU,h3,h4⟩:=L none 0 0 [] #[] rfl (by simp[Vs]) (fun _ _=>by simp[Builtin.firstCells]) (by simp) (by omega) (by grind) H A.drew.1 A.drew.2 ⟨fun _ _ _ h=>⟨h,fun _ _ _=>rfl⟩,fun _ _ h=>h,qe _⟩ rfl
    grind
   ·cases h
 ·-- a list
  rename_i s0 rs ex;split at h
  ·cases h
  rename_i C;have C:s0=i.size:=Decidable.of_not_not C;subst C;have ae:ff H i.size (.list i.size rs ex)=some rs:=by simp[ff]
  obtain⟨ao,old,hold,D,K⟩:=nX (P:=P) A ae hs;have af:=hs;obtain⟨a0,cap,vs,rfl,aR,aN,_,ap⟩:=hs;split at h
  ·rename_i h0;obtain⟨rfl,rfl⟩:=h;have J:new.toList=[]:=by
    grind
   refine⟨c,_,A,Tr.refl _ _,Low.refl _ _ _,af, ?_⟩;have:=ez (ty:=ty) (w':=c.w) hd M hi (base:=some a0) (sLen:=rs.length) (sCap:=cap) (E c.w) (G c.w rfl) (by omega) (by rw[J];rfl)
   grind
  ·split at h
   ·rename_i aF;obtain⟨al,aS,p⟩:=aF;obtain⟨rfl,rfl⟩:=h;have:=aN al;exact L _ _ _ rs.flatten old rfl D hold K (by omega) p H A.drew.1 A.drew.2 ⟨fun _ _ _ h=>⟨h,fun _ _ _=>rfl⟩,fun _ _ h=>h,qe _⟩ rfl
   ·cases h
 ·-- a slice of one's own
  rename_i s0 b off len cap ex;split at h
  ·cases h
  rename_i C;have C:s0=i.size:=Decidable.of_not_not C;subst C;split at h
  case h_2=>cases h
  rename_i cs hb;split at h
  case isFalse=>cases h
  rename_i aG;have ae:ff H i.size (.sl i.size b off len cap ex)=some (cq i.size len (cs.drop off)):=by simp[ff,hb,aG]
  obtain⟨ao,old,hold,D,K⟩:=nX (P:=P) A ae hs;rw[cY]at hold K;rw[lK _ _ _ (by simp;omega)]at D
  have af:=hs;obtain⟨B,base,k,o,I,rfl,ho,h1,h2,h3,h4⟩:=hs;obtain⟨B0,aO,h5,_,_,hf,Q,_⟩:=A.blk b _ hb;rw[I]at h5;obtain⟨rfl,rfl⟩:=h5
  -- an append in its place
  have m:len+rows.length≤k→∃w',(Builtin.append_ #[t,u] ty #[.slice (some ⟨B,o,none⟩) len k,x]).run P c.w= .ok (.slice (some ⟨B,o,none⟩) (len+rows.length) k) w'∧
   ((0<rows.length∧Wrote c.w w' B (base+(off+len*i.size)) new.toList)∨(rows.length=0∧w'=c.w)):=by
   intro ab
   by_cases hn:rows.length=0
   ·have J:new.toList=[]:=by
     grind
    have:=ez (ty:=ty) (w':=c.w) hd M hi (base:=some ⟨B,o,none⟩) (sLen:=len) (sCap:=k) (E c.w) (G c.w rfl) (by omega) (by rw[J];rfl)
    grind
   ·have ag:=ho (by omega)
    subst ag;have Z:len*i.size+rows.length*i.size≤k*i.size:=by rw[← Nat.add_mul];exact Nat.mul_le_mul_right _ ab
    obtain⟨w',aP,l⟩:=mr (P:=P) B new.toList (base+off+len*i.size) 0 c.w (h4.mono (by grind)) hf (l5 U Y)
    refine⟨w',ez (ty:=ty) hd M hi (E c.w) (G c.w rfl) ab (by simp only[add_plain];exact aP),.inl ⟨by omega, ?_⟩⟩
    grind
  split at h
  ·rename_i h0;obtain⟨rfl,rfl⟩:=h;obtain⟨w',g,l⟩:=m (by omega)
   rcases l with⟨ad,l⟩|⟨h0,rfl⟩
   ·omega
   ·rw[h0]at g;exact⟨c,_,A,Tr.refl _ _,Low.refl _ _ _,af,g⟩
  split at h
  ·rename_i aH;split at h
   ·rename_i aI;obtain⟨rfl,rfl⟩:=h;obtain⟨w',g,l⟩:=m (by omega)
    rcases l with⟨ad,l⟩|⟨h0,rfl⟩
    ·have Z:(len+rows.length)*i.size=len*i.size+rows.length*i.size:=Nat.add_mul _ _ _;obtain⟨h6,h7⟩:=A.write hb I l U (by omega)
     refine⟨_,_,h6,h7,A.set_low aI.1 hb I l.keep (fun x y hx ar=>by grind) (fun _ _ h=>h) (by simp), ?_,g⟩
     exact⟨B,base,k,o,I,rfl,ho,aH,h2,h3,l.room.2 h4⟩
    grind
   ·cases h
  ·split at h
   case isFalse=>cases h
   rename_i p;split at h
   ·rename_i al;obtain⟨rfl,rfl⟩:=h;have:=h3 al;exact L _ _ _ _ old rfl D hold K (by omega) p H A.drew.1 A.drew.2 ⟨fun _ _ _ h=>⟨h,fun _ _ _=>rfl⟩,fun _ _ h=>h,qe _⟩ rfl
   ·split at h
    case isFalse=>cases h
    rename_i ac;obtain⟨rfl,rfl⟩:=h;have ah:(cs.drop off).take (len*i.size)=cs.drop off:=List.take_of_length_le (by simp;omega)
    rw[ah]at D
    by_cases hk:len+rows.length≤k
    ·obtain⟨w',g,l⟩:=m hk;rcases l with⟨ad,l⟩|⟨h0,_⟩
     ·have ag:=ho (by omega)
      subst ag;obtain⟨_,_,_,_,_,_,_,vs,ha,ap⟩:=A.blk b _ hb;rename_i av _ _ _ _;rw[I]at av;obtain⟨rfl,rfl⟩:=av;have aT:=bH ap;have Z:len*i.size+rows.length*i.size≤k*i.size:=by rw[← Nat.add_mul];exact Nat.mul_le_mul_right _ hk
      have aa:=A.renew (base':=base+off) (blk':=.cells (cs.drop off++rows.flatten)) hb I w' l.size l.keep (fun X t n h=>by rw[l.shape];exact h) l.os l.tape l.output (fun hE=>by
       refine⟨?_, ?_,vs.drop off++new.toList, ?_, ?_⟩
       ·intro q hr;show w'.frozen? _=false;rw[l.frozen];exact hf q (l.room.1 hr)
       ·refine l.room.2 (h4.mono ?_);grind
       ·show At w' B (base+off) _;intro j v hj;rcases qk j (vs.drop off).length with aq|aq
        ·rw[qf aq]at hj;rw[l.old _ (.inl (by grind))]
         exact dF off ha j v hj
        ·rw[qj aq]at hj;have:=l.new _ v hj;grind
       ·exact cm (di _ (cg hE _ _ ap)) (cg hE _ _ U))
      refine⟨_,_,aa.1,aa.2,A.set_low ac.1 hb I l.keep (fun x y hx ar=>by
       grind) (fun x hx h=>by simp only[Cx.put];grind) (by simp), ?_,g⟩
      refine⟨B,base+off,k,base+off,nq _ _ _ _ _,rfl,fun _=>rfl,qe _,hk,(fun h=>by cases h), ?_⟩
      exact l.room.2 (h4.mono (by omega))
     ·omega
    ·have R:=A.drop b;have au:=R.1.drew;exact L _ _ _ _ old rfl D hold K (by omega) p (H.set b none) au.1 (R.2.trans au.2)
      (A.set_low ac.1 hb I (fun _ _=>rfl) (fun x y hx ar=>by grind) (fun _ _ h=>h) (by simp)) (by simp)
 ·cases h
end Go.Am
namespace Go.Am
inductive bT where
 |normal
 |exit (id:Nat)
 |ret
 deriving DecidableEq,Inhabited
def eD(ops:List Oper)(ρ:List bc)(o:Oper):Option Bool:=
 match o.guard with
 |none=>some true
 |some (j,a)=>
  match (ops[j]?).bind (·.dst)with
  |none=>some false
  |some d=>
   match ρ[d]? with
   |none=>some false
   |some (.bool b)=>some (b==a)
   |some .junk=>none
   |some _=>some false
abbrev cJ:=Nat→FuncId→List bc→bd→Option (bc×bd)
def fV(ρ:List bc)(dst:Option Tmp)(v:bc):List bc:=
 match dst with
 |some d=>ρ.set d v
 |none=>ρ
def ek(S:bh)(call:cJ)(lo:Nat)(ρ:List bc)(H:bd):Op→Option (bc×bd)
 | .store t x v=>(fw S.P lo t H (bj S ρ x) (bj S ρ v)).map fun H'=>(bz,H')
 | .mapUpdate t m k v=>(c9 S.P lo t H (bj S ρ m) (bj S ρ k) (bj S ρ v)).map fun H'=>(bz,H')
 | .insert t m k v=>(c9 S.P lo t H (bj S ρ m) (bj S ρ k) (bj S ρ v)).map fun H'=>(bz,H')
 | .next x b=>qL lo H (bj S ρ x) b
 | .range t x=>pE S.P t H (bj S ρ x)
 | .entry x=>(yD H (bj S ρ x)).map fun v=>(v,H)
 | .convert s d x=>qW S.P s d H (bj S ρ x)
 | .call { callee:=.builtin .append,args:=args,argTypes:=ts }=>
  match args.toList.map (bj S ρ),ts.toList with
  | [s,x],[t,u]=>bM S.P lo t u H s x
  |_,_=>none
 | .call { callee:=.value f,args:=args,.. }=>
  match bj S ρ f with
  | .fn (.func g) first a=>
   match S.ext g (first++args.toList.map (bj S ρ)++a)with
   |some v=>some (v,H)
   |none=>call lo g (first++args.toList.map (bj S ρ)++a) H
  |_=>none
 | .call { callee:=.invoke r name,args:=args,.. }=>
  match bj S ρ r with
  | .iface t v=>
   match S.meth t name,nk v with
   |some g,some (.p,_)=>call lo g (v::args.toList.map (bj S ρ)) H
   |_,_=>match S.methV t name v with
    |some (g,c)=>(S.ext g (c::args.toList.map (bj S ρ))).map fun r=>(r,H)
    |none=>none
  |_=>none
 |_=>none
def opA(S:bh)(call:cJ)(lo:Nat)(ρ:List bc)(H:bd)(o:Oper):Option (bc×bd):=
 match bR S ρ H o.op with
 |some v=>some (v,H)
 |none=>
  match lE S ρ o.op with
  |some (blk,mk)=>some (mk H.length,H++[some blk])
  |none=>ek S call lo ρ H o.op
def l7(S:bh)(call:cJ)(lo:Nat)(ops:List Oper):List Oper→List bc→bd→Option (List bc×bd)
 | [],ρ,H=>some (ρ,H)
 |o::rest,ρ,H=>
  match eD ops ρ o with
  |none=>none
  |some false=>l7 S call lo ops rest (fV ρ o.dst bz) H
  |some true=>
   match opA S call lo ρ H o with
   |none=>none
   |some (v,H')=>l7 S call lo ops rest (fV ρ o.dst v) H'
def cz:Op→Bool
 | .alloc _| .box _ _| .buildSlice _ _ _| .makeSlice _ _ _| .makeMap _ none| .range _ _=>true
 |_=>false
def dw:Op→Bool
 | .store _ _ _| .mapUpdate _ _ _ _| .insert _ _ _ _| .next _ _=>true
 | .call { callee:=.builtin .len,.. }| .call { callee:=.builtin .min,.. }| .call { callee:=.builtin .max,.. }=>false
 | .call _=>true
 |_=>false
def cN:bc→Option Nat
 | .ptr b _=>some b
 | .mapr b=>some b
 |_=>none
def eQ(S:bh)(ρ:List bc):Op→Option Nat
 | .load _ x=>cN (bj S ρ x)
 | .lookup _ m _ _=>cN (bj S ρ m)
 | .slice _ x _ _ _=>cN (bj S ρ x)
 | .convert _ _ x=>pe (bj S ρ x)
 | .call { callee:=.builtin .len,args:=args,.. }=>
  match args[0]? with
  |some x=>match bj S ρ x with
   | .mapr b=>some b
   |_=>none
  |none=>none
 |_=>none
def dJ(S:bh)(ρ:List bc):Op→Option (List Nat)
 | .store _ x _=>some (cN (bj S ρ x)).toList
 | .mapUpdate _ m _ _=>some (cN (bj S ρ m)).toList
 | .insert _ m _ _=>some (cN (bj S ρ m)).toList
 | .next x _=>some (cN (bj S ρ x)).toList
 | .call { callee:=.builtin .append,args:=args,.. }=>
  match args[0]? with
  |some x=>match bj S ρ x with
   | .sl _ b _ _ _ _=>some [b]
   |_=>some []
  |none=>none
 | .call { callee:=.value f,.. }=>
  match bj S ρ f with
  | .fn (.func g) _ _=>if ma S g then some []else none
  |_=>none
 |_=>none
def eB:List bc→List bc→Bool
 | [],[]=>true
 | .ptr b o::as,.ptr d o'::a=>Nat.beq b d && Nat.beq o o' && eB as a
 | .int k n::as,.int f g::a=>decide (k=f) && decide (n=g) && eB as a
 | .sl s b o l c e::as,.sl h d o' j c' m::a=>Nat.beq s h && Nat.beq b d && Nat.beq o o' && Nat.beq l j && Nat.beq c c' && (e==m) && eB as a
 | .nils::as,.nils::a=>eB as a
 |_,_=>false
def tB:Option (Option cb)→Option (Option cb)→Bool
 |some (some (.cells as)),some (some (.cells a))=>eB as a
 |_,_=>false
def P5(n:Nat)(g a:Nat→Option (Option cb)):List Nat:=(List.range n).filter fun b=>!tB (g b) (a b)
def dG(S:bh)(ρ:List bc)(op:Op)(H H':bd):Option (List Nat):=match dJ S ρ op with
 |some l=>some l
 |none=>some (P5 H.length (fun b=>H[b]?) (fun b=>H'[b]?))
def mz:List Oper→List Nat→List Nat
 | [],a=>a
 |o::os,a=>mz os (a++[o.after.toList.foldl (fun s e=>if Region.binds .any e then s|||2^e.on|||a.getD e.on 0 else s) 0])
def GJ(ops:Array Oper)(B:List Nat)(i j:Nat):Bool:=
 (B.getD j 0).testBit i||
 match ops[i]?,ops[j]? with
 |some x,some y=>Oper.apart ops x y && !(dw x.op && dw y.op)
 |_,_=>true
def jq(ops:Array Oper)(B:List Nat):Bool:=
 ((List.range ops.size).all fun j=>(match ops[j]? with|some o=>o.after.toList.all fun e=>!Region.binds .any e||decide (e.on<j)|none=>true) &&
   (List.range j).all fun i=>GJ ops B i j)
def hidden(ops:Array Oper)(B:List Nat)(a k:Nat):List Nat:=
 ((List.range ops.size).filter fun j=>(match ops[j]? with|some o=>cz o.op|none=>false) && !(B.getD k 0).testBit j).map (a+ ·)
def hide(H:bd):List Nat→bd
 | []=>H
 |b::a=>hide (H.set b none) a
def unhide(H0 H:bd):List Nat→bd
 | []=>H
 |b::a=>unhide H0 (H.set b (H0.getD b none)) a
structure lr where
 reads:List (Nat×Nat)
 touches:List (Nat×Option (List Nat))
 ρ:List bc
 H:bd
def cy(S:bh)(call:cJ)(lo a:Nat)(ops:Array Oper)(B:List Nat):List Oper→Nat→List bc→bd→Option lr
 | [],_,ρ,H=>some ⟨[],[],ρ,H⟩
 |o::rest,k,ρ,H=>
  match eD ops.toList ρ o with
  |none=>none
  |some false=>cy S call lo a ops B rest (k+1) (fV ρ o.dst bz) H
  |some true=>
   if cz o.op then
    match lE S ρ o.op with
    |none=>none
    |some (blk,mk)=>
     match H[a+k]? with
     |some none=>cy S call lo a ops B rest (k+1) (fV ρ o.dst (mk (a+k))) (H.set (a+k) (some blk))
     |_=>none
   else if dw o.op then
    match ek S call lo ρ (hide H (hidden ops B a k)) o.op with
    |none=>none
    |some (v,H')=>
     if H.length≤H'.length then
      match cy S call lo a ops B rest (k+1) (fV ρ o.dst v) (unhide H H' (hidden ops B a k))with
      |none=>none
      |some r=>some { r with touches:=(k,dG S ρ o.op (hide H (hidden ops B a k)) H')::r.touches }
     else none
   else
    match bR S ρ H o.op with
    |none=>none
    |some v=>
     match cy S call lo a ops B rest (k+1) (fV ρ o.dst v) H with
     |none=>none
     |some r=>
      match eQ S ρ o.op with
      |none=>some r
      |some b=>some { r with reads:=(k,b)::r.reads }
def apartB(B:List Nat)(reads:List (Nat×Nat))(touches:List (Nat×Option (List Nat))):Bool:=
 reads.all fun r=>touches.all fun t=>(B.getD r.1 0).testBit t.1||(B.getD t.1 0).testBit r.1||
  match t.2 with
  |some l=>!l.contains r.2
  |none=>false
def jV(S:bh)(call:cJ)(lo:Nat)(ops:Array Oper)(ρ:List bc)(H:bd):Option (List bc×bd):=
 let B:=mz ops.toList []
 if jq ops B && decide (lo≤H.length)then
  match cy S call lo H.length ops B ops.toList 0 ρ (if ops.any (fun o=>cz o.op)then H++List.replicate ops.size none else H)with
  |none=>none
  |some r=>if apartB B r.reads r.touches then some (r.ρ,r.H)else none
 else none
def gm(f:bc→Option bc):List bc→Option (List bc)
 | []=>some []
 |a::as=>match f a with
  |none=>none
  |some b=>match gm f as with
   |none=>none
   |some c=>some (b::c)
def lR(f:bc→Option bc):List (List bc)→Option (List (List bc))
 | []=>some []
 |a::as=>match gm f a with
  |none=>none
  |some b=>match lR f as with
   |none=>none
   |some c=>some (b::c)
def frz(c:Nat)(H:bd):Bool→Nat→bc→Option bc
 |_,0,_=>none
 |top,k+1,a=>
  match a with
  | .agg cs=>(gm (frz c H top k) cs).map .agg
  | .tup cs=>(gm (frz c H top k) cs).map .tup
  | .iface t v=>(frz c H top k v).map (.iface t)
  | .fn f x y=>match gm (frz c H top k) x,gm (frz c H top k) y with
   |some d,some e=>some (.fn f d e)
   |_,_=>none
  | .ptr b off=>
   if b<c then(if top then some (.ptr b off)else none)else
   match H[b]? with
   |some (some (.cells cs))=>(gm (frz c H false k) (cs.drop off)).map .ipt
   |_=>none
  | .sl sz b off len cap ex=>
   if b<c then(if top then some (.sl sz b off len cap ex)else none)else
   match H[b]? with
   |some (some (.cells cs))=>
    if off+len*sz≤cs.length then(lR (frz c H false k) (cq sz len (cs.drop off))).map fun rows=>.list sz rows (ex && cap==len)else none
   |_=>none
  | .mapr b=>if b<c∧top then some (.mapr b)else none
  |a=>some a
def gt(S:bh)(ρ:List bc)(H:bd):ResultVar→Option bc
 | .tmp t=>some (ρ.getD t bz)
 | .cell a t=>hM S.P t H (ρ.getD a bz)
def dv(S:bh)(ρ:List bc)(H:bd):List ResultVar→Option (List bc)
 | []=>some []
 |r::rs=>
  match gt S ρ H r with
  |none=>none
  |some v=>match dv S ρ H rs with
   |none=>none
   |some vs=>some (v::vs)
def hB:List bc→bc
 | [v]=>v
 |vs=>.tup vs
def finish(p:Pol)(H0:bd)(v:bc)(H:bd):Option (bc×bd):=
 match p with
 | .keep=>some (v,H)
 | .pure=>(frz H0.length H true 64 v).map fun a=>(a,H0)
 | .fresh=>some (v,H)
def Pol.lo(p:Pol)(lo:Nat)(H:bd):Nat:=
 match p with
 | .keep=>lo
 | .pure=>H.length
 | .fresh=>max lo H.length
abbrev ic:=Nat→Code→List bc→bd→Option (bT×List bc×bd)
def co(S:bh)(a:ic):cJ:=fun lo f args H=>
 match S.hook f with
 |some b=>b lo args H
 |none=>
  match S.P.funcs[f]? with
  |none=>none
  |some fn=>
   match fn.body with
   |none=>none
   |some body=>
    match a ((S.pol f).lo lo H) body (args++List.replicate (fn.ntmps-args.length) bz) H with
    |none=>none
    |some (.exit _,_,_)=>none
    |some (_,ρ,H')=>
     match dv S ρ H' fn.results.toList with
     |none=>none
     |some vs=>finish (S.pol f) H (hB vs) H'
def dT(S:bh)(d:ic):ic:=fun lo c ρ H=>
 match c with
 | .skip=>some (.normal,ρ,H)
 | .label _=>some (.normal,ρ,H)
 | .ret=>some (.ret,ρ,H)
 | .exit id=>some (.exit id,ρ,H)
 | .seq a b=>
  match d lo a ρ H with
  |some (.normal,e,H')=>d lo b e H'
  |r=>r
 | .cond x a b=>
  match bj S ρ x with
  | .bool true=>d lo a ρ H
  | .bool false=>d lo b ρ H
  |_=>none
 | .block id b=>
  match d lo b ρ H with
  |some (.exit i,e,H')=>if i=id then some (.normal,e,H')else some (.exit i,e,H')
  |r=>r
 | .loop b=>
  match d lo b ρ H with
  |some (.normal,e,H')=>d lo (.loop b) e H'
  |r=>r
 | .region _ ops f=>
  if f then(jV S (co S d) lo ops ρ H).map fun r=>(.normal,r.1,r.2)
  else(l7 S (co S d) lo ops.toList ops.toList ρ H).map fun r=>(.normal,r.1,r.2)
 |_=>none
def cB(S:bh):Nat→ic
 |0=>fun _ _ _ _=>none
 |n+1=>dT S (cB S n)
def ro(S:bh)(n:Nat):cJ:=co S (cB S n)
end Go.Am
namespace Go.Am
open Go.RowKit
def bT.toExit:bT→Exit
 | .normal=>.normal
 | .exit id=>.exit id
 | .ret=>.ret
def fk(lo:Nat)(c:Cx)(H:bd)(r:bc)(H':bd)(e:Ending)(w':World):Prop:=
 ∃v c',e= .returned v∧c'.w=w'∧Rel c' H'∧Tr c H c' H'∧Low lo c H c' H'∧V c' r v
def md(S:bh)(call:cJ):Prop:=
 ∀lo f args H r H',call lo f args H=some (r,H')→∀c vs,Rel c H→cV S c→Vs c args vs→
  (∃fn,S.P.funcs[f]?=some fn∧fn.body.isSome=true)∧Calls S.P f vs.toArray c.w (fk lo c H r H')
structure dH(S:bh):Prop where
 noNum:∀(f:FuncId) (fn:Func),S.P.funcs[f]?=some fn→(fn.name== "runtime.NumGoroutine")=false
 meth:∀t name g,S.meth t name=some g→∀a w,(method (S.P.types.size+Made.depth) t (.pointer a) name).run S.P w= .ok (g,.pointer a) w
 hook:∀f hk,S.hook f=some hk→∀lo args H r H',hk lo args H=some (r,H')→∀c vs,Rel c H→cV S c→Vs c args vs→
  (∃fn,S.P.funcs[f]?=some fn∧fn.body.isSome=true)∧Calls S.P f vs.toArray c.w (fk lo c H r H')
 mixed:S.P.follows .mixedOrders=true
 low:∀f hk,S.hook f=some hk→∀lo args H r H',hk lo args H=some (r,H')→H.length≤H'.length∧∀b,b<lo→b<H.length→H'[b]?=H[b]?
def sJ(lo:Nat)(c:Cx)(H:bd)(x:bT)(d:List bc)(H':bd)(e:Exit)(b:Act)(w':World):Prop:=
 e=x.toExit∧b.defers=[]∧∃c',c'.w=w'∧Rel c' H'∧Tr c H c' H'∧Low lo c H c' H'∧Vs c' d b.tmps.toList
variable {H H':bd}{c:Cx}{lo:Nat}
theorem sJ.trans{c0:Cx}{H0:bd}(b:Tr c0 H0 c H)(o:Low lo c0 H0 c H){x:bT}{d:List bc}{e:Exit}{f:Act}{w':World}(h:sJ lo c H x d H' e f w'):
 sJ lo c0 H0 x d H' e f w':=by
 obtain⟨h1,g,c',j,k,l,m,n⟩:=h;exact⟨h1,g,c',j,k,b.trans l,o.trans b.ext m,n⟩
def vz(S:bh)(K:Nat)(f:ic):Prop:=
 ∀lo d ρ H x e H',f lo d ρ H=some (x,e,H')→∀c a,Rel c H→cV S c→Vs c ρ a.tmps.toList→a.defers=[]→
  d.wp S.P (sJ lo c H x e H') a c.w∧∀b,d= .loop b→Code.rounds S.P b (sJ lo c H x e H') K a c.w
theorem wO{x:bc}{v:Value}(h:V c x v)(h1:∀b,x≠ .bool b)(d:x≠ .junk):∀b,v≠ .bool b:=by
 intro b e;cases x<;>simp only[V]at h<;>simp_all
variable {a:Act}{ρ:List bc}
theorem rF{ops:Array Oper}{o:Oper}{b:Bool}(h:eD ops.toList ρ o=some b)(p:Vs c ρ a.tmps.toList):Region.wanted o (yielded ops a.tmps)=b:=by
 unfold eD at h;unfold Region.wanted;split at h
 ·grind
 ·rename_i j q t;rw[t];simp only;have f:ops.toList[j]?=ops[j]?:=by simp
  rw[f]at h;split at h
  ·rename_i g;simp at h;subst h;simp[yielded,g]
  ·rename_i d g;have hl:=bH p;split at h
   ·simp at h;subst h;have:a.tmps[d]?=none:=by
     grind
    simp[yielded,g,this]
   ·rename_i u k;simp at h;subst h;obtain⟨v,h1,n⟩:=jZ p k;subst n;have:a.tmps[d]?=some (.bool u):=by grind
    simp[yielded,g,this]
   ·cases h
   ·rename_i av l m k;simp at h;subst h;obtain⟨v,h1,n⟩:=jZ p k;have w:=wO n (fun b e=>l b e) (fun e=>m e)
    have:a.tmps[d]?=some v:=by grind
    have s:yielded ops a.tmps j=none:=by
     simp only[yielded,Option.bind_some,this];grind
    rw[s];rfl
variable {v:bc}
theorem Bz(b:Vs c ρ a.tmps.toList)(dst:Option Tmp){u:Value}(h:V c v u):Vs c (fV ρ dst v) (a.put dst u).tmps.toList:=by
 cases dst with
 |none=>exact b
 |some d=>
  simp only[Act.put,Array.toList_setIfInBounds];exact DZ b h
theorem iG(c:Cx):V c bz undef:=by
 exact⟨[],rfl,by simp[Vs]⟩
theorem put_defers(a:Act)(dst:Option Tmp)(v:Value):(a.put dst v).defers=a.defers:=by cases dst<;>rfl
theorem A4{S:bh}(hS:dH S){call:cJ}(hC:md S call)(A:Rel c H)(hG:cV S c)(o:Oper)(b:xk S c ρ a o.op.operands)
 (h:opA S call lo ρ H o=some (v,H')) {K:Act→World→Prop} {Q:Exit→Act→World→Prop}
 (hK:∀c' u,Rel c' H'→Tr c H c' H'→Low lo c H c' H'→V c' v u→K (a.put o.dst u) c'.w):o.wp S.P a c.w K Q:=by
 have j:Does S lo c H a o v H'→o.wp S.P a c.w K Q:=by
  rintro⟨c',u,h1,p,O,R,L|⟨L,rfl⟩⟩
  ·unfold Oper.wp;rw[L];exact hK c' u h1 p O R
  ·unfold Oper.wp;rw[L];exact hK c' _ h1 p O R
 have enter:∀(g:FuncId) (args:List bc) (vs:List Value),call lo g args H=some (v,H')→Vs c args vs→((execOp a.eval o).run S.P c.w=((callFunc g vs.toArray).run S.P c.w))→o.wp S.P a c.w K Q:=by
  intro g args vs hc ab U;obtain⟨⟨fn,J,hb⟩,E⟩:=hC lo g args H v H' hc c vs A hG ab;have Z:(callFunc g vs.toArray).run S.P c.w= .ok (.enter g vs.toArray) c.w:=by
   have af:fn.body.isNone=false:=by simp_all
   have Y:¬((fn.name== "runtime.NumGoroutine")=true):=by rw[hS.noNum g fn J];simp
   have ag:¬(fn.body.isNone=true):=by grind
   simp only[callFunc,run_program,Result.andThen_ok,J];simp_all
  unfold Oper.wp;rw[U,Z];refine E.mono ?_;rintro e w' ⟨u,c',rfl,rfl,h1,p,O,R⟩;grind
 unfold opA at h;split at h
 ·rename_i r hq;obtain⟨rfl,rfl⟩:=h;obtain⟨u,h1,p⟩:=qQ A o b hq;exact j ⟨c,u,A,Tr.refl _ _,Low.refl _ _ _,p,.inl h1⟩
 ·split at h
  ·rename_i blk mk Y;obtain⟨rfl,rfl⟩:=h;obtain⟨obj,u,h1,p⟩:=(xl o b Y).run;have B:=A.add (H':=H++[some blk]) H.length obj blk (A.fresh _ (qe _)) (by simp) (by simp) (by
    grind) (fun hE=>(p _ hE).1)
   refine j ⟨_,u,B.1,B.2, ?_,(p _ B.2.ext).2,.inl h1⟩;refine A.add_low lo _ _ (qe _) (by simp) fun x y ah=>?_
   grind
  ·unfold ek at h;split at h
   ·rename_i t x y n;rw[qd]at h;obtain⟨H2,h1,p⟩:=h;obtain⟨rfl,rfl⟩:=p;exact j (yT A o b n h1)
   ·rename_i t m k y n;rw[qd]at h;obtain⟨H2,h1,p⟩:=h;obtain⟨rfl,rfl⟩:=p;obtain⟨c',g1,G,I,C⟩:=kh A h1 (b m (by simp[n,Op.operands])) (b k (by simp[n,Op.operands])) (b y (by simp[n,Op.operands]))
    refine j ⟨c',undef,g1,G,I,iG c',.inr ⟨?_,rfl⟩⟩;obtain⟨dst,op,type,z,l,guard⟩:=o;subst n;simp[execOp,C]
   ·rename_i t m k y n;rw[qd]at h;obtain⟨H2,h1,p⟩:=h;obtain⟨rfl,rfl⟩:=p;obtain⟨c',g1,G,I,C⟩:=kh A h1 (b m (by simp[n,Op.operands])) (b k (by simp[n,Op.operands])) (b y (by simp[n,Op.operands]))
    refine j ⟨c',undef,g1,G,I,iG c',.inr ⟨?_,rfl⟩⟩;obtain⟨dst,op,type,z,l,guard⟩:=o;subst n;simp[execOp,C]
   ·rename_i x M n;obtain⟨c',u,g1,G,I,C,D⟩:=Cj (P:=S.P) (t:=o.type) A h (b x (by simp[n,Op.operands]))
    refine j ⟨c',u,g1,G,I,C,.inl ?_⟩;obtain⟨dst,op,type,z,l,guard⟩:=o;subst n;simp only[execOp]at D ⊢;simp[D]
   ·rename_i t x n;obtain⟨c',u,g1,G,I,C,D⟩:=wg (P:=S.P) (lo:=lo) A h (b x (by simp[n,Op.operands]))
    refine j ⟨c',u,g1,G,I,C,.inl ?_⟩;obtain⟨dst,op,type,z,l,guard⟩:=o;subst n;simp only[execOp]at D ⊢;simp[D]
   ·rename_i x n;rw[qd]at h;obtain⟨r,h1,p⟩:=h;obtain⟨rfl,rfl⟩:=p;obtain⟨u,C,D⟩:=zM (P:=S.P) A h1 (b x (by simp[n,Op.operands]))
    refine j ⟨c,u,A,Tr.refl _ _,Low.refl _ _ _,C,.inl ?_⟩;obtain⟨dst,op,type,z,l,guard⟩:=o;subst n;simp only[execOp]at D ⊢;simp[D]
   ·rename_i s d x n;obtain⟨c',u,g1,G,I,C,D⟩:=zj (P:=S.P) (lo:=lo) A h (b x (by simp[n,Op.operands]))
    refine j ⟨c',u,g1,G,I,C,.inl ?_⟩;obtain⟨dst,op,type,z,l,guard⟩:=o;subst n;simp only[execOp]at D ⊢;simp[D]
   ·rename_i args ts n;split at h
    ·rename_i s x t u e1 e2;have hl:=fR (c:=c) (S:=S) (ρ:=ρ) (a:=a) args.toList (fun x hx=>b x (by simp[Op.operands,Call.operands];grind))
     rw[e1]at hl;obtain⟨sv,_,e3,ad,xv,_,rfl,ae,rfl⟩:=hl;obtain⟨c',vv,h1,p,O,R,L⟩:=xm (ty:=o.type) A h ad ae;refine j ⟨c',vv,h1,p,O,R,.inl ?_⟩;have e4:args.map a.eval= #[sv,xv]:=by grind
     have e5:ts= #[t,u]:=by grind
     obtain⟨dst,op,type,z,l,guard⟩:=o;subst n;simp only[execOp,resolve,Sem.run_pure,Result.andThen_ok,invoke,builtin,e4,e5]at L ⊢;simp[L]
    ·cases h
   ·rename_i f args ts n;split at h
    ·rename_i g first N e1;split at h
     ·rename_i r W;obtain⟨rfl,rfl⟩:=h;obtain⟨u,h1,p⟩:=wF o b n e1 W;exact j ⟨c,u,A,Tr.refl _ _,Low.refl _ _ _,p,.inl h1⟩
     have J:=b f (by simp[n,Op.operands,Call.operands])
     rw[e1]at J;obtain⟨vs,us,e2,h1,p⟩:=J;have hl:=fR (c:=c) (S:=S) (ρ:=ρ) (a:=a) args.toList (fun x hx=>b x (by simp[Op.operands,Call.operands];grind))
     refine enter g _ (vs++args.toList.map a.eval++us) h (cm (cm h1 hl) p) ?_;obtain⟨dst,op,type,z,l,guard⟩:=o;subst n;simp only[execOp,Sem.run_bind,resolve,e2,Deferred.ofValue,Sem.run_pure,Result.andThen_ok,invoke];congr 2;grind
    ·cases h
   ·rename_i ac X args ts n;split at h
    ·rename_i t v0 e1;have J:=b ac (by simp[n,Op.operands,Call.operands])
     rw[e1]at J;obtain⟨u,e2,hu⟩:=J;split at h
     ·rename_i g nb hm Y;have hl:=fR (c:=c) (S:=S) (ρ:=ρ) (a:=a) args.toList (fun x hx=>b x (by simp[Op.operands,Call.operands];grind))
      have hp:=lY Y hu;have aa:∃q,u= .pointer q:=by
       cases u<;>simp[vnk]at hp
       grind
      obtain⟨q,rfl⟩:=aa;refine enter g _ (.pointer q::args.toList.map a.eval) h (by simp only[Vs];grind) ?_
      obtain⟨dst,op,type,z,l,guard⟩:=o;subst n;have e3: #[Value.iface t (.pointer q)]++args.map a.eval=(Value.iface t (.pointer q)::args.toList.map a.eval).toArray:=by
       grind
      have e4:((Value.iface t (.pointer q)::args.toList.map a.eval).toArray.extract 1 (Value.iface t (.pointer q)::args.toList.map a.eval).toArray.size)=(args.toList.map a.eval).toArray:=by
       grind
      simp only[execOp,Sem.run_bind,resolve,e2,Sem.run_pure,invoke,e3];simp only[List.getElem?_toArray,List.getElem?_cons_zero,callMethod,Sem.run_bind,run_program,Result.andThen_ok,hS.meth t X g hm q];grind
     ·split at h
      ·rename_i g v1 hm;rw[qd]at h;obtain⟨r,h,p⟩:=h;simp at p;obtain⟨rfl,rfl⟩:=p;obtain⟨x,h1,p⟩:=zo o b n e1 hm h;exact j ⟨c,x,A,Tr.refl _ _,Low.refl _ _ _,p,.inl h1⟩
      ·cases h
    ·cases h
   ·cases h
end Go.Am
namespace Go.Am
def cx(lo:Nat)(H H':bd):Prop:=H.length≤H'.length∧∀b,b<lo→b<H.length→H'[b]?=H[b]?
theorem cx.refl(lo:Nat)(H:bd):cx lo H H:=⟨qe _,fun _ _ _=>rfl⟩
variable {H:bd}{lo:Nat}
theorem cx.trans{H1 c:bd}(h:cx lo H H1)(k:cx lo H1 c):cx lo H c:=
 ⟨Nat.le_trans h.1 k.1,fun b h1 a=>(k.2 b h1 (qr a h.1)).trans (h.2 b h1 a)⟩
variable {b:Nat}
theorem cx.set{x:Option cb}(h:lo≤b):cx lo H (H.set b x):=
 ⟨by simp,fun i h1 _=>by grind⟩
theorem cx.append(H k:bd):cx lo H (H++k):=⟨by simp,fun b _ h=>qf h⟩
def lj(call:cJ):Prop:=∀lo f args H r H',call lo f args H=some (r,H')→cx lo H H'
def lV(rec:ic):Prop:=∀lo c ρ H x a H',rec lo c ρ H=some (x,a,H')→cx lo H H'
variable {H':bd}{P:Program}{t:TypeId}
theorem j4{m k y:bc}(h:c9 P lo t H m k y=some H'):cx lo H H':=by
 unfold c9 at h
 (repeat' split at h)<;>first
  |grind
  |(simp at h
    subst h;exact cx.set (by assumption))
variable {r x:bc}
theorem CW{a:Bool}(h:qL lo H x a=some (r,H')):cx lo H H':=by
 unfold qL at h
 (repeat' split at h)<;>first
  |(cases h;done)
  |(obtain⟨_,rfl⟩:=h
    first
     |exact cx.refl _ _
     |exact cx.set (by assumption)
     |exact cx.set (And.left (by assumption)))
variable {v:bc}
theorem zS(h:fw P lo t H x v=some H'):cx lo H H':=by
 unfold fw at h;split at h
 ·split at h
  ·split at h
   ·rename_i hc;simp at h;subst h;exact cx.set hc.1
   ·cases h
  ·cases h
 ·cases h
theorem wy{u:TypeId}{s:bc}(h:bM P lo t u H s x=some (v,H')):cx lo H H':=by
 unfold bM at h
 (repeat' split at h)<;>first
  |(cases h;done)
  |(simp only at h;cases h;done)
  |(simp only at h
    (repeat' split at h)<;>first
     |(cases h;done)
     |(obtain⟨_,rfl⟩:=h
       first
        |exact cx.refl _ _
        |exact cx.append _ _
        |exact cx.set (And.left (by assumption))
        |exact cx.trans (cx.set (And.left (by assumption))) (cx.append _ _)))
variable {S:bh}{call:cJ}{ρ:List bc}
theorem xK(d:lj call){op:Op}(h:ek S call lo ρ H op=some (v,H')):cx lo H H':=by
 unfold ek at h;split at h
 ·rw[qd]at h;obtain⟨c,h1,a⟩:=h;obtain⟨_,rfl⟩:=a;exact zS h1
 ·rw[qd]at h;obtain⟨c,h1,a⟩:=h;obtain⟨_,rfl⟩:=a;exact j4 h1
 ·rw[qd]at h;obtain⟨c,h1,a⟩:=h;obtain⟨_,rfl⟩:=a;exact j4 h1
 ·exact CW h
 ·unfold pE at h
  (repeat' split at h)<;>first
   |(cases h;done)
   |(obtain⟨_,rfl⟩:=h;exact cx.append _ _)
 ·rw[qd]at h;obtain⟨_,_,a⟩:=h;obtain⟨_,rfl⟩:=a;exact cx.refl _ _
 ·unfold qW at h;split at h
  ·split at h
   ·obtain⟨_,rfl⟩:=h;exact cx.append _ _
   ·cases h
  ·cases h
 ·split at h
  ·exact wy h
  ·cases h
 ·split at h
  ·split at h
   ·obtain⟨_,rfl⟩:=h;exact cx.refl _ _
   ·exact d _ _ _ _ _ _ h
  ·cases h
 ·split at h
  ·split at h
   ·exact d _ _ _ _ _ _ h
   ·split at h
    ·rw[qd]at h;obtain⟨_,_,a⟩:=h;obtain⟨_,rfl⟩:=a;exact cx.refl _ _
    ·cases h
  ·cases h
 ·cases h
theorem I7(a:lj call){o:Oper}(h:opA S call lo ρ H o=some (v,H')):cx lo H H':=by
 unfold opA at h;split at h
 ·obtain⟨_,rfl⟩:=h;exact cx.refl _ _
 ·split at h
  ·obtain⟨_,rfl⟩:=h;exact cx.append _ _
  ·exact xK a h
theorem rO{S:bh}{call:cJ}(c:lj call){lo:Nat}{ops:List Oper}:∀{l:List Oper} {ρ a:List bc} {H H':bd},l7 S call lo ops l ρ H=some (a,H')→cx lo H H'
 | [],ρ,a,H,H',h=>by
  obtain⟨_,rfl⟩:=h;exact cx.refl _ _
 |o::l,ρ,a,H,H',h=>by
  simp only[l7]at h;split at h
  ·cases h
  ·exact rO c h
  ·split at h
   ·cases h
   ·rename_i h1;exact(I7 c h1).trans (rO c h)
theorem yc(lo:Nat):∀(a:List Nat) (H:bd),(∀b∈a,lo≤b)→cx lo H (hide H a)
 | [],H,_=>cx.refl _ _
 |b::a,H,h=>(cx.set (h b (by simp))).trans (yc lo a _ fun x c=>h x (by simp[c]))
theorem rx(lo:Nat)(H0:bd):∀(a:List Nat) (H:bd),(∀b∈a,lo≤b)→cx lo H (unhide H0 H a)
 | [],H,_=>cx.refl _ _
 |b::a,H,h=>(cx.set (h b (by simp))).trans (rx lo H0 a _ fun x c=>h x (by simp[c]))
variable {ops:Array Oper}
theorem CR{B:List Nat}{a k:Nat}(h:b∈hidden ops B a k):a≤b:=by
 simp only[hidden]at h;grind
theorem hQ{S:bh}{call:cJ}(c:lj call){lo f:Nat}(a:lo≤f){ops:Array Oper}{B:List Nat}:∀{l:List Oper} {k:Nat} {ρ:List bc} {H:bd} {r:lr},cy S call lo f ops B l k ρ H=some r→cx lo H r.H
 | [],k,ρ,H,r,h=>by
  simp only[cy,qa]at h;subst h;exact cx.refl _ _
 |o::l,k,ρ,H,r,h=>by
  have g:∀b∈hidden ops B f k,lo≤b:=fun b j=>Nat.le_trans a (CR j)
  simp only[cy]at h;split at h
  ·cases h
  ·exact hQ c a h
  ·split at h
   ·split at h
    ·cases h
    ·split at h
     ·exact(cx.set (by omega)).trans (hQ c a h)
     ·cases h
   ·split at h
    ·split at h
     ·cases h
     ·rename_i v H1 h1;split at h
      ·split at h
       ·cases h
       ·rename_i r1 e;simp at h;subst h;have d:cx lo _ r1.H:=hQ c a e;exact(((yc lo _ H g).trans (xK c h1)).trans (rx lo H _ H1 g)).trans d
      ·cases h
    ·split at h
     ·cases h
     ·split at h
      ·cases h
      ·rename_i r1 e;split at h<;>
       ·simp at h;subst h;have d:cx lo _ r1.H:=hQ c a e;exact d
theorem CZ(c:lj call){d:List bc}(h:jV S call lo ops ρ H=some (d,H')):cx lo H H':=by
 unfold jV at h;simp only at h;split at h
 ·rename_i hc;simp at hc;split at h
  ·cases h
  ·rename_i r a;split at h
   ·obtain⟨_,rfl⟩:=h;have:=hQ c hc.2 a;split at this
    ·exact(cx.append _ _).trans this
    ·exact this
   ·cases h
 ·cases h
def dk(S:bh):Prop:=∀f a,S.hook f=some a→∀lo args H r H',a lo args H=some (r,H')→cx lo H H'
variable {rec:ic}
theorem tL(k:dk S)(e:lV rec):lj (co S rec):=by
 intro lo f args H r H' h;unfold co at h;split at h
 ·rename_i g a;exact k f g a _ _ _ _ _ h
 ·split at h
  ·cases h
  ·split at h
   ·cases h
   ·split at h
    ·cases h
    ·cases h
    ·rename_i h1;split at h
     ·cases h
     ·unfold finish at h;split at h
      ·rename_i c;obtain⟨_,rfl⟩:=h;have:=e _ _ _ _ _ _ _ h1;rw[c]at this;exact this
      ·rw[qd]at h;obtain⟨_,_,j⟩:=h;obtain⟨_,rfl⟩:=j;exact cx.refl _ _
      ·rename_i c;obtain⟨_,rfl⟩:=h;have:=e _ _ _ _ _ _ _ h1;rw[c]at this;exact⟨this.1,fun b l d=>this.2 b (by simp only[Pol.lo];omega) d⟩
theorem jY(c:lV rec){f:FuncId}{args:List bc}(e:(S.hook f).isNone=true)(d:S.pol f= .fresh)(h:co S rec lo f args H=some (r,H')):
 H.length≤H'.length∧∀b,b<H.length→H'[b]?=H[b]?:=by
 unfold co at h;split at h
 ·grind
 ·split at h
  ·cases h
  ·split at h
   ·cases h
   ·split at h
    ·cases h
    ·cases h
    ·rename_i h1;split at h
     ·cases h
     ·rw[d]at h h1;obtain⟨_,rfl⟩:=h;have:=c _ _ _ _ _ _ _ h1;exact⟨this.1,fun b a=>this.2 b (by simp only[Pol.lo];omega) a⟩
theorem BF(f:dk S)(d:lV rec):lV (dT S rec):=by
 intro lo c ρ H x g H' h;unfold dT at h;split at h
 ·obtain⟨_,_,rfl⟩:=h;exact cx.refl _ _
 ·obtain⟨_,_,rfl⟩:=h;exact cx.refl _ _
 ·obtain⟨_,_,rfl⟩:=h;exact cx.refl _ _
 ·obtain⟨_,_,rfl⟩:=h;exact cx.refl _ _
 ·split at h
  ·rename_i h1;exact(d _ _ _ _ _ _ _ h1).trans (d _ _ _ _ _ _ _ h)
  ·exact d _ _ _ _ _ _ _ h
 ·split at h
  ·exact d _ _ _ _ _ _ _ h
  ·exact d _ _ _ _ _ _ _ h
  ·cases h
 ·split at h
  ·rename_i h1;split at h<;>
   ·obtain⟨_,_,rfl⟩:=h;exact d _ _ _ _ _ _ _ h1
  ·exact d _ _ _ _ _ _ _ h
 ·split at h
  ·rename_i h1;exact(d _ _ _ _ _ _ _ h1).trans (d _ _ _ _ _ _ _ h)
  ·exact d _ _ _ _ _ _ _ h
 ·split at h
  ·rw[qd]at h;obtain⟨⟨a,b⟩,h1,e⟩:=h;obtain⟨_,_,rfl⟩:=e;exact CZ (tL f d) h1
  ·rw[qd]at h;obtain⟨⟨a,b⟩,h1,e⟩:=h;obtain⟨_,_,rfl⟩:=e;exact rO (tL f d) h1
 ·cases h
theorem kK{S:bh}(a:dk S):∀n,lV (cB S n)
 |0=>fun _ _ _ _ _ _ _ h=>by cases h
 |n+1=>BF a (kK a n)
end Go.Am
namespace Go.Am
open Go.RowKit
def newAt(ops:Array Oper)(i:Nat):Bool:=match ops[i]? with|some o=>cz o.op|none=>false
def cw(ops:Array Oper)(i:Nat):Bool:=match ops[i]? with|some o=>dw o.op|none=>false
def ka(ops:Array Oper)(i:Nat):Option Tmp:=(ops[i]?).bind (·.dst)
theorem ei:∀(a:List Nat) (H:bd) (b:Nat),(hide H a)[b]?=if b∈a∧b<H.length then some none else H[b]?
 | [],H,b=>by simp[hide]
 |x::a,H,b=>by
  rw[hide,ei a,qu,qg]
  grind
theorem eW:∀(a:List Nat) (H:bd),(hide H a).length=H.length
 | [],H=>rfl
 |x::a,H=>by rw[hide,eW a];simp
theorem dY:∀(a:List Nat) (H0 H:bd),(unhide H0 H a).length=H.length
 | [],_,H=>rfl
 |x::a,H0,H=>by rw[unhide,dY a];simp
theorem cS:∀(a:List Nat) (H0 H:bd) (b:Nat),(unhide H0 H a)[b]?=if b∈a∧b<H.length then some (H0.getD b none)else H[b]?
 | [],_,H,b=>by simp[unhide]
 |x::a,H0,H,b=>by
  rw[unhide,cS a,qu,qg]
  grind
variable {B:List Nat}{b k n0:Nat}{ops:Array Oper}
theorem dx:b∈hidden ops B n0 k↔∃j,j<ops.size∧newAt ops j=true∧(B.getD k 0).testBit j=false∧b=n0+j:=by
 simp only[hidden,List.mem_map,List.mem_filter,List.mem_range,qi,Bool.not_eq_true'];constructor
 ·rintro⟨j,⟨h1,a,c⟩,rfl⟩;exact⟨j,h1,a,c,rfl⟩
 ·rintro⟨j,h1,a,c,rfl⟩;exact⟨j,⟨h1,a,c⟩,rfl⟩
def L3(ops:Array Oper)(B:List Nat):Prop:=
 ∀(D:Nat→Bool),(∀i o,ops[i]?=some o→D i=true→∀e∈o.after.toList,Region.binds .any e=true→D e.on=true)→
  ∀i k,i<ops.size→D i=true→(B.getD i 0).testBit k=true→D k=true
theorem oP(a:List Nat)(k:Nat):∀(es:List Edge) (s:Nat),(es.foldl (fun s e=>if Region.binds .any e then s|||2^e.on|||a.getD e.on 0 else s) s).testBit k=true→
 s.testBit k=true∨∃e∈es,Region.binds .any e=true∧(k=e.on∨(a.getD e.on 0).testBit k=true)
 | [],s,h=>.inl h
 |e::es,s,h=>by
  rcases oP a k es _ h with h1|⟨c,d,f⟩
  all_goals grind
theorem tK{ops:Array Oper}(D:Nat→Bool)(n:∀i o,ops[i]?=some o→D i=true→∀e∈o.after.toList,Region.binds .any e=true→D e.on=true):
 ∀(l:List Oper) (a:List Nat),(∀j,l[j]?=ops[a.length+j]?)→(∀i k,i<a.length→D i=true→(a.getD i 0).testBit k=true→D k=true)→
  ∀i k,D i=true→((mz l a).getD i 0).testBit k=true→D k=true
 | [],a,_,p,i,k,hi,f=>by
  simp only[mz]at f;grind
 |o::l,a,hl,p,i,k,hi,f=>by
  refine tK D n l _ (fun j=>?_) ?_ i k hi f
  ·have:=hl (j+1);grind
  ·intro i k g m c;rcases qk i a.length with h|h
   ·rw[qh,qf h,← qh]at c;grind
   ·have d:i=a.length:=by grind
    subst d;rw[qh,qj (qe _)]at c;simp only[Nat.sub_self,Option.getD_some]at c;have q:ops[a.length]?=some o:=by have:=hl 0;grind
    rcases oP a k _ _ c with h1|⟨e,s,u,w⟩
    all_goals grind
theorem JE(ops:Array Oper):L3 ops (mz ops.toList []):=by
 intro D a i k _ hi c;exact tK D a ops.toList [] (fun j=>by simp) (fun i k h=>by simp at h) i k hi c
theorem Bj{ops:Array Oper}(m:∀j o,ops[j]?=some o→∀e∈o.after.toList,Region.binds .any e=true→e.on<j):∀(l:List Oper) (a:List Nat),(∀j,l[j]?=ops[a.length+j]?)→
 (∀i k,i<a.length→(a.getD i 0).testBit k=true→k<i)→∀i k,((mz l a).getD i 0).testBit k=true→k<i
 | [],a,_,n,i,k,f=>by
  simp only[mz]at f;grind
 |o::l,a,hl,n,i,k,f=>by
  refine Bj m l _ (fun j=>?_) ?_ i k f
  ·have:=hl (j+1);simp at this;rw[this];congr 1;simp;omega
  ·intro i k g c;rcases qk i a.length with h|h
   ·grind
   ·have d:i=a.length:=by grind
    subst d;rw[qh,qj (qe _)]at c;simp only[Nat.sub_self,Option.getD_some]at c;have p:ops[a.length]?=some o:=by have:=hl 0;grind
    rcases oP a k _ _ c with h1|⟨e,q,s,u⟩
    all_goals grind
structure my(ops:Array Oper)(B:List Nat):Prop where
 edge:∀j o,ops[j]?=some o→∀e∈o.after.toList,Region.binds .any e=true→e.on<j
 pair:∀i j x y,i<j→ops[i]?=some x→ops[j]?=some y→(B.getD j 0).testBit i=true∨(Oper.apart ops x y=true∧¬(dw x.op=true∧dw y.op=true))
theorem sQ(h:jq ops B=true):my ops B:=by
 unfold jq at h;rw[List.all_eq_true]at h;have lt:∀j o,ops[j]?=some o→j<ops.size:=by
  grind
 constructor
 ·grind
 ·intro i j x y a d c;have:=h j (List.mem_range.2 (lt j y c));simp at this;unfold GJ at this;grind
inductive rc(S:bh)(call:cJ)(lo n0:Nat)(ops:Array Oper)(B:List Nat)(reads:List (Nat×Nat))(touches:List (Nat×Option (List Nat)))(k:Nat)(o:Oper)(ρ:List bc)(H:bd)(ρ':List bc)(H':bd):Prop where
 |skip (hg:eD ops.toList ρ o=some false) (hρ:ρ'=fV ρ o.dst bz) (hH:H'=H)
 |new (hg:eD ops.toList ρ o=some true) (hn:cz o.op=true) (blk:cb) (mk:Nat→bc) (h:lE S ρ o.op=some (blk,mk)) (hd:H[n0+k]?=some none)
  (hρ:ρ'=fV ρ o.dst (mk (n0+k))) (hH:H'=H.set (n0+k) (some blk))
 |eff (hg:eD ops.toList ρ o=some true) (hn:cz o.op=false) (he:dw o.op=true) (v:bc) (H1:bd) (h:ek S call lo ρ (hide H (hidden ops B n0 k)) o.op=some (v,H1)) (hl:H.length≤H1.length)
  (hρ:ρ'=fV ρ o.dst v) (hH:H'=unhide H H1 (hidden ops B n0 k)) (ht:(k,dG S ρ o.op (hide H (hidden ops B n0 k)) H1)∈touches)
 |quiet (hg:eD ops.toList ρ o=some true) (hn:cz o.op=false) (he:dw o.op=false) (v:bc) (h:bR S ρ H o.op=some v) (hρ:ρ'=fV ρ o.dst v) (hH:H'=H)
  (hr:∀b,eQ S ρ o.op=some b→(k,b)∈reads)
variable {H H':bd}{S:bh}{call:cJ}{lo:Nat}{ρ:List bc}
theorem rc.more{reads m:List (Nat×Nat)}{touches j:List (Nat×Option (List Nat))}{o:Oper}{n:List bc}
 (q:∀x∈reads,x∈m) (s:∀x∈touches,x∈j) (h:rc S call lo n0 ops B reads touches k o ρ H n H'):rc S call lo n0 ops B m j k o ρ H n H':=by
 cases h with
 |skip a b c=>exact .skip a b c
 |new a b c d e f g h=>exact .new a b c d e f g h
 |eff a b c d e f l g h i=>exact .eff a b c d e f l g h (s _ i)
 |quiet a b c d e f g h=>exact .quiet a b c d e f g fun x p=>q _ (h x p)
theorem na{S:bh}{call:cJ}{lo n0:Nat}{ops:Array Oper}{B:List Nat}:∀(l:List Oper) (k:Nat) (ρ:List bc) (H:bd) (r:lr),cy S call lo n0 ops B l k ρ H=some r→
 (∀j,l[j]?=ops[k+j]?)→k+l.length=ops.size→
 ∃(ρs:Nat→List bc) (Hs:Nat→bd),ρs k=ρ∧Hs k=H∧ρs ops.size=r.ρ∧Hs ops.size=r.H∧
  ∀j o,k≤j→ops[j]?=some o→rc S call lo n0 ops B r.reads r.touches j o (ρs j) (Hs j) (ρs (j+1)) (Hs (j+1))
 | [],k,ρ,H,r,h,hl,I=>by
  simp only[cy,qa]at h;subst h;refine⟨fun _=>ρ,fun _=>H,rfl,rfl,rfl,rfl,fun j o D z=>?_⟩
  grind
 |o::l,k,ρ,H,r,h,hl,I=>by
  have z:ops[k]?=some o:=by have:=hl 0;grind
  have q:∀j,l[j]?=ops[k+1+j]?:=fun j=>by have:=hl (j+1);grind
  have s:k+1+l.length=ops.size:=by grind
  have build:∀(p:List bc) (H1:bd) (r1:lr),cy S call lo n0 ops B l (k+1) p H1=some r1→r1.ρ=r.ρ→r1.H=r.H→(∀x∈r1.reads,x∈r.reads)→(∀x∈r1.touches,x∈r.touches)→
   rc S call lo n0 ops B r.reads r.touches k o ρ H p H1→
   ∃(ρs:Nat→List bc) (Hs:Nat→bd),ρs k=ρ∧Hs k=H∧ρs ops.size=r.ρ∧Hs ops.size=r.H∧
    ∀j o,k≤j→ops[j]?=some o→rc S call lo n0 ops B r.reads r.touches j o (ρs j) (Hs j) (ρs (j+1)) (Hs (j+1)):=by
   intro p H1 r1 a e1 e2 A C w;obtain⟨ρs,Hs,g1,J,K,L,E⟩:=na l (k+1) p H1 r1 a q s;refine⟨fun j=>if j=k then ρ else ρs j,fun j=>if j=k then H else Hs j,by simp,by simp, ?_, ?_, ?_⟩
   ·grind
   ·grind
   ·intro j o' D u
    by_cases e:j=k
    ·grind
    ·simp only;rw[if_neg e,if_neg e,if_neg (by omega),if_neg (by omega)]
     exact(E j o' (by omega) u).more A C
  simp only[cy]at h;split at h
  ·cases h
  ·rename_i c;exact build _ _ r h rfl rfl (fun _ h=>h) (fun _ h=>h) (.skip c rfl rfl)
  ·rename_i c;split at h
   ·rename_i d;split at h
    ·cases h
    ·rename_i blk mk f;split at h
     ·rename_i w;exact build _ _ r h rfl rfl (fun _ h=>h) (fun _ h=>h) (.new c d blk mk f w rfl rfl)
     ·cases h
   ·rename_i d;simp at d;split at h
    ·rename_i g;split at h
     ·cases h
     ·rename_i v H1 m;split at h
      ·rename_i n;split at h
       ·cases h
       ·rename_i r1 a;simp at h;subst h;exact build _ _ r1 a rfl rfl (fun _ h=>h) (fun _ h=>List.mem_cons_of_mem _ h) (.eff c d g v H1 m n rfl rfl (List.mem_cons_self ..))
      ·cases h
    ·rename_i g;simp at g;split at h
     ·cases h
     ·rename_i v y;split at h
      ·cases h
      ·rename_i r1 a;split at h
       ·simp at h;subst h;exact build _ _ r1 a rfl rfl (fun _ h=>h) (fun _ h=>h) (.quiet c d g v y rfl rfl (fun b G=>by grind))
       ·simp at h;subst h;refine build _ _ r1 a rfl rfl (fun _ h=>List.mem_cons_of_mem _ h) (fun _ h=>h) (.quiet c d g v y rfl rfl (fun M G=>?_))
        grind
def i6(S:bh)(call:cJ):Prop:=∀lo g args H r H',ma S g=true→call lo g args H=some (r,H')→H.length≤H'.length∧∀b,b<H.length→H'[b]?=H[b]?
theorem wU(S:bh){a:ic}(f:lV a):i6 S (co S a):=by
 intro lo g args H r H' c h;rw[ma,Bool.or_eq_true,qi,Bool.or_eq_true,beq_iff_eq,beq_iff_eq]at c;rcases c with e|⟨c,d|d⟩
 ·obtain⟨j,h1,m⟩:=S.quietOk g e;simp only[co]at h;grind
 ·unfold co at h;split at h
  ·grind
  ·split at h
   ·cases h
   ·split at h
    ·cases h
    ·split at h
     ·cases h
     ·cases h
     ·split at h
      ·cases h
      ·rw[d]at h;simp only[finish]at h;rw[qd]at h;grind
 ·exact jY f c d h
variable {H1:bd}{l:List Nat}{op:Op}{v:bc}
set_option maxHeartbeats 1000000 in
theorem Da(q:i6 S call)(h:ek S call lo ρ H op=some (v,H1))(a:dJ S ρ op=some l):
 H.length≤H1.length∧∀b,b<H.length→b∉l→H1[b]?=H[b]?:=by
 have j:∀(H:bd) (x b:Nat) (y:Option cb),b≠x→(H.set x y)[b]?=H[b]?:=fun H x b y z=>by grind
 have upd:∀{t:TypeId} {m k y:bc} {H1:bd},c9 S.P lo t H m k y=some H1→(cN m).toList=l→H.length≤H1.length∧∀b,b<H.length→b∉l→H1[b]?=H[b]?:=by
  intro t m k y H1 h hl;unfold c9 at h
  (repeat' split at h)<;>first
   |(cases h;done)
   |(simp at h
     simp only[cN]at hl;grind)
 unfold ek at h;split at h
 ·rw[qd]at h;obtain⟨n,h1,f⟩:=h;simp only[dJ]at a;unfold fw at h1;split at h1
  ·rename_i b off e;simp only[cN]at a;grind
  ·cases h1
 ·rw[qd]at h;obtain⟨n,h1,f⟩:=h;simp only[dJ]at a;grind
 ·rw[qd]at h;obtain⟨n,h1,f⟩:=h;simp only[dJ]at a;grind
 ·simp only[dJ]at a;unfold qL at h
  (repeat' split at h)<;>first
   |(cases h;done)
   |(simp only[cN]at a
     grind)
 ·cases a
 ·cases a
 ·cases a
 ·rename_i args w;split at h
  ·rename_i s x t u e1 e2;have o:∃d,args[0]?=some d∧bj S ρ d=s:=by
    cases hargs:args.toList with
    |nil=>grind
    |cons d rest=>
     rw[hargs]at e1;simp at e1;have:args.toList[0]?=some d:=by grind
     grind
   obtain⟨d,h1,f⟩:=o;simp only[dJ,h1,f]at a;unfold bM at h
   (repeat' split at h)<;>first
    |grind
    |grind
    |grind
  ·cases h
 ·split at h
  ·rename_i g first c e;simp only[dJ,e]at a;split at a
   ·rename_i p;split at h
    ·grind
    ·have:=q _ _ _ _ _ _ p h;grind
   ·cases a
  ·cases h
 ·cases a
 ·cases h
theorem jb:∀{as c:List bc},eB as c=true→as=c
 | [],[],_=>rfl
 | [],_::_,h=>by simp[eB]at h
 |a::as,[],h=>by cases a<;>simp[eB]at h
 |a::as,b::c,h=>by
  cases a<;>cases b<;>simp only[eB]at h<;>try cases h
  ·simp at h;obtain⟨⟨rfl,rfl⟩,h⟩:=h;rw[jb h]
  ·simp at h;obtain⟨⟨rfl,rfl⟩,h⟩:=h;rw[jb h]
  ·rw[jb h]
  ·simp at h;obtain⟨⟨⟨⟨⟨⟨rfl,rfl⟩,rfl⟩,rfl⟩,rfl⟩,rfl⟩,h⟩:=h;rw[jb h]
theorem EH{x y:Option (Option cb)}(h:tB x y=true):x=y:=by
 unfold tB at h;split at h
 ·rw[jb h]
 ·cases h
theorem vF(f:i6 S call)(h:ek S call lo ρ H op=some (v,H1))(hl:H.length≤H1.length)(a:dG S ρ op H H1=some l):
 H.length≤H1.length∧∀b,b<H.length→b∉l→H1[b]?=H[b]?:=by
 unfold dG at a;split at a
 ·rename_i g e;cases a;exact Da f h e
 ·cases a;refine⟨hl,fun b c d=>?_⟩
  have:tB H[b]? H1[b]?=true:=by
   cases hs:tB H[b]? H1[b]? with
   |true=>rfl
   |false=>exact(d (List.mem_filter.2 ⟨List.mem_range.2 c,by grind⟩)).elim
  exact(EH this).symm
theorem wS(h:∀b,eQ S ρ op=some b→H'[b]?=H[b]?):bR S ρ H' op=bR S ρ H op:=by
 have c:∀x,(∀b,cN x=some b→H'[b]?=H[b]?)→atA H' x=atA H x:=by
  intro x a;cases x<;>simp only[atA]
  rw[a _ rfl]
 unfold bR;split<;>try rfl
 ·simp only[hM];rw[c _ h]
 ·rename_i s d x;have a:∀sz b off len cap ex,bj S ρ x= .sl sz b off len cap ex→H'[b]?=H[b]?:=fun sz b off len cap ex e=>h b (by simp only[eQ,e,pe])
  unfold ee;split
  ·rfl
  ·unfold fj;grind
 ·rename_i t x lo hi mx;have a:∀b off,bj S ρ x= .ptr b off→H'[b]?=H[b]?:=fun b off e=>h b (by simp only[eQ,e,cN])
  unfold b9;grind
 ·rename_i t m x ok;have a:∀b,bj S ρ m= .mapr b→H'[b]?=H[b]?:=fun b e=>h b (by simp only[eQ,e,cN])
  unfold gy;grind
 ·split<;>try rfl
  rename_i t x g a;have f:∀b,bj S ρ x= .mapr b→H'[b]?=H[b]?:=fun b e=>h b (by simp only[eQ,a,e])
  unfold jJ;grind
variable {P:Program}{hi mx:Option bc}{off:Nat}{t:TypeId}
theorem rU{lo:Option bc}(a:∀blk,H[b]?≠some (some blk)):b9 P t H (.ptr b off) lo hi mx=none:=by
 unfold b9;grind
theorem ug{lo:Option bc}:b9 P t H (.mapr b) lo hi mx=none:=by
 unfold b9;grind
variable {ok:Bool}{x:bc}
theorem xR(a:∀blk,H[b]?≠some (some blk)):gy P t H (.mapr b) x ok=none:=by
 unfold gy;grind
theorem y8:gy P t H (.ptr b off) x ok=none:=by
 unfold gy;grind
theorem Hk(a:∀blk,H[b]?≠some (some blk)):jJ P t H (.mapr b)=none:=by
 unfold jJ;grind
theorem yY(h:bR S ρ H op=some v)(a:eQ S ρ op=some b):∃blk,H[b]?=some (some blk):=by
 have ptr:∀x,cN x=some b→(∃off,x= .ptr b off)∨x= .mapr b:=by
  intro x f;cases x<;>simp only[cN,qa]at f<;>first|grind|simp_all
 by_cases j:∃blk,H[b]?=some (some blk)
 ·exact j
 ·have c:∀blk,H[b]?≠some (some blk):=fun blk e=>j ⟨blk,e⟩
  unfold eQ at a;split at a
  ·simp only[bR,hM]at h;rw[Option.bind_eq_some_iff]at h;obtain⟨cs,h1,_⟩:=h;rcases ptr _ a with⟨off,e⟩|e<;>rw[e]at h1<;>simp only[atA]at h1
   all_goals grind
  ·simp only[bR]at h;rcases ptr _ a with⟨off,e⟩|e<;>rw[e]at h
   ·rw[y8]at h;cases h
   ·rw[xR c]at h;cases h
  ·simp only[bR]at h;rcases ptr _ a with⟨off,e⟩|e<;>rw[e]at h
   ·rw[rU c]at h;cases h
   ·rw[ug]at h;cases h
  ·rename_i s d x;simp only[bR]at h;cases e:bj S ρ x<;>rw[e]at a<;>simp only[pe,qa]at a<;>first|grind|skip
   unfold ee at h;split at h
   ·rename_i hc;unfold iu at hc
    grind
   ·unfold fj at h;grind
  ·simp only[bR]at h;split at a
   ·rename_i x f;split at a
    ·rename_i m e;cases a;rw[f]at h;split at h
     ·rename_i t n o g;cases g;rw[e]at h;rw[Hk c]at h;cases h
     ·cases h
    ·cases a
   ·cases a
  ·cases a
end Go.Am
namespace Go.Am
open Go.RowKit
structure Tra(S:bh)(call:cJ)(lo n0:Nat)(ops:Array Oper)(B:List Nat)(reads:List (Nat×Nat))(touches:List (Nat×Option (List Nat)))(ρs:Nat→List bc)(Hs:Nat→bd):Prop where
 step:∀j o,ops[j]?=some o→rc S call lo n0 ops B reads touches j o (ρs j) (Hs j) (ρs (j+1)) (Hs (j+1))
 pair:my ops B
 bits:L3 ops B
 lt:∀i k,(B.getD i 0).testBit k=true→k<i
 apart:apartB B reads touches=true
 still:i6 S call
 wide:∀m,m<ops.size→newAt ops m=true→n0+m<(Hs 0).length
variable {S:bh}{call:cJ}{lo n0:Nat}{ops:Array Oper}{B:List Nat}{reads:List (Nat×Nat)}{touches:List (Nat×Option (List Nat))}{ρs:Nat→List bc}{Hs:Nat→bd}
theorem wM(ρ:List bc)(d:Option Tmp)(v:bc):(fV ρ d v).length=ρ.length:=by cases d<;>simp[fV]
theorem zU(ρ:List bc)(d:Option Tmp)(v:bc)(s:Nat)(h:d≠some s):(fV ρ d v).getD s bz=ρ.getD s bz:=by
 cases d with
 |none=>rfl
 |some d=>
  have:d≠s:=fun e=>h (by rw[e])
  simp only[fV,qh,qg,if_neg this]
variable {j:Nat}{o:Oper}
theorem Tra.put(T:Tra S call lo n0 ops B reads touches ρs Hs)(a:ops[j]?=some o):∃v,ρs (j+1)=fV (ρs j) o.dst v:=by
 cases T.step j o a with
 |skip _ h _=>grind
 |new _ _ _ _ _ _ h _=>grind
 |eff _ _ _ _ _ _ _ h _ _=>grind
 |quiet _ _ _ _ _ h _ _=>grind
theorem Tra.slot(T:Tra S call lo n0 ops B reads touches ρs Hs)(s:Nat):∀(d p:Nat),p+d≤ops.size→(∀j,p≤j→j<p+d→ka ops j≠some s)→(ρs (p+d)).getD s bz=(ρs p).getD s bz
 |0,p,_,_=>rfl
 |d+1,p,f,h=>by
  have a:p+d<ops.size:=by omega
  obtain⟨v,c⟩:=T.put (j:=p+d) (o:=ops[p+d]) (by simp)
  rw[show p+(d+1)=p+d+1 by omega,c,zU _ _ _ _ (by have:=h (p+d) (by omega) (by omega);simpa[ka,a]using this)]
  exact T.slot s d p (by omega) fun j h1 e=>h j h1 (by omega)
theorem Tra.len(T:Tra S call lo n0 ops B reads touches ρs Hs):∀k,k≤ops.size→(ρs k).length=(ρs 0).length
 |0,_=>rfl
 |k+1,h=>by
  obtain⟨v,a⟩:=T.put (j:=k) (o:=ops[k]'(by omega)) (by grind)
  rw[a,wM];exact T.len k (by omega)
def gr(S:bh)(ops:Array Oper)(ρs:Nat→List bc)(j:Nat):Bool:=
 match ops[j]? with
 |some o=>cz o.op && eD ops.toList (ρs j) o==some true
 |none=>false
def isN(S:bh)(ops:Array Oper)(ρs:Nat→List bc)(n0 b:Nat):Bool:=decide (n0≤b) && gr S ops ρs (b-n0)
def BU(Hs:Nat→bd)(j b:Nat):Prop:=b<(Hs j).length→(Hs (j+1))[b]?=(Hs j)[b]?∧b<(Hs (j+1)).length
theorem qH(b:Nat):∀(d p:Nat),b<(Hs p).length→(∀j,p≤j→j<p+d→BU Hs j b)→(Hs (p+d))[b]?=(Hs p)[b]?∧b<(Hs (p+d)).length
 |0,p,h,_=>⟨rfl,h⟩
 |d+1,p,h,a=>by
  obtain⟨h1,c⟩:=qH b d p h fun j g1 g=>a j g1 (by omega)
  obtain⟨e,f⟩:=a (p+d) (by omega) (by omega) c
  grind
variable {b p:Nat}
theorem ga{q:Nat}(a:p≤q)(h:b<(Hs p).length)(c:∀j,p≤j→j<q→BU Hs j b):(Hs q)[b]?=(Hs p)[b]?∧b<(Hs q).length:=by
 have:=qH (Hs:=Hs) b (q-p) p h fun j h1 d=>c j h1 (by omega)
 grind
theorem Tra.keep_calm(T:Tra S call lo n0 ops B reads touches ρs Hs)(g:j<ops.size)(d:cw ops j=false)(k:gr S ops ρs j=true→b≠n0+j):BU Hs j b:=by
 intro f;have c:ops[j]?=some ops[j]:=by simp
 cases T.step j _ c with
 |skip _ _ h=>grind
 |new e a _ _ _ _ _ h=>
  have:gr S ops ρs j=true:=by simp[gr,c,a,e]
  grind
 |eff _ _ h _ _ _ _ _ _ _=>simp[cw]at d;grind
 |quiet _ _ _ _ _ _ h _=>grind
theorem Tra.keep_hidden(T:Tra S call lo n0 ops B reads touches ρs Hs){m:Nat}(l:j<ops.size)(d:cw ops j=true)(f:m<ops.size)(g:newAt ops m=true)(k:(B.getD j 0).testBit m=false):BU Hs j (n0+m):=by
 intro hl;have c:ops[j]?=some ops[j]:=by simp
 cases T.step j _ c with
 |skip _ _ h=>grind
 |new _ a _ _ _ _ _ _=>
  simp[cw,c]at d;generalize (ops[j]).op=op at*;cases op<;>simp[cz,dw]at a d
 |eff _ _ _ v H1 _ e _ h _=>
  rw[h];rw[dY];rw[cS,if_pos ⟨dx.2 ⟨m,f,g,k,rfl⟩,by omega⟩]
  grind
 |quiet _ _ n _ _ _ _ _=>grind
variable {i:Nat}
theorem Tra.keep_far(T:Tra S call lo n0 ops B reads touches ρs Hs)(u:j<ops.size)(n:cw ops j=true)(q:(i,b)∈reads)(h1:(B.getD i 0).testBit j=false)(s:(B.getD j 0).testBit i=false):BU Hs j b:=by
 intro hl;have k:ops[j]?=some ops[j]:=by simp
 cases T.step j _ k with
 |skip _ _ h=>grind
 |new _ g _ _ _ _ _ _=>
  simp[cw,k]at n;generalize (ops[j]).op=op at*;cases op<;>simp[cz,dw]at g n
 |eff _ _ _ v H1 c d _ h t=>
  have a:=T.apart;unfold apartB at a;rw[List.all_eq_true]at a;have:=a _ q;rw[List.all_eq_true]at this;have:=this _ t;simp only[h1,s]at this;split at this
  ·rename_i l f;have e:b∉l:=by grind
   obtain⟨g1,m⟩:=vF T.still c (by rw[eW];exact d) f
   rw[eW]at g1 m;rw[h,dY,cS];refine⟨?_,by omega⟩
   split
   ·grind
   ·rw[m b hl e,ei,if_neg];grind
  ·cases this
 |quiet _ _ w _ _ _ _ _=>grind
theorem Tra.mono1(T:Tra S call lo n0 ops B reads touches ρs Hs)(a:j<ops.size):(Hs j).length≤(Hs (j+1)).length:=by
 cases T.step j _ (show ops[j]?=some ops[j]by simp)with
 |skip _ _ h=>grind
 |new _ _ _ _ _ _ _ h=>rw[h];simp
 |eff _ _ _ _ _ _ hl _ h _=>rw[h,dY];exact hl
 |quiet _ _ _ _ _ _ h _=>grind
theorem Tra.mono(T:Tra S call lo n0 ops B reads touches ρs Hs):∀(q:Nat),p≤q→q≤ops.size→(Hs p).length≤(Hs q).length
 |0,h,_=>by grind
 |q+1,h,a=>by
  rcases Nat.eq_or_lt_of_le h with h1|h1
  ·grind
  ·exact Nat.le_trans (T.mono q (by omega) (by omega)) (T.mono1 (by omega))
theorem Tra.calm_len(T:Tra S call lo n0 ops B reads touches ρs Hs):∀(d p:Nat),p+d≤ops.size→(∀j,p≤j→j<p+d→cw ops j=false)→(Hs (p+d)).length=(Hs p).length
 |0,_,_,_=>rfl
 |d+1,p,k,h=>by
  have a:p+d<ops.size:=by omega
  have c:=T.calm_len d p (by omega) fun j h1 g=>h j h1 (by omega)
  rw[← c,show p+(d+1)=p+d+1 by omega]
  have e:=h (p+d) (by omega) (by omega)
  have f:ops[p+d]?=some ops[p+d]:=by simp
  cases T.step (p+d) _ f with
  |skip _ _ h=>rw[h]
  |new _ _ _ _ _ _ _ h=>rw[h];simp
  |eff _ _ h _ _ _ _ _ _ _=>simp[cw]at e;grind
  |quiet _ _ _ _ _ _ h _=>rw[h]
def tm(S:bh)(ops:Array Oper)(ρs:Nat→List bc)(n0 a b:Nat):Nat:=if isN S ops ρs n0 b then max a (b-n0+1)else a
def HD(S:bh)(ops:Array Oper)(ρs:Nat→List bc)(Hs:Nat→bd)(n0:Nat)(D:Nat→Bool)(a:Nat):bd:=
 (List.range (Hs a).length).map fun b=>if isN S ops ρs n0 b && !D (b-n0)then none else(Hs (tm S ops ρs n0 a b)).getD b none
theorem cZ(D:Nat→Bool)(a:Nat):(HD S ops ρs Hs n0 D a).length=(Hs a).length:=by simp[HD]
variable {D:Nat→Bool}
theorem dQ{a:Nat}{blk:cb}:(HD S ops ρs Hs n0 D a)[b]?=some (some blk)↔
 b<(Hs a).length∧(isN S ops ρs n0 b=true→D (b-n0)=true)∧(Hs (tm S ops ρs n0 a b))[b]?=some (some blk):=by
 unfold HD;grind
structure Inv(S:bh)(lo n0:Nat)(ops:Array Oper)(ρs:Nat→List bc)(Hs:Nat→bd)(c0:Cx)(H0:bd)(D:Nat→Bool)(tE:Nat)(c:Cx)(a:Act):Prop where
 tEn:tE≤ops.size
 eff:∀j,D j=true→cw ops j=true→j<tE
 last:tE=0∨∃p,tE=p+1∧D p=true∧cw ops p=true
 slots:∀s,∃t,t≤ops.size∧(t=0∨∃p,t=p+1∧D p=true∧ka ops p=some s)∧(∀j,D j=true→ka ops j=some s→j<t)∧V c ((ρs t).getD s bz) (a.tmps.getD s undef)
 size:a.tmps.size=(ρs 0).length
 rel:Rel c (HD S ops ρs Hs n0 D tE)
 tr:Tr c0 H0 c (HD S ops ρs Hs n0 D tE)
 low:Low lo c0 H0 c (HD S ops ρs Hs n0 D tE)
 undone:∀m,gr S ops ρs m=true→D m=false→c.ι (n0+m)=none
 defers:a.defers=[]
 down:∀i o,ops[i]?=some o→D i=true→∀e∈o.after.toList,Region.binds .any e=true→D e.on=true
 dlt:∀i,D i=true→i<ops.size
 glob:cV S c
 base:H0.length≤n0
structure Ready(ops:Array Oper)(D:Nat→Bool)(i:Nat)(o:Oper):Prop where
 op:ops[i]?=some o
 not:D i=false
 pre:∀e∈o.after.toList,Region.binds .any e=true→D e.on=true
theorem Ready.bit(f:Ready ops D i o)(l:L3 ops B)(m:∀i k,(B.getD i 0).testBit k=true→k<i)
 (down:∀i o,ops[i]?=some o→D i=true→∀e∈o.after.toList,Region.binds .any e=true→D e.on=true) {k:Nat} (n:(B.getD i 0).testBit k=true):D k=true:=by
 have g:i<ops.size:=(Array.getElem?_eq_some_iff.1 f.op).1;have:=l (fun x=>D x||x==i) (by
  intro x o' a c e h d;simp at c ⊢;rcases c with c|c
  ·grind
  ·subst c;rw[f.op]at a;cases a;exact .inl (f.pre e h d)) i k g (by simp) n
 grind
end Go.Am
namespace Go.Am
open Go.RowKit
variable {S:bh}{call:cJ}{lo n0:Nat}{ops:Array Oper}{B:List Nat}{reads:List (Nat×Nat)}{touches:List (Nat×Option (List Nat))}{ρs:Nat→List bc}{Hs:Nat→bd}
variable {c0 c:Cx}{H0:bd}{D:Nat→Bool}{tE:Nat}{a:Act}
variable {H H2:bd}
theorem Rel.sub{c:Cx}(e:Rel c H)(d:∀(b:Nat) (blk:cb),H2[b]?=some (some blk)→H[b]?=some (some blk))(hl:H.length≤H2.length):Rel c H2:=
 ⟨fun b blk h=>e.blk b blk (d b blk h),fun b f x g B y j h k=>e.inj b f x g B y j (d b x h) (d f g k),fun b l=>e.fresh b (by omega),e.lt⟩
theorem Tr.sub{c:Cx}(d:∀(b:Nat) (blk:cb),H2[b]?=some (some blk)→H[b]?=some (some blk)):Tr c H c H2:=
 ⟨Ext.refl c,qe _,fun _ _ _=>rfl,(fun B _ h=>by obtain⟨b,blk,base,h1,e⟩:=h;exact⟨b,blk,base,d b blk h1,e⟩),fun _ _ h=>.inl h,rfl,rfl,rfl⟩
theorem xg{ops:Array Oper}{p:Nat}(h:p<ops.size):∃x,ops[p]?=some x:=⟨ops[p],by simp⟩
variable {m:Nat}
theorem f0(h:gr S ops ρs m=true):newAt ops m=true∧m<ops.size:=by
 unfold gr at h;unfold newAt;grind
variable {b:Nat}
theorem fS(h:isN S ops ρs n0 b=true):n0≤b∧gr S ops ρs (b-n0)=true:=by
 simpa[isN]using h
theorem vb(h:gr S ops ρs m=true):isN S ops ρs n0 (n0+m)=true:=by
 simp[isN,h]
theorem kF(h:newAt ops m=true):cw ops m=false:=by
 unfold newAt at h;unfold cw;cases ho:ops[m]? with
 |none=>rfl
 |some o=>
  rw[ho]at h;simp only at h ⊢;generalize o.op=op at*;cases op<;>simp[cz,dw]at h ⊢
theorem Inv.effs(T:Tra S call lo n0 ops B reads touches ρs Hs)(I:Inv S lo n0 ops ρs Hs c0 H0 D tE c a){k:Nat}(q:k<tE)(n:cw ops k=true):D k=true:=by
 rcases I.last with h|⟨p,h,l,g⟩
 ·omega
 ·rcases Nat.eq_or_lt_of_le (show k≤p by omega)with h1|h1
  ·grind
  ·have d:=I.dlt p l;have e:ops[k]?=some ops[k]:=by grind
   have f:ops[p]?=some ops[p]:=by simp
   rcases T.pair.pair k p _ _ h1 e f with j|⟨_,j⟩
   ·exact T.bits D I.down p k d l j
   ·exact absurd ⟨by simpa[cw,e]using n,by simpa[cw,f]using g⟩ j
variable {i:Nat}{o:Oper}
theorem Inv.not_behind(T:Tra S call lo n0 ops B reads touches ρs Hs)(I:Inv S lo n0 ops ρs Hs c0 H0 D tE c a)(e:Ready ops D i o){j:Nat}(d:D j=true):(B.getD j 0).testBit i=false:=by
 cases h:(B.getD j 0).testBit i with
 |false=>rfl
 |true=>
  have:=T.bits D I.down j i (I.dlt j d) d h;rw[e.not]at this;cases this
theorem Inv.next(T:Tra S call lo n0 ops B reads touches ρs Hs)(I:Inv S lo n0 ops ρs Hs c0 H0 D tE c a)(e:Ready ops D i o)(q:cw ops i=true):tE≤i∧∀k,k<i→cw ops k=true→k<tE:=by
 have t:i<ops.size:=(Array.getElem?_eq_some_iff.1 e.op).1;refine⟨?_, ?_⟩
 ·rcases I.last with h|⟨p,h,l,n⟩
  ·omega
  ·rcases Nat.lt_trichotomy p i with h1|h1|h1
   ·omega
   ·subst h1;rw[e.not]at l;cases l
   ·obtain⟨y,j⟩:=xg (I.dlt p l);rcases T.pair.pair i p _ _ h1 e.op j with d|⟨_,d⟩
    ·rw[I.not_behind T e l]at d;cases d
    ·exact absurd ⟨by simpa[cw,e.op]using q,by simpa[cw,j]using n⟩ d
 ·intro k s g;have f:ops[k]?=some ops[k]:=by grind
  rcases T.pair.pair k i _ _ s f e.op with d|⟨_,d⟩
  ·exact I.eff k (e.bit T.bits T.lt I.down d) g
  ·exact absurd ⟨by simpa[cw,f]using g,by simpa[cw,e.op]using q⟩ d
theorem Inv.look(T:Tra S call lo n0 ops B reads touches ρs Hs)(I:Inv S lo n0 ops ρs Hs c0 H0 D tE c a)(e:Ready ops D i o){s:Nat}(w:s∈o.looksAt ops):V c ((ρs i).getD s bz) (a.tmps.getD s undef):=by
 have J:i<ops.size:=(Array.getElem?_eq_some_iff.1 e.op).1;obtain⟨t,h1,E,G,K⟩:=I.slots s;have x:t≤i:=by
  rcases E with h|⟨p,h,n,l⟩
  ·omega
  ·rcases Nat.lt_trichotomy p i with g|g|g
   ·omega
   ·subst g;rw[e.not]at n;cases n
   ·obtain⟨y,k⟩:=xg (I.dlt p n);rcases T.pair.pair i p _ _ g e.op k with d|⟨d,_⟩
    ·rw[I.not_behind T e n]at d;cases d
    ·exact absurd w ((Oper.apart_spec d).2.2 s (by simpa[ka,k]using l))
 have:=T.slot s (i-t) t (by omega) (by
  intro j A C l;have z:j<ops.size:=by omega
  have f:ops[j]?=some ops[j]:=by simp
  have q:j<i:=by omega
  rcases T.pair.pair j i _ _ q f e.op with d|⟨d,_⟩
  ·have:=G j (e.bit T.bits T.lt I.down d) l;omega
  ·exact(Oper.apart_spec d).1 s (by simpa[ka,f]using l) w)
 grind
theorem Inv.evOn(T:Tra S call lo n0 ops B reads touches ρs Hs)(I:Inv S lo n0 ops ρs Hs c0 H0 D tE c a)(d:Ready ops D i o):xk S c (ρs i) a o.op.operands:=by
 intro x e;cases x with
 |tmp t=>
  have:t∈o.looksAt ops:=by
   refine List.mem_append.2 (.inl ?_);rw[List.mem_filterMap];exact⟨.tmp t,by grind,rfl⟩
  exact I.look T d this
 |const v=>exact ra c v
 |global g=>
  simp only[bj];split
  ·rename_i cs h;exact I.glob.v g cs h
  ·simp[V]
 |func f=>
  exact⟨[],[],rfl,by simp[Vs],by simp[Vs]⟩
theorem Inv.guard(T:Tra S call lo n0 ops B reads touches ρs Hs)(I:Inv S lo n0 ops ρs Hs c0 H0 D tE c a)(y:Ready ops D i o){g:Bool}(h:eD ops.toList (ρs i) o=some g):Region.wanted o (yielded ops a.tmps)=g:=by
 have E:i<ops.size:=(Array.getElem?_eq_some_iff.1 y.op).1;have f:(ρs i).length=a.tmps.size:=by rw[T.len i (by omega),I.size]
 unfold eD at h;unfold Region.wanted;split at h
 ·grind
 ·rename_i j x A;rw[A];simp only;have k:ops.toList[j]?=ops[j]?:=by simp
  rw[k]at h;split at h
  ·rename_i q;simp at h;subst h;simp[yielded,q]
  ·rename_i d q;have l:d∈o.looksAt ops:=by
    unfold Oper.looksAt;grind
   have p:=I.look T y l;split at h
   ·simp at h;subst h;have:a.tmps[d]?=none:=by
     grind
    simp[yielded,q,this]
   ·rename_i C n;simp at h;subst h;have s:d<a.tmps.size:=Nat.lt_of_lt_of_eq (List.getElem?_eq_some_iff.1 n).1 f;rw[qh,n]at p;simp only[Option.getD_some,V]at p;have:a.tmps[d]?=some (.bool C):=by
     simp_all
    simp[yielded,q,this]
   ·cases h
   ·rename_i av t w n;simp at h;subst h;have s:d<a.tmps.size:=Nat.lt_of_lt_of_eq (List.getElem?_eq_some_iff.1 n).1 f;rw[qh,n]at p;have G:=wO p (fun b e=>t b e) (fun e=>w e)
    have z:yielded ops a.tmps j=none:=by
     simp only[yielded,Option.bind_some];simp_all
    rw[z];rfl
variable {u:Value}{v:bc}
theorem Inv.slots'(T:Tra S call lo n0 ops B reads touches ρs Hs)(I:Inv S lo n0 ops ρs Hs c0 H0 D tE c a)(q:Ready ops D i o){c':Cx}(A:Ext c c')(K:V c' v u)
 (C:ρs (i+1)=fV (ρs i) o.dst v):∀s,∃t,t≤ops.size∧(t=0∨∃p,t=p+1∧(D p||p==i)=true∧ka ops p=some s)∧(∀j,(D j||j==i)=true→ka ops j=some s→j<t)∧
  V c' ((ρs t).getD s bz) ((a.put o.dst u).tmps.getD s undef):=by
 have E:i<ops.size:=(Array.getElem?_eq_some_iff.1 q.op).1;have g:(ρs i).length=a.tmps.size:=by rw[T.len i (by omega),I.size]
 intro s
 by_cases w:o.dst=some s
 ·refine⟨i+1,by omega,.inr ⟨i,rfl,by simp,by simp[ka,q.op,w]⟩, ?_, ?_⟩
  ·intro j f l;simp at f;rcases f with f|f
   ·rcases Nat.lt_trichotomy j i with h1|h1|h1
    ·omega
    ·omega
    ·obtain⟨y,n⟩:=xg (I.dlt j f);rcases T.pair.pair i j _ _ h1 q.op n with x|⟨x,_⟩
     ·rw[I.not_behind T q f]at x;cases x
     ·exact absurd (by simpa[ka,n]using l) ((Oper.apart_spec x).2.1 s w)
   ·omega
  ·rw[C,w];simp only[fV,Act.put];rw[qh,Array.getD_eq_getD_getElem?,qg,if_pos rfl]
   by_cases k:s<(ρs i).length
   ·grind
   ·rw[if_neg k,Array.getElem?_setIfInBounds,if_pos rfl,if_neg (fun h=>k (Nat.lt_of_lt_of_eq h g.symm))]
    exact iG c'
 ·obtain⟨t,h1,G,J,z⟩:=I.slots s;refine⟨t,h1, ?_, ?_, ?_⟩
  ·grind
  ·intro j f l;simp at f;rcases f with f|f
   ·grind
   ·subst f;simp only[ka,q.op]at l;grind
  ·have:(a.put o.dst u).tmps.getD s undef=a.tmps.getD s undef:=by
    cases l:o.dst with
    |none=>rfl
    |some d=>
     have:d≠s:=fun e=>w (by rw[l,e])
     simp only[Act.put,Array.getD_eq_getD_getElem?,Array.getElem?_setIfInBounds,if_neg this]
   rw[this];exact o9 A _ _ z
theorem Inv.down'(I:Inv S lo n0 ops ρs Hs c0 H0 D tE c a)(j:Ready ops D i o):∀x o',ops[x]?=some o'→(D x||x==i)=true→∀e∈o'.after.toList,Region.binds .any e=true→(D e.on||e.on==i)=true:=by
 intro x o' d f e g h;simp at f ⊢;rcases f with f|f
 ·exact .inl (I.down x o' d f e g h)
 ·subst f;rw[j.op]at d;cases d;exact .inl (j.pre e g h)
theorem Inv.dlt'(I:Inv S lo n0 ops ρs Hs c0 H0 D tE c a)(e:Ready ops D i o):∀x,(D x||x==i)=true→x<ops.size:=by
 intro x d;simp at d;rcases d with d|d
 ·exact I.dlt x d
 ·subst d;exact(Array.getElem?_eq_some_iff.1 e.op).1
theorem mW(a:Act)(d:Option Tmp)(v:Value):(a.put d v).tmps.size=a.tmps.size:=by cases d<;>simp[Act.put]
theorem uj(f:gr S ops ρs i=false):HD S ops ρs Hs n0 (fun x=>D x||x==i) tE=HD S ops ρs Hs n0 D tE:=by
 apply List.map_congr_left;intro b _
 by_cases d:isN S ops ρs n0 b=true
 ·obtain⟨_,e⟩:=fS d;grind
 grind
theorem Inv.calm(T:Tra S call lo n0 ops B reads touches ρs Hs)(I:Inv S lo n0 ops ρs Hs c0 H0 D tE c a)(f:Ready ops D i o)(w:cw ops i=false)(g:gr S ops ρs i=false)(n:V c v u)
 (q:ρs (i+1)=fV (ρs i) o.dst v):Inv S lo n0 ops ρs Hs c0 H0 (fun x=>D x||x==i) tE c (a.put o.dst u) where
 tEn:=I.tEn
 eff:=by
  intro j d e;simp at d;rcases d with d|d
  ·exact I.eff j d e
  grind
 last:=by
  rcases I.last with h|⟨p,h1,s,t⟩
  all_goals grind
 slots:=I.slots' T f (Ext.refl c) n q
 size:=by rw[mW];exact I.size
 rel:=by rw[uj g];exact I.rel
 tr:=by rw[uj g];exact I.tr
 low:=by rw[uj g];exact I.low
 undone:=by
  intro m l k;simp at k;exact I.undone m l k.1
 defers:=by rw[put_defers];exact I.defers
 down:=I.down' f
 dlt:=I.dlt' f
 glob:=I.glob
 base:=I.base
theorem Inv.seen(T:Tra S call lo n0 ops B reads touches ρs Hs)(I:Inv S lo n0 ops ρs Hs c0 H0 D tE c a){blk:cb}(Q:Ready ops D i o)(he:cw ops i=false)(hn:gr S ops ρs i=false)
 (t:(i,b)∈reads) (w:(Hs i)[b]?=some (some blk)) (R:c.ι b≠none):(HD S ops ρs Hs n0 D tE)[b]?=some (some blk):=by
 have hi:i<ops.size:=(Array.getElem?_eq_some_iff.1 Q.op).1;have x:b<(Hs tE).length:=by
  rcases qk b (Hs tE).length with h|h
  ·exact h
  ·exact absurd (I.rel.fresh b (by rw[cZ];exact h)) R
 have y:b<(Hs i).length:=(List.getElem?_eq_some_iff.1 w).1;have K:isN S ops ρs n0 b=true→D (b-n0)=true∧b-n0<i:=by
  intro E;obtain⟨h1,G⟩:=fS E;have L:D (b-n0)=true:=by
   cases h:D (b-n0)with
   |true=>rfl
   |false=>exact absurd (by have:=I.undone _ G h;grind) R
  refine⟨L, ?_⟩;rcases Nat.lt_trichotomy (b-n0) i with h|h|h
  ·exact h
  ·grind
  ·obtain⟨f,J⟩:=f0 G;have z:=ga (Hs:=Hs) (b:=b) (p:=i) (q:=b-n0) (by omega) y (by
    intro j k l
    by_cases d:cw ops j=true
    ·have:=T.keep_hidden (j:=j) (m:=b-n0) (by omega) d J f (by
      cases hb:(B.getD j 0).testBit (b-n0)with
      |false=>rfl
      |true=>have:=T.lt _ _ hb;omega)
     grind
    ·simp at d;exact T.keep_calm (by omega) d fun _=>by omega)
   have A:ops[b-n0]?=some ops[b-n0]:=by simp
   have M:(Hs (b-n0))[b]?=some none:=by
    cases T.step _ _ A with
    |skip Z _ _=>
     simp[gr,A,Z]at G
    |new _ _ _ _ _ hd _ _=>grind
    |eff _ h _ _ _ _ _ _ _ _=>simp[newAt]at f;grind
    |quiet _ h _ _ _ _ _ _=>simp[newAt]at f;grind
   grind
 refine dQ.2 ⟨x,fun E=>(K E).1, ?_⟩
 have C:∀j,j<ops.size→cw ops j=true→(B.getD i 0).testBit j=false→(B.getD j 0).testBit i=false→BU Hs j b:=fun j h1 G X Y=>T.keep_far h1 G t X Y
 have U:tE≤tm S ops ρs n0 tE b:=by unfold tm;grind
 rcases qk i (tm S ops ρs n0 tE b)with O|P
 ·have W:tm S ops ρs n0 tE b=tE:=by
   unfold tm at O ⊢;grind
  have z:=ga (Hs:=Hs) (b:=b) (p:=i) (q:=tE) (by omega) y (by
   intro j k l;have e:j<ops.size:=by have:=I.tEn;omega
   by_cases d:cw ops j=true
   ·have g:=I.effs T l d;refine C j e d ?_ (I.not_behind T Q g);cases hb:(B.getD i 0).testBit j with
    |false=>rfl
    |true=>have:=T.lt _ _ hb;omega
   ·simp at d;refine T.keep_calm e d fun n s=>?_
    have E:isN S ops ρs n0 b=true:=by rw[s];exact vb n
    grind)
  grind
 ·have N:b<(Hs (tm S ops ρs n0 tE b)).length:=qr x (T.mono _ U (by omega))
  have z:=ga (Hs:=Hs) (b:=b) (p:=tm S ops ρs n0 tE b) (q:=i) P N (by
   intro j k l;have e:j<ops.size:=by omega
   by_cases d:cw ops j=true
   ·have g:D j=false:=by
     cases h:D j with
     |false=>rfl
     |true=>have:=I.eff j h d;omega
    refine C j e d ?_ ?_
    ·cases hb:(B.getD i 0).testBit j with
     |false=>rfl
     |true=>rw[Q.bit T.bits T.lt I.down hb]at g;cases g
    ·cases hb:(B.getD j 0).testBit i with
     |false=>rfl
     |true=>have:=T.lt _ _ hb;omega
   ·simp at d;refine T.keep_calm e d fun n s=>?_
    have E:isN S ops ρs n0 b=true:=by rw[s];exact vb n
    unfold tm at k;grind)
  grind
end Go.Am
namespace Go.Am
open Go.RowKit
variable {S:bh}{call:cJ}{lo n0:Nat}{ops:Array Oper}{B:List Nat}{reads:List (Nat×Nat)}{touches:List (Nat×Option (List Nat))}{ρs:Nat→List bc}{Hs:Nat→bd}
variable {c0 c:Cx}{H0:bd}{D:Nat→Bool}{tE:Nat}{a:Act}
variable {i:Nat}{o:Oper}{u:Value}
theorem Inv.newStep(T:Tra S call lo n0 ops B reads touches ρs Hs)(I:Inv S lo n0 ops ρs Hs c0 H0 D tE c a)(k:Ready ops D i o)(J:gr S ops ρs i=true){blk:cb}{mk:Nat→bc}
 (hd:(Hs i)[n0+i]?=some none) (hH:Hs (i+1)=(Hs i).set (n0+i) (some blk)) (hρ:ρs (i+1)=fV (ρs i) o.dst (mk (n0+i))) {obj:Obj}
 (R:∀b,Ext c (c.put b c.w.heap.size 0 (c.w.alloc obj))→fm (c.put b c.w.heap.size 0 (c.w.alloc obj)) c.w.heap.size 0 blk∧V (c.put b c.w.heap.size 0 (c.w.alloc obj)) (mk b) u):
 Inv S lo n0 ops ρs Hs c0 H0 (fun x=>D x||x==i) tE (c.put (n0+i) c.w.heap.size 0 (c.w.alloc obj)) (a.put o.dst u):=by
 have K:i<ops.size:=(Array.getElem?_eq_some_iff.1 k.op).1;obtain⟨f,_⟩:=f0 J;have he:=kF f;have U:=I.undone i J k.not;have W:=T.wide i K f;have g:n0+i<(Hs tE).length:=qr W (T.mono _ (Nat.zero_le _) I.tEn);have t:(HD S ops ρs Hs n0 (fun x=>D x||x==i) tE)[n0+i]?=some (some blk):=by
  refine dQ.2 ⟨g,fun _=>by simp, ?_⟩
  have hτ:tm S ops ρs n0 tE (n0+i)=max tE (i+1):=by
   unfold tm;rw[if_pos (vb J)];omega
  have v:n0+i<(Hs (i+1)).length:=by
   grind
  have X:=I.tEn;have Y:=ga (Hs:=Hs) (b:=n0+i) (p:=i+1) (q:=max tE (i+1)) (by omega) v (by
   intro j aa ab;have l:j<ops.size:=by omega
   by_cases e:cw ops j=true
   ·exact T.keep_hidden l e K f (I.not_behind T k (I.effs T (by omega) e))
   ·simp at e;exact T.keep_calm l e fun _=>by omega)
  grind
 have d:=I.rel.add (H':=HD S ops ρs Hs n0 (fun x=>D x||x==i) tE) (n0+i) obj blk U (by grind) (by rw[cZ,cZ];grind) (by
  intro x y z
  by_cases Z:x=n0+i
  ·grind
  ·refine .inr ⟨Z, ?_⟩;obtain⟨g1,O,G⟩:=dQ.1 z;refine dQ.2 ⟨g1,fun H=>?_,G⟩
   obtain⟨L,_⟩:=fS H;grind) (fun hE=>(R _ hE).1)
 refine⟨I.tEn, ?_, ?_,I.slots' T k d.2.ext (R _ d.2.ext).2 hρ,by rw[mW];exact I.size,d.1,I.tr.trans d.2, ?_, ?_,by rw[put_defers];exact I.defers,I.down' k,I.dlt' k,I.glob.ext d.2.ext,I.base⟩
 ·intro j n e;simp at n;rcases n with n|n
  ·exact I.eff j n e
  grind
 ·rcases I.last with h|⟨p,h1,P,Q⟩
  all_goals grind
 ·-- the new number may be known to nobody ahead of the region
  refine⟨?_, ?_,Nat.le_trans I.low.len (by rw[cZ,cZ];grind)⟩
  ·intro b blk' A C;obtain⟨h1,P⟩:=I.low.low b blk' A C;obtain⟨B',base',Q,_,h4,_⟩:=I.rel.blk b blk' h1;refine⟨?_,fun B base s=>?_⟩
   ·obtain⟨g1,O,G⟩:=dQ.1 h1;exact dQ.2 ⟨g1,fun H=>by simp[O H],G⟩
   ·have L:=P B base s;have M:=I.tr.ext.ι b _ s;rw[Q]at M;obtain⟨rfl,rfl⟩:=M;rw[← L];exact Below.heap_alloc _ _ _ h4
  ·intro b A h;have:=I.base;simp only[Cx.put];rw[if_neg (by omega)]
   exact I.low.dom b A h
 ·intro m E N;simp at N;simp only[Cx.put];rw[if_neg (by omega)]
  exact I.undone m E N.1
theorem Inv.still(T:Tra S call lo n0 ops B reads touches ρs Hs)(x:Inv S lo n0 ops ρs Hs c0 H0 D tE c a){q:Nat}(y:q≤ops.size)(s:tE≤q)(v:∀k,k<q→cw ops k=true→k<tE):
 (Hs q).length=(Hs tE).length∧∀b t,tE≤t→t≤q→b<(Hs tE).length→(isN S ops ρs n0 b=true→b-n0<t)→(Hs q)[b]?=(Hs t)[b]?:=by
 have d:∀j,tE≤j→j<q→cw ops j=false:=by
  grind
 refine⟨?_, ?_⟩
 ·have:=T.calm_len (q-tE) tE (by omega) fun j h1 m=>d j h1 (by omega)
  grind
 ·intro b t f g p w;have e:b<(Hs t).length:=qr p (T.mono _ f (by omega))
  refine(ga (Hs:=Hs) (b:=b) g e fun j h1 m=>T.keep_calm (by omega) (d j (by omega) m) fun h l=>?_).1
  have n:isN S ops ρs n0 b=true:=by rw[l];exact vb h
  grind
theorem Inv.skipEff(T:Tra S call lo n0 ops B reads touches ρs Hs)(I:Inv S lo n0 ops ρs Hs c0 H0 D tE c a)(k:Ready ops D i o)(l:cw ops i=true)(E:Hs (i+1)=Hs i){v:bc}(G:V c v u)
 (H:ρs (i+1)=fV (ρs i) o.dst v) (J:lo≤n0):Inv S lo n0 ops ρs Hs c0 H0 (fun x=>D x||x==i) (i+1) c (a.put o.dst u):=by
 have K:i<ops.size:=(Array.getElem?_eq_some_iff.1 k.op).1;obtain⟨p,q⟩:=I.next T k l;obtain⟨g,C⟩:=I.still T (by omega) p q
 have w:gr S ops ρs i=false:=by
  cases h:gr S ops ρs i with
  |false=>rfl
  |true=>rw[kF (f0 h).1]at l;cases l
 have L:∀b,isN S ops ρs n0 b=true→((D (b-n0)||(b-n0)==i)=true↔D (b-n0)=true):=by
  intro b z;obtain⟨_,M⟩:=fS z;grind
 have s:∀b,b<(Hs tE).length→(isN S ops ρs n0 b=true→D (b-n0)=true)→(Hs (tm S ops ρs n0 (i+1) b))[b]?=(Hs (tm S ops ρs n0 tE b))[b]?:=by
  unfold tm;grind
 have d:∀(b:Nat) (blk:cb),(HD S ops ρs Hs n0 (fun x=>D x||x==i) (i+1))[b]?=some (some blk)↔(HD S ops ρs Hs n0 D tE)[b]?=some (some blk):=by
  intro b blk;rw[dQ,dQ];grind
 have y:(HD S ops ρs Hs n0 D tE).length=(HD S ops ρs Hs n0 (fun x=>D x||x==i) (i+1)).length:=by rw[cZ,cZ,E,g]
 refine⟨by omega, ?_,.inr ⟨i,rfl,by simp,l⟩,I.slots' T k (Ext.refl c) G H,by rw[mW];exact I.size,I.rel.sub (fun b blk h=>(d b blk).1 h) (by omega),
  I.tr.trans (Tr.sub fun b blk h=>(d b blk).1 h), ?_, ?_,by rw[put_defers];exact I.defers,I.down' k,I.dlt' k,I.glob,I.base⟩
 ·intro j e n;simp at e;rcases e with e|e
  ·have:=I.eff j e n;omega
  ·omega
 ·exact⟨fun b blk t h=>⟨(d b blk).2 (I.low.low b blk t h).1,(I.low.low b blk t h).2⟩,I.low.dom,by have:=I.low.len;omega⟩
 ·intro m A f;simp at f;exact I.undone m A f.1
theorem Inv.effStep(T:Tra S call lo n0 ops B reads touches ρs Hs)(I:Inv S lo n0 ops ρs Hs c0 H0 D tE c a)(Y:Ready ops D i o)(he:cw ops i=true)(au:lo≤n0):
 Rel c (hide (Hs i) (hidden ops B n0 i))∧∀(v:bc) (u:Value) (H1:bd) (c':Cx),Hs (i+1)=unhide (Hs i) H1 (hidden ops B n0 i)→ρs (i+1)=fV (ρs i) o.dst v→
  Rel c' H1→Tr c (hide (Hs i) (hidden ops B n0 i)) c' H1→Low lo c (hide (Hs i) (hidden ops B n0 i)) c' H1→V c' v u→
  Inv S lo n0 ops ρs Hs c0 H0 (fun x=>D x||x==i) (i+1) c' (a.put o.dst u):=by
 have hi:i<ops.size:=(Array.getElem?_eq_some_iff.1 Y.op).1;obtain⟨ac,al⟩:=I.next T Y he;obtain⟨ad,ae⟩:=I.still T (by omega) ac al
 have aq:gr S ops ρs i=false:=by
  cases h:gr S ops ρs i with
  |false=>rfl
  |true=>rw[kF (f0 h).1]at he;cases he
 -- what the effect sees is there
 have sub:∀(b:Nat) (blk:cb),(hide (Hs i) (hidden ops B n0 i))[b]?=some (some blk)→b∉hidden ops B n0 i∧(Hs i)[b]?=some (some blk)∧(HD S ops ρs Hs n0 D tE)[b]?=some (some blk):=by
  intro b blk h;rw[ei]at h;split at h
  ·cases h
  ·rename_i C;have af:b<(Hs i).length:=(List.getElem?_eq_some_iff.1 h).1;have K:b∉hidden ops B n0 i:=fun e=>C ⟨e,af⟩
   refine⟨K,h, ?_⟩;have z:b<(Hs tE).length:=by omega
   have O:isN S ops ρs n0 b=true→D (b-n0)=true∧b-n0<i:=by
    intro s;obtain⟨h1,q⟩:=fS s;obtain⟨H,h4⟩:=f0 q;have l:(B.getD i 0).testBit (b-n0)=true:=by
     cases y:(B.getD i 0).testBit (b-n0)with
     |true=>rfl
     |false=>exact absurd (dx.2 ⟨b-n0,h4,H,y,by omega⟩) K
    exact⟨Y.bit T.bits T.lt I.down l,T.lt _ _ l⟩
   refine dQ.2 ⟨z,fun s=>(O s).1, ?_⟩
   rw[← ae b (tm S ops ρs n0 tE b) (by unfold tm;grind) (by
    unfold tm;grind) z (by unfold tm;grind)]
   exact h
 have ag:(hide (Hs i) (hidden ops B n0 i)).length=(HD S ops ρs Hs n0 D tE).length:=by rw[eW,cZ,ad]
 refine⟨I.rel.sub (fun b blk h=>(sub b blk h).2.2) (by omega), ?_⟩
 intro v u H1 c' hH hρ E d G hv
 -- each live block behind the effect is one of the effect's, or one out of its sight
 have A:∀(b:Nat) (blk:cb),(HD S ops ρs Hs n0 (fun x=>D x||x==i) (i+1))[b]?=some (some blk)→
  (b∉hidden ops B n0 i∧H1[b]?=some (some blk))∨(b∈hidden ops B n0 i∧(HD S ops ρs Hs n0 D tE)[b]?=some (some blk)):=by
  intro b blk h;obtain⟨h1,q,H⟩:=dQ.1 h;have P:(Hs (i+1)).length=H1.length:=by rw[hH,dY]
  have O:isN S ops ρs n0 b=true→D (b-n0)=true∧b-n0≠i:=by
   intro s;obtain⟨_,h5⟩:=fS s;grind
  by_cases Q:b∈hidden ops B n0 i
  ·refine .inr ⟨Q, ?_⟩;obtain⟨j,am,an,ar,rfl⟩:=dx.1 Q;have z:n0+j<(Hs tE).length:=qr (T.wide j am an) (T.mono _ (Nat.zero_le _) I.tEn);refine dQ.2 ⟨z,fun s=>(O s).1, ?_⟩
   have ap:(Hs (i+1))[n0+j]?=(Hs i)[n0+j]?:=by
    rw[hH,cS,if_pos ⟨Q,by omega⟩,qh,qq (by omega)]
    rfl
   rw[← H];unfold tm;grind
  ·refine .inl ⟨Q, ?_⟩;have hτ:tm S ops ρs n0 (i+1) b=i+1:=by
    unfold tm;split
    ·rename_i s;obtain⟨g1,g2⟩:=fS s;obtain⟨N,g4⟩:=f0 g2;have l:(B.getD i 0).testBit (b-n0)=true:=by
      cases y:(B.getD i 0).testBit (b-n0)with
      |true=>rfl
      |false=>exact absurd (dx.2 ⟨b-n0,g4,N,y,by omega⟩) Q
     have:=T.lt _ _ l;omega
    ·rfl
   rw[hτ,hH,cS,if_neg (fun e=>Q e.1)]at H
   exact H
 -- what is out of the effect's sight has not turned
 have p:∀(b:Nat) (blk:cb),b∈hidden ops B n0 i→(HD S ops ρs Hs n0 D tE)[b]?=some (some blk)→∃n base,c.ι b=some (n,base)∧¬c.I n∧n<c.w.heap.size∧fm c n base blk∧¬Img c (hide (Hs i) (hidden ops B n0 i)) n:=by
  intro b blk y h;obtain⟨n,base,h1,q,H,h4⟩:=I.rel.blk b blk h;refine⟨n,base,h1,q,H,h4, ?_⟩;rintro⟨b2,M,f,h5,h6⟩;obtain⟨g1,_,g2⟩:=sub b2 M h5;have:=I.rel.inj b b2 blk M n base f h g2 h1 h6;grind
 have P:(Hs (i+1)).length=H1.length:=by rw[hH,dY]
 have Z:Rel c' (HD S ops ρs Hs n0 (fun x=>D x||x==i) (i+1)):=by
  refine⟨?_, ?_, ?_,E.lt⟩
  ·intro b blk h;rcases A b blk h with⟨_,h1⟩|⟨h1,q⟩
   ·exact E.blk b blk h1
   ·obtain⟨n,base,g1,g2,N,g4,g5⟩:=p b blk h1 q;refine⟨n,base,d.ext.ι _ _ g1, ?_,qr N d.size,g4.ext d.ext (d.frame n N g5)⟩;intro hI;rcases d.imm n N hI with h|h
    all_goals grind
  ·intro b R blk blk' n base base' h h' g k;rcases A b blk h with⟨g0,g1⟩|⟨g0,g1⟩<;>rcases A R blk' h' with⟨k0,W⟩|⟨k0,W⟩
   ·exact E.inj b R blk blk' n base base' g1 W g k
   ·obtain⟨B2,f,J,f2,f3,f4,f5⟩:=p R blk' k0 W;rw[d.ext.ι _ _ J]at k;simp at k;obtain⟨rfl,rfl⟩:=k;exact absurd (d.img B2 f3 ⟨b,blk,base,g1,g⟩) f5
   ·obtain⟨B2,f,J,f2,f3,f4,f5⟩:=p b blk g0 g1;rw[d.ext.ι _ _ J]at g;simp at g;obtain⟨rfl,rfl⟩:=g;exact absurd (d.img B2 f3 ⟨R,blk',base',W,k⟩) f5
   ·obtain⟨B2,f,J,_⟩:=p b blk g0 g1;obtain⟨B3,ao,f2,_⟩:=p R blk' k0 W;rw[d.ext.ι _ _ J]at g;rw[d.ext.ι _ _ f2]at k;obtain⟨rfl,rfl⟩:=g;obtain⟨rfl,rfl⟩:=k;exact I.rel.inj b R blk blk' _ _ _ g1 W J f2
  ·intro b y;rw[cZ,P]at y;exact E.fresh b y
 have L:∀X,Img c (hide (Hs i) (hidden ops B n0 i)) X→Img c (HD S ops ρs Hs n0 D tE) X:=by
  rintro X ⟨b,blk,base,h1,q⟩;exact⟨b,blk,base,(sub b blk h1).2.2,q⟩
 have ah:Tr c (HD S ops ρs Hs n0 D tE) c' (HD S ops ρs Hs n0 (fun x=>D x||x==i) (i+1)):=by
  refine⟨d.ext,d.size,fun X hX hn=>d.frame X hX fun h=>hn (L X h), ?_, ?_,d.os,d.tape,d.output⟩
  ·rintro X hX ⟨b,blk,base,h1,q⟩;rcases A b blk h1 with⟨_,g1⟩|⟨g0,g1⟩
   ·exact L X (d.img X hX ⟨b,blk,base,g1,q⟩)
   ·obtain⟨B2,f,J,_⟩:=p b blk g0 g1;rw[d.ext.ι _ _ J]at q;simp at q;obtain⟨rfl,rfl⟩:=q;exact⟨b,blk,f,g1,J⟩
  ·intro X hX h;rcases d.imm X hX h with h|h
   all_goals grind
 have aa:Low lo c (HD S ops ρs Hs n0 D tE) c' (HD S ops ρs Hs n0 (fun x=>D x||x==i) (i+1)):=by
  refine⟨?_, ?_, ?_⟩
  ·intro b blk y h;obtain⟨g1,g2,N⟩:=dQ.1 h;have s:isN S ops ρs n0 b=false:=by simp[isN];omega
   have hτ:∀t,tm S ops ρs n0 t b=t:=fun t=>by simp[tm,s]
   rw[hτ]at N;have C:b∉hidden ops B n0 i:=by
    intro hm;obtain⟨j,_,_,_,U⟩:=dx.1 hm;omega
   have aj:(hide (Hs i) (hidden ops B n0 i))[b]?=some (some blk):=by
    rw[ei,if_neg (fun e=>C e.1),ae b tE (qe _) ac g1 (fun h=>by grind)]
    exact N
   obtain⟨h5,h6⟩:=G.low b blk y aj;refine⟨dQ.2 ⟨?_,fun h=>(by grind), ?_⟩,h6⟩
   ·grind
   ·rw[hτ,hH,cS,if_neg (fun e=>C e.1)]
    exact h5
  ·intro b y h;exact G.dom b (by omega) h
  ·rw[cZ,cZ,P];have:=G.len;rw[eW]at this;omega
 refine⟨by omega, ?_,.inr ⟨i,rfl,by simp,he⟩,I.slots' T Y d.ext hv hρ,by rw[mW];exact I.size,Z,I.tr.trans ah,I.low.trans I.tr.ext aa, ?_,by rw[put_defers];exact I.defers,I.down' Y,I.dlt' Y,I.glob.ext d.ext,I.base⟩
 ·intro j U ak;simp at U;rcases U with U|U
  ·have:=I.eff j U ak;omega
  ·omega
 ·intro m hm ab;simp at ab;obtain⟨H,h4⟩:=f0 hm;refine G.dom _ ?_ (I.undone m hm ab.1);rw[eW];exact qr (T.wide m h4 H) (T.mono _ (Nat.zero_le _) (by omega))
end Go.Am
namespace Go.Am
open Go.RowKit
variable {S:bh}{call:cJ}{lo n0:Nat}{ops:Array Oper}{B:List Nat}{reads:List (Nat×Nat)}{touches:List (Nat×Option (List Nat))}{ρs:Nat→List bc}{Hs:Nat→bd}
variable {c0 c:Cx}{H0:bd}
variable {H:bd}{op:Op}{ρ:List bc}
theorem ot{S:bh}(h:dw op=true):bR S ρ H op=none∧lE S ρ op=none:=by
 cases op<;>simp only[dw]at h<;>first
  |grind
  |exact⟨rfl,rfl⟩
  |(rename_i d
    obtain⟨callee,args,e⟩:=d;cases callee with
    |value f=>exact⟨rfl,rfl⟩
    |invoke r m=>exact⟨rfl,rfl⟩
    |builtin b=>cases b<;>first|exact⟨rfl,rfl⟩|grind)
variable {a:Act}
theorem Cz{S:bh}{c:Cx}{b:Nat}(f:xk S c ρ a op.operands)(h:eQ S ρ op=some b):c.ι b≠none:=by
 have key:∀x∈op.operands,cN (bj S ρ x)=some b→c.ι b≠none:=by
  intro x g j;have:=f x g;cases he:bj S ρ x<;>rw[he]at j this<;>simp only[cN,qa]at j<;>first|grind|skip
  ·simp only[V]at this;grind
  ·simp only[V]at this;grind
 unfold eQ at h;split at h
 ·exact key _ (by simp[Op.operands]) h
 ·exact key _ (by simp[Op.operands]) h
 ·exact key _ (by simp[Op.operands]) h
 ·rename_i s d x;have:=f x (by simp[Op.operands])
  cases he:bj S ρ x<;>rw[he]at h this<;>simp only[pe,qa]at h<;>first|grind|skip
  simp only[V]at this;grind
 ·split at h
  ·rename_i x g;split at h
   ·rename_i k e;refine key x (by simp[Op.operands,Call.operands];grind) ?_
    rw[e];exact h
   ·cases h
  ·cases h
 ·cases h
variable {D:Nat→Bool}{i tE:Nat}
theorem Ci(O:dH S)(R:md S call)(T:Tra S call lo n0 ops B reads touches ρs Hs)(p:lo≤n0)(I:Inv S lo n0 ops ρs Hs c0 H0 D tE c a){o:Oper}(d:Ready ops D i o){K:Act→World→Prop}{Q:Exit→Act→World→Prop}(t:∀C c' J,Inv S lo n0 ops ρs Hs c0 H0 (fun x=>D x||x==i) C c' J→K J c'.w):wpOp S.P ops Q i K a c.w:=by
 have f:=I.evOn T d;unfold wpOp;rw[d.op];simp only;cases T.step i o d.op with
 |skip g m q=>
  have k:=I.guard T d g;rw[if_neg (by rw[k];simp)]
  cases l:cw ops i with
  |true=>exact t _ _ _ (I.skipEff T d l q (iG c) m p)
  |false=>
   have n:gr S ops ρs i=false:=by simp[gr,d.op,g]
   exact t _ _ _ (I.calm T d l n (iG c) m)
 |new g h blk mk s U m q=>
  have k:=I.guard T d g;rw[if_pos k];have n:gr S ops ρs i=true:=by simp[gr,d.op,g,h]
  obtain⟨obj,u,h1,A⟩:=(xl o f s).run;refine .inl ?_;unfold Oper.wp;rw[h1];exact t _ _ _ (I.newStep T d n U q m A)
 |eff g h j v H1 L hl m q W=>
  have k:=I.guard T d g;rw[if_pos k];have l:cw ops i=true:=by simp[cw,d.op,j]
  obtain⟨N,G⟩:=I.effStep T d l p;refine .inl (A4 O R (lo:=lo) N I.glob o f (v:=v) (H':=H1) ?_ ?_)
  ·unfold opA;obtain⟨q1,q2⟩:=ot (S:=S) (ρ:=ρs i) (H:=hide (Hs i) (hidden ops B n0 i)) j;grind
  grind
 |quiet g h j v M m q E=>
  have k:=I.guard T d g;rw[if_pos k];have l:cw ops i=false:=by simp[cw,d.op,j]
  have n:gr S ops ρs i=false:=by simp[gr,d.op,h]
  have y:bR S (ρs i) (HD S ops ρs Hs n0 D tE) o.op=some v:=by
   rw[wS (H:=Hs i)]
   ·exact M
   ·intro b z;obtain⟨blk,e⟩:=yY M z;rw[I.seen T d l n (E b z) e (Cz f z),e]
  obtain⟨u,h1,A⟩:=qQ I.rel o f y;refine .inl ?_;unfold Oper.wp;rw[h1];exact t _ _ _ (I.calm T d l n A m)
theorem oD:∀(l:List Bool) (i:Nat),l[i]?=some false→((l.set i true).filter id).length=(l.filter id).length+1
 | [],i,h=>by simp at h
 |b::l,0,h=>by
  grind
 |b::l,i+1,h=>by
  simp only[List.set_cons_succ,List.filter_cons];split
  ·simp only[qm,oD l i h]
  ·exact oD l i h
variable {listed:Array Bool}
theorem mem_ready:i∈Region.ready .any ops listed↔∃o,ops[i]?=some o∧listed.getD i true=false∧∀e∈o.after.toList,Region.binds .any e=true→listed.getD e.on false=true:=by
 unfold Region.ready;simp;constructor
 ·rintro⟨h1,b⟩;obtain⟨o,d⟩:=xg h1;simp only[Bool.not_eq_true',Option.map_some,Option.getD_some,← Array.all_toList,List.all_eq_true,Bool.or_eq_true]at b;grind
 grind
theorem DL(T:Tra S call lo n0 ops B reads touches ρs Hs)(k:listed.size=ops.size)(h:Region.ready .any ops listed=[]):∀i,i<ops.size→listed.getD i false=true:=by
 intro i;induction i using Nat.strongRecOn with
 |_ i l=>
  intro f;cases hl:listed.getD i false with
  |true=>rfl
  |false=>
   obtain⟨o,b⟩:=xg f;have:i∈Region.ready .any ops listed:=by
    refine mem_ready.2 ⟨o,b, ?_,fun e g j=>?_⟩
    ·grind
    ·have d:=T.pair.edge i o b e g j;grind
   grind
theorem ub{c:Cx}:∀{as:List bc} {vs:List Value},as.length=vs.length→(∀s,V c (as.getD s bz) (vs.getD s undef))→Vs c as vs
 | [],[],_,_=>by simp[Vs]
 | [],_::_,h,_=>by simp at h
 |_::_,[],h,_=>by simp at h
 |a::as,v::vs,h,b=>by
  exact⟨v,vs,rfl,by simpa using b 0,ub (by simpa using h) fun s=>by simpa using b (s+1)⟩
theorem Inv.done(T:Tra S call lo n0 ops B reads touches ρs Hs)(I:Inv S lo n0 ops ρs Hs c0 H0 D tE c a)(f:∀i,i<ops.size→D i=true)(C:lo≤n0):
 sJ lo c0 H0 .normal (ρs ops.size) (Hs ops.size) .normal a c.w:=by
 have l:∀k,k<ops.size→cw ops k=true→k<tE:=fun k v x=>I.eff k (f k v) x
 obtain⟨e,m⟩:=I.still T (qe _) I.tEn l;have n:∀b,isN S ops ρs n0 b=true→b-n0<ops.size:=fun b y=>(f0 (fS y).2).2
 have o:=I.tEn;have p:∀b,b<(Hs tE).length→(Hs (tm S ops ρs n0 tE b))[b]?=(Hs ops.size)[b]?:=by
  intro b g;refine(m b _ (by unfold tm;grind) ?_ g ?_).symm
  ·unfold tm;grind
  ·unfold tm;grind
 have d:∀(b:Nat) (blk:cb),(Hs ops.size)[b]?=some (some blk)↔(HD S ops ρs Hs n0 D tE)[b]?=some (some blk):=by
  intro b blk;rw[dQ];grind
 have q:(HD S ops ρs Hs n0 D tE).length=(Hs ops.size).length:=by rw[cZ,e]
 refine⟨rfl,I.defers,c,rfl,I.rel.sub (fun b blk h=>(d b blk).1 h) (by omega),I.tr.trans (Tr.sub fun b blk h=>(d b blk).1 h), ?_, ?_⟩
 ·exact⟨fun b blk g h=>⟨(d b blk).2 (I.low.low b blk g h).1,(I.low.low b blk g h).2⟩,I.low.dom,by have:=I.low.len;omega⟩
 ·refine ub ?_ ?_
  ·have h1:=T.len _ (qe _);have u:=I.size;grind
  ·intro s;obtain⟨t,h1,u,E,G⟩:=I.slots s;have:=T.slot s (ops.size-t) t (by omega) (fun j z A J=>by
    grind)
   simp_all
theorem wC(m:dH S)(n:md S call)(T:Tra S call lo n0 ops B reads touches ρs Hs)(b:lo≤n0){Q:Exit→Act→World→Prop}(j:∀e a w,sJ lo c0 H0 .normal (ρs ops.size) (Hs ops.size) e a w→Q e a w):
 ∀(fuel:Nat) (listed:Array Bool) (c:Cx) (a:Act) (tE:Nat),listed.size=ops.size→(listed.toList.filter id).length+fuel=ops.size→Inv S lo n0 ops ρs Hs c0 H0 (fun i=>listed.getD i false) tE c a→
  wpAny S.P .any ops Q fuel listed a c.w
 |0,listed,c,a,tE,k,hc,I=>by
  have d:∀i,i<ops.size→listed.getD i false=true:=by
   have:listed.toList.filter id=listed.toList:=by
    refine(List.filter_sublist).eq_of_length ?_;grind
   intro i l;rw[List.filter_eq_self]at this;have p:listed[i]∈listed.toList:=by simp
   have:=this _ p;simp_all
  refine⟨?_,j _ _ _ (I.done T d b)⟩;cases f:Region.ready .any ops listed with
  |nil=>rfl
  |cons i rest=>
   have:i∈Region.ready .any ops listed:=by grind
   obtain⟨o,h,h1,_⟩:=mem_ready.1 this;grind
 |fuel+1,listed,c,a,tE,k,hc,I=>by
  refine⟨fun f=>j _ _ _ (I.done T (DL T k f) b), ?_⟩
  intro i l;obtain⟨o,h,h1,v⟩:=mem_ready.1 l;have q:=(Array.getElem?_eq_some_iff.1 h).1;have s:listed[i]?=some false:=by
   simp_all
  have t:Ready ops (fun i=>listed.getD i false) i o:=⟨h,by grind,v⟩
  refine Ci m n T b I t ?_;intro g c' u y;refine wC m n T b j fuel _ c' u g (by simp[k]) ?_ ?_
  ·rw[Array.toList_setIfInBounds,oD _ _ (by grind)]
   omega
  ·have:(fun x=>(listed.setIfInBounds i true).getD x false)=(fun x=>listed.getD x false||x==i):=by
    simp
    grind
   grind
theorem BM(L:dH S)(Y:md S call)(A:i6 S call){id:Nat}{ops:Array Oper}{M:List bc}{H':bd}(h:jV S call lo ops ρ H=some (M,H'))(N:Rel c H)(Z:cV S c)(O:Vs c ρ a.tmps.toList)(hd:a.defers=[]):
 (Code.region id ops true).wp S.P (sJ lo c H .normal M H') a c.w:=by
 unfold jV at h;simp only at h;split at h
 case isFalse=>cases h
 rename_i l;simp at l;obtain⟨l,x⟩:=l;split at h
 ·cases h
 ·rename_i r u;split at h
  case isFalse=>cases h
  rename_i v;obtain⟨ρs,Hs,e1,e2,e3,e4,n⟩:=na ops.toList 0 _ _ r u (fun j=>by simp) (by simp)
  have d:=sQ l;have p:H.length≤(Hs 0).length:=by grind
  have T:Tra S call lo H.length ops (mz ops.toList []) r.reads r.touches ρs Hs:=by
   refine⟨fun j o W=>n j o (Nat.zero_le _) W,d,JE ops,fun i k X=>Bj d.edge ops.toList [] (fun j=>by simp) (fun i k h=>by simp at h) i k X,v,A, ?_⟩
   intro m K R;have C:ops.any (fun o=>cz o.op)=true:=by
    rw[Array.any_eq_true];refine⟨m,K, ?_⟩
    simpa[newAt,K]using R
   grind
  -- nothing that lives at first is new
  have q:∀m,c.ι (H.length+m)=none:=fun m=>N.fresh _ (by omega)
  let E:Cx:={ c with w:=c.w.drew }
  have g:=N.drew;have f:∀(b:Nat) (blk:cb),(HD S ops ρs Hs H.length (fun _=>false) 0)[b]?=some (some blk)↔H[b]?=some (some blk):=by
   intro b blk;rw[dQ];constructor
   ·rintro⟨_,h2,h3⟩;have t:isN S ops ρs H.length b=false:=by
     grind
    have:tm S ops ρs H.length 0 b=0:=by simp[tm,t]
    grind
   ·intro U;have Q:b<H.length:=(List.getElem?_eq_some_iff.1 U).1;have t:isN S ops ρs H.length b=false:=by simp[isN];omega
    have:tm S ops ρs H.length 0 b=0:=by simp[tm,t]
    grind
  have G:(HD S ops ρs Hs H.length (fun _=>false) 0).length=(Hs 0).length:=cZ _ _
  have I:Inv S lo H.length ops ρs Hs c H (fun _=>false) 0 E a:=by
   refine⟨Nat.zero_le _,(fun j y=>by cases y),.inl rfl, ?_, ?_, ?_, ?_, ?_,fun m _ _=>q m,hd,(fun i o _ z=>by cases z),(fun i z=>by cases z),Z.ext g.2.ext,qe _⟩
   ·intro s;refine⟨0,Nat.zero_le _,.inl rfl,(fun j y=>by cases y), ?_⟩
    rw[e1];have:=uF (cg g.2.ext _ _ O) s
    simpa[Array.getD_eq_getD_getElem?,qh]using this
   ·have:=bH O
    grind
   ·exact g.1.sub (fun b blk h=>(f b blk).1 h) (by omega)
   ·exact g.2.trans (Tr.sub fun b blk h=>(f b blk).1 h)
   ·exact⟨fun b blk _ h=>⟨(f b blk).2 h,fun _ _ _=>rfl⟩,fun _ _ h=>h,by omega⟩
  refine wp_region_any L.mixed ?_;have J:(fun i=>(Array.replicate ops.size false).getD i false)=(fun _=>false):=by
   funext i;simp only[Array.getD_eq_getD_getElem?,Array.getElem?_replicate];split<;>rfl
  refine wC (c0:=c) (H0:=H) L Y T x (fun e a w hp=>?_) ops.size _ E a 0 (by simp) (by simp) (by grind)
  grind
end Go.Am
namespace Go.Am
open Go.RowKit
theorem sH{S:bh}(t:dH S){call:cJ}(y:md S call){lo:Nat}{ops:Array Oper}{Q:Exit→Act→World→Prop}:
 ∀(l:List Oper) {ρ:List bc} {H:bd} {g:List bc} {H':bd} {c:Cx} {a:Act},l7 S call lo ops.toList l ρ H=some (g,H')→Rel c H→cV S c→Vs c ρ a.tmps.toList→a.defers=[]→
  (∀e f w',sJ lo c H .normal g H' e f w'→Q e f w')→wpList S.P ops Q l a c.w
 | [],ρ,H,g,H',c,a,h,j,d,b,k,m=>by
  obtain⟨rfl,rfl⟩:=h;exact m _ _ _ ⟨rfl,k,c,rfl,j,Tr.refl _ _,Low.refl _ _ _,b⟩
 |o::l,ρ,H,g,H',c,a,h,j,d,b,k,m=>by
  simp only[l7]at h;split at h
  ·cases h
  ·rename_i p;have n:=rF p b;simp only[wpList];rw[if_neg (by rw[n];simp)]
   exact sH t y l h j d (Bz b o.dst (iG c)) (by rw[put_defers];exact k) m
  ·rename_i p;have n:=rF p b;simp only[wpList];rw[if_pos n];split at h
   ·cases h
   ·rename_i v H1 q;refine .inl (A4 t y j d o (fun x _=>ut d b x) q ?_)
    intro c' u h1 s z A;refine sH t y l h h1 (d.ext s.ext) (Bz (cg s.ext _ _ b) o.dst A) (by rw[put_defers];exact k) ?_
    intro e f w' B;exact m e f w' (B.trans s z)
def Cx.pop(c:Cx)(H:bd)(a n:Nat):Cx:=
 { c with
  ι:=fun b=>if b<n then c.ι b else none
  I:=fun B=>c.I B∨∃b blk base,a≤b∧H[b]?=some (some blk)∧c.ι b=some (B,base) }
theorem Fw(c:Cx)(H:bd)(a n:Nat):(c.pop H a n).pure=c.pop H a 0:=by
 simp[Cx.pop,Cx.pure]
theorem pZ(c:Cx)(H:bd)(a n:Nat):Ext c.pure (c.pop H a n).pure:=
 ⟨(fun _ _ h=>by cases h),rfl,(fun _ h=>.inl h),fun _ _=>rfl,fun _ _ _ h=>h⟩
theorem dg{f:bc→Option bc}{c c':Cx}(k:∀a b,f a=some b→∀v,V c a v→V c' b v):∀(as:List bc) {d:List bc},gm f as=some d→∀vs,Vs c as vs→Vs c' d vs
 | [],d,h,vs,g=>by
  simp only[gm,qa]at h;subst h
  simpa[Vs]using g
 |a::as,d,h,vs,g=>by
  simp only[gm]at h;split at h
  ·cases h
  ·rename_i b l;split at h
   ·cases h
   ·rename_i bs' e;simp at h;subst h;obtain⟨v,j,rfl,h1,m⟩:=g;exact⟨v,j,rfl,k a b l v h1,dg k as e j m⟩
theorem oJ{f:bc→Option bc}{c c':Cx}(l:∀a b,f a=some b→∀v,V c a v→V c' b v)(sz:Nat):∀(rs:List (List bc)) {d:List (List bc)},lR f rs=some d→d.length=rs.length∧∀vs,Vss c sz rs vs→Vss c' sz d vs
 | [],d,h=>by
  simp only[lR,qa]at h;subst h;exact⟨rfl,fun vs g=>by simpa[Vss]using g⟩
 |a::as,d,h=>by
  simp only[lR]at h;split at h
  ·cases h
  ·rename_i b m;split at h
   ·cases h
   ·rename_i bs' e;simp at h;subst h;obtain⟨n,o⟩:=oJ l sz as e;refine⟨by simp[n],fun vs g=>?_⟩
    obtain⟨j,k,rfl,hl,h1,p⟩:=g;exact⟨j,k,rfl,hl,dg l a m j h1,o k p⟩
def zL(a:Nat)(top:Bool):Nat:=if top then a else 0
theorem ur{c:Cx}{H:bd}(w:Rel c H)(e:Nat):∀(k:Nat) (top:Bool) (a:bc) {b:bc},frz e H top k a=some b→∀v,V c a v→V (c.pop H e (zL e top)) b v
 |0,_,_,_,h,_,_=>by cases h
 |k+1,top,a,b,h,v,g=>by
  have u:=fun a b h v g=>ur w e k top a (b:=b) h v g
  have q:=fun a b h v g=>ur w e k false a (b:=b) h v g
  have z:c.pop H e (zL e false)=(c.pop H e (zL e top)).pure:=(Fw c H e (zL e top)).symm;have old:∀x B base,x<e→top=true→c.ι x=some (B,base)→(c.pop H e (zL e top)).ι x=some (B,base):=by
   intro x B base h1 j l;simp only[Cx.pop,zL];grind
  unfold frz at h;cases a<;>simp only at h
  case agg cs=>
   rw[qd]at h;obtain⟨G,h1,rfl⟩:=h;obtain⟨vs,rfl,j⟩:=g;exact⟨vs,rfl,dg u cs h1 vs j⟩
  case tup cs=>
   rw[qd]at h;obtain⟨G,h1,rfl⟩:=h;obtain⟨vs,rfl,j⟩:=g;exact⟨vs,rfl,dg u cs h1 vs j⟩
  case iface t x=>
   rw[qd]at h;obtain⟨y,h1,rfl⟩:=h;simp only[V]at g ⊢;grind
  case fn f x y=>
   split at h
   ·rename_i x' y' h1 j;simp at h;subst h;obtain⟨vs,M,rfl,l,R⟩:=g;exact⟨vs,M,rfl,dg u x h1 vs l,dg u y j M R⟩
   ·cases h
  case ptr x off=>
   obtain⟨B,base,p,rfl⟩:=g;split at h
   ·split at h
    ·simp at h;subst h;simp only[V];grind
    ·cases h
   ·split at h
    ·rename_i cs s;rw[qd]at h;obtain⟨G,h1,rfl⟩:=h;obtain⟨U,m,l,_,_,_,_,vs,n,d⟩:=w.blk x _ s;rw[p]at l;obtain⟨rfl,rfl⟩:=l;exact⟨B,base+off,vs.drop off,rfl,.inr ⟨x,_,base,by omega,s,p⟩,dF off n,dg q _ h1 _ (di off d)⟩
    ·cases h
  case sl sz x off len cap ex=>
   obtain⟨B,base,J,o,p,rfl,N,g1,W,X,Y⟩:=g;split at h
   ·rename_i E;split at h
    ·rename_i Q;simp at h;subst h;exact⟨B,base,J,o,old x B base E Q p,rfl,N,g1,W,X,Y⟩
    ·cases h
   ·split at h
    ·rename_i cs s;split at h
     ·rw[qd]at h;obtain⟨G,h1,rfl⟩:=h;obtain⟨U,m,l,_,_,_,_,vs,n,d⟩:=w.blk x _ s;rw[p]at l;obtain⟨rfl,rfl⟩:=l;have A:=fK (sz:=sz) len (di off d) (by simp;omega)
      obtain⟨O,Z⟩:=oJ q sz _ h1;rw[cY]at O;have C:(c.pop H e (zL e top)).I B:=.inr ⟨x,_,base,by omega,s,p⟩
      simp only[V,O]
      by_cases P:0<J
      ·have D:=N P;subst D;refine⟨⟨B,base+off,none⟩,J,_,rfl,by omega, ?_,.inr ⟨rfl,C,gz _ (dF off n)⟩,Z _ A⟩
       grind
      grind
     ·cases h
    ·cases h
  case mapr x=>
   split at h
   ·simp at h;subst h;simp only[V]at g ⊢;grind
   ·cases h
  case ipt cs=>
   simp at h;subst h;obtain⟨B,off,vs,rfl,L,n,d⟩:=g;exact⟨B,off,vs,rfl,.inl L,n,cg (pZ c H e _) _ _ d⟩
  case eptr id cs=>
   simp at h;subst h;obtain⟨B,o,vs,hn,e1,rfl,L,n,d,hc⟩:=g;exact⟨B,o,vs,hn,e1,rfl,.inl L,n,cg (pZ c H e _) _ _ d,hc⟩
  case list sz rows ex=>
   simp at h;subst h;obtain⟨a,cap,vs,rfl,h1,j,hm,d⟩:=g;exact⟨a,cap,vs,rfl,h1,j,hm.imp_right fun h=>⟨h.1,.inl h.2.1,h.2.2⟩,kM (pZ c H e _) _ _ _ d⟩
  all_goals (simp only[qa]at h;subst h)
  all_goals (simp only[V]at g ⊢)
  all_goals grind
variable {H:bd}{c:Cx}
theorem Iy{lo:Nat}{c':Cx}{H':bd}(n:Rel c H)(g:Rel c' H')(d:Tr c H c' H')(s:Low H.length c H c' H'):
 Rel (c'.pop H' H.length H.length) H∧Tr c H (c'.pop H' H.length H.length) H∧Low lo c H (c'.pop H' H.length H.length) H:=by
 have j:∀(b:Nat) (blk:cb),H[b]?=some (some blk)→b<H.length:=by
  grind
 have t:∀b x,c.ι b=some x→(c'.pop H' H.length H.length).ι b=some x:=by
  intro b x h;have:b<H.length:=by
   rcases qk b H.length with h1|h1
   ·exact h1
   ·rw[n.fresh b h1]at h;cases h
  simp only[Cx.pop];rw[if_pos this];exact d.ext.ι b x h
 have u:Ext c (c'.pop H' H.length H.length):=⟨t,d.ext.θ,fun B k=>.inl (d.ext.I B k),d.ext.kept,d.ext.shape⟩
 have a:∀b blk,H[b]?=some (some blk)→∀x,(c'.pop H' H.length H.length).ι b=some x→c.ι b=some x:=by
  intro b blk e x h;obtain⟨B,base,h1,_⟩:=n.blk b blk e;grind
 refine⟨⟨?_, ?_, ?_, ?_⟩,⟨u,d.size,d.frame, ?_, ?_,d.os,d.tape,d.output⟩,⟨?_, ?_,qe _⟩⟩
 ·intro b blk e;obtain⟨B,base,h1,f,l,m⟩:=n.blk b blk e;obtain⟨z,p⟩:=s.low b blk (j b blk e) e;refine⟨B,base,t b _ h1, ?_,qr l d.size,m.ext u (p B base h1)⟩;rintro(v|⟨x,y,base',D,A,o⟩)
  ·obtain⟨E,q,C,G,_⟩:=g.blk b blk z;rw[d.ext.ι b _ h1]at C;grind
  ·have:=g.inj b x blk y B base base' z A (d.ext.ι b _ h1) o;grind
 ·intro b w blk blk' B base base' h1 f l m;exact n.inj b w blk blk' B base base' h1 f (a b blk h1 _ l) (a w blk' f _ m)
 ·simp only[Cx.pop];grind
 ·intro B k;rcases k with k|⟨b,blk,base,_,h1,f⟩
  ·exact g.lt B k
  ·obtain⟨J,base',l,_,m,_⟩:=g.blk b blk h1;rw[f]at l;obtain⟨rfl,rfl⟩:=l;exact m
 ·rintro B _ ⟨b,blk,base,h1,f⟩;exact⟨b,blk,base,h1,a b blk h1 _ f⟩
 ·rintro B k (v|⟨b,blk,base,_,h1,f⟩)
  ·exact d.imm B k v
  ·exact .inr (d.img B k ⟨b,blk,base,h1,f⟩)
 ·intro b blk _ e;obtain⟨_,p⟩:=s.low b blk (j b blk e) e;exact⟨e,p⟩
 ·intro b e h;simp only[Cx.pop];rw[if_pos e];exact s.dom b e h
variable {S:bh}{tmps:Array Value}{ρ:List bc}
theorem x8(k:Rel c H)(l:Vs c ρ tmps.toList):∀(r:ResultVar) {v:bc},gt S ρ H r=some v→
 ∃u,(match r with| .tmp t=>pure (tmps.getD t undef)| .cell a t=>do loadVar t (← asAddr (tmps.getD a undef)):Sem Value).run S.P c.w= .ok u c.w∧V c v u:=by
 have bF:∀t,V c (ρ.getD t bz) (tmps.getD t undef):=by
  intro t;have:=uF l t
  simp_all
 intro r v h;cases r with
 |tmp t=>
  simp only[gt,qa]at h;subst h;simp_all
 |cell a t=>
  simp only[gt]at h;unfold hM at h;rw[Option.bind_eq_some_iff]at h;obtain⟨cs,h1,d⟩:=h;obtain⟨B,o,vs,e,f,b⟩:=Ab k h1 (bF a);obtain⟨u,g,j⟩:=pw (P:=S.P) d b f;exact⟨u,by simp only[e,asAddr,Sem.run_bind,Sem.run_pure,Result.andThen_ok,g],j⟩
theorem mN{S:bh}{c:Cx}{H:bd}{ρ:List bc}{tmps:Array Value}(e:Rel c H)(f:Vs c ρ tmps.toList):∀(rs:List ResultVar) {vs:List bc},dv S ρ H rs=some vs→
 ∃b,(rs.mapM (fun| .tmp t=>pure (tmps.getD t undef)| .cell a t=>do loadVar t (← asAddr (tmps.getD a undef))):Sem (List Value)).run S.P c.w= .ok b c.w∧Vs c vs b
 | [],vs,h=>by
  simp only[dv,qa]at h;subst h;exact⟨[],rfl,by simp[Vs]⟩
 |r::rs,vs,h=>by
  simp only[dv]at h;split at h
  ·cases h
  ·rename_i v g;split at h
   ·cases h
   ·rename_i j d;simp at h;subst h;obtain⟨u,h1,k⟩:=x8 e f r g;obtain⟨b,l,m⟩:=mN e f rs d;refine⟨u::b, ?_,by simp only[Vs];grind⟩
    simp_all
theorem oZ(f:Rel c H)(g:Vs c ρ tmps.toList)(fn:Func){vs:List bc}(h:dv S ρ H fn.results.toList=some vs):
 ∃u,(results fn tmps).run S.P c.w= .ok u c.w∧V c (hB vs) u:=by
 obtain⟨b,h1,d⟩:=mN f g _ h;have hl:=bH d;refine⟨if h:b.toArray.size=1 then b.toArray[0]else .tuple b.toArray, ?_, ?_⟩
 ·unfold results;rw[Array.mapM_eq_mapM_toList];simp only[Sem.run_bind,Sem.run_map]
  erw [h1]
  rfl
 ·unfold hB;split
  ·simp only[Vs]at d;grind
  ·rename_i a;have:¬b.toArray.size=1:=by
    intro e;match vs,hl,a with
    | [v],_,a=>grind
    | [],hl,_=>grind
    |_::_::_,hl,_=>grind
   simp only[V];grind
variable {K:Nat}{rec:ic}
theorem sg(O:dH S)(P:vz S K rec):md S (co S rec):=by
 intro lo f args H r H' h c vs p y d;unfold co at h;split at h
 ·rename_i G q;exact O.hook f G q lo args H r H' h c vs p y d
 ·split at h
  ·cases h
  ·rename_i fn z;split at h
   ·cases h
   ·rename_i body A;refine⟨⟨fn,z,by simp[A]⟩, ?_⟩
    refine calls_of_wp z A ?_;have j:=bH d;have b:Vs c (args++List.replicate (fn.ntmps-args.length) bz) (vs.toArray++Array.replicate (fn.ntmps-vs.toArray.size) undef).toList:=by
     have:(vs.toArray++Array.replicate (fn.ntmps-vs.toArray.size) undef).toList=vs++List.replicate (fn.ntmps-args.length) undef:=by
      simp[j]
     rw[this];exact cm d (jE (iG c) _)
    split at h
    ·cases h
    ·cases h
    ·rename_i x ρ H1 I k;have o:=(P _ _ _ _ _ _ _ k c { tmps:=vs.toArray++Array.replicate (fn.ntmps-vs.toArray.size) undef,defers:=[] } p y b rfl).1;refine wp_mono o ?_;rintro e Q w' ⟨J,B,c',rfl,h1,s,g,L⟩;split at h
     ·cases h
     ·rename_i rs t;obtain⟨u,C,v⟩:=oZ h1 L fn t;have fin:∃a,a.w=c'.w∧Rel a H'∧Tr c H a H'∧Low lo c H a H'∧V a r u:=by
       unfold finish at h;split at h
       ·rename_i l;obtain⟨rfl,rfl⟩:=h;rw[l]at g;exact⟨c',rfl,h1,s,g,v⟩
       ·rename_i l;rw[qd]at h;obtain⟨R,M,N⟩:=h;obtain⟨rfl,rfl⟩:=N;rw[l]at g;obtain⟨g1,m,n⟩:=Iy (lo:=lo) p h1 s g;exact⟨c'.pop H1 H.length H.length,rfl,g1,m,n,ur h1 H.length 64 true _ M u v⟩
       ·rename_i l;obtain⟨rfl,rfl⟩:=h;rw[l]at g;exact⟨c',rfl,h1,s,g.mono (by simp only[Pol.lo];omega),v⟩
      obtain⟨a,D,g1,m,n,E⟩:=fin;subst J;cases x with
      |normal=>exact⟨B,u,C,u,a,rfl,D,g1,m,n,E⟩
      |ret=>exact⟨B,u,C,u,a,rfl,D,g1,m,n,E⟩
      |exit id=>grind
theorem o6{P:Program}{b:Code}{Q f:Exit→Act→World→Prop}(g:∀e a w,Q e a w→f e a w):∀(k:Nat) {a:Act} {w:World},Code.rounds P b Q k a w→Code.rounds P b f k a w
 |0,_,_,h=>h
 |k+1,a,w,h=>by
  refine wp_mono h ?_;intro e j w' d;cases e with
  |normal=>exact o6 g k d
  |_=>exact g _ _ _ d
theorem Gr(z:dH S)(O:lV rec)(l:vz S K rec):vz S (K+1) (dT S rec):=by
 intro lo J ρ H x N H' h c a g j f k;have n:sJ lo c H .normal ρ H .normal a c.w:=⟨rfl,k,c,rfl,g,Tr.refl _ _,Low.refl _ _ _,f⟩;unfold dT at h;split at h
 ·obtain⟨rfl,rfl,rfl⟩:=h;exact⟨wp_skip n,(fun b e=>by cases e)⟩
 ·obtain⟨rfl,rfl,rfl⟩:=h;exact⟨wp_label n,(fun b e=>by cases e)⟩
 ·obtain⟨rfl,rfl,rfl⟩:=h;exact⟨wp_ret ⟨rfl,k,c,rfl,g,Tr.refl _ _,Low.refl _ _ _,f⟩,(fun b e=>by cases e)⟩
 ·obtain⟨rfl,rfl,rfl⟩:=h;exact⟨wp_exit ⟨rfl,k,c,rfl,g,Tr.refl _ _,Low.refl _ _ _,f⟩,(fun b e=>by cases e)⟩
 ·refine⟨?_,(fun b e=>by cases e)⟩
  split at h
  ·rename_i y H1 h1;refine wp_seq (wp_mono (l _ _ _ _ _ _ _ h1 c a g j f k).1 ?_);rintro e o w1 ⟨rfl,m,B,rfl,g1,t,C,D⟩;exact wp_mono (l _ _ _ _ _ _ _ h B o g1 (j.ext t.ext) D m).1 fun e M w' d=>d.trans t C
  ·refine wp_seq (wp_mono (l _ _ _ _ _ _ _ h c a g j f k).1 ?_);rintro e o w1 d;obtain⟨L,v⟩:=d;cases x with
   |normal=>grind
   |exit id=>subst L;exact⟨rfl,v⟩
   |ret=>subst L;exact⟨rfl,v⟩
 ·rename_i E p q;refine⟨?_,(fun b e=>by cases e)⟩
  have hc:=ut j f E;split at h
  ·rename_i e;rw[e]at hc;exact wp_cond_true hc (l _ _ _ _ _ _ _ h c a g j f k).1
  ·rename_i e;rw[e]at hc;exact wp_cond_false hc (l _ _ _ _ _ _ _ h c a g j f k).1
  ·cases h
 ·refine⟨?_,(fun b e=>by cases e)⟩
  split at h
  ·rename_i i y H1 h1;refine wp_block (wp_mono (l _ _ _ _ _ _ _ h1 c a g j f k).1 ?_);rintro e o w1 ⟨rfl,d⟩;simp only[bT.toExit,Exit.inBlock];split at h
   ·rename_i G;obtain⟨rfl,rfl,rfl⟩:=h;rw[if_pos G];exact⟨rfl,d⟩
   ·rename_i G;obtain⟨rfl,rfl,rfl⟩:=h;rw[if_neg G];exact⟨rfl,d⟩
  ·refine wp_block (wp_mono (l _ _ _ _ _ _ _ h c a g j f k).1 ?_);rintro e o w1 ⟨rfl,d⟩;cases x with
   |normal=>exact⟨rfl,d⟩
   |exit id=>grind
   |ret=>exact⟨rfl,d⟩
 ·rename_i p;have s:Code.rounds S.P p (sJ lo c H x N H') (K+1) a c.w:=by
   split at h
   ·rename_i y H1 h1;refine wp_mono (l _ _ _ _ _ _ _ h1 c a g j f k).1 ?_;rintro e o w1 ⟨rfl,m,B,rfl,g1,t,C,D⟩;exact o6 (fun e M w' d=>d.trans t C) K ((l _ _ _ _ _ _ _ h B o g1 (j.ext t.ext) D m).2 p rfl)
   ·refine wp_mono (l _ _ _ _ _ _ _ h c a g j f k).1 ?_;rintro e o w1 ⟨rfl,d⟩;cases x with
    |normal=>grind
    |exit id=>exact⟨rfl,d⟩
    |ret=>exact⟨rfl,d⟩
  refine⟨wp_loop_rounds (K+1) s,fun b e=>?_⟩
  grind
 ·rename_i id ops u;refine⟨?_,(fun b e=>by cases e)⟩
  split at h
  ·rename_i m;subst m;rw[qd]at h;obtain⟨⟨y,H1⟩,h1,I⟩:=h;obtain⟨rfl,rfl,rfl⟩:=I;exact BM z (sg z l) (wU S O) h1 g j f k
  ·rw[qd]at h;obtain⟨⟨y,H1⟩,h1,I⟩:=h;obtain⟨rfl,rfl,rfl⟩:=I;have A:u=false:=by grind
   subst A;exact wp_region_list (sH z (sg z l) _ h1 g j f k fun e M w' d=>d)
 ·cases h
theorem qP{S:bh}(a:dH S):∀n,vz S n (cB S n)
 |0=>fun lo b ρ H x g H' h=>by cases h
 |n+1=>Gr a (kK (fun f d h lo args H r H' e=>a.low f d h lo args H r H' e) n) (qP a n)
theorem z7(a:dH S)(n:Nat):md S (ro S n):=sg a (qP a n)
end Go.Am
namespace Go.Am
open Go.RowKit Go.ChangeShapes Go.WideShapes Go.ChangeAt
def cx0(W:World)(θ:List (Nat×Nat):=[]):Cx:={ ι:=fun _=>none,θ:=θ,I:=fun B=>B<W.heap.size,w:=W }
theorem Q9(W:World)(θ:List (Nat×Nat):=[]):Rel (cx0 W θ) [] where
 blk:=fun b blk h=>by simp at h
 inj:=fun b a blk blk' B base base' h=>by simp at h
 fresh:=fun _ _=>rfl
 lt:=fun _ h=>h
variable {H':bd}{W:World}{θ:List (Nat×Nat)}
theorem CU{c':Cx}(h:Tr (cx0 W θ) [] c' H'):Go.RowKit.Below W.heap.size W c'.w where
 os:=h.os
 tape:=h.tape
 output:=h.output
 size:=h.size
 block:=fun k a=>h.frame k a (fun⟨b,blk,base,c,_⟩=>by simp at c)
theorem Di{S:bh}(d:dH S)(g:cV S (cx0 W θ)){n:Nat}{f:FuncId}{av:List bc}{args:Array Value}(j:Vs (cx0 W θ) av args.toList)(h:ro S n 0 f av []=some (.bool true,H')):
 Calls S.P f args W fun e w'=>e= .returned (.bool true)∧Go.RowKit.Below W.heap.size W w':=by
 have:=(z7 d n 0 f av [] _ _ h (cx0 W θ) args.toList (Q9 W θ) g j).2;refine this.mono fun e w' c=>?_
 obtain⟨v,c',rfl,rfl,k,a,l,b⟩:=c;subst b;exact⟨rfl,CU a⟩
section
variable {H:Type}{enc:TypeId×Value→H}{P:Program}
theorem lL(hl:laidOutB P=true){W n:World}(o:Go.RowKit.Below W.heap.size W n):
 ∀{g:List TypeId} {vs:List Value} {ds:List (DataW H)} {ps:List MemPlace},(g.all fun t=>P.readableRec t && decide (t<P.types.size))=true→
 DataW.TrodAll enc P W 0 (fun _=>true) true g vs ds ps→(∀x∈ps,x.block<W.heap.size)→∀j:Nat→Bool,(∀x∈ps,j x.block=true)→DataW.TrodAll enc P n 0 j true g vs ds ps
 | [],_,_,_,_,h,_,_,_=>by
  obtain⟨rfl,rfl,rfl⟩:=trodAll_nil h;exact trodAll_mk0
 |t::g,_,_,_,p,h,e,j,f=>by
  obtain⟨v,q,d,s,a,b,rfl,rfl,rfl,h1,u⟩:=trodAll_cons h;simp only[List.all_cons,qi,decide_eq_true_eq]at p;obtain⟨⟨k,l⟩,m⟩:=p;refine⟨a,b, ?_,lL hl o m u (fun x c=>e x (List.mem_append.2 (.inr c))) j (fun x c=>f x (List.mem_append.2 (.inr c))),rfl⟩
  exact WideElems.Trod_stays hl k l h1 (fun x c=>o.same (e x (List.mem_append.2 (.inl c)))) (fun x c=>f x (List.mem_append.2 (.inl c)))
theorem sT(hl:laidOutB P=true){f:Func}{s:ChangeSpec}{apart fresh e j:Bool}{W n:World}{args:Array Value}{ds y:List (DataW H)}{a:List MemPlace}
 (z:DataW.Whole enc P f.params.toList s.vars apart W args.toList ds y a) (A:Go.RowKit.Below W.heap.size W n)
 (B:(f.params.toList.all fun t=>P.readableRec t && decide (t<P.types.size))=true) (o:s.vars=[])
 {I:TypeId} (u:f.resultTypes= #[I]) (v:P.underlying I=some .bool)
 (C:s.fn H (ds++y)={ results:=[.lit (.bool true)],args:=ds }):
 s.post enc P f apart fresh e j W args (.bool true) n:=by
 have h:∀(b:Nat) (g:Nat→Bool) (D:Bool),DataW.TrodAll enc P n b g D f.resultTypes.toList ((Value.bool true).resultList f.resultTypes.size) (s.fn H (ds++y)).results []:=by
  intro b g D;rw[C,u];exact trodAll_cons_mk (shut_bool v _) trodAll_mk0
 have k:=z.lt;obtain⟨p,q,J,G,m,K,L⟩:=id z;rw[o]at G;obtain⟨rfl,rfl⟩:=trodVars_none G;simp at m;subst m;have c:∀g:Nat→Bool,(∀x∈a,g x.block=true)→DataW.TrodAll enc P n 0 g true f.params.toList args.toList (s.fn H (ds++[])).args a:=by
  intro g w;rw[C];exact lL hl A B J k g w
 have d:∀g:Nat→Bool,DataW.TrodVars enc P n g s.vars (s.fn H (ds++[])).vars []:=by
  intro g;rw[C,o];rfl
 have hold:∀x∈a,(fun b=>decide (b<W.heap.size)) x.block=true:=fun x M=>by grind
 refine⟨ds,[],a,[],a,[],z,h _ _ _,c _ hold,d _,World.keptBut_mono (fun p E=>⟨E,Or.inr (by grind)⟩) (A.frame (· ∈a)),fun _=>?_⟩
 refine⟨ok_one u rfl (okWide_bool_mk v _),_,_,([]++a)++[],⟨[]++a,[],trodAll_append (c _ (fun _ _=>rfl)) (h _ _ _),d _,rfl, ?_, ?_⟩, ?_⟩
 ·intro b off E;have l:MemPlace.cell b off∈a:=by grind
  rw[A.frozen (k _ l)];exact K b off l
 all_goals grind
theorem uL{S:bh}(w:dH S)(x:S.P=P)(hl:laidOutB P=true){d:FuncId}{f:Func}{s:ChangeSpec}{apart fresh a c:Bool}{W:World}{args:Array Value}{ds o:List (DataW H)}{b:List MemPlace}
 (y:DataW.Whole enc P f.params.toList s.vars apart W args.toList ds o b)
 (g:(f.params.toList.all fun t=>P.readableRec t && decide (t<P.types.size))=true) (j:s.vars=[])
 {p:TypeId} (k:f.resultTypes= #[p]) (l:P.underlying p=some .bool)
 (z:s.fn H (ds++o)={ results:=[.lit (.bool true)],args:=ds })
 {θ:List (Nat×Nat)} (A:cV S (cx0 W θ)) {av:List bc} (B:Vs (cx0 W θ) av args.toList) {n:Nat} {H':bd} (h:ro S n 0 d av []=some (.bool true,H')):
 Calls P d args W fun e m=>∃v,e= .returned v∧s.post enc P f apart fresh a c W args v m:=by
 subst x;refine(Di w A B h).mono fun e m ⟨q,u⟩=>?_
 subst q;exact⟨_,rfl,sT hl y u g j k l z⟩
end
end Go.Am
namespace Go.Am
def CLe(a b:cJ):Prop:=∀lo f av H r,a lo f av H=some r→b lo f av H=some r
def ELe(a b:ic):Prop:=∀lo c ρ H r,a lo c ρ H=some r→b lo c ρ H=some r
variable {H:bd}{S:bh}{a:cJ}{lo:Nat}{r:bc×bd}{ρ:List bc}
theorem kT{b:cJ}(h:CLe a b){o:Op}(e:ek S a lo ρ H o=some r):ek S b lo ρ H o=some r:=by
 unfold ek at e ⊢;split at e
 all_goals first
  |exact e
  |(split at e<;>first|exact h _ _ _ _ _ e|(split at e<;>first|exact h _ _ _ _ _ e|exact e|cases e)|cases e)
  |cases e
theorem x0{b:cJ}(h:CLe a b){o:Oper}(e:opA S a lo ρ H o=some r):opA S b lo ρ H o=some r:=by
 unfold opA at e ⊢;split
 ·simp_all
 ·split
  ·simp_all
  ·simp_all;exact kT h e
theorem kP{S:bh}{a b:cJ}(h:CLe a b){lo:Nat}{ops:List Oper}:∀{os:List Oper} {ρ:List bc} {H:bd} {r:List bc×bd},l7 S a lo ops os ρ H=some r→l7 S b lo ops os ρ H=some r
 | [],_,_,_,e=>e
 |o::os,ρ,H,r,e=>by
  unfold l7 at e ⊢;split
  ·simp_all
  ·simp_all;exact kP h e
  ·rename_i c;simp only[c]at e;cases ho:opA S a lo ρ H o with
   |none=>grind
   |some v=>
    rw[x0 h ho];simp only[ho]at e;exact kP h e
theorem en{S:bh}{a b:cJ}(h:CLe a b){lo c:Nat}{ops:Array Oper}{B:List Nat}:∀{os:List Oper} {k:Nat} {ρ:List bc} {H:bd} {r:lr},cy S a lo c ops B os k ρ H=some r→cy S b lo c ops B os k ρ H=some r
 | [],_,_,_,_,e=>e
 |o::os,k,ρ,H,r,e=>by
  unfold cy at e ⊢;split
  ·simp_all
  ·rename_i d;simp only[d]at e;exact en h e
  ·rename_i d;simp only[d]at e;split
   ·rename_i g;simp only[g]at e;split
    ·simp_all
    ·rename_i j;simp only[j]at e;split
     ·rename_i l;simp only[l]at e;exact en h e
     grind
   ·rename_i g;split
    ·rename_i m;cases ho:ek S a lo ρ (hide H (hidden ops B c k)) o.op with
     |none=>grind
     |some v=>
      rw[kT h ho];simp only[ho]at e ⊢;split
      ·rename_i hl;cases hd:cy S a lo c ops B os (k+1) (fV ρ o.dst v.1) (unhide H v.2 (hidden ops B c k))with
       |none=>grind
       |some q=>
        rw[en h hd];grind
      grind
    ·rename_i m;split
     ·simp_all
     ·rename_i v j;cases hd:cy S a lo c ops B os (k+1) (fV ρ o.dst v) H with
      |none=>grind
      |some q=>
       rw[en h hd];grind
theorem yG{b:cJ}(h:CLe a b){ops:Array Oper}{r:List bc×bd}(e:jV S a lo ops ρ H=some r):jV S b lo ops ρ H=some r:=by
 unfold jV at e ⊢;simp only at e ⊢;split
 ·rename_i hc;cases hd:cy S a lo H.length ops (mz ops.toList []) ops.toList 0 ρ (if ops.any (fun o=>cz o.op)then H++List.replicate ops.size none else H)with
  |none=>grind
  |some q=>
   rw[en h hd];grind
 grind
theorem dz{a b:ic}(h:ELe a b):CLe (co S a) (co S b):=by
 intro lo f av H r e;unfold co at e ⊢;split
 ·simp_all
 ·rename_i c;simp only[c]at e;split
  ·simp_all
  ·rename_i fn d;simp only[d]at e;split
   ·simp_all
   ·rename_i body g;simp only[g]at e;split at e
    ·cases e
    ·cases e
    ·rename_i x ρ H' j k;rw[h _ _ _ _ _ k];grind
theorem yl{a b:ic}(h:ELe a b):ELe (dT S a) (dT S b):=by
 intro lo c ρ H r e;unfold dT at e ⊢;split
 ·exact e
 ·exact e
 ·exact e
 ·exact e
 ·simp only at e;split at e
  ·rename_i ρ' H' h1;rw[h _ _ _ _ _ h1];exact h _ _ _ _ _ e
  ·rw[h _ _ _ _ _ e];grind
 ·rename_i x p q;cases hb:bj S ρ x with
  |bool t=>cases t<;>(simp only[hb]at e ⊢;exact h _ _ _ _ _ e)
  |_=>grind
 ·simp only at e;split at e
  ·rename_i h1;rw[h _ _ _ _ _ h1];exact e
  ·rw[h _ _ _ _ _ e];grind
 ·simp only at e;split at e
  ·rename_i ρ' H' h1;rw[h _ _ _ _ _ h1];exact h _ _ _ _ _ e
  ·rw[h _ _ _ _ _ e];grind
 ·split
  ·rename_i d;simp only[d,if_true]at e;rw[qd]at e ⊢;obtain⟨q,h1,g⟩:=e;exact⟨q,yG (dz h) h1,g⟩
  ·rename_i d;simp only[d,if_false,Bool.false_eq_true]at e;rw[qd]at e ⊢;obtain⟨q,h1,g⟩:=e;exact⟨q,kP (dz h) h1,g⟩
 ·simp_all
theorem qI{S:bh}:∀n,ELe (cB S n) (cB S (n+1))
 |0=>fun _ _ _ _ _ e=>by cases e
 |n+1=>yl (qI n)
theorem cT{n m:Nat}(h:n≤m):ELe (cB S n) (cB S m):=by
 induction h with
 |refl=>exact fun _ _ _ _ _ e=>e
 |step _ c=>exact fun _ _ _ _ _ e=>qI _ _ _ _ _ _ (c _ _ _ _ _ e)
def cG(S:bh)(lo:Nat)(c:Code)(ρ:List bc)(H:bd)(r:bT×List bc×bd):Prop:=∃n,cB S n lo c ρ H=some r
def gc(S:bh)(lo:Nat)(f:FuncId)(av:List bc)(H:bd)(r:bc×bd):Prop:=∃n,ro S n lo f av H=some r
variable {H':bd}{b:Code}{ρ':List bc}
theorem cG.seq{a:Code}{r:bT×List bc×bd}(h:cG S lo a ρ H (.normal,ρ',H'))(k:cG S lo b ρ' H' r):cG S lo (.seq a b) ρ H r:=by
 obtain⟨n,h⟩:=h;obtain⟨m,k⟩:=k;refine⟨max n m+1, ?_⟩;show dT S (cB S (max n m)) lo (.seq a b) ρ H=some r;simp only[dT];rw[cT (Nat.le_max_left n m) _ _ _ _ _ h];exact cT (Nat.le_max_right n m) _ _ _ _ _ k
variable {x:bT}
theorem cG.seq_out{a:Code}(c:x≠ .normal)(h:cG S lo a ρ H (x,ρ',H')):cG S lo (.seq a b) ρ H (x,ρ',H'):=by
 obtain⟨n,h⟩:=h;refine⟨n+1, ?_⟩;show dT S (cB S n) lo (.seq a b) ρ H=some _;simp only[dT];grind
theorem cG.cond{x:Operand}{a:Code}{r:bT×List bc×bd}{t:Bool}(c:bj S ρ x= .bool t)(h:cG S lo (if t then a else b) ρ H r):cG S lo (.cond x a b) ρ H r:=by
 obtain⟨n,h⟩:=h;refine⟨n+1, ?_⟩;show dT S (cB S n) lo (.cond x a b) ρ H=some _;simp only[dT];grind
theorem cG.block{id:Nat}(h:cG S lo b ρ H (x,ρ',H')):cG S lo (.block id b) ρ H ((match x with| .exit i=>if i=id then .normal else .exit i|x=>x),ρ',H'):=by
 obtain⟨n,h⟩:=h;refine⟨n+1, ?_⟩;show dT S (cB S n) lo (.block id b) ρ H=some _;simp only[dT,h];cases x with
 |exit i=>
  grind
 |_=>rfl
theorem cG.loop_next{r:bT×List bc×bd}(h:cG S lo b ρ H (.normal,ρ',H'))(k:cG S lo (.loop b) ρ' H' r):cG S lo (.loop b) ρ H r:=by
 obtain⟨n,h⟩:=h;obtain⟨m,k⟩:=k;refine⟨max n m+1, ?_⟩;show dT S (cB S (max n m)) lo (.loop b) ρ H=some r;simp only[dT];rw[cT (Nat.le_max_left n m) _ _ _ _ _ h];exact cT (Nat.le_max_right n m) _ _ _ _ _ k
theorem cG.loop_out(c:x≠ .normal)(h:cG S lo b ρ H (x,ρ',H')):cG S lo (.loop b) ρ H (x,ρ',H'):=by
 obtain⟨n,h⟩:=h;refine⟨n+1, ?_⟩;show dT S (cB S n) lo (.loop b) ρ H=some _;simp only[dT];grind
variable {av:List bc}{body:Code}{f:FuncId}{fn:Func}
theorem gc.of_body(d:S.P.funcs[f]?=some fn)(e:fn.body=some body)(g:S.hook f=none)
 (h:cG S ((S.pol f).lo lo H) body (av++List.replicate (fn.ntmps-av.length) bz) H (x,ρ,H')) (j:∀i,x≠ .exit i) {vs:List bc} (k:dv S ρ H' fn.results.toList=some vs) (c:finish (S.pol f) H (hB vs) H'=some r):gc S lo f av H r:=by
 obtain⟨n,h⟩:=h;refine⟨n, ?_⟩;show co S (cB S n) lo f av H=some r;simp only[co,d,e];grind
def flat:Code→List Code→List Code
 | .seq a b,k=>flat a (flat b k)
 |c,k=>c::k
def gp(S:bh)(N lo:Nat):List Code→List bc→bd→Option (bT×List bc×bd)
 | [],ρ,H=>some (.normal,ρ,H)
 |c::l,ρ,H=>match cB S N lo c ρ H with
  |some (.normal,ρ',H')=>gp S N lo l ρ' H'
  |r=>r
def hD(S:bh)(lo:Nat):List Code→List bc→bd→bT×List bc×bd→Prop
 | [],ρ,H,r=>r=(.normal,ρ,H)
 |c::l,ρ,H,r=>(∃ρ' H',cG S lo c ρ H (.normal,ρ',H')∧hD S lo l ρ' H' r)∨(r.1≠ .normal∧cG S lo c ρ H r)
theorem hD.of_exec{S:bh}{N lo:Nat}:∀{l:List Code} {ρ:List bc} {H:bd} {r:bT×List bc×bd},gp S N lo l ρ H=some r→hD S lo l ρ H r
 | [],_,_,_,h=>by
  simp only[gp,qa]at h;exact h.symm
 |c::l,ρ,H,r,h=>by
  simp only[gp]at h;split at h
  ·rename_i h1;exact .inl ⟨_,_,⟨N,h1⟩,hD.of_exec h⟩
  ·refine .inr ⟨?_,⟨N,h⟩⟩;obtain⟨x,ρ',H'⟩:=r;simp_all
theorem hD.flat:∀{c:Code} {k:List Code} {ρ:List bc} {H:bd} {r:bT×List bc×bd},hD S lo (flat c k) ρ H r→hD S lo (c::k) ρ H r:=by
 intro c;induction c with
 |seq a b j l=>
  intro k ρ H r h;have h:=j h;rcases h with⟨o,H1,h1,d⟩|⟨h1,d⟩
  ·rcases l d with⟨m,n,e,g⟩|⟨e,g⟩
   ·exact .inl ⟨m,n,h1.seq e,g⟩
   ·exact .inr ⟨e,h1.seq g⟩
  ·exact .inr ⟨h1,cG.seq_out h1 d⟩
 |_=>intro k ρ H r h;exact h
theorem cG.of_flat{c:Code}{r:bT×List bc×bd}(h:hD S lo (Am.flat c []) ρ H r):cG S lo c ρ H r:=by
 rcases hD.flat h with⟨ρ',H',h1,d⟩|⟨_,d⟩
 ·cases d;exact h1
 ·exact d
def kj(S:bh)(lo N:Nat):Nat→List Code→List bc→bd→Option (List Code×List bc×bd)
 |0,l,ρ,H=>some (l,ρ,H)
 |k+1,c::l,ρ,H=>match cB S N lo c ρ H with
  |some (.normal,ρ',H')=>kj S lo N k l ρ' H'
  |_=>none
 |_+1,[],_,_=>none
theorem hD.heads{S:bh}{lo N:Nat}:∀{k:Nat} {l:List Code} {ρ:List bc} {H:bd} {d:List Code} {ρ':List bc} {H':bd} {r:bT×List bc×bd},
 kj S lo N k l ρ H=some (d,ρ',H')→hD S lo d ρ' H' r→hD S lo l ρ H r
 |0,l,ρ,H,d,ρ',H',r,h,k=>by
  simp only[kj,Prod.mk.injEq]at h;grind
 |j+1,[],ρ,H,d,ρ',H',r,h,k=>by cases h
 |j+1,c::l,ρ,H,d,ρ',H',r,h,k=>by
  simp only[kj]at h;split at h
  ·rename_i h1;exact .inl ⟨_,_,⟨N,h1⟩,hD.heads h k⟩
  ·cases h
def tailA(S:bh)(N:Nat)(f:FuncId)(fn:Func)(lo:Nat)(H0:bd)(l:List Code)(ρ:List bc)(H:bd):Option (bc×bd):=
 match gp S N ((S.pol f).lo lo H0) l ρ H with
 |none=>none
 |some (.exit _,_,_)=>none
 |some (_,ρ',H')=>
  match dv S ρ' H' fn.results.toList with
  |none=>none
  |some vs=>finish (S.pol f) H0 (hB vs) H'
def headA(S:bh)(N k:Nat)(f:FuncId)(fn:Func)(body:Code)(lo:Nat)(av:List bc)(H:bd):Option (List Code×List bc×bd):=
 kj S ((S.pol f).lo lo H) N k (flat body []) (av++List.replicate (fn.ntmps-av.length) bz) H
theorem gc.of_tail(l:S.P.funcs[f]?=some fn)(m:fn.body=some body)(n:S.hook f=none){N k M:Nat}{j:List Code}(h:headA S N k f fn body lo av H=some (j,ρ',H'))(c:tailA S M f fn lo H j ρ' H'=some r):gc S lo f av H r:=by
 unfold tailA at c;split at c
 ·cases c
 ·cases c
 ·rename_i x o H1 d h1;split at c
  ·cases c
  ·rename_i vs g;exact gc.of_body l m n (cG.of_flat (hD.heads h (hD.of_exec h1))) (fun i e=>d i e) g c
variable {v:bc}
theorem set_self{i:Nat}(h:ρ[i]?=some v):ρ.set i v=ρ:=by
 apply List.ext_getElem?;grind
theorem gc.cut(h:S.P.funcs[f]?=some fn)(j:fn.body=some body)(l:S.hook f=none)(N k M i:Nat){w:bc}
 (e:((headA S N k f fn body lo av H).bind fun s=>s.2.1[i]?)=some v) (c:v=w) {a:bc}
 (d:((headA S N k f fn body lo av H).bind fun s=>(tailA S M f fn lo H s.1 (s.2.1.set i w) s.2.2).map (·.1))=some a):∃H',gc S lo f av H (a,H'):=by
 subst c;cases hh:headA S N k f fn body lo av H with
 |none=>grind
 |some s=>
  simp only[hh,Option.bind_some]at e d;rw[set_self e,qd]at d;obtain⟨⟨m,H1⟩,h1,g⟩:=d;cases g;exact⟨H1,gc.of_tail h j l hh h1⟩
end Go.Am

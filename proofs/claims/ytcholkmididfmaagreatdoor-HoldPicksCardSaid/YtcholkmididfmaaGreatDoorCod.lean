import Derived.Test.YtcholkmididfmaaGreatDoorLib6
import Derived.Test.YtcholkmididfmaaGreatDoorSk
set_option linter.unusedVariables false
set_option linter.unusedSimpArgs false
namespace Go.Proofs.Y
open Go.RowKit Go.Am Go.Sy
structure eT where
 (kind fr len:Int)
 deriving Inhabited
structure Instr where
 (op a b c n:Int)
 deriving Inhabited
structure bg where
 (engine clock stripes reads writes retry fuel most:Int)
 (init:List Int)
 (locks:List eT)
 (conds:List Int)
 (progs:List (List Instr))
 deriving Inhabited
structure Held where
 (lock:Int)
 (read:Bool)
 deriving Inhabited
structure K8 where
 (a b c d e f g h:Int)
 deriving Inhabited
structure Blk where
 (a l:Int)
 deriving Inhabited
structure Wk where
 (engine clock stripes reads writes retry fuel most:Int)
 (init:List Int)
 (locks:List eT)
 (conds:List Int)
 (progs:List (List Instr))
 (o:List Instr)
 (top loops:Int)
 deriving Inhabited
structure Out where
 (logs:List (List Int))
 (words owners status:List Int)
 (queues:List (List Int))
 deriving Inhabited
structure R4 where
 (a b c d:Int)
 deriving Inhabited
structure One where
 (at_ fuel status r0 r1 r2 r3 awake:Int)
 (opn:List Held)
 (log:List Int)
 deriving Inhabited
structure Mdl where
 (engine clock stripes reads writes retry fuel most:Int)
 (init:List Int)
 (locks:List eT)
 (conds:List Int)
 (progs:List (List Instr))
 (mates:List (List Int))
 (words owners:List Int)
 (all:List One)
 (queues:List (List Int))
 deriving Inhabited
structure Man where
 (at_ fuel status r0 r1 r2 r3:Int)
 (told has:List Int)
 (wants:Bool)
 (mate:List Int)
 deriving Inhabited
structure gi where
 (engine clock stripes reads writes retry fuel most:Int)
 (init:List Int)
 (locks:List eT)
 (conds:List Int)
 (progs:List (List Instr))
 (man:List Man)
 (w o:List Int)
 (q:List (List Int))
 deriving Inhabited
abbrev T:Nat→Type
 |0=>Int
 |1=>eT
 |2=>Instr
 |3=>List Instr
 |4=>bg
 |5=>List Int
 |6=>Held
 |7=>K8
 |8=>Blk
 |9=>Wk
 |10=>Out
 |11=>R4
 |12=>One
 |13=>Mdl
 |14=>List UInt8
 |15=>Int
 |16=>Man
 |17=>gi
 |_=>Int
def bU(k:IntKind)(x:SV T):Option Int:=match intOf x with
 |some (a,n)=>if a=k then some n else none
 |none=>none
def QF(x:SV T):Option bc:=match x with
 | .a v=>some v
 |_=>none
def tlK(n:Nat)(x:SV T):Option (List (T n)):=match x with
 | .tl m l=>if e:m=n then some (e▸l)else none
 | .a .nils=>some []
 |_=>none
def QB(x:Int):List (SV T):=[.i .i64 x]
def MI(cs:List (SV T)):Option (Int):=match cs with
 | [c0]=>match bU .i64 c0 with
  |some a=>some a
  |_=>none
 |_=>none
def enc1(x:eT):List (SV T):=[.i .i64 x.kind,.i .i64 x.fr,.i .i64 x.len]
def KL(cs:List (SV T)):Option (eT):=match cs with
 | [c0,a,b]=>match bU .i64 c0,bU .i64 a,bU .i64 b with
  |some c,some d,some e=>some ⟨c,d,e⟩
  |_,_,_=>none
 |_=>none
def enc2(x:Instr):List (SV T):=[.i .i64 x.op,.i .i64 x.a,.i .i64 x.b,.i .i64 x.c,.i .i64 x.n]
def MW(cs:List (SV T)):Option (Instr):=match cs with
 | [c0,a,b,c3,c]=>match bU .i64 c0,bU .i64 a,bU .i64 b,bU .i64 c3,bU .i64 c with
  |some d,some e,some f,some g,some h=>some ⟨d,e,f,g,h⟩
  |_,_,_,_,_=>none
 |_=>none
def enc3(x:List Instr):List (SV T):=[.tl (T:=T) 2 x]
def L2(cs:List (SV T)):Option (List Instr):=match cs with
 | [c0]=>match tlK 2 c0 with
  |some a=>some a
  |_=>none
 |_=>none
def enc4(x:bg):List (SV T):=[.i .i64 x.engine,.i .i64 x.clock,.i .i64 x.stripes,.i .i64 x.reads,.i .i64 x.writes,.i .i64 x.retry,.i .i64 x.fuel,.i .i64 x.most,.tl (T:=T) 0 x.init,.tl (T:=T) 1 x.locks,.tl (T:=T) 0 x.conds,.tl (T:=T) 3 x.progs]
def MQ(cs:List (SV T)):Option (bg):=match cs with
 | [c0,e,f,c3,g,c5,h,j,c8,k,a,b]=>match bU .i64 c0,bU .i64 e,bU .i64 f,bU .i64 c3,bU .i64 g,bU .i64 c5,bU .i64 h,bU .i64 j,tlK 0 c8,tlK 1 k,tlK 0 a,tlK 3 b with
  |some l,some m,some n,some o,some p,some q,some s,some t,some u,some v,some c,some d=>some ⟨l,m,n,o,p,q,s,t,u,v,c,d⟩
  |_,_,_,_,_,_,_,_,_,_,_,_=>none
 |_=>none
def Ql(x:List Int):List (SV T):=[.tl (T:=T) 0 x]
def MR(cs:List (SV T)):Option (List Int):=match cs with
 | [c0]=>match tlK 0 c0 with
  |some a=>some a
  |_=>none
 |_=>none
def Pm(x:Held):List (SV T):=[.i .i64 x.lock,.b x.read]
def Mj(cs:List (SV T)):Option (Held):=match cs with
 | [c0,a]=>match bU .i64 c0,iP a with
  |some b,some c=>some ⟨b,c⟩
  |_,_=>none
 |_=>none
def B8(x:K8):List (SV T):=[.i .i64 x.a,.i .i64 x.b,.i .i64 x.c,.i .i64 x.d,.i .i64 x.e,.i .i64 x.f,.i .i64 x.g,.i .i64 x.h]
def Lk(cs:List (SV T)):Option (K8):=match cs with
 | [c0,a,b,c3,c,c5,d,e]=>match bU .i64 c0,bU .i64 a,bU .i64 b,bU .i64 c3,bU .i64 c,bU .i64 c5,bU .i64 d,bU .i64 e with
  |some f,some g,some h,some j,some k,some l,some m,some n=>some ⟨f,g,h,j,k,l,m,n⟩
  |_,_,_,_,_,_,_,_=>none
 |_=>none
def Qc(x:Blk):List (SV T):=[.i .i64 x.a,.i .i64 x.l]
def M0(cs:List (SV T)):Option (Blk):=match cs with
 | [c0,a]=>match bU .i64 c0,bU .i64 a with
  |some b,some c=>some ⟨b,c⟩
  |_,_=>none
 |_=>none
def vh(x:Wk):List (SV T):=[.i .i64 x.engine,.i .i64 x.clock,.i .i64 x.stripes,.i .i64 x.reads,.i .i64 x.writes,.i .i64 x.retry,.i .i64 x.fuel,.i .i64 x.most,.tl (T:=T) 0 x.init,.tl (T:=T) 1 x.locks,.tl (T:=T) 0 x.conds,.tl (T:=T) 3 x.progs,.tl (T:=T) 2 x.o,.i .i64 x.top,.i .i64 x.loops]
def Nh(cs:List (SV T)):Option (Wk):=match cs with
 | [c0,l,m,c3,n,c5,o,p,c8,q,a,b,c,d,e]=>match bU .i64 c0,bU .i64 l,bU .i64 m,bU .i64 c3,bU .i64 n,bU .i64 c5,bU .i64 o,bU .i64 p,tlK 0 c8,tlK 1 q,tlK 0 a,tlK 3 b,tlK 2 c,bU .i64 d,bU .i64 e with
  |some s,some t,some u,some v,some w,some x,some y,some z,some A,some B,some f,some g,some h,some j,some k=>some ⟨s,t,u,v,w,x,y,z,A,B,f,g,h,j,k⟩
  |_,_,_,_,_,_,_,_,_,_,_,_,_,_,_=>none
 |_=>none
def Kl(x:Out):List (SV T):=[.tl (T:=T) 5 x.logs,.tl (T:=T) 0 x.words,.tl (T:=T) 0 x.owners,.tl (T:=T) 0 x.status,.tl (T:=T) 5 x.queues]
def GS(cs:List (SV T)):Option (Out):=match cs with
 | [c0,a,b,c3,c]=>match tlK 5 c0,tlK 0 a,tlK 0 b,tlK 0 c3,tlK 5 c with
  |some d,some e,some f,some g,some h=>some ⟨d,e,f,g,h⟩
  |_,_,_,_,_=>none
 |_=>none
def gL(x:R4):List (SV T):=[.i .i64 x.a,.i .i64 x.b,.i .i64 x.c,.i .i64 x.d]
def GZ(cs:List (SV T)):Option (R4):=match cs with
 | [c0,a,b,c3]=>match bU .i64 c0,bU .i64 a,bU .i64 b,bU .i64 c3 with
  |some c,some d,some e,some f=>some ⟨c,d,e,f⟩
  |_,_,_,_=>none
 |_=>none
def Ah(x:One):List (SV T):=[.i .i64 x.at_,.i .i64 x.fuel,.i .i64 x.status,.i .i64 x.r0,.i .i64 x.r1,.i .i64 x.r2,.i .i64 x.r3,.i .i64 x.awake,.tl (T:=T) 6 x.opn,.tl (T:=T) 0 x.log]
def DI(cs:List (SV T)):Option (One):=match cs with
 | [c0,a,b,c3,c,c5,d,e,c8,f]=>match bU .i64 c0,bU .i64 a,bU .i64 b,bU .i64 c3,bU .i64 c,bU .i64 c5,bU .i64 d,bU .i64 e,tlK 6 c8,tlK 0 f with
  |some g,some h,some j,some k,some l,some m,some n,some o,some p,some q=>some ⟨g,h,j,k,l,m,n,o,p,q⟩
  |_,_,_,_,_,_,_,_,_,_=>none
 |_=>none
def pv(x:Mdl):List (SV T):=[.i .i64 x.engine,.i .i64 x.clock,.i .i64 x.stripes,.i .i64 x.reads,.i .i64 x.writes,.i .i64 x.retry,.i .i64 x.fuel,.i .i64 x.most,.tl (T:=T) 0 x.init,.tl (T:=T) 1 x.locks,.tl (T:=T) 0 x.conds,.tl (T:=T) 3 x.progs,.tl (T:=T) 5 x.mates,.tl (T:=T) 0 x.words,.tl (T:=T) 0 x.owners,.tl (T:=T) 12 x.all,.tl (T:=T) 5 x.queues]
def EA(cs:List (SV T)):Option (Mdl):=match cs with
 | [c0,p,q,c3,s,c5,t,u,c8,v,a,b,c,d,e,f,g]=>match bU .i64 c0,bU .i64 p,bU .i64 q,bU .i64 c3,bU .i64 s,bU .i64 c5,bU .i64 t,bU .i64 u,tlK 0 c8,tlK 1 v,tlK 0 a,tlK 3 b,tlK 5 c,tlK 0 d,tlK 0 e,tlK 12 f,tlK 5 g with
  |some w,some x,some y,some z,some A,some B,some C,some D,some E,some G,some h,some j,some k,some l,some m,some n,some o=>some ⟨w,x,y,z,A,B,C,D,E,G,h,j,k,l,m,n,o⟩
  |_,_,_,_,_,_,_,_,_,_,_,_,_,_,_,_,_=>none
 |_=>none
def Kf(x:List UInt8):List (SV T):=[.s x]
def Fa(cs:List (SV T)):Option (List UInt8):=match cs with
 | [c0]=>match strOf c0 with
  |some a=>some a
  |_=>none
 |_=>none
def Kr(x:Int):List (SV T):=[.i .u8 x]
def E5(cs:List (SV T)):Option (Int):=match cs with
 | [c0]=>match bU .u8 c0 with
  |some a=>some a
  |_=>none
 |_=>none
def AQ(x:Man):List (SV T):=[.i .i64 x.at_,.i .i64 x.fuel,.i .i64 x.status,.i .i64 x.r0,.i .i64 x.r1,.i .i64 x.r2,.i .i64 x.r3,.tl (T:=T) 0 x.told,.tl (T:=T) 0 x.has,.b x.wants,.tl (T:=T) 0 x.mate]
def EK(cs:List (SV T)):Option (Man):=match cs with
 | [c0,c,d,c3,e,c5,f,g,c8,h,a]=>match bU .i64 c0,bU .i64 c,bU .i64 d,bU .i64 c3,bU .i64 e,bU .i64 c5,bU .i64 f,tlK 0 g,tlK 0 c8,iP h,tlK 0 a with
  |some j,some k,some l,some m,some n,some o,some p,some q,some s,some t,some b=>some ⟨j,k,l,m,n,o,p,q,s,t,b⟩
  |_,_,_,_,_,_,_,_,_,_,_=>none
 |_=>none
def uc(x:gi):List (SV T):=[.i .i64 x.engine,.i .i64 x.clock,.i .i64 x.stripes,.i .i64 x.reads,.i .i64 x.writes,.i .i64 x.retry,.i .i64 x.fuel,.i .i64 x.most,.tl (T:=T) 0 x.init,.tl (T:=T) 1 x.locks,.tl (T:=T) 0 x.conds,.tl (T:=T) 3 x.progs,.tl (T:=T) 16 x.man,.tl (T:=T) 0 x.w,.tl (T:=T) 0 x.o,.tl (T:=T) 5 x.q]
def FN(cs:List (SV T)):Option (gi):=match cs with
 | [c0,n,o,c3,p,c5,q,s,c8,t,a,b,c,d,e,f]=>match bU .i64 c0,bU .i64 n,bU .i64 o,bU .i64 c3,bU .i64 p,bU .i64 c5,bU .i64 q,bU .i64 s,tlK 0 c8,tlK 1 t,tlK 0 a,tlK 3 b,tlK 16 c,tlK 0 d,tlK 0 e,tlK 5 f with
  |some u,some v,some w,some x,some y,some z,some A,some B,some C,some D,some g,some h,some j,some k,some l,some m=>some ⟨u,v,w,x,y,z,A,B,C,D,g,h,j,k,l,m⟩
  |_,_,_,_,_,_,_,_,_,_,_,_,_,_,_,_=>none
 |_=>none
def Tj:(n:Nat)→T n→List (SV T)
 |0,x=>QB x
 |1,x=>enc1 x
 |2,x=>enc2 x
 |3,x=>enc3 x
 |4,x=>enc4 x
 |5,x=>Ql x
 |6,x=>Pm x
 |7,x=>B8 x
 |8,x=>Qc x
 |9,x=>vh x
 |10,x=>Kl x
 |11,x=>gL x
 |12,x=>Ah x
 |13,x=>pv x
 |14,x=>Kf x
 |15,x=>Kr x
 |16,x=>AQ x
 |17,x=>uc x
 |n+18,(x:Int)=>[.i .i64 x]
def MY(cs:List (SV T)):Option Int:=match cs with
 | [a]=>bU .i64 a
 |_=>none
def SK:(n:Nat)→List (SV T)→Option (T n)
 |0,cs=>MI cs
 |1,cs=>KL cs
 |2,cs=>MW cs
 |3,cs=>L2 cs
 |4,cs=>MQ cs
 |5,cs=>MR cs
 |6,cs=>Mj cs
 |7,cs=>Lk cs
 |8,cs=>M0 cs
 |9,cs=>Nh cs
 |10,cs=>GS cs
 |11,cs=>GZ cs
 |12,cs=>DI cs
 |13,cs=>EA cs
 |14,cs=>Fa cs
 |15,cs=>E5 cs
 |16,cs=>EK cs
 |17,cs=>FN cs
 |n+18,cs=>(MY cs:Option Int)
def Pe:(n:Nat)→T n
 |0=>(0:Int)
 |1=>(⟨0,0,0⟩:eT)
 |2=>(⟨0,0,0,0,0⟩:Instr)
 |3=>([]:List Instr)
 |4=>(⟨0,0,0,0,0,0,0,0,[],[],[],[]⟩:bg)
 |5=>([]:List Int)
 |6=>(⟨0,false⟩:Held)
 |7=>(⟨0,0,0,0,0,0,0,0⟩:K8)
 |8=>(⟨0,0⟩:Blk)
 |9=>(⟨0,0,0,0,0,0,0,0,[],[],[],[],[],0,0⟩:Wk)
 |10=>(⟨[],[],[],[],[]⟩:Out)
 |11=>(⟨0,0,0,0⟩:R4)
 |12=>(⟨0,0,0,0,0,0,0,0,[],[]⟩:One)
 |13=>(⟨0,0,0,0,0,0,0,0,[],[],[],[],[],[],[],[],[]⟩:Mdl)
 |14=>([]:List UInt8)
 |15=>(0:Int)
 |16=>(⟨0,0,0,0,0,0,0,[],[],false,[]⟩:Man)
 |17=>(⟨0,0,0,0,0,0,0,0,[],[],[],[],[],[],[],[]⟩:gi)
 |n+18=>(0:Int)
def szT(n:Nat):Nat:=match n with
 |0=>1
 |1=>3
 |2=>5
 |3=>1
 |4=>12
 |5=>1
 |6=>2
 |7=>8
 |8=>2
 |9=>15
 |10=>5
 |11=>4
 |12=>10
 |13=>17
 |14=>1
 |15=>1
 |16=>11
 |17=>16
 |_=>1
def LA(n:Nat):List (Option Nat):=match n with
 |0=>[none]
 |1=>[none,none,none]
 |2=>[none,none,none,none,none]
 |3=>[some 2]
 |4=>[none,none,none,none,none,none,none,none,some 0,some 1,some 0,some 3]
 |5=>[some 0]
 |6=>[none,none]
 |7=>[none,none,none,none,none,none,none,none]
 |8=>[none,none]
 |9=>[none,none,none,none,none,none,none,none,some 0,some 1,some 0,some 3,some 2,none,none]
 |10=>[some 5,some 0,some 0,some 0,some 5]
 |11=>[none,none,none,none]
 |12=>[none,none,none,none,none,none,none,none,some 6,some 0]
 |13=>[none,none,none,none,none,none,none,none,some 0,some 1,some 0,some 3,some 5,some 0,some 0,some 12,some 5]
 |14=>[none]
 |15=>[none]
 |16=>[none,none,none,none,none,none,none,some 0,some 0,none,some 0]
 |17=>[none,none,none,none,none,none,none,none,some 0,some 1,some 0,some 3,some 16,some 0,some 0,some 5]
 |_=>[none]
def PE(n:Nat):Bool:=match n with
 |0=>true
 |1=>true
 |2=>true
 |3=>false
 |4=>false
 |5=>false
 |6=>true
 |7=>true
 |8=>true
 |9=>false
 |10=>false
 |11=>true
 |12=>false
 |13=>false
 |14=>true
 |15=>true
 |16=>false
 |17=>false
 |_=>true
def tyT(t:TypeId):Option Nat:=if t=3∨t=2 then some 0 else if t=63 then some 1 else if t=53 then some 2 else if t=54 then some 3 else if t=28∨t=26 then some 5 else if t=111 then some 6 else if t=43 then some 10 else if t=108 then some 12 else if t=9 then some 14 else if t=5 then some 15 else if t=146 then some 8 else if t=190 then some 9 else if t=116 then some 16 else none
def cod:bK where
 T:=T
 sz:=szT
 enc:=Tj
 dec:=SK
 dflt:=Pe
 ofTy:=tyT
 shape:=LA
 flat:=PE
 bytes:=fun _=>none
theorem cX{E:Env}{k:IntKind}{x:SV T}{n:Int}{a:bc}(h:bU k x=some n)(c:Er (C:=cod) E x a):Er (C:=cod) E (.i k n) a:=by
 unfold bU at h;split at h
 ·rename_i d m e;split at h
  ·rename_i b;cases h;subst b;rw[cr c e];exact .i _ _
  ·cases h
 ·cases h
theorem ce{E:Env}{x:SV T}{n:Bool}{a:bc}(h:iP x=some n)(c:Er (C:=cod) E x a):Er (C:=cod) E (.b n) a:=by
 rw[gK c h];exact .b _
theorem cC{E:Env}{x:SV T}{n:List UInt8}{a:bc}(h:strOf x=some n)(b:Er (C:=cod) E x a):Er (C:=cod) E (.s n) a:=by
 rw[ed b h];exact .s _
theorem QI{E:Env}{x:SV T}{n:bc}{a:bc}(h:QF x=some n)(b:Er (C:=cod) E x a):Er (C:=cod) E (.a n) a:=by
 unfold QF at h;split at h
 ·cases h;exact b
 ·cases h
theorem d7{E:Env}{n:Nat}{x:SV T}{l:List (T n)}{a:bc}(h:tlK n x=some l)(b:Er (C:=cod) E x a):Er (C:=cod) E (.tl n l) a:=by
 unfold tlK at h;split at h
 ·split at h
  ·rename_i e;subst e;cases h;exact b
  ·cases h
 ·cases h;rw[T5 b];exact .tlN
 ·cases h
theorem IC{E:Env}{n:Int}{b:List bc}{x:SV T}(h:bU .i64 x=some n)(c:Ers (C:=cod) E [x] b):Ers (C:=cod) E [.i .i64 n] b:=by
 obtain⟨a,b,rfl,h1,c⟩:=c.inv_cons;obtain rfl:=c.inv_nil;exact Ers.nil.cons (cX h h1)
theorem IT{E:Env}{cs:List (SV T)}{x:Int}{a:List bc}(h:MY cs=some x)(b:Ers (C:=cod) E cs a):Ers (C:=cod) E [.i .i64 x] a:=by
 unfold MY at h;split at h
 ·exact IC h b
 ·cases h
theorem fC{E:Env}{c y:SV T}{cs d:List (SV T)}(h1:∀a,Er (C:=cod) E c a→Er (C:=cod) E y a)(e:∀b,Ers (C:=cod) E cs b→Ers (C:=cod) E d b):∀b,Ers (C:=cod) E (c::cs) b→Ers (C:=cod) E (y::d) b:=fun b h=>by
 obtain⟨a,b,rfl,k,h⟩:=h.inv_cons;exact(e _ h).cons (h1 _ k)
theorem Jn{E:Env}{cs:List (SV T)}{x:Int}(h:MI cs=some x):∀a,Ers (C:=cod) E cs a→Ers (C:=cod) E (QB x) a:=by
 unfold MI at h
 (repeat' split at h)<;>cases h
 repeat' first|exact fun _ h=>h|exact fun _=>cX ‹_› |exact fun _=>d7 ‹_› |exact fun _=>ce ‹_› |exact fun _=>cC ‹_› |refine fC ?_ ?_
theorem JT{E:Env}{cs:List (SV T)}{x:eT}(h:KL cs=some x):∀a,Ers (C:=cod) E cs a→Ers (C:=cod) E (enc1 x) a:=by
 unfold KL at h
 (repeat' split at h)<;>cases h
 repeat' first|exact fun _ h=>h|exact fun _=>cX ‹_› |exact fun _=>d7 ‹_› |exact fun _=>ce ‹_› |exact fun _=>cC ‹_› |refine fC ?_ ?_
theorem Jv{E:Env}{cs:List (SV T)}{x:Instr}(h:MW cs=some x):∀a,Ers (C:=cod) E cs a→Ers (C:=cod) E (enc2 x) a:=by
 unfold MW at h
 (repeat' split at h)<;>cases h
 repeat' first|exact fun _ h=>h|exact fun _=>cX ‹_› |exact fun _=>d7 ‹_› |exact fun _=>ce ‹_› |exact fun _=>cC ‹_› |refine fC ?_ ?_
theorem IS{E:Env}{cs:List (SV T)}{x:List Instr}(h:L2 cs=some x):∀a,Ers (C:=cod) E cs a→Ers (C:=cod) E (enc3 x) a:=by
 unfold L2 at h
 (repeat' split at h)<;>cases h
 repeat' first|exact fun _ h=>h|exact fun _=>cX ‹_› |exact fun _=>d7 ‹_› |exact fun _=>ce ‹_› |exact fun _=>cC ‹_› |refine fC ?_ ?_
theorem Ic{E:Env}{cs:List (SV T)}{x:bg}(h:MQ cs=some x):∀a,Ers (C:=cod) E cs a→Ers (C:=cod) E (enc4 x) a:=by
 unfold MQ at h
 (repeat' split at h)<;>cases h
 repeat' first|exact fun _ h=>h|exact fun _=>cX ‹_› |exact fun _=>d7 ‹_› |exact fun _=>ce ‹_› |exact fun _=>cC ‹_› |refine fC ?_ ?_
theorem HF{E:Env}{cs:List (SV T)}{x:List Int}(h:MR cs=some x):∀a,Ers (C:=cod) E cs a→Ers (C:=cod) E (Ql x) a:=by
 unfold MR at h
 (repeat' split at h)<;>cases h
 repeat' first|exact fun _ h=>h|exact fun _=>cX ‹_› |exact fun _=>d7 ‹_› |exact fun _=>ce ‹_› |exact fun _=>cC ‹_› |refine fC ?_ ?_
theorem HP{E:Env}{cs:List (SV T)}{x:Held}(h:Mj cs=some x):∀a,Ers (C:=cod) E cs a→Ers (C:=cod) E (Pm x) a:=by
 unfold Mj at h
 (repeat' split at h)<;>cases h
 repeat' first|exact fun _ h=>h|exact fun _=>cX ‹_› |exact fun _=>d7 ‹_› |exact fun _=>ce ‹_› |exact fun _=>cC ‹_› |refine fC ?_ ?_
theorem IX{E:Env}{cs:List (SV T)}{x:K8}(h:Lk cs=some x):∀a,Ers (C:=cod) E cs a→Ers (C:=cod) E (B8 x) a:=by
 unfold Lk at h
 (repeat' split at h)<;>cases h
 repeat' first|exact fun _ h=>h|exact fun _=>cX ‹_› |exact fun _=>d7 ‹_› |exact fun _=>ce ‹_› |exact fun _=>cC ‹_› |refine fC ?_ ?_
theorem HL{E:Env}{cs:List (SV T)}{x:Blk}(h:M0 cs=some x):∀a,Ers (C:=cod) E cs a→Ers (C:=cod) E (Qc x) a:=by
 unfold M0 at h
 (repeat' split at h)<;>cases h
 repeat' first|exact fun _ h=>h|exact fun _=>cX ‹_› |exact fun _=>d7 ‹_› |exact fun _=>ce ‹_› |exact fun _=>cC ‹_› |refine fC ?_ ?_
theorem JM{E:Env}{cs:List (SV T)}{x:Wk}(h:Nh cs=some x):∀a,Ers (C:=cod) E cs a→Ers (C:=cod) E (vh x) a:=by
 unfold Nh at h
 (repeat' split at h)<;>cases h
 repeat' first|exact fun _ h=>h|exact fun _=>cX ‹_› |exact fun _=>d7 ‹_› |exact fun _=>ce ‹_› |exact fun _=>cC ‹_› |refine fC ?_ ?_
theorem Fo{E:Env}{cs:List (SV T)}{x:Out}(h:GS cs=some x):∀a,Ers (C:=cod) E cs a→Ers (C:=cod) E (Kl x) a:=by
 unfold GS at h
 (repeat' split at h)<;>cases h
 repeat' first|exact fun _ h=>h|exact fun _=>cX ‹_› |exact fun _=>d7 ‹_› |exact fun _=>ce ‹_› |exact fun _=>cC ‹_› |refine fC ?_ ?_
theorem Gm{E:Env}{cs:List (SV T)}{x:R4}(h:GZ cs=some x):∀a,Ers (C:=cod) E cs a→Ers (C:=cod) E (gL x) a:=by
 unfold GZ at h
 (repeat' split at h)<;>cases h
 repeat' first|exact fun _ h=>h|exact fun _=>cX ‹_› |exact fun _=>d7 ‹_› |exact fun _=>ce ‹_› |exact fun _=>cC ‹_› |refine fC ?_ ?_
theorem DO{E:Env}{cs:List (SV T)}{x:One}(h:DI cs=some x):∀a,Ers (C:=cod) E cs a→Ers (C:=cod) E (Ah x) a:=by
 unfold DI at h
 (repeat' split at h)<;>cases h
 repeat' first|exact fun _ h=>h|exact fun _=>cX ‹_› |exact fun _=>d7 ‹_› |exact fun _=>ce ‹_› |exact fun _=>cC ‹_› |refine fC ?_ ?_
theorem FD{E:Env}{cs:List (SV T)}{x:Mdl}(h:EA cs=some x):∀a,Ers (C:=cod) E cs a→Ers (C:=cod) E (pv x) a:=by
 unfold EA at h
 (repeat' split at h)<;>cases h
 repeat' first|exact fun _ h=>h|exact fun _=>cX ‹_› |exact fun _=>d7 ‹_› |exact fun _=>ce ‹_› |exact fun _=>cC ‹_› |refine fC ?_ ?_
theorem Ey{E:Env}{cs:List (SV T)}{x:List UInt8}(h:Fa cs=some x):∀a,Ers (C:=cod) E cs a→Ers (C:=cod) E (Kf x) a:=by
 unfold Fa at h
 (repeat' split at h)<;>cases h
 repeat' first|exact fun _ h=>h|exact fun _=>cX ‹_› |exact fun _=>d7 ‹_› |exact fun _=>ce ‹_› |exact fun _=>cC ‹_› |refine fC ?_ ?_
theorem Ha{E:Env}{cs:List (SV T)}{x:Int}(h:E5 cs=some x):∀a,Ers (C:=cod) E cs a→Ers (C:=cod) E (Kr x) a:=by
 unfold E5 at h
 (repeat' split at h)<;>cases h
 repeat' first|exact fun _ h=>h|exact fun _=>cX ‹_› |exact fun _=>d7 ‹_› |exact fun _=>ce ‹_› |exact fun _=>cC ‹_› |refine fC ?_ ?_
theorem Hv{E:Env}{cs:List (SV T)}{x:Man}(h:EK cs=some x):∀a,Ers (C:=cod) E cs a→Ers (C:=cod) E (AQ x) a:=by
 unfold EK at h
 (repeat' split at h)<;>cases h
 repeat' first|exact fun _ h=>h|exact fun _=>cX ‹_› |exact fun _=>d7 ‹_› |exact fun _=>ce ‹_› |exact fun _=>cC ‹_› |refine fC ?_ ?_
theorem El{E:Env}{cs:List (SV T)}{x:gi}(h:FN cs=some x):∀a,Ers (C:=cod) E cs a→Ers (C:=cod) E (uc x) a:=by
 unfold FN at h
 (repeat' split at h)<;>cases h
 repeat' first|exact fun _ h=>h|exact fun _=>cX ‹_› |exact fun _=>d7 ‹_› |exact fun _=>ce ‹_› |exact fun _=>cC ‹_› |refine fC ?_ ?_
theorem bE:bo cod where
 len:=by
  intro n
  iterate 18 (rcases n with _|n;focus (intro x;rfl))
  intro x;rfl
 one:=by
  intro n
  iterate 18 (rcases n with _|n;focus (intro x;rfl))
  intro x;rfl
 ids:=by
  intro n
  iterate 18 (rcases n with _|n;focus (intro x;rfl))
  intro x;rfl
 flat:=by
  intro n
  iterate 18 (rcases n with _|n;focus (intro x h;first|rfl|cases h))
  intro x h;rfl
 dec:=by
  intro n
  iterate 18 (rcases n with _|n;focus (intro cs x h E b a;first|exact Jn h _ a|exact JT h _ a|exact Jv h _ a|exact IS h _ a|exact Ic h _ a|exact HF h _ a|exact HP h _ a|exact IX h _ a|exact HL h _ a|exact JM h _ a|exact Fo h _ a|exact Gm h _ a|exact DO h _ a|exact FD h _ a|exact Ey h _ a|exact Ha h _ a|exact Hv h _ a|exact El h _ a))
  intro cs x h E b a;exact IT h a
def at0(l:List Int)(i:Int):Int:=cod.at 0 l i
theorem gv{l:List Int}{i:Nat}(h:i<l.length):at0 l (i:Int)=l[i]:=at_get (C:=cod) (n:=0) h
def at1(l:List eT)(i:Int):eT:=cod.at 1 l i
theorem A9{l:List eT}{i:Nat}(h:i<l.length):at1 l (i:Int)=l[i]:=at_get (C:=cod) (n:=1) h
def at2(l:List Instr)(i:Int):Instr:=cod.at 2 l i
theorem kS{l:List Instr}{i:Nat}(h:i<l.length):at2 l (i:Int)=l[i]:=at_get (C:=cod) (n:=2) h
def at3(l:List (List Instr))(i:Int):List Instr:=cod.at 3 l i
theorem I2{l:List (List Instr)}{i:Nat}(h:i<l.length):at3 l (i:Int)=l[i]:=at_get (C:=cod) (n:=3) h
def at4(l:List (bg))(i:Int):bg:=cod.at 4 l i
theorem QK{l:List (bg)}{i:Nat}(h:i<l.length):at4 l (i:Int)=l[i]:=at_get (C:=cod) (n:=4) h
def at5(l:List (List Int))(i:Int):List Int:=cod.at 5 l i
theorem Ih{l:List (List Int)}{i:Nat}(h:i<l.length):at5 l (i:Int)=l[i]:=at_get (C:=cod) (n:=5) h
def at6(l:List Held)(i:Int):Held:=cod.at 6 l i
theorem Bc{l:List Held}{i:Nat}(h:i<l.length):at6 l (i:Int)=l[i]:=at_get (C:=cod) (n:=6) h
def at7(l:List (K8))(i:Int):K8:=cod.at 7 l i
theorem QJ{l:List (K8)}{i:Nat}(h:i<l.length):at7 l (i:Int)=l[i]:=at_get (C:=cod) (n:=7) h
def at8(l:List (Blk))(i:Int):Blk:=cod.at 8 l i
theorem lh{l:List (Blk)}{i:Nat}(h:i<l.length):at8 l (i:Int)=l[i]:=at_get (C:=cod) (n:=8) h
def at9(l:List (Wk))(i:Int):Wk:=cod.at 9 l i
theorem QL{l:List (Wk)}{i:Nat}(h:i<l.length):at9 l (i:Int)=l[i]:=at_get (C:=cod) (n:=9) h
def Ud(l:List (Out))(i:Int):Out:=cod.at 10 l i
theorem N7{l:List (Out)}{i:Nat}(h:i<l.length):Ud l (i:Int)=l[i]:=at_get (C:=cod) (n:=10) h
def QV(l:List (R4))(i:Int):R4:=cod.at 11 l i
theorem Pa{l:List (R4)}{i:Nat}(h:i<l.length):QV l (i:Int)=l[i]:=at_get (C:=cod) (n:=11) h
def bN(l:List One)(i:Int):One:=cod.at 12 l i
theorem sq{l:List One}{i:Nat}(h:i<l.length):bN l (i:Int)=l[i]:=at_get (C:=cod) (n:=12) h
def S4(l:List (Mdl))(i:Int):Mdl:=cod.at 13 l i
theorem Qi{l:List (Mdl)}{i:Nat}(h:i<l.length):S4 l (i:Int)=l[i]:=at_get (C:=cod) (n:=13) h
def QY(l:List (List UInt8))(i:Int):List UInt8:=cod.at 14 l i
theorem Qn{l:List (List UInt8)}{i:Nat}(h:i<l.length):QY l (i:Int)=l[i]:=at_get (C:=cod) (n:=14) h
def S0(l:List Int)(i:Int):Int:=cod.at 15 l i
theorem NJ{l:List Int}{i:Nat}(h:i<l.length):S0 l (i:Int)=l[i]:=at_get (C:=cod) (n:=15) h
def dl(l:List Man)(i:Int):Man:=cod.at 16 l i
theorem vK{l:List Man}{i:Nat}(h:i<l.length):dl l (i:Int)=l[i]:=at_get (C:=cod) (n:=16) h
def T3(l:List (gi))(i:Int):gi:=cod.at 17 l i
theorem NB{l:List (gi)}{i:Nat}(h:i<l.length):T3 l (i:Int)=l[i]:=at_get (C:=cod) (n:=17) h
end Go.Proofs.Y
namespace Go.Proofs.Y
open Go.RowKit Go.Am Go.Sy
def tY:sU:=[(10,[],.bool true)]
def Pz:List Nat:=[3,4,5,6,7,8,17,20,23,24,25,26,39,55,56,61,64,69,90,91,94,124,149]
def lP:List Nat:=[31,53,54,68]
def pol(f:FuncId):Pol:=if Pz.any (Nat.beq f)then .keep else if lP.any (Nat.beq f)then .pure else .fresh
noncomputable def S:bh:=St pol tY
noncomputable def F:Cf cod:=⟨S,fun _=>true⟩
theorem noExt:fB F.S F.noExt:=fun f h av=>rfl
theorem bC:dk F.S:=KD pol tY
theorem cd:cv F.S (bf ([]:List (FuncId×Ctr cod))):=fun f c h=>by cases h
end Go.Proofs.Y
namespace Go.Proofs.Y
open Go.RowKit Go.Am Go.Sy
def shA(op:Int):Int:=if op=13 then 2 else if op=15∨op=16∨op=17 then 3 else if(1≤op∧op≤9)∨op=12∨op=18∨op=21 then 1 else 0
def shB(op:Int):Int:=if op=13 then 4 else if 2≤op∧op≤11 then 1 else 0
def shC(op:Int):Int:=if 2≤op∧op≤7 then 1 else 0
def shN(op:Int):Int:=if op=1∨(8≤op∧op≤11)then 5 else 0
def ko(k:Int):Int:=if k=1∨k=2∨k=3 then 3 else if k=4 then 1 else 0
def cU(k v:Int):Bool:=decide (v≥0) && decide (v≤ko k)
def bX(x:Instr):Bool:=decide (x.op≥1) && (decide (x.op≤22) && (cU (shA x.op) x.a && (cU (shB x.op) x.b && (cU (shC x.op) x.c && ((shN x.op==5)||(x.n==0))))))
def shD:eC cod where
 pats:=[.int .i64]
 pre:=fun x=>True
 res:=fun(x:Int×Unit)=>.tup [.i .i64 (shA x.1),.i .i64 (shB x.1),.i .i64 (shC x.1),.i .i64 (shN x.1)]
 objs:=fun x=>[]
def xC:eC cod where
 pats:=[.int .i64,.int .i64]
 pre:=fun x=>True
 res:=fun(x:Int×Int×Unit)=>.b (cU x.1 x.2.1)
 objs:=fun x=>[]
def sR:eC cod where
 pats:=[.row 2]
 pre:=fun x=>True
 res:=fun(x:Instr×Unit)=>.b (bX x.1)
 objs:=fun x=>[]
structure MS where
 m:List Int
 s:List Blk
def opener(op:Int):Int:=if op=19∨op=20 then 18 else if op=22 then 21 else if op=14 then 13 else 0
def lst(s:List Blk):Blk:=at8 s ((s.length:Int)-1)
def cK(p:List Instr)(i:Nat)(q:MS):Option MS:=
 let op:=(at2 p i).op
 let b:=q.m.set i (-1)
 if op=18∨op=21∨op=13 then some ⟨b,q.s++[⟨i,i⟩]⟩
 else if opener op=0 then some ⟨b,q.s⟩
 else if q.s=[]∨(at2 p (lst q.s).a).op≠opener (at2 p i).op∨((at2 p i).op=19∧(lst q.s).l≠(lst q.s).a)then none
 else
  let c:=b.set (lst q.s).l.toNat i
  if op=19 then some ⟨c,q.s.set (q.s.length-1) ⟨(lst q.s).a,i⟩⟩
  else if op=22∨op=14 then some ⟨c.set i (lst q.s).a,q.s.take (q.s.length-1)⟩
  else some ⟨c,q.s.take (q.s.length-1)⟩
def mgo(p:List Instr):Nat→Nat→MS→List Int×Int
 |0,i,q=>if q.s=[]then(q.m,-1)else([],(lst q.s).a)
 |r+1,i,q=>match cK p i q with
  |none=>([],(i:Int))
  |some b=>mgo p r (i+1) b
def bA(p:List Instr):List Int×Int:=mgo p p.length 0 ⟨List.replicate p.length 0,[]⟩
def T4(p:List Instr)(q:MS):Prop:=q.m.length=p.length∧∀b∈q.s,(0≤b.a∧b.a<p.length)∧0≤b.l∧b.l<p.length
def mtD:eC cod where
 pats:=[.tl 2]
 pre:=fun(x:List Instr×Unit)=>x.1.length≤100000
 res:=fun(x:List Instr×Unit)=>.tup [.R 0,.i .i64 (bA x.1).2]
 objs:=fun(x:List Instr×Unit)=>[.rows 0 (bA x.1).1 false 0]
structure MtS where
 q:MS
 i:Nat
def mtI(p:List Instr)(s:MtS):Prop:=s.i≤p.length∧T4 p s.q∧s.q.s.length≤s.i∧mgo p (p.length-s.i) s.i s.q=bA p
def mtC(p:List Instr):dN cod:=⟨MtS,fun s=>mtI p s,fun s=>2+3*(p.length-s.i),
 fun s=>[(0,.tl (T:=T) 2 p),(4,.R 0),(5,.R 1),(13,.i .i64 p.length),(14,.i .i64 s.i)],fun s=>[.rows 0 s.q.m false 0,.rows 8 s.q.s false 1]⟩
def Az(p:List Instr):dN cod:=⟨MtS,fun s=>s.i<p.length∧mtI p s∧opener (at2 p s.i).op≠0,fun s=>1+3*(p.length-s.i),
 fun s=>[(0,.tl (T:=T) 2 p),(4,.R 0),(5,.R 1),(6,.i .i64 s.i),(7,.i .i64 (opener (at2 p s.i).op)),(8,.i .i64 ((s.q.s.length:Int)-1)),(13,.i .i64 p.length),(14,.i .i64 s.i)],fun s=>[.rows 0 (s.q.m.set s.i (-1)) false 0,.rows 8 s.q.s false 1]⟩
def dX(p:List Instr)(i:Nat)(s:List Blk):Prop:=s=[]∨(at2 p (lst s).a).op≠opener (at2 p i).op∨((at2 p i).op=19∧(lst s).l≠(lst s).a)
def Bq(p:List Instr):dN cod:=⟨MtS,fun s=>s.i<p.length∧mtI p s∧opener (at2 p s.i).op≠0∧¬dX p s.i s.q.s,fun s=>3*(p.length-s.i),
 fun s=>[(0,.tl (T:=T) 2 p),(4,.R 0),(5,.R 1),(6,.i .i64 s.i),(8,.i .i64 ((s.q.s.length:Int)-1)),(13,.i .i64 p.length),(14,.i .i64 s.i)],fun s=>[.rows 0 (s.q.m.set s.i (-1)) false 0,.rows 8 s.q.s false 1]⟩
def mtF(p:List Instr):FnD cod:=⟨[(4,mtC p),(21,Az p),(23,Bq p)],.tup [.R 0,.i .i64 (bA p).2],[.rows 0 (bA p).1 false 0]⟩
noncomputable def b45:Code:=Tryz.f147.body.getD .skip
noncomputable def b46:Code:=Tryz.f148.body.getD .skip
noncomputable def b31:Code:=Tryz.f123.body.getD .skip
noncomputable def b32:Code:=Tryz.f53.body.getD .skip
noncomputable def e1:List (FuncId×Ctr cod):=[(147,bB shD),(148,bB xC)]
end Go.Proofs.Y
namespace Go.Proofs.Y
open Go.RowKit Go.Am Go.Sy
theorem Uc(op:Int):Go.Sy.Tree.holds (bt F (bf []) 200 Tryz.f147 b45 ⟨[],.tup [.i .i64 (shA op),.i .i64 (shB op),.i .i64 (shC op),.i .i64 (shN op)],[]⟩ [.i .i64 op])=( ((op==1)=true→(1:Int)=
 shA op∧(0:Int)=shB op∧(0:Int)=shC op∧(5:Int)=shN op∧True)∧((op==1)=false→((op==2)=true→(1:Int)=shA op∧(1:Int)=shB op∧(1:Int)=shC op∧(0:Int)=shN op∧True)∧((op==
 2)=false→((op==3)=true→(1:Int)=shA op∧(1:Int)=shB op∧(1:Int)=shC op∧(0:Int)=shN op∧True)∧((op==3)=false→((op==4)=true→(1:Int)=shA op∧(1:Int)=shB op∧(1:Int)=
 shC op∧(0:Int)=shN op∧True)∧((op==4)=false→((op==5)=true→(1:Int)=shA op∧(1:Int)=shB op∧(1:Int)=shC op∧(0:Int)=shN op∧True)∧((op==5)=false→((op==6)=true→(1:
 Int)=shA op∧(1:Int)=shB op∧(1:Int)=shC op∧(0:Int)=shN op∧True)∧((op==6)=false→((op==7)=true→(1:Int)=shA op∧(1:Int)=shB op∧(1:Int)=shC op∧(0:Int)=shN op∧True)∧
 ((op==7)=false→((op==8)=true→(1:Int)=shA op∧(1:Int)=shB op∧(0:Int)=shC op∧(5:Int)=shN op∧True)∧((op==8)=false→((op==9)=true→(1:Int)=shA op∧(1:Int)=shB op∧(0:
 Int)=shC op∧(5:Int)=shN op∧True)∧((op==9)=false→((op==10)=true→(0:Int)=shA op∧(1:Int)=shB op∧(0:Int)=shC op∧(5:Int)=shN op∧True)∧((op==10)=false→((op==11)=true
 →(0:Int)=shA op∧(1:Int)=shB op∧(0:Int)=shC op∧(5:Int)=shN op∧True)∧((op==11)=false→((op==12)=true→(1:Int)=shA op∧(0:Int)=shB op∧(0:Int)=shC op∧(0:Int)=shN op∧
 True)∧((op==12)=false→((op==18)=true→(1:Int)=shA op∧(0:Int)=shB op∧(0:Int)=shC op∧(0:Int)=shN op∧True)∧((op==18)=false→((op==21)=true→(1:Int)=shA op∧(0:Int)=
 shB op∧(0:Int)=shC op∧(0:Int)=shN op∧True)∧((op==21)=false→((op==13)=true→(2:Int)=shA op∧(4:Int)=shB op∧(0:Int)=shC op∧(0:Int)=shN op∧True)∧((op==13)=false→((op
 ==15)=true→(3:Int)=shA op∧(0:Int)=shB op∧(0:Int)=shC op∧(0:Int)=shN op∧True)∧((op==15)=false→((op==16)=true→(3:Int)=shA op∧(0:Int)=shB op∧(0:Int)=shC op∧(0:
 Int)=shN op∧True)∧((op==16)=false→((op==17)=true→(3:Int)=shA op∧(0:Int)=shB op∧(0:Int)=shC op∧(0:Int)=shN op∧True)∧((op==17)=false→(0:Int)=shA op∧(0:Int)=shB op
 ∧(0:Int)=shC op∧(0:Int)=shN op∧True))))))))))))))))))):=by kernel_rfl
theorem ST(k v:Int):Go.Sy.Tree.holds (bt F (bf []) 200 Tryz.f148 b46 ⟨[],.b (cU k v),[]⟩ [.i .i64 k,.i .i64 v])=( ((k==1)=true→(decide (v≥(0:Int))=true→decide (v≤3)=cU k v∧True)
 ∧(decide (v≥(0:Int))=false→false=cU k v∧True))∧((k==1)=false→((k==2)=true→(decide (v≥(0:Int))=true→decide (v≤3)=cU k v∧True)∧(decide (v≥(0:Int))=false→false=cU k
 v∧True))∧((k==2)=false→((k==3)=true→(decide (v≥(0:Int))=true→decide (v≤3)=cU k v∧True)∧(decide (v≥(0:Int))=false→false=cU k v∧True))∧((k==3)=false→((k==4)=true
 →(decide (v≥(0:Int))=true→decide (v≤1)=cU k v∧True)∧(decide (v≥(0:Int))=false→false=cU k v∧True))∧((k==4)=false→(decide (v≥(0:Int))=true→decide (v≤0)=cU k v∧True)
 ∧(decide (v≥(0:Int))=false→false=cU k v∧True)))))):=by kernel_rfl
theorem SD(x:Instr):Go.Sy.Tree.holds (bt F (bf e1) 200 Tryz.f123 b31 ⟨[],.b (bX x),[]⟩ [.agg (enc2 x)])=( shD.pre (x.op,())∧(decide (x.op≥(1:Int))=true→(decide (x.op≤22)=true→xC.pre
 (shA x.op,x.a,())∧(cU (shA x.op) x.a=true→xC.pre (shB x.op,x.b,())∧(cU (shB x.op) x.b=true→xC.pre (shC x.op,x.c,())∧(cU (shC x.op) x.c=true→((shN x.op==5)=true→true=bX x∧
 True)∧((shN x.op==5)=false→(x.n==0)=bX x∧True))∧(cU (shC x.op) x.c=false→false=bX x∧True))∧(cU (shB x.op) x.b=false→false=bX x∧True))∧(cU (shA x.op) x.a=false→false=
 bX x∧True))∧(decide (x.op≤22)=false→false=bX x∧True))∧(decide (x.op≥(1:Int))=false→false=bX x∧True)):=by kernel_rfl
theorem TE(p:List Instr):Go.Sy.Tree.holds (bt F (bf []) 200 Tryz.f53 b32 (mtF p) [.tl (T:=T) 2 p])=( ((0:Int)≤(↑p.length:Int)∧(↑p.length:Int)=(↑p.length:Int)∧(↑p.length:Int)*8≤
 281474976710656∧(↑p.length:Int)≤9223372036854775807)∧∃(s:MtS),p=p∧List.replicate (↑p.length:Int).toNat (0:Int)=s.q.m∧[]=s.q.s∧(↑p.length:Int)=(↑p.length:Int)∧(0:Int)=(↑s.i:Int)∧
 mtI p s∧True):=by kernel_rfl
theorem Rp(p:List Instr)(m:List Int)(s:List Blk)(i:Nat):Go.Sy.Tree.holds (bV F (bf []) 200 Tryz.f53 b32 (mtF p) 4 (mtC p) ⟨⟨m,s⟩,i⟩)=( (decide ((↑i:Int)<(↑p.length:Int))=true→((0:Int)
 ≤(↑i:Int)∧(↑i:Int)<(↑m.length:Int))∧((0:Int)≤(↑i:Int)∧(↑i:Int)<(↑m.length:Int))∧((0:Int)≤(↑i:Int)∧(↑i:Int)<(↑p.length:Int))∧(((at2 p (↑i:Int)).op==18)=true→(s.length+
 [Blk.mk (↑i:Int) (↑i:Int)].length)*16≤140737488355328∧∃(b:MtS),p=p∧m.set (↑i:Int).toNat (-1:Int)=b.q.m∧s++[Blk.mk (↑i:Int) (↑i:Int)]=b.q.s∧(↑p.length:Int)=(↑p.length:Int)∧
 IntKind.i64.wrap ((↑i:Int)+1)=(↑b.i:Int)∧mtI p b∧(2:Nat)+3*(p.length-b.i)<2+3*(p.length-i)∧True)∧(((at2 p (↑i:Int)).op==18)=false→(((at2 p (↑i:Int)).op==21)=true→
 (s.length+[Blk.mk (↑i:Int) (↑i:Int)].length)*16≤140737488355328∧∃(b:MtS),p=p∧m.set (↑i:Int).toNat (-1:Int)=b.q.m∧s++[Blk.mk (↑i:Int) (↑i:Int)]=b.q.s∧(↑p.length:Int)=
 (↑p.length:Int)∧IntKind.i64.wrap ((↑i:Int)+1)=(↑b.i:Int)∧mtI p b∧(2:Nat)+3*(p.length-b.i)<2+3*(p.length-i)∧True)∧(((at2 p (↑i:Int)).op==21)=false→(((at2 p (↑i:Int)).op
 ==13)=true→(s.length+[Blk.mk (↑i:Int) (↑i:Int)].length)*16≤140737488355328∧∃(b:MtS),p=p∧m.set (↑i:Int).toNat (-1:Int)=b.q.m∧s++[Blk.mk (↑i:Int) (↑i:Int)]=b.q.s∧(↑p.length
 :Int)=(↑p.length:Int)∧IntKind.i64.wrap ((↑i:Int)+1)=(↑b.i:Int)∧mtI p b∧(2:Nat)+3*(p.length-b.i)<2+3*(p.length-i)∧True)∧(((at2 p (↑i:Int)).op==13)=false→(((at2 p (↑i:
 Int)).op==19)=true→∃(b:MtS),p=p∧m.set (↑i:Int).toNat (-1:Int)=b.q.m.set b.i (-1:Int)∧s=b.q.s∧(↑i:Int)=(↑b.i:Int)∧(18:Int)=opener (at2 p (↑b.i:Int)).op∧
 IntKind.i64.wrap ((↑s.length:Int)-1)=(↑b.q.s.length:Int)-1∧(↑p.length:Int)=(↑p.length:Int)∧(↑i:Int)=(↑b.i:Int)∧(b.i<p.length∧mtI p b∧opener (at2 p (↑b.i:Int)).op≠(0:Int))
 ∧(1:Nat)+3*(p.length-b.i)<2+3*(p.length-i)∧True)∧(((at2 p (↑i:Int)).op==19)=false→(((at2 p (↑i:Int)).op==20)=true→∃(b:MtS),p=p∧m.set (↑i:Int).toNat (-1:Int)=
 b.q.m.set b.i (-1:Int)∧s=b.q.s∧(↑i:Int)=(↑b.i:Int)∧(18:Int)=opener (at2 p (↑b.i:Int)).op∧IntKind.i64.wrap ((↑s.length:Int)-1)=(↑b.q.s.length:Int)-1∧(↑p.length:Int)=
 (↑p.length:Int)∧(↑i:Int)=(↑b.i:Int)∧(b.i<p.length∧mtI p b∧opener (at2 p (↑b.i:Int)).op≠(0:Int))∧(1:Nat)+3*(p.length-b.i)<2+3*(p.length-i)∧True)∧(((at2 p (↑i:
 Int)).op==20)=false→(((at2 p (↑i:Int)).op==22)=true→∃(b:MtS),p=p∧m.set (↑i:Int).toNat (-1:Int)=b.q.m.set b.i (-1:Int)∧s=b.q.s∧(↑i:Int)=(↑b.i:Int)∧(21:Int)=opener
 (at2 p (↑b.i:Int)).op∧IntKind.i64.wrap ((↑s.length:Int)-1)=(↑b.q.s.length:Int)-1∧(↑p.length:Int)=(↑p.length:Int)∧(↑i:Int)=(↑b.i:Int)∧(b.i<p.length∧mtI p b∧opener (at2 p
 (↑b.i:Int)).op≠(0:Int))∧(1:Nat)+3*(p.length-b.i)<2+3*(p.length-i)∧True)∧(((at2 p (↑i:Int)).op==22)=false→(((at2 p (↑i:Int)).op==14)=true→∃(b:MtS),p=p∧m.set (↑i:
 Int).toNat (-1:Int)=b.q.m.set b.i (-1:Int)∧s=b.q.s∧(↑i:Int)=(↑b.i:Int)∧(13:Int)=opener (at2 p (↑b.i:Int)).op∧IntKind.i64.wrap ((↑s.length:Int)-1)=(↑b.q.s.length:Int)-1∧
 (↑p.length:Int)=(↑p.length:Int)∧(↑i:Int)=(↑b.i:Int)∧(b.i<p.length∧mtI p b∧opener (at2 p (↑b.i:Int)).op≠(0:Int))∧(1:Nat)+3*(p.length-b.i)<2+3*(p.length-i)∧True)∧
 (((at2 p (↑i:Int)).op==14)=false→∃(b:MtS),p=p∧m.set (↑i:Int).toNat (-1:Int)=b.q.m∧s=b.q.s∧(↑p.length:Int)=(↑p.length:Int)∧IntKind.i64.wrap ((↑i:Int)+1)=(↑b.i:Int)∧mtI
 p b∧(2:Nat)+3*(p.length-b.i)<2+3*(p.length-i)∧True))))))))∧(decide ((↑i:Int)<(↑p.length:Int))=false→(decide ((↑s.length:Int)>0)=true→((0:Int)≤IntKind.i64.wrap ((↑s.length:
 Int)-1)∧IntKind.i64.wrap ((↑s.length:Int)-1)<(↑s.length:Int))∧((0:Int)≤IntKind.i64.wrap ((↑s.length:Int)-1)∧IntKind.i64.wrap ((↑s.length:Int)-1)<(↑s.length:Int))∧[]=(bA p).fst∧
 (at8 s (IntKind.i64.wrap ((↑s.length:Int)-1))).a=(bA p).snd∧True)∧(decide ((↑s.length:Int)>0)=false→m=(bA p).fst∧(-1:Int)=(bA p).snd∧True))):=by kernel_rfl
theorem Pp(p:List Instr)(m:List Int)(s:List Blk)(i:Nat):Go.Sy.Tree.holds (bV F (bf []) 200 Tryz.f53 b32 (mtF p) 21 (Az p) ⟨⟨m,s⟩,i⟩)=( (decide ((↑s.length:Int)-1<0)=true→[]=
 (bA p).fst∧(↑i:Int)=(bA p).snd∧True)∧(decide ((↑s.length:Int)-1<0)=false→((0:Int)≤(↑s.length:Int)-1∧(↑s.length:Int)-1<(↑s.length:Int))∧((0:Int)≤(↑s.length:Int)-1∧
 (↑s.length:Int)-1<(↑s.length:Int))∧((0:Int)≤(at8 s ((↑s.length:Int)-1)).a∧(at8 s ((↑s.length:Int)-1)).a<(↑p.length:Int))∧(((at2 p (at8 s ((↑s.length:Int)-1)).a).op !=opener (at2 p (↑i:
 Int)).op)=true→[]=(bA p).fst∧(↑i:Int)=(bA p).snd∧True)∧(((at2 p (at8 s ((↑s.length:Int)-1)).a).op !=opener (at2 p (↑i:Int)).op)=false→((0:Int)≤(↑i:Int)∧(↑i:Int)<(↑p.length:
 Int))∧(((at2 p (↑i:Int)).op==19)=true→((0:Int)≤(↑s.length:Int)-1∧(↑s.length:Int)-1<(↑s.length:Int))∧((0:Int)≤(↑s.length:Int)-1∧(↑s.length:Int)-1<(↑s.length:Int))∧((0:
 Int)≤(↑s.length:Int)-1∧(↑s.length:Int)-1<(↑s.length:Int))∧((0:Int)≤(↑s.length:Int)-1∧(↑s.length:Int)-1<(↑s.length:Int))∧(((at8 s ((↑s.length:Int)-1)).l !=(at8 s ((↑s.length:
 Int)-1)).a)=true→[]=(bA p).fst∧(↑i:Int)=(bA p).snd∧True)∧(((at8 s ((↑s.length:Int)-1)).l !=(at8 s ((↑s.length:Int)-1)).a)=false→∃(b:MtS),p=p∧m.set i (-1:Int)=
 b.q.m.set b.i (-1:Int)∧s=b.q.s∧(↑i:Int)=(↑b.i:Int)∧(↑s.length:Int)-1=(↑b.q.s.length:Int)-1∧(↑p.length:Int)=(↑p.length:Int)∧(↑i:Int)=(↑b.i:Int)∧(b.i<p.length∧
 mtI p b∧opener (at2 p (↑b.i:Int)).op≠(0:Int)∧¬dX p b.i b.q.s)∧(3:Nat)*(p.length-b.i)<1+3*(p.length-i)∧True))∧(((at2 p (↑i:Int)).op==19)=false→∃(b:MtS),p=p∧
 m.set i (-1:Int)=b.q.m.set b.i (-1:Int)∧s=b.q.s∧(↑i:Int)=(↑b.i:Int)∧(↑s.length:Int)-1=(↑b.q.s.length:Int)-1∧(↑p.length:Int)=(↑p.length:Int)∧(↑i:Int)=(↑b.i:Int)∧
 (b.i<p.length∧mtI p b∧opener (at2 p (↑b.i:Int)).op≠(0:Int)∧¬dX p b.i b.q.s)∧(3:Nat)*(p.length-b.i)<1+3*(p.length-i)∧True)))):=by kernel_rfl
theorem Qd(p:List Instr)(m:List Int)(s:List Blk)(i:Nat):Go.Sy.Tree.holds (bV F (bf []) 200 Tryz.f53 b32 (mtF p) 23 (Bq p) ⟨⟨m,s⟩,i⟩)=( ((0:Int)≤(↑s.length:Int)-1∧(↑s.length:Int)-
 1<(↑s.length:Int))∧((0:Int)≤(↑s.length:Int)-1∧(↑s.length:Int)-1<(↑s.length:Int))∧((0:Int)≤(at8 s ((↑s.length:Int)-1)).l∧(at8 s ((↑s.length:Int)-1)).l<(↑(m.set i (-1:
 Int)).length:Int))∧((0:Int)≤(at8 s ((↑s.length:Int)-1)).l∧(at8 s ((↑s.length:Int)-1)).l<(↑(m.set i (-1:Int)).length:Int))∧((0:Int)≤(↑i:Int)∧(↑i:Int)<(↑p.length:Int))∧(((at2 p (↑i
 :Int)).op==19)=true→((0:Int)≤(↑s.length:Int)-1∧(↑s.length:Int)-1<(↑s.length:Int))∧((0:Int)≤(↑s.length:Int)-1∧(↑s.length:Int)-1<(↑s.length:Int))∧∃(b:MtS),p=p∧(m.set
 i (-1:Int)).set (at8 s ((↑s.length:Int)-1)).l.toNat (↑i:Int)=b.q.m∧s.set ((↑s.length:Int)-1).toNat (Blk.mk (at8 s ((↑s.length:Int)-1)).a (↑i:Int))=b.q.s∧(↑p.length:Int)=(↑p.length:Int)
 ∧IntKind.i64.wrap ((↑i:Int)+1)=(↑b.i:Int)∧mtI p b∧(2:Nat)+3*(p.length-b.i)<3*(p.length-i)∧True)∧(((at2 p (↑i:Int)).op==19)=false→(((at2 p (↑i:Int)).op==22)=true→((0:
 Int)≤(↑s.length:Int)-1∧(↑s.length:Int)-1<(↑s.length:Int))∧((0:Int)≤(↑s.length:Int)-1∧(↑s.length:Int)-1<(↑s.length:Int))∧((0:Int)≤(↑i:Int)∧(↑i:Int)<(↑((m.set i (-1:
 Int)).set (at8 s ((↑s.length:Int)-1)).l.toNat (↑i:Int)).length:Int))∧((0:Int)≤(↑i:Int)∧(↑i:Int)<(↑((m.set i (-1:Int)).set (at8 s ((↑s.length:Int)-1)).l.toNat (↑i:Int)).length:Int))∧((0:
 Int)≤0∧(0:Int)≤(↑s.length:Int)-1∧(↑s.length:Int)-1≤(↑s.length:Int))∧∃(b:MtS),p=p∧((m.set i (-1:Int)).set (at8 s ((↑s.length:Int)-1)).l.toNat (↑i:Int)).set (↑i:Int).toNat (at8 s
 ((↑s.length:Int)-1)).a=b.q.m∧List.take (((↑s.length:Int)-1).toNat-0) (List.drop (0:Nat) s)=b.q.s∧(↑p.length:Int)=(↑p.length:Int)∧IntKind.i64.wrap ((↑i:Int)+1)=(↑b.i:Int)∧mtI p
 b∧(2:Nat)+3*(p.length-b.i)<3*(p.length-i)∧True)∧(((at2 p (↑i:Int)).op==22)=false→(((at2 p (↑i:Int)).op==14)=true→((0:Int)≤(↑s.length:Int)-1∧(↑s.length:Int)-1<
 (↑s.length:Int))∧((0:Int)≤(↑s.length:Int)-1∧(↑s.length:Int)-1<(↑s.length:Int))∧((0:Int)≤(↑i:Int)∧(↑i:Int)<(↑((m.set i (-1:Int)).set (at8 s ((↑s.length:Int)-1)).l.toNat (↑i:
 Int)).length:Int))∧((0:Int)≤(↑i:Int)∧(↑i:Int)<(↑((m.set i (-1:Int)).set (at8 s ((↑s.length:Int)-1)).l.toNat (↑i:Int)).length:Int))∧((0:Int)≤0∧(0:Int)≤(↑s.length:Int)-1∧
 (↑s.length:Int)-1≤(↑s.length:Int))∧∃(b:MtS),p=p∧((m.set i (-1:Int)).set (at8 s ((↑s.length:Int)-1)).l.toNat (↑i:Int)).set (↑i:Int).toNat (at8 s ((↑s.length:Int)-1)).a=b.q.m∧
 List.take (((↑s.length:Int)-1).toNat-0) (List.drop (0:Nat) s)=b.q.s∧(↑p.length:Int)=(↑p.length:Int)∧IntKind.i64.wrap ((↑i:Int)+1)=(↑b.i:Int)∧mtI p b∧(2:Nat)+3*(p.length-
 b.i)<3*(p.length-i)∧True)∧(((at2 p (↑i:Int)).op==14)=false→((0:Int)≤0∧(0:Int)≤(↑s.length:Int)-1∧(↑s.length:Int)-1≤(↑s.length:Int))∧∃(b:MtS),p=p∧(m.set i (-1:
 Int)).set (at8 s ((↑s.length:Int)-1)).l.toNat (↑i:Int)=b.q.m∧List.take (((↑s.length:Int)-1).toNat-0) (List.drop (0:Nat) s)=b.q.s∧(↑p.length:Int)=(↑p.length:Int)∧IntKind.i64.wrap ((↑i:
 Int)+1)=(↑b.i:Int)∧mtI p b∧(2:Nat)+3*(p.length-b.i)<3*(p.length-i)∧True)))):=by kernel_rfl
theorem JW(k v:Int):b7 (bt F (bf []) 200 Tryz.f148 b46 ⟨[],.b (cU k v),[]⟩ [.i .i64 k,.i .i64 v]):=by
 refine⟨?_⟩;rw[ST];have key:∀m:Int,ko k=m→(decide (v≥0)=true→decide (v≤m)=cU k v∧True)∧(decide (v≥0)=false→false=cU k v∧True):=fun m e=>
  ⟨fun h=>⟨by rw[cU,h,e,Bool.true_and],trivial⟩,fun h=>⟨by rw[cU,h,Bool.false_and],trivial⟩⟩
 refine⟨fun h=>key 3 ?_,fun h1=>⟨fun h=>key 3 ?_,fun c=>⟨fun h=>key 3 ?_,fun d=>⟨fun h=>key 1 ?_,fun a=>key 0 ?_⟩⟩⟩⟩
 ·rw[eq_of_beq h];rfl
 ·rw[eq_of_beq h];rfl
 ·rw[eq_of_beq h];rfl
 ·rw[eq_of_beq h];rfl
 ·have h1:=ne_of_beq_false h1;have c:=ne_of_beq_false c;have d:=ne_of_beq_false d;have a:=ne_of_beq_false a;rw[ko,if_neg (by omega),if_neg a]
theorem KB:bi F.S 148 (bB xC):=
 bv (fn:=Tryz.f148) (body:=b46) (ctr:=bf []) bE noExt bC cd Tryz.func148 rfl rfl rfl xC 200 (fun _=>[]) (show 2≤22 by decide) (show 22≤512 by decide) (by kernel_rfl) (fun _ _=>⟨rfl,rfl⟩)
  (fun(x:Int×Int×Unit) a=>JW x.1 x.2.1) (fun x a p b=>by cases b)
theorem H5(op:Int):b7 (bt F (bf []) 200 Tryz.f147 b45 ⟨[],.tup [.i .i64 (shA op),.i .i64 (shB op),.i .i64 (shC op),.i .i64 (shN op)],[]⟩ [.i .i64 op]):=by
 refine⟨?_⟩;rw[Uc]
 by_cases b:1≤op∧op≤21
 ·obtain⟨n,rfl⟩:=Int.eq_ofNat_of_zero_le (show 0≤op by omega)
  have a:n≤21:=by omega
  have:∀n:Nat,n≤21→n=0∨n=1∨n=2∨n=3∨n=4∨n=5∨n=6∨n=7∨n=8∨n=9∨n=10∨n=11∨n=12∨n=13∨n=14∨n=15∨n=16∨n=17∨n=18∨n=19∨n=20∨n=21:=by omega
  rcases this n a with rfl|rfl|rfl|rfl|rfl|rfl|rfl|rfl|rfl|rfl|rfl|rfl|rfl|rfl|rfl|rfl|rfl|rfl|rfl|rfl|rfl|rfl
  ·omega
  all_goals simp[shA,shB,shC,shN]
 ·have c:shA op=0:=by rw[shA,if_neg (by omega),if_neg (by omega),if_neg (by omega)]
  have d:shB op=0:=by rw[shB,if_neg (by omega),if_neg (by omega)]
  have e:shC op=0:=by rw[shC,if_neg (by omega)]
  have f:shN op=0:=by rw[shN,if_neg (by omega)]
  have ne:∀k:Int,1≤k→k≤21→(op==k)=false:=fun k h1 g=>by
   grind
  simp_all
theorem Se:bi F.S 147 (bB shD):=
 bv (fn:=Tryz.f147) (body:=b45) (ctr:=bf []) bE noExt bC cd Tryz.func147 rfl rfl rfl shD 200 (fun _=>[]) (show 1≤33 by decide) (show 33≤512 by decide) (by kernel_rfl) (fun _ _=>⟨rfl,rfl⟩)
  (fun(x:Int×Unit) a=>H5 x.1) (fun x a p b=>by cases b)
theorem TZ:cv F.S (bf e1):=bW fun p h=>by
 simp only[e1,List.mem_cons,List.not_mem_nil,or_false]at h;rcases h with rfl|rfl
 ·exact Se
 ·exact KB
theorem Io(x:Instr):b7 (bt F (bf e1) 200 Tryz.f123 b31 ⟨[],.b (bX x),[]⟩ [.agg (enc2 x)]):=by
 refine⟨?_⟩;rw[SD];exact⟨trivial,fun h1=>⟨fun a=>⟨trivial,fun c=>⟨trivial,fun d=>⟨trivial,fun e=>⟨fun f=>⟨by rw[bX,h1,a,c,d,e,f];rfl,trivial⟩,fun f=>⟨by rw[bX,h1,a,c,d,e,f];rfl,trivial⟩⟩,
  fun e=>⟨by rw[bX,h1,a,c,d,e];rfl,trivial⟩⟩,fun d=>⟨by rw[bX,h1,a,c,d];rfl,trivial⟩⟩,fun c=>⟨by rw[bX,h1,a,c];rfl,trivial⟩⟩,fun a=>⟨by rw[bX,h1,a];rfl,trivial⟩⟩,fun h1=>⟨by rw[bX,h1];rfl,trivial⟩⟩
theorem J9:bi F.S 123 (bB sR):=
 bv (fn:=Tryz.f123) (body:=b31) (ctr:=bf e1) bE noExt bC TZ Tryz.func123 rfl rfl rfl sR 200 (fun _=>[]) (show 1≤50 by decide) (show 50≤512 by decide) (by kernel_rfl) (fun _ _=>⟨rfl,rfl⟩)
  (fun(x:Instr×Unit) a=>Io x.1) (fun x a p b=>by cases b)
section
variable {p:List Instr}{i:Nat}{m:List Int}{s:List Blk}
theorem wJ(h:i<p.length)(q:MS):mgo p (p.length-i) i q=match cK p i q with
 |none=>([],(i:Int))
 |some a=>mgo p (p.length-(i+1)) (i+1) a:=by
 rw[show p.length-i=(p.length-(i+1))+1 by omega]
 rfl
theorem mX(h:(at2 p i).op=18∨(at2 p i).op=21∨(at2 p i).op=13):cK p i ⟨m,s⟩=some ⟨m.set i (-1),s++[⟨i,i⟩]⟩:=if_pos h
theorem kr(h:¬((at2 p i).op=18∨(at2 p i).op=21∨(at2 p i).op=13))(k:opener (at2 p i).op=0):cK p i ⟨m,s⟩=some ⟨m.set i (-1),s⟩:=by
 unfold cK;grind
theorem AR(k:opener (at2 p i).op≠0):(at2 p i).op=19∨(at2 p i).op=20∨(at2 p i).op=22∨(at2 p i).op=14:=by
 unfold opener at k
 grind
theorem uU(k:opener (at2 p i).op≠0)(a:dX p i s):cK p i ⟨m,s⟩=none:=by
 have h:=AR k;unfold dX at a;unfold cK;grind
theorem nE(k:opener (at2 p i).op≠0)(b:¬dX p i s)(c:(at2 p i).op=19):cK p i ⟨m,s⟩=some ⟨(m.set i (-1)).set (lst s).l.toNat i,s.set (s.length-1) ⟨(lst s).a,i⟩⟩:=by
 unfold dX at b;unfold cK;grind
theorem lw(k:opener (at2 p i).op≠0)(b:¬dX p i s)(c:(at2 p i).op=22∨(at2 p i).op=14):cK p i ⟨m,s⟩=some ⟨((m.set i (-1)).set (lst s).l.toNat i).set i (lst s).a,s.take (s.length-1)⟩:=by
 unfold dX at b;unfold cK;grind
theorem sd(k:opener (at2 p i).op≠0)(a:¬dX p i s)(h1:¬(at2 p i).op=19)(b:¬((at2 p i).op=22∨(at2 p i).op=14)):cK p i ⟨m,s⟩=some ⟨(m.set i (-1)).set (lst s).l.toNat i,s.take (s.length-1)⟩:=by
 have h:=AR k;unfold dX at a;unfold cK;grind
theorem jI(h:s≠[]):lst s∈s:=by
 have hl:s.length-1<s.length:=by
  have:=List.length_pos_iff.2 h;omega
 have e:lst s=s[s.length-1]:=by
  unfold lst;rw[show(s.length:Int)-1=((s.length-1:Nat):Int)by omega]
  exact lh hl
 grind
theorem d9{d:List Int}{c:List Blk}(e:i<p.length)(g:mtI p ⟨⟨m,s⟩,i⟩)(o:cK p i ⟨m,s⟩=some ⟨d,c⟩)(q:d.length=m.length)(t:∀b∈c,b∈s∨(b.a=i∧b.l=i)∨∃f∈s,b.a=f.a∧b.l=i)(hl:c.length≤s.length+1):mtI p ⟨⟨d,c⟩,i+1⟩:=by
 obtain⟨h1,⟨h,j⟩,k,n⟩:=g;refine⟨e,⟨?_, ?_⟩, ?_, ?_⟩
 ·grind
 ·grind
 ·grind
 ·have:=wJ e ⟨m,s⟩;grind
theorem vu(a:i<p.length)(b:mtI p ⟨⟨m,s⟩,i⟩)(d:cK p i ⟨m,s⟩=none):[]=(bA p).1∧(i:Int)=(bA p).2∧True:=by
 have:=wJ a ⟨m,s⟩;have c:mgo p (p.length-i) i ⟨m,s⟩=bA p:=b.2.2.2;grind
end
theorem IZ(p:List Instr)(c:p.length≤100000):b7 (bt F (bf []) 200 Tryz.f53 b32 (mtF p) [.tl (T:=T) 2 p]):=by
 refine⟨?_⟩;rw[TE];refine⟨⟨by omega,rfl,by omega,by omega⟩,⟨⟨List.replicate p.length 0,[]⟩,0⟩,rfl,rfl,rfl,rfl,rfl,⟨Nat.zero_le _,⟨List.length_replicate,fun b a=>by cases a⟩,qe _,rfl⟩,trivial⟩
theorem JU(p:List Instr)(I:p.length≤100000)(m:List Int)(s:List Blk)(i:Nat)(l:mtI p ⟨⟨m,s⟩,i⟩):b7 (bV F (bf []) 200 Tryz.f53 b32 (mtF p) 4 (mtC p) ⟨⟨m,s⟩,i⟩):=by
 refine⟨?_⟩;rw[Rp];have n:=l;obtain⟨h1,⟨E,G⟩,A,t⟩:=n;replace A:s.length≤i:=A;refine⟨fun h=>?_,fun h=>?_⟩
 ·have h:i<p.length:=by grind
  have C:IntKind.i64.wrap ((i:Int)+1)=((i+1:Nat):Int):=d6 (by omega)
  have d:IntKind.i64.wrap ((s.length:Int)-1)=(s.length:Int)-1:=wrap64 (by omega) (by omega)
  have e:2+3*(p.length-(i+1))<2+3*(p.length-i):=by omega
  have c:1+3*(p.length-i)<2+3*(p.length-i):=by omega
  have D:(at2 p i).op=18∨(at2 p i).op=21∨(at2 p i).op=13→mtI p ⟨⟨m.set i (-1),s++[⟨i,i⟩]⟩,i+1⟩:=fun j=>d9 h l (mX j) (by grind) (fun b B=>by
   grind) (by simp)
  have k:∀o:Int,opener (at2 p i).op=o→o≠0→∃(a:MtS),p=p∧m.set (i:Int).toNat (-1)=a.q.m.set a.i (-1)∧s=a.q.s∧(i:Int)=(a.i:Int)∧o=opener (at2 p a.i).op∧IntKind.i64.wrap ((s.length:Int)-1)=(a.q.s.length:Int)-1∧(p.length:Int)=(p.length:Int)∧(i:Int)=(a.i:Int)∧
   (a.i<p.length∧mtI p a∧opener (at2 p a.i).op≠0)∧1+3*(p.length-a.i)<2+3*(p.length-i)∧True:=fun o j H=>
   ⟨⟨⟨m,s⟩,i⟩,rfl,rfl,rfl,rfl,j.symm,d,rfl,rfl,⟨h,l,by grind⟩,c,trivial⟩
  refine⟨⟨by omega,(by grind)⟩,⟨by omega,(by grind)⟩,⟨by omega,by omega⟩,fun g=>?_,fun g1=>⟨fun g=>?_,fun u=>⟨fun g=>?_,fun v=>⟨fun g=>?_,fun w=>⟨fun g=>?_,fun x=>⟨fun g=>?_,fun y=>⟨fun g=>?_,fun z=>?_⟩⟩⟩⟩⟩⟩⟩
  ·grind
  ·grind
  ·grind
  ·exact k 18 (by rw[eq_of_beq g];rfl) (by decide)
  ·exact k 18 (by rw[eq_of_beq g];rfl) (by decide)
  ·exact k 21 (by rw[eq_of_beq g];rfl) (by decide)
  ·exact k 13 (by rw[eq_of_beq g];rfl) (by decide)
  ·have g1:=ne_of_beq_false g1;have u:=ne_of_beq_false u;have v:=ne_of_beq_false v;have w:=ne_of_beq_false w;have x:=ne_of_beq_false x;have y:=ne_of_beq_false y;have z:=ne_of_beq_false z;have j:opener (at2 p i).op=0:=by rw[opener,if_neg (by omega),if_neg (by omega),if_neg (by omega)]
   exact⟨⟨⟨m.set i (-1),s⟩,i+1⟩,rfl,rfl,rfl,rfl,C,d9 h l (kr (by omega) j) (by grind) (fun b B=>.inl B) (by omega),e,trivial⟩
 ·have h:i=p.length:=by grind
  subst h;rw[Nat.sub_self]at t;refine⟨fun g=>?_,fun g=>?_⟩
  ·have g:(s.length:Int)>0:=qb g;have f:s≠[]:=by grind
   have d:IntKind.i64.wrap ((s.length:Int)-1)=(s.length:Int)-1:=wrap64 (by omega) (by omega)
   rw[d,← t,mgo,if_neg f];exact⟨⟨by omega,by omega⟩,⟨by omega,by omega⟩,rfl,rfl,trivial⟩
  ·have g:¬(s.length:Int)>0:=qc g;have f:s=[]:=List.length_eq_zero_iff.1 (by omega)
   subst f;rw[← t,mgo,if_pos rfl];grind
theorem E8(p:List Instr)(m:List Int)(s:List Blk)(i:Nat)(o:i<p.length)(j:mtI p ⟨⟨m,s⟩,i⟩)(t:opener (at2 p i).op≠0):b7 (bV F (bf []) 200 Tryz.f53 b32 (mtF p) 21 (Az p) ⟨⟨m,s⟩,i⟩):=by
 refine⟨?_⟩;rw[Pp];have c:dX p i s→[]=(bA p).1∧(i:Int)=(bA p).2∧True:=fun d=>vu o j (uU t d)
 have n:¬dX p i s→∃(b:MtS),p=p∧m.set i (-1)=b.q.m.set b.i (-1)∧s=b.q.s∧(i:Int)=(b.i:Int)∧(s.length:Int)-1=(b.q.s.length:Int)-1∧(p.length:Int)=(p.length:Int)∧(i:Int)=(b.i:Int)∧
  (b.i<p.length∧mtI p b∧opener (at2 p b.i).op≠0∧¬dX p b.i b.q.s)∧3*(p.length-b.i)<1+3*(p.length-i)∧True:=fun d=>
  ⟨⟨⟨m,s⟩,i⟩,rfl,rfl,rfl,rfl,rfl,rfl,rfl,⟨o,j,t,d⟩,(show 3*(p.length-i)<1+3*(p.length-i)by omega),trivial⟩
 refine⟨fun h=>c (.inl ?_),fun h=>?_⟩
 ·have:=qb h;exact List.length_eq_zero_iff.1 (by omega)
 ·have h:=qc h;have f:s≠[]:=by grind
  have d:=j.2.1.2 _ (jI f);have r1:(0:Int)≤(s.length:Int)-1∧(s.length:Int)-1<(s.length:Int):=⟨by omega,by omega⟩
  refine⟨r1,r1,d.1,fun g=>c (.inr (.inl ?_)),fun g=>⟨⟨by omega,by omega⟩,fun k=>⟨r1,r1,r1,r1,fun q=>c (.inr (.inr ⟨eq_of_beq k, ?_⟩)),fun q=>n ?_⟩,fun k=>n ?_⟩⟩
  ·have g:((at2 p (lst s).a).op !=opener (at2 p i).op)=true:=g;grind
  ·have q:((lst s).l !=(lst s).a)=true:=q;grind
  ·have g:((at2 p (lst s).a).op !=opener (at2 p i).op)=false:=g;have q:((lst s).l !=(lst s).a)=false:=q;rintro(e|e|⟨_,e⟩)
   all_goals grind
  ·have g:((at2 p (lst s).a).op !=opener (at2 p i).op)=false:=g;rintro(e|e|⟨e,_⟩)
   all_goals grind
theorem FQ(p:List Instr)(z:p.length≤100000)(m:List Int)(s:List Blk)(i:Nat)(n:i<p.length)(f:mtI p ⟨⟨m,s⟩,i⟩)(o:opener (at2 p i).op≠0)(j:¬dX p i s):b7 (bV F (bf []) 200 Tryz.f53 b32 (mtF p) 23 (Bq p) ⟨⟨m,s⟩,i⟩):=by
 refine⟨?_⟩;rw[Qd];have h:s≠[]:=fun e=>j (.inl e)
 have u:=List.length_pos_iff.2 h;have q:=jI h;have hl:=f.2.1.2 _ q;have w:m.length=p.length:=f.2.1.1;have r1:(0:Int)≤(s.length:Int)-1∧(s.length:Int)-1<(s.length:Int):=⟨by omega,by omega⟩
 have r2:(0:Int)≤(lst s).l∧(lst s).l<((m.set i (-1)).length:Int):=⟨hl.2.1,by grind⟩
 have r3:(0:Int)≤(i:Int)∧(i:Int)<(((m.set i (-1)).set (lst s).l.toNat (i:Int)).length:Int):=⟨by omega,by grind⟩
 have r4:(0:Int)≤0∧(0:Int)≤(s.length:Int)-1∧(s.length:Int)-1≤(s.length:Int):=⟨by omega,by omega,by omega⟩
 have k:IntKind.i64.wrap ((i:Int)+1)=((i+1:Nat):Int):=d6 (by omega)
 have c:2+3*(p.length-(i+1))<3*(p.length-i):=by omega
 have v:((s.length:Int)-1).toNat=s.length-1:=by omega
 have t:List.take (((s.length:Int)-1).toNat-0) (List.drop 0 s)=s.take (s.length-1):=by rw[v];rfl
 refine⟨r1,r1,r2,r2,⟨by omega,by omega⟩,fun g=>⟨r1,r1,⟨⟨(m.set i (-1)).set (lst s).l.toNat i,s.set (s.length-1) ⟨(lst s).a,i⟩⟩,i+1⟩,rfl,rfl, ?_,rfl,k, ?_,c,trivial⟩,fun g1=>⟨fun g=>⟨r1,r1,r3,r3,r4,⟨⟨((m.set i (-1)).set (lst s).l.toNat i).set i (lst s).a,s.take (s.length-1)⟩,i+1⟩,rfl,rfl,t,rfl,k, ?_,c,trivial⟩,
  fun x=>⟨fun g=>⟨r1,r1,r3,r3,r4,⟨⟨((m.set i (-1)).set (lst s).l.toNat i).set i (lst s).a,s.take (s.length-1)⟩,i+1⟩,rfl,rfl,t,rfl,k, ?_,c,trivial⟩,fun y=>⟨r4,⟨⟨(m.set i (-1)).set (lst s).l.toNat i,s.take (s.length-1)⟩,i+1⟩,rfl,rfl,t,rfl,k, ?_,c,trivial⟩⟩⟩⟩
 ·show s.set ((s.length:Int)-1).toNat ⟨(lst s).a,i⟩=_;rw[v]
 ·refine d9 n f (nE o j (eq_of_beq g)) (by simp) (fun b d=>?_) (by simp)
  grind
 ·exact d9 n f (lw o j (.inl (eq_of_beq g))) (by simp) (fun b d=>.inl (List.mem_of_mem_take d)) (by simp;omega)
 ·exact d9 n f (lw o j (.inr (eq_of_beq g))) (by simp) (fun b d=>.inl (List.mem_of_mem_take d)) (by simp;omega)
 ·exact d9 n f (sd o j (ne_of_beq_false g1) (fun e=>e.elim (ne_of_beq_false x) (ne_of_beq_false y))) (by simp) (fun b d=>.inl (List.mem_of_mem_take d)) (by simp;omega)
theorem plain0:∀y:cod.T 0,(cod.enc 0 y).all gO=true:=fun y=>rfl
def Ma:Ctr cod:=Fu [.tl 2] (fun(x:List Instr×Unit)=>x.1.length≤100000) 0 (fun(x:List Instr×Unit)=>(bA x.1).1) .i64 (fun(x:List Instr×Unit)=>(bA x.1).2)
theorem PN:bi F.S 53 Ma:=
 vY (fn:=Tryz.f53) (body:=b32) (ctr:=bf []) bE noExt bC cd Tryz.func53 rfl rfl rfl [.tl 2] (fun(x:List Instr×Unit)=>x.1.length≤100000) 0 (fun(x:List Instr×Unit)=>(bA x.1).1) .i64 (fun(x:List Instr×Unit)=>(bA x.1).2) false 0 plain0 200 (fun(x:List Instr×Unit)=>[(4,mtC x.1),(21,Az x.1),(23,Bq x.1)]) (show 1≤128 by decide) (show 128≤512 by decide) (by kernel_rfl)
  (fun(x:List Instr×Unit) b=>IZ x.1 b) (fun(x:List Instr×Unit) b p c s a=>by
   simp at c;rcases c with rfl|rfl|rfl
   ·exact JU x.1 b s.q.m s.q.s s.i a
   ·exact E8 x.1 s.q.m s.q.s s.i a.1 a.2.1 a.2.2
   ·exact FQ x.1 b s.q.m s.q.s s.i a.1 a.2.1 a.2.2.1 a.2.2.2)
end Go.Proofs.Y
namespace Go.Proofs.Y
open Go.RowKit Go.Am Go.Sy
abbrev W3:=Int×Int×Int
def wi(n lo a:Int):Bool:=decide (n≥lo) && decide (n≤a)
def wiD:eC cod where
 pats:=[.int .i64,.int .i64,.int .i64]
 pre:=fun x=>True
 res:=fun(x:Int×Int×Int×Unit)=>.b (wi x.1 x.2.1 x.2.2.1)
 objs:=fun x=>[]
noncomputable def b85:Code:=Tryz.f85.body.getD .skip
def small(c:bg):Prop:=c.init.length≤1000∧c.locks.length≤1000∧c.conds.length≤1000∧c.progs.length≤1000
def dR(o:List Instr):Bool:=o.any fun x=>x.b==0
def fU(conds:List Int)(o:List Instr)(x:Instr):Int:=if x.a≥conds.length then 9 else if(o.length:Int)≠1∨(at2 o 0).a≠at0 conds x.a then 6 else if(at2 o 0).b=1 then 7 else 0
def fa(conds:List Int)(o:List Instr)(x:Instr):Int:=if x.a≥conds.length then 9 else match o.find? (fun y=>y.a==at0 conds x.a)with
 |none=>6
 |some y=>if y.b=1 then 7 else 0
def wrD:eC cod where
 pats:=[.frow 9]
 pre:=fun(x:Wk×Unit)=>x.1.o.length≤1000
 res:=fun(x:Wk×Unit)=>.b (dR x.1.o)
 objs:=fun x=>[]
def wrC(w:Wk):dN cod:=⟨Nat,fun k=>k≤w.o.length∧∀y∈w.o.take k,(y.b==0)=false,fun k=>w.o.length-k,
 fun k=>[(8,.tl (T:=T) 2 w.o),(9,.i .i64 w.o.length),(10,.i .i64 k)],fun _=>[]⟩
def waD:eC cod where
 pats:=[.frow 9,.row 2]
 pre:=fun(x:Wk×Instr×Unit)=>x.1.o.length≤1000∧0≤x.2.1.a
 res:=fun(x:Wk×Instr×Unit)=>.i .i64 (fU x.1.conds x.1.o x.2.1)
 objs:=fun x=>[]
def wkD:eC cod where
 pats:=[.frow 9,.row 2]
 pre:=fun(x:Wk×Instr×Unit)=>x.1.o.length≤1000∧0≤x.2.1.a
 res:=fun(x:Wk×Instr×Unit)=>.i .i64 (fa x.1.conds x.1.o x.2.1)
 objs:=fun x=>[]
def wkC(w:Wk)(x:Instr):dN cod:=⟨Nat,fun k=>k≤w.o.length∧x.a<w.conds.length∧∀y∈w.o.take k,(y.a==at0 w.conds x.a)=false,fun k=>w.o.length-k,
 fun k=>[(0,.fp (vh w)),(3,.ptr 0 0),(19,.tl (T:=T) 2 w.o),(20,.i .i64 w.o.length),(21,.i .i64 k)],fun _=>[.cells (enc2 x)]⟩
structure WS where
 o:List Instr
 top:Int
 loops:Int
def cL(c:bg)(x:Instr)(w:WS):Int:=
 if x.op=13 then(if x.a≥c.locks.length then 6 else if x.b=1∧(at1 c.locks x.a).kind≠3 then 7 else if(w.o.length:Int)=0 then 0 else if(w.o.length:Int)≥3 then 5 else if w.loops>0∨x.a≤w.top then 8 else 0)
 else if x.op=9 then(if(w.o.length:Int)>0∧dR w.o=false then 7 else 0)
 else if x.op=10∨x.op=11 then(if dR w.o=false then 7 else 0)
 else if x.op=15 then fU c.conds w.o x
 else if x.op=16∨x.op=17 then fa c.conds w.o x
 else 0
def mx(a b:Int):Int:=if a<b then b else a
def dB(x:Instr)(w:WS):WS:=
 if x.op=13 then⟨w.o++[x],mx (if(w.o.length:Int)=0 then-1 else w.top) x.a,if(w.o.length:Int)=0 then 0 else w.loops⟩
 else if x.op=14 then⟨w.o.take (w.o.length-1),w.top,w.loops⟩
 else if x.op=21 then⟨w.o,w.top,w.loops+1⟩
 else if x.op=22 then⟨w.o,w.top,w.loops-1⟩
 else w
def wgo(c:bg)(t:Nat)(p:List Instr):Nat→Nat→WS→W3
 |0,_,_=>(0,0,0)
 |r+1,i,w=>if cL c (at2 p i) w=0 then wgo c t p r (i+1) (dB (at2 p i) w)else(cL c (at2 p i) w,t,i)
def eX(p:List Instr):Nat→Nat→Int
 |0,_=> -1
 |r+1,i=>if bX (at2 p i)=true then eX p r (i+1)else i
def iB(c:bg)(t:Nat)(p:List Instr):W3:=if(p.length:Int)>48 then(4,t,-1)else if eX p p.length 0≥0 then(1,t,eX p p.length 0)else if(bA p).2≥0 then(5,t,(bA p).2)else wgo c t p p.length 0 ⟨[],0,0⟩
def pwC(c:bg)(t:Nat):W3:=iB c t (at3 c.progs t)
def cnt(p:List Instr)(s:List Blk):Nat:=(s.filter fun b=>(at2 p b.a).op==13).length
structure PgS where
 i:Nat
 w:WS
 q:MS
def Jx(c:bg)(t:Nat):dN cod:=⟨Nat,fun i=>i≤(at3 c.progs t).length∧(at3 c.progs t).length≤48∧eX (at3 c.progs t) ((at3 c.progs t).length-i) i=eX (at3 c.progs t) (at3 c.progs t).length 0∧(∀k,k<i→bX (at2 (at3 c.progs t) k)=true)∧pwC c t=(0,0,0),fun i=>200-i,
 fun i=>[(1,.i .i64 t),(2,.ptr 0 0),(5,.tl (T:=T) 2 (at3 c.progs t)),(35,.tl (T:=T) 2 (at3 c.progs t)),(36,.i .i64 (at3 c.progs t).length),(37,.i .i64 i)],fun _=>[.cells (enc4 c)]⟩
def pgI(c:bg)(t:Nat)(p:List Instr)(s:PgS):Prop:=s.i≤p.length∧p.length≤48∧(∀k,k<p.length→bX (at2 p k)=true)∧pwC c t=wgo c t p (p.length-s.i) s.i s.w∧(-(s.i:Int)≤s.w.loops∧s.w.loops≤s.i)∧s.w.o.length≤s.i∧
 (bA p).2<0∧mtI p ⟨s.q,s.i⟩∧s.w.o.length=cnt p s.q.s∧pwC c t=(0,0,0)
def AP(c:bg)(t:Nat):dN cod:=⟨PgS,fun s=>pgI c t (at3 c.progs t) s,fun s=>100-s.i,
 fun s=>[(1,.i .i64 t),(10,.ptr 0 0),(64,.tl (T:=T) 2 (at3 c.progs t)),(65,.i .i64 (at3 c.progs t).length),(66,.i .i64 s.i)],
 fun s=>[.cells (enc4 c++[.R 1,.i .i64 s.w.top,.i .i64 s.w.loops]),.rows 2 s.w.o false 1]⟩
def prD:eC cod where
 pats:=[.row 4,.int .i64]
 pre:=fun(x:bg×Int×Unit)=>small x.1∧0≤x.2.1∧x.2.1<x.1.progs.length∧pwC x.1 x.2.1.toNat=(0,0,0)
 res:=fun(x:bg×Int×Unit)=>.a .nili
 objs:=fun x=>[]
def pgF(c:bg)(t:Nat):FnD cod:=⟨[(7,Jx c t),(17,AP c t)],.a .nili,[]⟩
noncomputable def b48:Code:=Tryz.f150.body.getD .skip
noncomputable def b49:Code:=Tryz.f151.body.getD .skip
noncomputable def b50:Code:=Tryz.f152.body.getD .skip
noncomputable def b16:Code:=Tryz.f87.body.getD .skip
noncomputable def g1:List (FuncId×Ctr cod):=[(85,bB wiD),(83,AC),(82,AC),(123,bB sR),(53,Ma),(150,bB wrD),(151,bB waD),(152,bB wkD)]
end Go.Proofs.Y

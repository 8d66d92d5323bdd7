/- How the laws' rows lie in cells. -/
import Derived.Test.YtcholkmididfmaaGreatDoorLib4
namespace Go.Proofs.YtcholkmididfmaaGreatDoor
open Go.RowKit Go.Am Go.Sy
set_option linter.unusedVariables false
structure Lock where
 kind : Int
 fr : Int
 len : Int
 deriving Inhabited
structure Instr where
 op : Int
 a : Int
 b : Int
 c : Int
 n : Int
 deriving Inhabited
structure Config where
 engine : Int
 clock : Int
 stripes : Int
 reads : Int
 writes : Int
 retry : Int
 fuel : Int
 most : Int
 init : List (Int)
 locks : List (Lock)
 conds : List (Int)
 progs : List (List (Instr))
 deriving Inhabited
structure Held where
 lock : Int
 read : Bool
 deriving Inhabited
structure K8 where
 a : Int
 b : Int
 c : Int
 d : Int
 e : Int
 f : Int
 g : Int
 h : Int
 deriving Inhabited
structure Blk where
 a : Int
 l : Int
 deriving Inhabited
structure Wk where
 engine : Int
 clock : Int
 stripes : Int
 reads : Int
 writes : Int
 retry : Int
 fuel : Int
 most : Int
 init : List (Int)
 locks : List (Lock)
 conds : List (Int)
 progs : List (List (Instr))
 o : List (Instr)
 top : Int
 loops : Int
 deriving Inhabited
structure Out where
 logs : List (List (Int))
 words : List (Int)
 owners : List (Int)
 status : List (Int)
 queues : List (List (Int))
 deriving Inhabited
structure R4 where
 a : Int
 b : Int
 c : Int
 d : Int
 deriving Inhabited
structure One where
 at_ : Int
 fuel : Int
 status : Int
 r0 : Int
 r1 : Int
 r2 : Int
 r3 : Int
 awake : Int
 opn : List (Held)
 log : List (Int)
 deriving Inhabited
structure Mdl where
 engine : Int
 clock : Int
 stripes : Int
 reads : Int
 writes : Int
 retry : Int
 fuel : Int
 most : Int
 init : List (Int)
 locks : List (Lock)
 conds : List (Int)
 progs : List (List (Instr))
 mates : List (List (Int))
 words : List (Int)
 owners : List (Int)
 all : List (One)
 queues : List (List (Int))
 deriving Inhabited
abbrev T : Nat → Type
 | 0 => Int
 | 1 => Lock
 | 2 => Instr
 | 3 => List (Instr)
 | 4 => Config
 | 5 => List (Int)
 | 6 => Held
 | 7 => K8
 | 8 => Blk
 | 9 => Wk
 | 10 => Out
 | 11 => R4
 | 12 => One
 | 13 => Mdl
 | 14 => List UInt8
 | 15 => Int
 | _ => Int
def intK (k : IntKind) (x : SV T) : Option Int := match intOf x with
 | some (k',n) => if k' = k then some n else none
 | none => none
def tlK (n : Nat) (x : SV T) : Option (List (T n)) := match x with
 | .tl m l => if e : m = n then some (e ▸ l) else none
 | .a .nils => some []
 | _ => none
def enc0 (x : Int) : List (SV T) := [.i .i64 x]
def dec0 (cs : List (SV T)) : Option (Int) := match cs with
 | [c0] => match intK .i64 c0 with
  | some y0 => some y0
  | _ => none
 | _ => none
def enc1 (x : Lock) : List (SV T) := [.i .i64 x.kind,.i .i64 x.fr,.i .i64 x.len]
def dec1 (cs : List (SV T)) : Option (Lock) := match cs with
 | [c0,c1,c2] => match intK .i64 c0,intK .i64 c1,intK .i64 c2 with
  | some y0,some y1,some y2 => some ⟨y0,y1,y2⟩
  | _,_,_ => none
 | _ => none
def enc2 (x : Instr) : List (SV T) := [.i .i64 x.op,.i .i64 x.a,.i .i64 x.b,.i .i64 x.c,.i .i64 x.n]
def dec2 (cs : List (SV T)) : Option (Instr) := match cs with
 | [c0,c1,c2,c3,c4] => match intK .i64 c0,intK .i64 c1,intK .i64 c2,intK .i64 c3,intK .i64 c4 with
  | some y0,some y1,some y2,some y3,some y4 => some ⟨y0,y1,y2,y3,y4⟩
  | _,_,_,_,_ => none
 | _ => none
def enc3 (x : List (Instr)) : List (SV T) := [.tl (T := T) 2 x]
def dec3 (cs : List (SV T)) : Option (List (Instr)) := match cs with
 | [c0] => match tlK 2 c0 with
  | some y0 => some y0
  | _ => none
 | _ => none
def enc4 (x : Config) : List (SV T) := [.i .i64 x.engine,.i .i64 x.clock,.i .i64 x.stripes,.i .i64 x.reads,.i .i64 x.writes,.i .i64 x.retry,.i .i64 x.fuel,.i .i64 x.most,.tl (T := T) 0 x.init,.tl (T := T) 1 x.locks,.tl (T := T) 0 x.conds,.tl (T := T) 3 x.progs]
def dec4 (cs : List (SV T)) : Option (Config) := match cs with
 | [c0,c1,c2,c3,c4,c5,c6,c7,c8,c9,c10,c11] => match intK .i64 c0,intK .i64 c1,intK .i64 c2,intK .i64 c3,intK .i64 c4,intK .i64 c5,intK .i64 c6,intK .i64 c7,tlK 0 c8,tlK 1 c9,tlK 0 c10,tlK 3 c11 with
  | some y0,some y1,some y2,some y3,some y4,some y5,some y6,some y7,some y8,some y9,some y10,some y11 => some ⟨y0,y1,y2,y3,y4,y5,y6,y7,y8,y9,y10,y11⟩
  | _,_,_,_,_,_,_,_,_,_,_,_ => none
 | _ => none
def enc5 (x : List (Int)) : List (SV T) := [.tl (T := T) 0 x]
def dec5 (cs : List (SV T)) : Option (List (Int)) := match cs with
 | [c0] => match tlK 0 c0 with
  | some y0 => some y0
  | _ => none
 | _ => none
def enc6 (x : Held) : List (SV T) := [.i .i64 x.lock,.b x.read]
def dec6 (cs : List (SV T)) : Option (Held) := match cs with
 | [c0,c1] => match intK .i64 c0,boolOf c1 with
  | some y0,some y1 => some ⟨y0,y1⟩
  | _,_ => none
 | _ => none
def enc7 (x : K8) : List (SV T) := [.i .i64 x.a,.i .i64 x.b,.i .i64 x.c,.i .i64 x.d,.i .i64 x.e,.i .i64 x.f,.i .i64 x.g,.i .i64 x.h]
def dec7 (cs : List (SV T)) : Option (K8) := match cs with
 | [c0,c1,c2,c3,c4,c5,c6,c7] => match intK .i64 c0,intK .i64 c1,intK .i64 c2,intK .i64 c3,intK .i64 c4,intK .i64 c5,intK .i64 c6,intK .i64 c7 with
  | some y0,some y1,some y2,some y3,some y4,some y5,some y6,some y7 => some ⟨y0,y1,y2,y3,y4,y5,y6,y7⟩
  | _,_,_,_,_,_,_,_ => none
 | _ => none
def enc8 (x : Blk) : List (SV T) := [.i .i64 x.a,.i .i64 x.l]
def dec8 (cs : List (SV T)) : Option (Blk) := match cs with
 | [c0,c1] => match intK .i64 c0,intK .i64 c1 with
  | some y0,some y1 => some ⟨y0,y1⟩
  | _,_ => none
 | _ => none
def enc9 (x : Wk) : List (SV T) := [.i .i64 x.engine,.i .i64 x.clock,.i .i64 x.stripes,.i .i64 x.reads,.i .i64 x.writes,.i .i64 x.retry,.i .i64 x.fuel,.i .i64 x.most,.tl (T := T) 0 x.init,.tl (T := T) 1 x.locks,.tl (T := T) 0 x.conds,.tl (T := T) 3 x.progs,.tl (T := T) 2 x.o,.i .i64 x.top,.i .i64 x.loops]
def dec9 (cs : List (SV T)) : Option (Wk) := match cs with
 | [c0,c1,c2,c3,c4,c5,c6,c7,c8,c9,c10,c11,c12,c13,c14] => match intK .i64 c0,intK .i64 c1,intK .i64 c2,intK .i64 c3,intK .i64 c4,intK .i64 c5,intK .i64 c6,intK .i64 c7,tlK 0 c8,tlK 1 c9,tlK 0 c10,tlK 3 c11,tlK 2 c12,intK .i64 c13,intK .i64 c14 with
  | some y0,some y1,some y2,some y3,some y4,some y5,some y6,some y7,some y8,some y9,some y10,some y11,some y12,some y13,some y14 => some ⟨y0,y1,y2,y3,y4,y5,y6,y7,y8,y9,y10,y11,y12,y13,y14⟩
  | _,_,_,_,_,_,_,_,_,_,_,_,_,_,_ => none
 | _ => none
def enc10 (x : Out) : List (SV T) := [.tl (T := T) 5 x.logs,.tl (T := T) 0 x.words,.tl (T := T) 0 x.owners,.tl (T := T) 0 x.status,.tl (T := T) 5 x.queues]
def dec10 (cs : List (SV T)) : Option (Out) := match cs with
 | [c0,c1,c2,c3,c4] => match tlK 5 c0,tlK 0 c1,tlK 0 c2,tlK 0 c3,tlK 5 c4 with
  | some y0,some y1,some y2,some y3,some y4 => some ⟨y0,y1,y2,y3,y4⟩
  | _,_,_,_,_ => none
 | _ => none
def enc11 (x : R4) : List (SV T) := [.i .i64 x.a,.i .i64 x.b,.i .i64 x.c,.i .i64 x.d]
def dec11 (cs : List (SV T)) : Option (R4) := match cs with
 | [c0,c1,c2,c3] => match intK .i64 c0,intK .i64 c1,intK .i64 c2,intK .i64 c3 with
  | some y0,some y1,some y2,some y3 => some ⟨y0,y1,y2,y3⟩
  | _,_,_,_ => none
 | _ => none
def enc12 (x : One) : List (SV T) := [.i .i64 x.at_,.i .i64 x.fuel,.i .i64 x.status,.i .i64 x.r0,.i .i64 x.r1,.i .i64 x.r2,.i .i64 x.r3,.i .i64 x.awake,.tl (T := T) 6 x.opn,.tl (T := T) 0 x.log]
def dec12 (cs : List (SV T)) : Option (One) := match cs with
 | [c0,c1,c2,c3,c4,c5,c6,c7,c8,c9] => match intK .i64 c0,intK .i64 c1,intK .i64 c2,intK .i64 c3,intK .i64 c4,intK .i64 c5,intK .i64 c6,intK .i64 c7,tlK 6 c8,tlK 0 c9 with
  | some y0,some y1,some y2,some y3,some y4,some y5,some y6,some y7,some y8,some y9 => some ⟨y0,y1,y2,y3,y4,y5,y6,y7,y8,y9⟩
  | _,_,_,_,_,_,_,_,_,_ => none
 | _ => none
def enc13 (x : Mdl) : List (SV T) := [.i .i64 x.engine,.i .i64 x.clock,.i .i64 x.stripes,.i .i64 x.reads,.i .i64 x.writes,.i .i64 x.retry,.i .i64 x.fuel,.i .i64 x.most,.tl (T := T) 0 x.init,.tl (T := T) 1 x.locks,.tl (T := T) 0 x.conds,.tl (T := T) 3 x.progs,.tl (T := T) 5 x.mates,.tl (T := T) 0 x.words,.tl (T := T) 0 x.owners,.tl (T := T) 12 x.all,.tl (T := T) 5 x.queues]
def dec13 (cs : List (SV T)) : Option (Mdl) := match cs with
 | [c0,c1,c2,c3,c4,c5,c6,c7,c8,c9,c10,c11,c12,c13,c14,c15,c16] => match intK .i64 c0,intK .i64 c1,intK .i64 c2,intK .i64 c3,intK .i64 c4,intK .i64 c5,intK .i64 c6,intK .i64 c7,tlK 0 c8,tlK 1 c9,tlK 0 c10,tlK 3 c11,tlK 5 c12,tlK 0 c13,tlK 0 c14,tlK 12 c15,tlK 5 c16 with
  | some y0,some y1,some y2,some y3,some y4,some y5,some y6,some y7,some y8,some y9,some y10,some y11,some y12,some y13,some y14,some y15,some y16 => some ⟨y0,y1,y2,y3,y4,y5,y6,y7,y8,y9,y10,y11,y12,y13,y14,y15,y16⟩
  | _,_,_,_,_,_,_,_,_,_,_,_,_,_,_,_,_ => none
 | _ => none
def enc14 (x : List UInt8) : List (SV T) := [.s x]
def dec14 (cs : List (SV T)) : Option (List UInt8) := match cs with
 | [c0] => match strOf c0 with
  | some y0 => some y0
  | _ => none
 | _ => none
def enc15 (x : Int) : List (SV T) := [.i .u8 x]
def dec15 (cs : List (SV T)) : Option (Int) := match cs with
 | [c0] => match intK .u8 c0 with
  | some y0 => some y0
  | _ => none
 | _ => none
def encT : (n : Nat) → T n → List (SV T)
 | 0,x => enc0 x
 | 1,x => enc1 x
 | 2,x => enc2 x
 | 3,x => enc3 x
 | 4,x => enc4 x
 | 5,x => enc5 x
 | 6,x => enc6 x
 | 7,x => enc7 x
 | 8,x => enc8 x
 | 9,x => enc9 x
 | 10,x => enc10 x
 | 11,x => enc11 x
 | 12,x => enc12 x
 | 13,x => enc13 x
 | 14,x => enc14 x
 | 15,x => enc15 x
 | n + 16,(x : Int) => [.i .i64 x]
def decI (cs : List (SV T)) : Option Int := match cs with
 | [a] => intK .i64 a
 | _ => none
def decT : (n : Nat) → List (SV T) → Option (T n)
 | 0,cs => dec0 cs
 | 1,cs => dec1 cs
 | 2,cs => dec2 cs
 | 3,cs => dec3 cs
 | 4,cs => dec4 cs
 | 5,cs => dec5 cs
 | 6,cs => dec6 cs
 | 7,cs => dec7 cs
 | 8,cs => dec8 cs
 | 9,cs => dec9 cs
 | 10,cs => dec10 cs
 | 11,cs => dec11 cs
 | 12,cs => dec12 cs
 | 13,cs => dec13 cs
 | 14,cs => dec14 cs
 | 15,cs => dec15 cs
 | n + 16,cs => (decI cs : Option Int)
def dfltT : (n : Nat) → T n
 | 0 => (0 : Int)
 | 1 => (⟨0,0,0⟩ : Lock)
 | 2 => (⟨0,0,0,0,0⟩ : Instr)
 | 3 => ([] : List (Instr))
 | 4 => (⟨0,0,0,0,0,0,0,0,[],[],[],[]⟩ : Config)
 | 5 => ([] : List (Int))
 | 6 => (⟨0,false⟩ : Held)
 | 7 => (⟨0,0,0,0,0,0,0,0⟩ : K8)
 | 8 => (⟨0,0⟩ : Blk)
 | 9 => (⟨0,0,0,0,0,0,0,0,[],[],[],[],[],0,0⟩ : Wk)
 | 10 => (⟨[],[],[],[],[]⟩ : Out)
 | 11 => (⟨0,0,0,0⟩ : R4)
 | 12 => (⟨0,0,0,0,0,0,0,0,[],[]⟩ : One)
 | 13 => (⟨0,0,0,0,0,0,0,0,[],[],[],[],[],[],[],[],[]⟩ : Mdl)
 | 14 => ([] : List UInt8)
 | 15 => (0 : Int)
 | n + 16 => (0 : Int)
def szT (n : Nat) : Nat := match n with
 | 0 => 1
 | 1 => 3
 | 2 => 5
 | 3 => 1
 | 4 => 12
 | 5 => 1
 | 6 => 2
 | 7 => 8
 | 8 => 2
 | 9 => 15
 | 10 => 5
 | 11 => 4
 | 12 => 10
 | 13 => 17
 | 14 => 1
 | 15 => 1
 | _ => 1
def shapeT (n : Nat) : List (Option Nat) := match n with
 | 0 => [none]
 | 1 => [none,none,none]
 | 2 => [none,none,none,none,none]
 | 3 => [some 2]
 | 4 => [none,none,none,none,none,none,none,none,some 0,some 1,some 0,some 3]
 | 5 => [some 0]
 | 6 => [none,none]
 | 7 => [none,none,none,none,none,none,none,none]
 | 8 => [none,none]
 | 9 => [none,none,none,none,none,none,none,none,some 0,some 1,some 0,some 3,some 2,none,none]
 | 10 => [some 5,some 0,some 0,some 0,some 5]
 | 11 => [none,none,none,none]
 | 12 => [none,none,none,none,none,none,none,none,some 6,some 0]
 | 13 => [none,none,none,none,none,none,none,none,some 0,some 1,some 0,some 3,some 5,some 0,some 0,some 12,some 5]
 | 14 => [none]
 | 15 => [none]
 | _ => [none]
def flatT (n : Nat) : Bool := match n with
 | 0 => true
 | 1 => true
 | 2 => true
 | 3 => false
 | 4 => false
 | 5 => false
 | 6 => true
 | 7 => true
 | 8 => true
 | 9 => false
 | 10 => false
 | 11 => true
 | 12 => false
 | 13 => false
 | 14 => true
 | 15 => true
 | _ => true
def tyT (t : TypeId) : Option Nat := if t = 3 ∨ t = 2 then some 0 else if t = 63 then some 1 else if t = 53 then some 2 else if t = 54 then some 3 else if t = 28 ∨ t = 26 then some 5 else if t = 111 then some 6 else if t = 43 then some 10 else if t = 108 then some 12 else if t = 9 then some 14 else if t = 5 then some 15 else if t = 146 then some 8 else if t = 190 then some 9 else none
def cod : Codec where
 T := T
 sz := szT
 enc := encT
 dec := decT
 dflt := dfltT
 ofTy := tyT
 shape := shapeT
 flat := flatT
 bytes := fun _ => none
theorem intK_er {E : Env} {k : IntKind} {x : SV T} {n : Int} {a : AVal} (h : intK k x = some n) (hx : Er (C := cod) E x a) : Er (C := cod) E (.i k n) a := by
 unfold intK at h
 split at h
 ·rename_i k' m e
  split at h
  ·rename_i hk
   cases h
   subst hk
   rw [intOf_ok hx e]
   exact .i _ _
  ·cases h
 ·cases h
theorem boolOf_er {E : Env} {x : SV T} {n : Bool} {a : AVal} (h : boolOf x = some n) (hx : Er (C := cod) E x a) : Er (C := cod) E (.b n) a := by
 rw [boolOf_ok hx h]
 exact .b _
theorem strOf_er {E : Env} {x : SV T} {n : List UInt8} {a : AVal} (h : strOf x = some n) (hx : Er (C := cod) E x a) : Er (C := cod) E (.s n) a := by
 rw [strOf_ok hx h]
 exact .s _
theorem tlK_er {E : Env} {n : Nat} {x : SV T} {l : List (T n)} {a : AVal} (h : tlK n x = some l) (hx : Er (C := cod) E x a) : Er (C := cod) E (.tl n l) a := by
 unfold tlK at h
 split at h
 ·split at h
  ·rename_i e
   subst e
   cases h
   exact hx
  ·cases h
 ·cases h; rw [er_a hx]; exact .tlN
 ·cases h
theorem int_ers {E : Env} {n : Int} {as : List AVal} {x : SV T} (h : intK .i64 x = some n) (hE : Ers (C := cod) E [x] as) : Ers (C := cod) E [.i .i64 n] as := by
 obtain ⟨a,as,rfl,h1,hE⟩ := hE.inv_cons
 obtain rfl := hE.inv_nil
 exact Ers.nil.cons (intK_er h h1)
theorem decI_er {E : Env} {cs : List (SV T)} {x : Int} {as : List AVal} (h : decI cs = some x) (hE : Ers (C := cod) E cs as) : Ers (C := cod) E [.i .i64 x] as := by
 unfold decI at h
 split at h
 ·exact int_ers h hE
 ·cases h
theorem dec0_er {E : Env} {cs : List (SV T)} {x : Int} {as : List AVal} (h : dec0 cs = some x) (hE : Ers (C := cod) E cs as) : Ers (C := cod) E (enc0 x) as := by
 unfold dec0 at h
 split at h
 ·split at h
  ·rename_i e0
   cases h
   obtain ⟨a0,as,rfl,h0,hE⟩ := hE.inv_cons
   obtain rfl := hE.inv_nil
   exact (Ers.nil.cons (intK_er e0 h0))
  ·cases h
 ·cases h
theorem dec1_er {E : Env} {cs : List (SV T)} {x : Lock} {as : List AVal} (h : dec1 cs = some x) (hE : Ers (C := cod) E cs as) : Ers (C := cod) E (enc1 x) as := by
 unfold dec1 at h
 split at h
 ·split at h
  ·rename_i e0 e1 e2
   cases h
   obtain ⟨a0,as,rfl,h0,hE⟩ := hE.inv_cons
   obtain ⟨a1,as,rfl,h1,hE⟩ := hE.inv_cons
   obtain ⟨a2,as,rfl,h2,hE⟩ := hE.inv_cons
   obtain rfl := hE.inv_nil
   exact (((Ers.nil.cons (intK_er e2 h2)).cons (intK_er e1 h1)).cons (intK_er e0 h0))
  ·cases h
 ·cases h
theorem dec2_er {E : Env} {cs : List (SV T)} {x : Instr} {as : List AVal} (h : dec2 cs = some x) (hE : Ers (C := cod) E cs as) : Ers (C := cod) E (enc2 x) as := by
 unfold dec2 at h
 split at h
 ·split at h
  ·rename_i e0 e1 e2 e3 e4
   cases h
   obtain ⟨a0,as,rfl,h0,hE⟩ := hE.inv_cons
   obtain ⟨a1,as,rfl,h1,hE⟩ := hE.inv_cons
   obtain ⟨a2,as,rfl,h2,hE⟩ := hE.inv_cons
   obtain ⟨a3,as,rfl,h3,hE⟩ := hE.inv_cons
   obtain ⟨a4,as,rfl,h4,hE⟩ := hE.inv_cons
   obtain rfl := hE.inv_nil
   exact (((((Ers.nil.cons (intK_er e4 h4)).cons (intK_er e3 h3)).cons (intK_er e2 h2)).cons (intK_er e1 h1)).cons (intK_er e0 h0))
  ·cases h
 ·cases h
theorem dec3_er {E : Env} {cs : List (SV T)} {x : List (Instr)} {as : List AVal} (h : dec3 cs = some x) (hE : Ers (C := cod) E cs as) : Ers (C := cod) E (enc3 x) as := by
 unfold dec3 at h
 split at h
 ·split at h
  ·rename_i e0
   cases h
   obtain ⟨a0,as,rfl,h0,hE⟩ := hE.inv_cons
   obtain rfl := hE.inv_nil
   exact (Ers.nil.cons (tlK_er e0 h0))
  ·cases h
 ·cases h
theorem dec4_er {E : Env} {cs : List (SV T)} {x : Config} {as : List AVal} (h : dec4 cs = some x) (hE : Ers (C := cod) E cs as) : Ers (C := cod) E (enc4 x) as := by
 unfold dec4 at h
 split at h
 ·split at h
  ·rename_i e0 e1 e2 e3 e4 e5 e6 e7 e8 e9 e10 e11
   cases h
   obtain ⟨a0,as,rfl,h0,hE⟩ := hE.inv_cons
   obtain ⟨a1,as,rfl,h1,hE⟩ := hE.inv_cons
   obtain ⟨a2,as,rfl,h2,hE⟩ := hE.inv_cons
   obtain ⟨a3,as,rfl,h3,hE⟩ := hE.inv_cons
   obtain ⟨a4,as,rfl,h4,hE⟩ := hE.inv_cons
   obtain ⟨a5,as,rfl,h5,hE⟩ := hE.inv_cons
   obtain ⟨a6,as,rfl,h6,hE⟩ := hE.inv_cons
   obtain ⟨a7,as,rfl,h7,hE⟩ := hE.inv_cons
   obtain ⟨a8,as,rfl,h8,hE⟩ := hE.inv_cons
   obtain ⟨a9,as,rfl,h9,hE⟩ := hE.inv_cons
   obtain ⟨a10,as,rfl,h10,hE⟩ := hE.inv_cons
   obtain ⟨a11,as,rfl,h11,hE⟩ := hE.inv_cons
   obtain rfl := hE.inv_nil
   exact ((((((((((((Ers.nil.cons (tlK_er e11 h11)).cons (tlK_er e10 h10)).cons (tlK_er e9 h9)).cons (tlK_er e8 h8)).cons (intK_er e7 h7)).cons (intK_er e6 h6)).cons (intK_er e5 h5)).cons (intK_er e4 h4)).cons (intK_er e3 h3)).cons (intK_er e2 h2)).cons (intK_er e1 h1)).cons (intK_er e0 h0))
  ·cases h
 ·cases h
theorem dec5_er {E : Env} {cs : List (SV T)} {x : List (Int)} {as : List AVal} (h : dec5 cs = some x) (hE : Ers (C := cod) E cs as) : Ers (C := cod) E (enc5 x) as := by
 unfold dec5 at h
 split at h
 ·split at h
  ·rename_i e0
   cases h
   obtain ⟨a0,as,rfl,h0,hE⟩ := hE.inv_cons
   obtain rfl := hE.inv_nil
   exact (Ers.nil.cons (tlK_er e0 h0))
  ·cases h
 ·cases h
theorem dec6_er {E : Env} {cs : List (SV T)} {x : Held} {as : List AVal} (h : dec6 cs = some x) (hE : Ers (C := cod) E cs as) : Ers (C := cod) E (enc6 x) as := by
 unfold dec6 at h
 split at h
 ·split at h
  ·rename_i e0 e1
   cases h
   obtain ⟨a0,as,rfl,h0,hE⟩ := hE.inv_cons
   obtain ⟨a1,as,rfl,h1,hE⟩ := hE.inv_cons
   obtain rfl := hE.inv_nil
   exact ((Ers.nil.cons (boolOf_er e1 h1)).cons (intK_er e0 h0))
  ·cases h
 ·cases h
theorem dec7_er {E : Env} {cs : List (SV T)} {x : K8} {as : List AVal} (h : dec7 cs = some x) (hE : Ers (C := cod) E cs as) : Ers (C := cod) E (enc7 x) as := by
 unfold dec7 at h
 split at h
 ·split at h
  ·rename_i e0 e1 e2 e3 e4 e5 e6 e7
   cases h
   obtain ⟨a0,as,rfl,h0,hE⟩ := hE.inv_cons
   obtain ⟨a1,as,rfl,h1,hE⟩ := hE.inv_cons
   obtain ⟨a2,as,rfl,h2,hE⟩ := hE.inv_cons
   obtain ⟨a3,as,rfl,h3,hE⟩ := hE.inv_cons
   obtain ⟨a4,as,rfl,h4,hE⟩ := hE.inv_cons
   obtain ⟨a5,as,rfl,h5,hE⟩ := hE.inv_cons
   obtain ⟨a6,as,rfl,h6,hE⟩ := hE.inv_cons
   obtain ⟨a7,as,rfl,h7,hE⟩ := hE.inv_cons
   obtain rfl := hE.inv_nil
   exact ((((((((Ers.nil.cons (intK_er e7 h7)).cons (intK_er e6 h6)).cons (intK_er e5 h5)).cons (intK_er e4 h4)).cons (intK_er e3 h3)).cons (intK_er e2 h2)).cons (intK_er e1 h1)).cons (intK_er e0 h0))
  ·cases h
 ·cases h
theorem dec8_er {E : Env} {cs : List (SV T)} {x : Blk} {as : List AVal} (h : dec8 cs = some x) (hE : Ers (C := cod) E cs as) : Ers (C := cod) E (enc8 x) as := by
 unfold dec8 at h
 split at h
 ·split at h
  ·rename_i e0 e1
   cases h
   obtain ⟨a0,as,rfl,h0,hE⟩ := hE.inv_cons
   obtain ⟨a1,as,rfl,h1,hE⟩ := hE.inv_cons
   obtain rfl := hE.inv_nil
   exact ((Ers.nil.cons (intK_er e1 h1)).cons (intK_er e0 h0))
  ·cases h
 ·cases h
theorem dec9_er {E : Env} {cs : List (SV T)} {x : Wk} {as : List AVal} (h : dec9 cs = some x) (hE : Ers (C := cod) E cs as) : Ers (C := cod) E (enc9 x) as := by
 unfold dec9 at h
 split at h
 ·split at h
  ·rename_i e0 e1 e2 e3 e4 e5 e6 e7 e8 e9 e10 e11 e12 e13 e14
   cases h
   obtain ⟨a0,as,rfl,h0,hE⟩ := hE.inv_cons
   obtain ⟨a1,as,rfl,h1,hE⟩ := hE.inv_cons
   obtain ⟨a2,as,rfl,h2,hE⟩ := hE.inv_cons
   obtain ⟨a3,as,rfl,h3,hE⟩ := hE.inv_cons
   obtain ⟨a4,as,rfl,h4,hE⟩ := hE.inv_cons
   obtain ⟨a5,as,rfl,h5,hE⟩ := hE.inv_cons
   obtain ⟨a6,as,rfl,h6,hE⟩ := hE.inv_cons
   obtain ⟨a7,as,rfl,h7,hE⟩ := hE.inv_cons
   obtain ⟨a8,as,rfl,h8,hE⟩ := hE.inv_cons
   obtain ⟨a9,as,rfl,h9,hE⟩ := hE.inv_cons
   obtain ⟨a10,as,rfl,h10,hE⟩ := hE.inv_cons
   obtain ⟨a11,as,rfl,h11,hE⟩ := hE.inv_cons
   obtain ⟨a12,as,rfl,h12,hE⟩ := hE.inv_cons
   obtain ⟨a13,as,rfl,h13,hE⟩ := hE.inv_cons
   obtain ⟨a14,as,rfl,h14,hE⟩ := hE.inv_cons
   obtain rfl := hE.inv_nil
   exact (((((((((((((((Ers.nil.cons (intK_er e14 h14)).cons (intK_er e13 h13)).cons (tlK_er e12 h12)).cons (tlK_er e11 h11)).cons (tlK_er e10 h10)).cons (tlK_er e9 h9)).cons (tlK_er e8 h8)).cons (intK_er e7 h7)).cons (intK_er e6 h6)).cons (intK_er e5 h5)).cons (intK_er e4 h4)).cons (intK_er e3 h3)).cons (intK_er e2 h2)).cons (intK_er e1 h1)).cons (intK_er e0 h0))
  ·cases h
 ·cases h
theorem dec10_er {E : Env} {cs : List (SV T)} {x : Out} {as : List AVal} (h : dec10 cs = some x) (hE : Ers (C := cod) E cs as) : Ers (C := cod) E (enc10 x) as := by
 unfold dec10 at h
 split at h
 ·split at h
  ·rename_i e0 e1 e2 e3 e4
   cases h
   obtain ⟨a0,as,rfl,h0,hE⟩ := hE.inv_cons
   obtain ⟨a1,as,rfl,h1,hE⟩ := hE.inv_cons
   obtain ⟨a2,as,rfl,h2,hE⟩ := hE.inv_cons
   obtain ⟨a3,as,rfl,h3,hE⟩ := hE.inv_cons
   obtain ⟨a4,as,rfl,h4,hE⟩ := hE.inv_cons
   obtain rfl := hE.inv_nil
   exact (((((Ers.nil.cons (tlK_er e4 h4)).cons (tlK_er e3 h3)).cons (tlK_er e2 h2)).cons (tlK_er e1 h1)).cons (tlK_er e0 h0))
  ·cases h
 ·cases h
theorem dec11_er {E : Env} {cs : List (SV T)} {x : R4} {as : List AVal} (h : dec11 cs = some x) (hE : Ers (C := cod) E cs as) : Ers (C := cod) E (enc11 x) as := by
 unfold dec11 at h
 split at h
 ·split at h
  ·rename_i e0 e1 e2 e3
   cases h
   obtain ⟨a0,as,rfl,h0,hE⟩ := hE.inv_cons
   obtain ⟨a1,as,rfl,h1,hE⟩ := hE.inv_cons
   obtain ⟨a2,as,rfl,h2,hE⟩ := hE.inv_cons
   obtain ⟨a3,as,rfl,h3,hE⟩ := hE.inv_cons
   obtain rfl := hE.inv_nil
   exact ((((Ers.nil.cons (intK_er e3 h3)).cons (intK_er e2 h2)).cons (intK_er e1 h1)).cons (intK_er e0 h0))
  ·cases h
 ·cases h
theorem dec12_er {E : Env} {cs : List (SV T)} {x : One} {as : List AVal} (h : dec12 cs = some x) (hE : Ers (C := cod) E cs as) : Ers (C := cod) E (enc12 x) as := by
 unfold dec12 at h
 split at h
 ·split at h
  ·rename_i e0 e1 e2 e3 e4 e5 e6 e7 e8 e9
   cases h
   obtain ⟨a0,as,rfl,h0,hE⟩ := hE.inv_cons
   obtain ⟨a1,as,rfl,h1,hE⟩ := hE.inv_cons
   obtain ⟨a2,as,rfl,h2,hE⟩ := hE.inv_cons
   obtain ⟨a3,as,rfl,h3,hE⟩ := hE.inv_cons
   obtain ⟨a4,as,rfl,h4,hE⟩ := hE.inv_cons
   obtain ⟨a5,as,rfl,h5,hE⟩ := hE.inv_cons
   obtain ⟨a6,as,rfl,h6,hE⟩ := hE.inv_cons
   obtain ⟨a7,as,rfl,h7,hE⟩ := hE.inv_cons
   obtain ⟨a8,as,rfl,h8,hE⟩ := hE.inv_cons
   obtain ⟨a9,as,rfl,h9,hE⟩ := hE.inv_cons
   obtain rfl := hE.inv_nil
   exact ((((((((((Ers.nil.cons (tlK_er e9 h9)).cons (tlK_er e8 h8)).cons (intK_er e7 h7)).cons (intK_er e6 h6)).cons (intK_er e5 h5)).cons (intK_er e4 h4)).cons (intK_er e3 h3)).cons (intK_er e2 h2)).cons (intK_er e1 h1)).cons (intK_er e0 h0))
  ·cases h
 ·cases h
theorem dec13_er {E : Env} {cs : List (SV T)} {x : Mdl} {as : List AVal} (h : dec13 cs = some x) (hE : Ers (C := cod) E cs as) : Ers (C := cod) E (enc13 x) as := by
 unfold dec13 at h
 split at h
 ·split at h
  ·rename_i e0 e1 e2 e3 e4 e5 e6 e7 e8 e9 e10 e11 e12 e13 e14 e15 e16
   cases h
   obtain ⟨a0,as,rfl,h0,hE⟩ := hE.inv_cons
   obtain ⟨a1,as,rfl,h1,hE⟩ := hE.inv_cons
   obtain ⟨a2,as,rfl,h2,hE⟩ := hE.inv_cons
   obtain ⟨a3,as,rfl,h3,hE⟩ := hE.inv_cons
   obtain ⟨a4,as,rfl,h4,hE⟩ := hE.inv_cons
   obtain ⟨a5,as,rfl,h5,hE⟩ := hE.inv_cons
   obtain ⟨a6,as,rfl,h6,hE⟩ := hE.inv_cons
   obtain ⟨a7,as,rfl,h7,hE⟩ := hE.inv_cons
   obtain ⟨a8,as,rfl,h8,hE⟩ := hE.inv_cons
   obtain ⟨a9,as,rfl,h9,hE⟩ := hE.inv_cons
   obtain ⟨a10,as,rfl,h10,hE⟩ := hE.inv_cons
   obtain ⟨a11,as,rfl,h11,hE⟩ := hE.inv_cons
   obtain ⟨a12,as,rfl,h12,hE⟩ := hE.inv_cons
   obtain ⟨a13,as,rfl,h13,hE⟩ := hE.inv_cons
   obtain ⟨a14,as,rfl,h14,hE⟩ := hE.inv_cons
   obtain ⟨a15,as,rfl,h15,hE⟩ := hE.inv_cons
   obtain ⟨a16,as,rfl,h16,hE⟩ := hE.inv_cons
   obtain rfl := hE.inv_nil
   exact (((((((((((((((((Ers.nil.cons (tlK_er e16 h16)).cons (tlK_er e15 h15)).cons (tlK_er e14 h14)).cons (tlK_er e13 h13)).cons (tlK_er e12 h12)).cons (tlK_er e11 h11)).cons (tlK_er e10 h10)).cons (tlK_er e9 h9)).cons (tlK_er e8 h8)).cons (intK_er e7 h7)).cons (intK_er e6 h6)).cons (intK_er e5 h5)).cons (intK_er e4 h4)).cons (intK_er e3 h3)).cons (intK_er e2 h2)).cons (intK_er e1 h1)).cons (intK_er e0 h0))
  ·cases h
 ·cases h
theorem dec14_er {E : Env} {cs : List (SV T)} {x : List UInt8} {as : List AVal} (h : dec14 cs = some x) (hE : Ers (C := cod) E cs as) : Ers (C := cod) E (enc14 x) as := by
 unfold dec14 at h
 split at h
 ·split at h
  ·rename_i e0
   cases h
   obtain ⟨a0,as,rfl,h0,hE⟩ := hE.inv_cons
   obtain rfl := hE.inv_nil
   exact (Ers.nil.cons (strOf_er e0 h0))
  ·cases h
 ·cases h
theorem dec15_er {E : Env} {cs : List (SV T)} {x : Int} {as : List AVal} (h : dec15 cs = some x) (hE : Ers (C := cod) E cs as) : Ers (C := cod) E (enc15 x) as := by
 unfold dec15 at h
 split at h
 ·split at h
  ·rename_i e0
   cases h
   obtain ⟨a0,as,rfl,h0,hE⟩ := hE.inv_cons
   obtain rfl := hE.inv_nil
   exact (Ers.nil.cons (intK_er e0 h0))
  ·cases h
 ·cases h
theorem codOk : CodecOk cod where
 len := by
  intro n x
  match n,x with
  | 0,x => rfl
  | 1,x => rfl
  | 2,x => rfl
  | 3,x => rfl
  | 4,x => rfl
  | 5,x => rfl
  | 6,x => rfl
  | 7,x => rfl
  | 8,x => rfl
  | 9,x => rfl
  | 10,x => rfl
  | 11,x => rfl
  | 12,x => rfl
  | 13,x => rfl
  | 14,x => rfl
  | 15,x => rfl
  | n + 16,x => rfl
 one := by
  intro n x
  match n,x with
  | 0,x => rfl
  | 1,x => rfl
  | 2,x => rfl
  | 3,x => rfl
  | 4,x => rfl
  | 5,x => rfl
  | 6,x => rfl
  | 7,x => rfl
  | 8,x => rfl
  | 9,x => rfl
  | 10,x => rfl
  | 11,x => rfl
  | 12,x => rfl
  | 13,x => rfl
  | 14,x => rfl
  | 15,x => rfl
  | n + 16,x => rfl
 ids := by
  intro n x
  match n,x with
  | 0,x => rfl
  | 1,x => rfl
  | 2,x => rfl
  | 3,x => rfl
  | 4,x => rfl
  | 5,x => rfl
  | 6,x => rfl
  | 7,x => rfl
  | 8,x => rfl
  | 9,x => rfl
  | 10,x => rfl
  | 11,x => rfl
  | 12,x => rfl
  | 13,x => rfl
  | 14,x => rfl
  | 15,x => rfl
  | n + 16,x => rfl
 flat := by
  intro n x h
  match n,x,h with
  | 0,x,h => rfl
  | 1,x,h => rfl
  | 2,x,h => rfl
  | 3,x,h => cases h
  | 4,x,h => cases h
  | 5,x,h => cases h
  | 6,x,h => rfl
  | 7,x,h => rfl
  | 8,x,h => rfl
  | 9,x,h => cases h
  | 10,x,h => cases h
  | 11,x,h => rfl
  | 12,x,h => cases h
  | 13,x,h => cases h
  | 14,x,h => rfl
  | 15,x,h => rfl
  | n + 16,x,h => rfl
 dec := by
  intro n cs x h E as hE
  match n,x,h with
  | 0,x,h => exact dec0_er h hE
  | 1,x,h => exact dec1_er h hE
  | 2,x,h => exact dec2_er h hE
  | 3,x,h => exact dec3_er h hE
  | 4,x,h => exact dec4_er h hE
  | 5,x,h => exact dec5_er h hE
  | 6,x,h => exact dec6_er h hE
  | 7,x,h => exact dec7_er h hE
  | 8,x,h => exact dec8_er h hE
  | 9,x,h => exact dec9_er h hE
  | 10,x,h => exact dec10_er h hE
  | 11,x,h => exact dec11_er h hE
  | 12,x,h => exact dec12_er h hE
  | 13,x,h => exact dec13_er h hE
  | 14,x,h => exact dec14_er h hE
  | 15,x,h => exact dec15_er h hE
  | n + 16,x,h => exact decI_er h hE
def at0 (l : List (Int)) (i : Int) : Int := cod.at 0 l i
theorem at0_get {l : List (Int)} {i : Nat} (h : i < l.length) : at0 l (i : Int) = l[i] := at_get (C := cod) (n := 0) h
def at1 (l : List (Lock)) (i : Int) : Lock := cod.at 1 l i
theorem at1_get {l : List (Lock)} {i : Nat} (h : i < l.length) : at1 l (i : Int) = l[i] := at_get (C := cod) (n := 1) h
def at2 (l : List (Instr)) (i : Int) : Instr := cod.at 2 l i
theorem at2_get {l : List (Instr)} {i : Nat} (h : i < l.length) : at2 l (i : Int) = l[i] := at_get (C := cod) (n := 2) h
def at3 (l : List (List (Instr))) (i : Int) : List (Instr) := cod.at 3 l i
theorem at3_get {l : List (List (Instr))} {i : Nat} (h : i < l.length) : at3 l (i : Int) = l[i] := at_get (C := cod) (n := 3) h
def at5 (l : List (List (Int))) (i : Int) : List (Int) := cod.at 5 l i
def at6 (l : List (Held)) (i : Int) : Held := cod.at 6 l i
theorem at6_get {l : List (Held)} {i : Nat} (h : i < l.length) : at6 l (i : Int) = l[i] := at_get (C := cod) (n := 6) h
def at8 (l : List (Blk)) (i : Int) : Blk := cod.at 8 l i
theorem at8_get {l : List (Blk)} {i : Nat} (h : i < l.length) : at8 l (i : Int) = l[i] := at_get (C := cod) (n := 8) h
def at12 (l : List (One)) (i : Int) : One := cod.at 12 l i
theorem at12_get {l : List (One)} {i : Nat} (h : i < l.length) : at12 l (i : Int) = l[i] := at_get (C := cod) (n := 12) h
end Go.Proofs.YtcholkmididfmaaGreatDoor

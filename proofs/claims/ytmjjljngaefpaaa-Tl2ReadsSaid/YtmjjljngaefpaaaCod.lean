/- How the laws' rows lie in cells. -/
import Derived.Test.YtmjjljngaefpaaaLib4
namespace Go.Proofs.Ytmjjljngaefpaaa
open Go.RowKit Go.Am Go.Sy
open Go.IntKind (i64 u64)
set_option linter.unusedVariables false
structure Op where
 kd : Int
 pl : Int
 vl : Int
 deriving Inhabited
structure Wo where
 pl : Int
 vl : Int
 deriving Inhabited
structure Mp where
 ms : Int
 ml : Int
 mt : Int
 mc : Int
 md : Int
 deriving Inhabited
structure Rs where
 rm : Int
 ls : List (Wo)
 deriving Inhabited
structure Wr where
 rm : Int
 ls : List (Wo)
 fi : Int
 deriving Inhabited
structure Rl where
 ls : List (Wo)
 deriving Inhabited
structure Mw where
 ws : List (Int)
 deriving Inhabited
abbrev T : Nat → Type
 | 0 => Int
 | 1 => Bool
 | 2 => Op
 | 3 => Wo
 | 4 => Mp
 | 5 => Rs
 | 6 => Wr
 | 7 => Rl
 | 8 => Mw
 | _ => Int
def intK (k : IntKind) (x : SV T) : Option Int := match intOf x with
 | some (k',n) => if k' = k then some n else none
 | none => none
def tlK (n : Nat) (x : SV T) : Option (List (T n)) := match x with
 | .tl m l => if e : m = n then some (e ▸ l) else none
 | .a .nils => some []
 | _ => none
def enc0 (x : Int) : List (SV T) := [.i .i64 x]
def dec0 (cs : List (SV T)) : Option (Int) := match cs with
 | [c0] => match intK .i64 c0 with
  | some y0 => some y0
  | _ => none
 | _ => none
def enc1 (x : Bool) : List (SV T) := [.b x]
def dec1 (cs : List (SV T)) : Option (Bool) := match cs with
 | [c0] => match boolOf c0 with
  | some y0 => some y0
  | _ => none
 | _ => none
def enc2 (x : Op) : List (SV T) := [.i .i64 x.kd,.i .i64 x.pl,.i .i64 x.vl]
def dec2 (cs : List (SV T)) : Option (Op) := match cs with
 | [c0,c1,c2] => match intK .i64 c0,intK .i64 c1,intK .i64 c2 with
  | some y0,some y1,some y2 => some ⟨y0,y1,y2⟩
  | _,_,_ => none
 | _ => none
def enc3 (x : Wo) : List (SV T) := [.i .i64 x.pl,.i .i64 x.vl]
def dec3 (cs : List (SV T)) : Option (Wo) := match cs with
 | [c0,c1] => match intK .i64 c0,intK .i64 c1 with
  | some y0,some y1 => some ⟨y0,y1⟩
  | _,_ => none
 | _ => none
def enc4 (x : Mp) : List (SV T) := [.i .i64 x.ms,.i .i64 x.ml,.i .i64 x.mt,.i .i64 x.mc,.i .i64 x.md]
def dec4 (cs : List (SV T)) : Option (Mp) := match cs with
 | [c0,c1,c2,c3,c4] => match intK .i64 c0,intK .i64 c1,intK .i64 c2,intK .i64 c3,intK .i64 c4 with
  | some y0,some y1,some y2,some y3,some y4 => some ⟨y0,y1,y2,y3,y4⟩
  | _,_,_,_,_ => none
 | _ => none
def enc5 (x : Rs) : List (SV T) := [.i .i64 x.rm,.tl (T := T) 3 x.ls]
def dec5 (cs : List (SV T)) : Option (Rs) := match cs with
 | [c0,c1] => match intK .i64 c0,tlK 3 c1 with
  | some y0,some y1 => some ⟨y0,y1⟩
  | _,_ => none
 | _ => none
def enc6 (x : Wr) : List (SV T) := [.i .i64 x.rm,.tl (T := T) 3 x.ls,.i .u64 x.fi]
def dec6 (cs : List (SV T)) : Option (Wr) := match cs with
 | [c0,c1,c2] => match intK .i64 c0,tlK 3 c1,intK .u64 c2 with
  | some y0,some y1,some y2 => some ⟨y0,y1,y2⟩
  | _,_,_ => none
 | _ => none
def enc7 (x : Rl) : List (SV T) := [.tl (T := T) 3 x.ls]
def dec7 (cs : List (SV T)) : Option (Rl) := match cs with
 | [c0] => match tlK 3 c0 with
  | some y0 => some ⟨y0⟩
  | _ => none
 | _ => none
def enc8 (x : Mw) : List (SV T) := [.tl (T := T) 0 x.ws]
def dec8 (cs : List (SV T)) : Option (Mw) := match cs with
 | [c0] => match tlK 0 c0 with
  | some y0 => some ⟨y0⟩
  | _ => none
 | _ => none
def encT : (n : Nat) → T n → List (SV T)
 | 0,x => enc0 x
 | 1,x => enc1 x
 | 2,x => enc2 x
 | 3,x => enc3 x
 | 4,x => enc4 x
 | 5,x => enc5 x
 | 6,x => enc6 x
 | 7,x => enc7 x
 | 8,x => enc8 x
 | n + 9,(x : Int) => [.i .i64 x]
def decI (cs : List (SV T)) : Option Int := match cs with
 | [a] => intK .i64 a
 | _ => none
def decT : (n : Nat) → List (SV T) → Option (T n)
 | 0,cs => dec0 cs
 | 1,cs => dec1 cs
 | 2,cs => dec2 cs
 | 3,cs => dec3 cs
 | 4,cs => dec4 cs
 | 5,cs => dec5 cs
 | 6,cs => dec6 cs
 | 7,cs => dec7 cs
 | 8,cs => dec8 cs
 | n + 9,cs => (decI cs : Option Int)
def dfltT : (n : Nat) → T n
 | 0 => (0 : Int)
 | 1 => (false : Bool)
 | 2 => (⟨0,0,0⟩ : Op)
 | 3 => (⟨0,0⟩ : Wo)
 | 4 => (⟨0,0,0,0,0⟩ : Mp)
 | 5 => (⟨0,[]⟩ : Rs)
 | 6 => (⟨0,[],0⟩ : Wr)
 | 7 => (⟨[]⟩ : Rl)
 | 8 => (⟨[]⟩ : Mw)
 | n + 9 => (0 : Int)
def szT (n : Nat) : Nat := match n with
 | 0 => 1
 | 1 => 1
 | 2 => 3
 | 3 => 2
 | 4 => 5
 | 5 => 2
 | 6 => 3
 | 7 => 1
 | 8 => 1
 | _ => 1
def shapeT (n : Nat) : List (Option Nat) := match n with
 | 0 => [none]
 | 1 => [none]
 | 2 => [none,none,none]
 | 3 => [none,none]
 | 4 => [none,none,none,none,none]
 | 5 => [none,some 3]
 | 6 => [none,some 3,none]
 | 7 => [some 3]
 | 8 => [some 0]
 | _ => [none]
def flatT (n : Nat) : Bool := match n with
 | 0 => true
 | 1 => true
 | 2 => true
 | 3 => true
 | 4 => true
 | 5 => false
 | 6 => false
 | 7 => false
 | 8 => false
 | _ => true
def tyT (t : TypeId) : Option Nat := if t = 3 ∨ t = 2 then some 0 else if t = 4 then some 1 else if t = 39 then some 2 else if t = 61 then some 3 else none
def cod : Codec where
 T := T
 sz := szT
 enc := encT
 dec := decT
 dflt := dfltT
 ofTy := tyT
 shape := shapeT
 flat := flatT
 bytes := fun _ => none
theorem intK_er {E : Env} {k : IntKind} {x : SV T} {n : Int} {a : AVal} (h : intK k x = some n) (hx : Er (C := cod) E x a) : Er (C := cod) E (.i k n) a := by
 unfold intK at h
 split at h
 ·rename_i k' m e
  split at h
  ·rename_i hk
   cases h
   subst hk
   rw [intOf_ok hx e]
   exact .i _ _
  ·cases h
 ·cases h
theorem boolOf_er {E : Env} {x : SV T} {n : Bool} {a : AVal} (h : boolOf x = some n) (hx : Er (C := cod) E x a) : Er (C := cod) E (.b n) a := by
 rw [boolOf_ok hx h]
 exact .b _
theorem tlK_er {E : Env} {n : Nat} {x : SV T} {l : List (T n)} {a : AVal} (h : tlK n x = some l) (hx : Er (C := cod) E x a) : Er (C := cod) E (.tl n l) a := by
 unfold tlK at h
 split at h
 ·split at h
  ·rename_i e
   subst e
   cases h
   exact hx
  ·cases h
 ·cases h; rw [er_a hx]; exact .tlN
 ·cases h
theorem int_ers {E : Env} {n : Int} {as : List AVal} {x : SV T} (h : intK .i64 x = some n) (hE : Ers (C := cod) E [x] as) : Ers (C := cod) E [.i .i64 n] as := by
 obtain ⟨a,as,rfl,h1,hE⟩ := hE.inv_cons
 obtain rfl := hE.inv_nil
 exact Ers.nil.cons (intK_er h h1)
theorem decI_er {E : Env} {cs : List (SV T)} {x : Int} {as : List AVal} (h : decI cs = some x) (hE : Ers (C := cod) E cs as) : Ers (C := cod) E [.i .i64 x] as := by
 unfold decI at h
 split at h
 ·exact int_ers h hE
 ·cases h
theorem dec0_er {E : Env} {cs : List (SV T)} {x : Int} {as : List AVal} (h : dec0 cs = some x) (hE : Ers (C := cod) E cs as) : Ers (C := cod) E (enc0 x) as := by
 unfold dec0 at h
 split at h
 ·split at h
  ·rename_i e0
   cases h
   obtain ⟨a0,as,rfl,h0,hE⟩ := hE.inv_cons
   obtain rfl := hE.inv_nil
   exact (Ers.nil.cons (intK_er e0 h0))
  ·cases h
 ·cases h
theorem dec1_er {E : Env} {cs : List (SV T)} {x : Bool} {as : List AVal} (h : dec1 cs = some x) (hE : Ers (C := cod) E cs as) : Ers (C := cod) E (enc1 x) as := by
 unfold dec1 at h
 split at h
 ·split at h
  ·rename_i e0
   cases h
   obtain ⟨a0,as,rfl,h0,hE⟩ := hE.inv_cons
   obtain rfl := hE.inv_nil
   exact (Ers.nil.cons (boolOf_er e0 h0))
  ·cases h
 ·cases h
theorem dec2_er {E : Env} {cs : List (SV T)} {x : Op} {as : List AVal} (h : dec2 cs = some x) (hE : Ers (C := cod) E cs as) : Ers (C := cod) E (enc2 x) as := by
 unfold dec2 at h
 split at h
 ·split at h
  ·rename_i e0 e1 e2
   cases h
   obtain ⟨a0,as,rfl,h0,hE⟩ := hE.inv_cons
   obtain ⟨a1,as,rfl,h1,hE⟩ := hE.inv_cons
   obtain ⟨a2,as,rfl,h2,hE⟩ := hE.inv_cons
   obtain rfl := hE.inv_nil
   exact (((Ers.nil.cons (intK_er e2 h2)).cons (intK_er e1 h1)).cons (intK_er e0 h0))
  ·cases h
 ·cases h
theorem dec3_er {E : Env} {cs : List (SV T)} {x : Wo} {as : List AVal} (h : dec3 cs = some x) (hE : Ers (C := cod) E cs as) : Ers (C := cod) E (enc3 x) as := by
 unfold dec3 at h
 split at h
 ·split at h
  ·rename_i e0 e1
   cases h
   obtain ⟨a0,as,rfl,h0,hE⟩ := hE.inv_cons
   obtain ⟨a1,as,rfl,h1,hE⟩ := hE.inv_cons
   obtain rfl := hE.inv_nil
   exact ((Ers.nil.cons (intK_er e1 h1)).cons (intK_er e0 h0))
  ·cases h
 ·cases h
theorem dec4_er {E : Env} {cs : List (SV T)} {x : Mp} {as : List AVal} (h : dec4 cs = some x) (hE : Ers (C := cod) E cs as) : Ers (C := cod) E (enc4 x) as := by
 unfold dec4 at h
 split at h
 ·split at h
  ·rename_i e0 e1 e2 e3 e4
   cases h
   obtain ⟨a0,as,rfl,h0,hE⟩ := hE.inv_cons
   obtain ⟨a1,as,rfl,h1,hE⟩ := hE.inv_cons
   obtain ⟨a2,as,rfl,h2,hE⟩ := hE.inv_cons
   obtain ⟨a3,as,rfl,h3,hE⟩ := hE.inv_cons
   obtain ⟨a4,as,rfl,h4,hE⟩ := hE.inv_cons
   obtain rfl := hE.inv_nil
   exact (((((Ers.nil.cons (intK_er e4 h4)).cons (intK_er e3 h3)).cons (intK_er e2 h2)).cons (intK_er e1 h1)).cons (intK_er e0 h0))
  ·cases h
 ·cases h
theorem dec5_er {E : Env} {cs : List (SV T)} {x : Rs} {as : List AVal} (h : dec5 cs = some x) (hE : Ers (C := cod) E cs as) : Ers (C := cod) E (enc5 x) as := by
 unfold dec5 at h
 split at h
 ·split at h
  ·rename_i e0 e1
   cases h
   obtain ⟨a0,as,rfl,h0,hE⟩ := hE.inv_cons
   obtain ⟨a1,as,rfl,h1,hE⟩ := hE.inv_cons
   obtain rfl := hE.inv_nil
   exact ((Ers.nil.cons (tlK_er e1 h1)).cons (intK_er e0 h0))
  ·cases h
 ·cases h
theorem dec6_er {E : Env} {cs : List (SV T)} {x : Wr} {as : List AVal} (h : dec6 cs = some x) (hE : Ers (C := cod) E cs as) : Ers (C := cod) E (enc6 x) as := by
 unfold dec6 at h
 split at h
 ·split at h
  ·rename_i e0 e1 e2
   cases h
   obtain ⟨a0,as,rfl,h0,hE⟩ := hE.inv_cons
   obtain ⟨a1,as,rfl,h1,hE⟩ := hE.inv_cons
   obtain ⟨a2,as,rfl,h2,hE⟩ := hE.inv_cons
   obtain rfl := hE.inv_nil
   exact (((Ers.nil.cons (intK_er e2 h2)).cons (tlK_er e1 h1)).cons (intK_er e0 h0))
  ·cases h
 ·cases h
theorem dec7_er {E : Env} {cs : List (SV T)} {x : Rl} {as : List AVal} (h : dec7 cs = some x) (hE : Ers (C := cod) E cs as) : Ers (C := cod) E (enc7 x) as := by
 unfold dec7 at h
 split at h
 ·split at h
  ·rename_i e0
   cases h
   obtain ⟨a0,as,rfl,h0,hE⟩ := hE.inv_cons
   obtain rfl := hE.inv_nil
   exact (Ers.nil.cons (tlK_er e0 h0))
  ·cases h
 ·cases h
theorem dec8_er {E : Env} {cs : List (SV T)} {x : Mw} {as : List AVal} (h : dec8 cs = some x) (hE : Ers (C := cod) E cs as) : Ers (C := cod) E (enc8 x) as := by
 unfold dec8 at h
 split at h
 ·split at h
  ·rename_i e0
   cases h
   obtain ⟨a0,as,rfl,h0,hE⟩ := hE.inv_cons
   obtain rfl := hE.inv_nil
   exact (Ers.nil.cons (tlK_er e0 h0))
  ·cases h
 ·cases h
theorem codOk : CodecOk cod where
 len := by
  intro n x
  match n,x with
  | 0,x => rfl
  | 1,x => rfl
  | 2,x => rfl
  | 3,x => rfl
  | 4,x => rfl
  | 5,x => rfl
  | 6,x => rfl
  | 7,x => rfl
  | 8,x => rfl
  | n + 9,x => rfl
 one := by
  intro n x
  match n,x with
  | 0,x => rfl
  | 1,x => rfl
  | 2,x => rfl
  | 3,x => rfl
  | 4,x => rfl
  | 5,x => rfl
  | 6,x => rfl
  | 7,x => rfl
  | 8,x => rfl
  | n + 9,x => rfl
 ids := by
  intro n x
  match n,x with
  | 0,x => rfl
  | 1,x => rfl
  | 2,x => rfl
  | 3,x => rfl
  | 4,x => rfl
  | 5,x => rfl
  | 6,x => rfl
  | 7,x => rfl
  | 8,x => rfl
  | n + 9,x => rfl
 flat := by
  intro n x h
  match n,x,h with
  | 0,x,h => rfl
  | 1,x,h => rfl
  | 2,x,h => rfl
  | 3,x,h => rfl
  | 4,x,h => rfl
  | 5,x,h => cases h
  | 6,x,h => cases h
  | 7,x,h => cases h
  | 8,x,h => cases h
  | n + 9,x,h => rfl
 dec := by
  intro n cs x h E as hE
  match n,x,h with
  | 0,x,h => exact dec0_er h hE
  | 1,x,h => exact dec1_er h hE
  | 2,x,h => exact dec2_er h hE
  | 3,x,h => exact dec3_er h hE
  | 4,x,h => exact dec4_er h hE
  | 5,x,h => exact dec5_er h hE
  | 6,x,h => exact dec6_er h hE
  | 7,x,h => exact dec7_er h hE
  | 8,x,h => exact dec8_er h hE
  | n + 9,x,h => exact decI_er h hE
def at0 (l : List (Int)) (i : Int) : Int := cod.at 0 l i
theorem at0_get {l : List (Int)} {i : Nat} (h : i < l.length) : at0 l (i : Int) = l[i] := at_get (C := cod) (n := 0) h
def at2 (l : List (Op)) (i : Int) : Op := cod.at 2 l i
theorem at2_get {l : List (Op)} {i : Nat} (h : i < l.length) : at2 l (i : Int) = l[i] := at_get (C := cod) (n := 2) h
def at3 (l : List (Wo)) (i : Int) : Wo := cod.at 3 l i
theorem at3_get {l : List (Wo)} {i : Nat} (h : i < l.length) : at3 l (i : Int) = l[i] := at_get (C := cod) (n := 3) h
end Go.Proofs.Ytmjjljngaefpaaa

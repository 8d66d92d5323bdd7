/- How the laws' rows lie in cells. -/
import Derived.Test.YtbbbpnaghipfmaaGreatDoorLib5
namespace Go.Proofs.YtbbbpnaghipfmaaGreatDoor
open Go.RowKit Go.Am Go.Sy
set_option linter.unusedVariables false
structure P where
  t : Int
  p : Int
  deriving Inhabited
structure Ins where
  op : Int
  a : Int
  b : Int
  c : Int
  n : Int
  deriving Inhabited
structure Rw where
  k0 : Int
  k1 : Int
  k2 : Int
  k3 : Int
  n : Int
  raw : Bool
  deriving Inhabited
structure K4 where
  a : Int
  b : Int
  c : Int
  d : Int
  deriving Inhabited
abbrev T : Nat → Type
  | 0 => Int
  | 1 => P
  | 2 => Ins
  | 3 => List UInt8
  | 4 => Int
  | 5 => Rw
  | 6 => K4
  | _ => Int
def intK (k : IntKind) (x : SV T) : Option Int := match intOf x with
  | some (k', n) => if k' = k then some n else none
  | none => none
def exOf (x : SV T) : Option AVal := match x with
  | .a v => some v
  | _ => none
def tlK (n : Nat) (x : SV T) : Option (List (T n)) := match x with
  | .tl m l => if e : m = n then some (e ▸ l) else none
  | .a .nils => some []
  | _ => none
def enc0 (x : Int) : List (SV T) := [.i .i64 x]
def dec0 (cs : List (SV T)) : Option (Int) := match cs with
  | [c0] => match intK .i64 c0 with
    | some y0 => some y0
    | _ => none
  | _ => none
def enc1 (x : P) : List (SV T) := [.i .i64 x.t, .i .i64 x.p]
def dec1 (cs : List (SV T)) : Option (P) := match cs with
  | [c0, c1] => match intK .i64 c0, intK .i64 c1 with
    | some y0, some y1 => some ⟨y0, y1⟩
    | _, _ => none
  | _ => none
def enc2 (x : Ins) : List (SV T) := [.i .i64 x.op, .i .i64 x.a, .i .i64 x.b, .i .i64 x.c, .i .i64 x.n]
def dec2 (cs : List (SV T)) : Option (Ins) := match cs with
  | [c0, c1, c2, c3, c4] => match intK .i64 c0, intK .i64 c1, intK .i64 c2, intK .i64 c3, intK .i64 c4 with
    | some y0, some y1, some y2, some y3, some y4 => some ⟨y0, y1, y2, y3, y4⟩
    | _, _, _, _, _ => none
  | _ => none
def enc3 (x : List UInt8) : List (SV T) := [.s x]
def dec3 (cs : List (SV T)) : Option (List UInt8) := match cs with
  | [c0] => match strOf c0 with
    | some y0 => some y0
    | _ => none
  | _ => none
def enc4 (x : Int) : List (SV T) := [.i .u8 x]
def dec4 (cs : List (SV T)) : Option (Int) := match cs with
  | [c0] => match intK .u8 c0 with
    | some y0 => some y0
    | _ => none
  | _ => none
def enc5 (x : Rw) : List (SV T) := [.i .i64 x.k0, .i .i64 x.k1, .i .i64 x.k2, .i .i64 x.k3, .i .i64 x.n, .b x.raw]
def dec5 (cs : List (SV T)) : Option (Rw) := match cs with
  | [c0, c1, c2, c3, c4, c5] => match intK .i64 c0, intK .i64 c1, intK .i64 c2, intK .i64 c3, intK .i64 c4, boolOf c5 with
    | some y0, some y1, some y2, some y3, some y4, some y5 => some ⟨y0, y1, y2, y3, y4, y5⟩
    | _, _, _, _, _, _ => none
  | _ => none
def enc6 (x : K4) : List (SV T) := [.i .i64 x.a, .i .i64 x.b, .i .i64 x.c, .i .i64 x.d]
def dec6 (cs : List (SV T)) : Option (K4) := match cs with
  | [c0, c1, c2, c3] => match intK .i64 c0, intK .i64 c1, intK .i64 c2, intK .i64 c3 with
    | some y0, some y1, some y2, some y3 => some ⟨y0, y1, y2, y3⟩
    | _, _, _, _ => none
  | _ => none
def encT : (n : Nat) → T n → List (SV T)
  | 0, x => enc0 x
  | 1, x => enc1 x
  | 2, x => enc2 x
  | 3, x => enc3 x
  | 4, x => enc4 x
  | 5, x => enc5 x
  | 6, x => enc6 x
  | n + 7, (x : Int) => [.i .i64 x]
def decI (cs : List (SV T)) : Option Int := match cs with
  | [a] => intK .i64 a
  | _ => none
def decT : (n : Nat) → List (SV T) → Option (T n)
  | 0, cs => dec0 cs
  | 1, cs => dec1 cs
  | 2, cs => dec2 cs
  | 3, cs => dec3 cs
  | 4, cs => dec4 cs
  | 5, cs => dec5 cs
  | 6, cs => dec6 cs
  | n + 7, cs => (decI cs : Option Int)
def dfltT : (n : Nat) → T n
  | 0 => (0 : Int)
  | 1 => (⟨0, 0⟩ : P)
  | 2 => (⟨0, 0, 0, 0, 0⟩ : Ins)
  | 3 => ([] : List UInt8)
  | 4 => (0 : Int)
  | 5 => (⟨0, 0, 0, 0, 0, false⟩ : Rw)
  | 6 => (⟨0, 0, 0, 0⟩ : K4)
  | n + 7 => (0 : Int)
def szT (n : Nat) : Nat := match n with
  | 0 => 1
  | 1 => 2
  | 2 => 5
  | 3 => 1
  | 4 => 1
  | 5 => 6
  | 6 => 4
  | _ => 1
def shapeT (n : Nat) : List (Option Nat) := match n with
  | 0 => [none]
  | 1 => [none, none]
  | 2 => [none, none, none, none, none]
  | 3 => [none]
  | 4 => [none]
  | 5 => [none, none, none, none, none, none]
  | 6 => [none, none, none, none]
  | _ => [none]
def flatT (n : Nat) : Bool := match n with
  | 0 => true
  | 1 => true
  | 2 => true
  | 3 => true
  | 4 => true
  | 5 => true
  | 6 => true
  | _ => true
def tyT (t : TypeId) : Option Nat := if t = 3 ∨ t = 2 then some 0 else if t = 30 then some 2 else if t = 9 then some 3 else if t = 5 then some 4 else if t = 26 then some 5 else if t = 24 then some 6 else none
def cod : Codec where
  T := T
  sz := szT
  enc := encT
  dec := decT
  dflt := dfltT
  ofTy := tyT
  shape := shapeT
  flat := flatT
  bytes := fun _ => none
theorem intK_er {E : Env} {k : IntKind} {x : SV T} {n : Int} {a : AVal} (h : intK k x = some n) (hx : Er (C := cod) E x a) : Er (C := cod) E (.i k n) a := by
  unfold intK at h
  split at h
  · rename_i k' m e
    split at h
    · rename_i hk
      cases h
      subst hk
      rw [intOf_ok hx e]
      exact .i _ _
    · cases h
  · cases h
theorem boolOf_er {E : Env} {x : SV T} {n : Bool} {a : AVal} (h : boolOf x = some n) (hx : Er (C := cod) E x a) : Er (C := cod) E (.b n) a := by
  rw [boolOf_ok hx h]
  exact .b _
theorem strOf_er {E : Env} {x : SV T} {n : List UInt8} {a : AVal} (h : strOf x = some n) (hx : Er (C := cod) E x a) : Er (C := cod) E (.s n) a := by
  rw [strOf_ok hx h]
  exact .s _
theorem exOf_er {E : Env} {x : SV T} {n : AVal} {a : AVal} (h : exOf x = some n) (hx : Er (C := cod) E x a) : Er (C := cod) E (.a n) a := by
  unfold exOf at h
  split at h
  · cases h; exact hx
  · cases h
theorem tlK_er {E : Env} {n : Nat} {x : SV T} {l : List (T n)} {a : AVal} (h : tlK n x = some l) (hx : Er (C := cod) E x a) : Er (C := cod) E (.tl n l) a := by
  unfold tlK at h
  split at h
  · split at h
    · rename_i e
      subst e
      cases h
      exact hx
    · cases h
  · cases h; rw [er_a hx]; exact .tlN
  · cases h
theorem int_ers {E : Env} {n : Int} {as : List AVal} {x : SV T} (h : intK .i64 x = some n) (hE : Ers (C := cod) E [x] as) : Ers (C := cod) E [.i .i64 n] as := by
  obtain ⟨a, as, rfl, h1, hE⟩ := hE.inv_cons
  obtain rfl := hE.inv_nil
  exact Ers.nil.cons (intK_er h h1)
theorem decI_er {E : Env} {cs : List (SV T)} {x : Int} {as : List AVal} (h : decI cs = some x) (hE : Ers (C := cod) E cs as) : Ers (C := cod) E [.i .i64 x] as := by
  unfold decI at h
  split at h
  · exact int_ers h hE
  · cases h
theorem dec0_er {E : Env} {cs : List (SV T)} {x : Int} {as : List AVal} (h : dec0 cs = some x) (hE : Ers (C := cod) E cs as) : Ers (C := cod) E (enc0 x) as := by
  unfold dec0 at h
  split at h
  · split at h
    · rename_i e0
      cases h
      obtain ⟨a0, as, rfl, h0, hE⟩ := hE.inv_cons
      obtain rfl := hE.inv_nil
      exact (Ers.nil.cons (intK_er e0 h0))
    · cases h
  · cases h
theorem dec1_er {E : Env} {cs : List (SV T)} {x : P} {as : List AVal} (h : dec1 cs = some x) (hE : Ers (C := cod) E cs as) : Ers (C := cod) E (enc1 x) as := by
  unfold dec1 at h
  split at h
  · split at h
    · rename_i e0 e1
      cases h
      obtain ⟨a0, as, rfl, h0, hE⟩ := hE.inv_cons
      obtain ⟨a1, as, rfl, h1, hE⟩ := hE.inv_cons
      obtain rfl := hE.inv_nil
      exact ((Ers.nil.cons (intK_er e1 h1)).cons (intK_er e0 h0))
    · cases h
  · cases h
theorem dec2_er {E : Env} {cs : List (SV T)} {x : Ins} {as : List AVal} (h : dec2 cs = some x) (hE : Ers (C := cod) E cs as) : Ers (C := cod) E (enc2 x) as := by
  unfold dec2 at h
  split at h
  · split at h
    · rename_i e0 e1 e2 e3 e4
      cases h
      obtain ⟨a0, as, rfl, h0, hE⟩ := hE.inv_cons
      obtain ⟨a1, as, rfl, h1, hE⟩ := hE.inv_cons
      obtain ⟨a2, as, rfl, h2, hE⟩ := hE.inv_cons
      obtain ⟨a3, as, rfl, h3, hE⟩ := hE.inv_cons
      obtain ⟨a4, as, rfl, h4, hE⟩ := hE.inv_cons
      obtain rfl := hE.inv_nil
      exact (((((Ers.nil.cons (intK_er e4 h4)).cons (intK_er e3 h3)).cons (intK_er e2 h2)).cons (intK_er e1 h1)).cons (intK_er e0 h0))
    · cases h
  · cases h
theorem dec3_er {E : Env} {cs : List (SV T)} {x : List UInt8} {as : List AVal} (h : dec3 cs = some x) (hE : Ers (C := cod) E cs as) : Ers (C := cod) E (enc3 x) as := by
  unfold dec3 at h
  split at h
  · split at h
    · rename_i e0
      cases h
      obtain ⟨a0, as, rfl, h0, hE⟩ := hE.inv_cons
      obtain rfl := hE.inv_nil
      exact (Ers.nil.cons (strOf_er e0 h0))
    · cases h
  · cases h
theorem dec4_er {E : Env} {cs : List (SV T)} {x : Int} {as : List AVal} (h : dec4 cs = some x) (hE : Ers (C := cod) E cs as) : Ers (C := cod) E (enc4 x) as := by
  unfold dec4 at h
  split at h
  · split at h
    · rename_i e0
      cases h
      obtain ⟨a0, as, rfl, h0, hE⟩ := hE.inv_cons
      obtain rfl := hE.inv_nil
      exact (Ers.nil.cons (intK_er e0 h0))
    · cases h
  · cases h
theorem dec5_er {E : Env} {cs : List (SV T)} {x : Rw} {as : List AVal} (h : dec5 cs = some x) (hE : Ers (C := cod) E cs as) : Ers (C := cod) E (enc5 x) as := by
  unfold dec5 at h
  split at h
  · split at h
    · rename_i e0 e1 e2 e3 e4 e5
      cases h
      obtain ⟨a0, as, rfl, h0, hE⟩ := hE.inv_cons
      obtain ⟨a1, as, rfl, h1, hE⟩ := hE.inv_cons
      obtain ⟨a2, as, rfl, h2, hE⟩ := hE.inv_cons
      obtain ⟨a3, as, rfl, h3, hE⟩ := hE.inv_cons
      obtain ⟨a4, as, rfl, h4, hE⟩ := hE.inv_cons
      obtain ⟨a5, as, rfl, h5, hE⟩ := hE.inv_cons
      obtain rfl := hE.inv_nil
      exact ((((((Ers.nil.cons (boolOf_er e5 h5)).cons (intK_er e4 h4)).cons (intK_er e3 h3)).cons (intK_er e2 h2)).cons (intK_er e1 h1)).cons (intK_er e0 h0))
    · cases h
  · cases h
theorem dec6_er {E : Env} {cs : List (SV T)} {x : K4} {as : List AVal} (h : dec6 cs = some x) (hE : Ers (C := cod) E cs as) : Ers (C := cod) E (enc6 x) as := by
  unfold dec6 at h
  split at h
  · split at h
    · rename_i e0 e1 e2 e3
      cases h
      obtain ⟨a0, as, rfl, h0, hE⟩ := hE.inv_cons
      obtain ⟨a1, as, rfl, h1, hE⟩ := hE.inv_cons
      obtain ⟨a2, as, rfl, h2, hE⟩ := hE.inv_cons
      obtain ⟨a3, as, rfl, h3, hE⟩ := hE.inv_cons
      obtain rfl := hE.inv_nil
      exact ((((Ers.nil.cons (intK_er e3 h3)).cons (intK_er e2 h2)).cons (intK_er e1 h1)).cons (intK_er e0 h0))
    · cases h
  · cases h
theorem codOk : CodecOk cod where
  len := by
    intro n x
    match n, x with
    | 0, x => rfl
    | 1, x => rfl
    | 2, x => rfl
    | 3, x => rfl
    | 4, x => rfl
    | 5, x => rfl
    | 6, x => rfl
    | n + 7, x => rfl
  one := by
    intro n x
    match n, x with
    | 0, x => rfl
    | 1, x => rfl
    | 2, x => rfl
    | 3, x => rfl
    | 4, x => rfl
    | 5, x => rfl
    | 6, x => rfl
    | n + 7, x => rfl
  ids := by
    intro n x
    match n, x with
    | 0, x => rfl
    | 1, x => rfl
    | 2, x => rfl
    | 3, x => rfl
    | 4, x => rfl
    | 5, x => rfl
    | 6, x => rfl
    | n + 7, x => rfl
  flat := by
    intro n x h
    match n, x, h with
    | 0, x, h => rfl
    | 1, x, h => rfl
    | 2, x, h => rfl
    | 3, x, h => rfl
    | 4, x, h => rfl
    | 5, x, h => rfl
    | 6, x, h => rfl
    | n + 7, x, h => rfl
  dec := by
    intro n cs x h E as hE
    match n, x, h with
    | 0, x, h => exact dec0_er h hE
    | 1, x, h => exact dec1_er h hE
    | 2, x, h => exact dec2_er h hE
    | 3, x, h => exact dec3_er h hE
    | 4, x, h => exact dec4_er h hE
    | 5, x, h => exact dec5_er h hE
    | 6, x, h => exact dec6_er h hE
    | n + 7, x, h => exact decI_er h hE
def at0 (l : List (Int)) (i : Int) : Int := cod.at 0 l i
theorem at0_get {l : List (Int)} {i : Nat} (h : i < l.length) : at0 l (i : Int) = l[i] := at_get (C := cod) (n := 0) h
def at1 (l : List (P)) (i : Int) : P := cod.at 1 l i
theorem at1_get {l : List (P)} {i : Nat} (h : i < l.length) : at1 l (i : Int) = l[i] := at_get (C := cod) (n := 1) h
def at2 (l : List (Ins)) (i : Int) : Ins := cod.at 2 l i
theorem at2_get {l : List (Ins)} {i : Nat} (h : i < l.length) : at2 l (i : Int) = l[i] := at_get (C := cod) (n := 2) h
def at3 (l : List (List UInt8)) (i : Int) : List UInt8 := cod.at 3 l i
theorem at3_get {l : List (List UInt8)} {i : Nat} (h : i < l.length) : at3 l (i : Int) = l[i] := at_get (C := cod) (n := 3) h
def at4 (l : List (Int)) (i : Int) : Int := cod.at 4 l i
theorem at4_get {l : List (Int)} {i : Nat} (h : i < l.length) : at4 l (i : Int) = l[i] := at_get (C := cod) (n := 4) h
def at5 (l : List (Rw)) (i : Int) : Rw := cod.at 5 l i
theorem at5_get {l : List (Rw)} {i : Nat} (h : i < l.length) : at5 l (i : Int) = l[i] := at_get (C := cod) (n := 5) h
def at6 (l : List (K4)) (i : Int) : K4 := cod.at 6 l i
theorem at6_get {l : List (K4)} {i : Nat} (h : i < l.length) : at6 l (i : Int) = l[i] := at_get (C := cod) (n := 6) h
end Go.Proofs.YtbbbpnaghipfmaaGreatDoor

/- How the law's rows lie in cells. -/
import Derived.Test.YtomlcdalhihnaaaDoorLib4
namespace Go.Proofs.YtomlcdalhihnaaaDoor
open Go.RowKit Go.Am Go.Sy
set_option linter.unusedVariables false
structure P where
  t : Int
  p : Int
  deriving Inhabited
abbrev T : Nat → Type
  | 0 => Int
  | 1 => P
  | _ => Int
def intK (k : IntKind) (x : SV T) : Option Int := match intOf x with
  | some (k', n) => if k' = k then some n else none
  | none => none
def exOf (x : SV T) : Option AVal := match x with
  | .a v => some v
  | _ => none
def tlK (n : Nat) (x : SV T) : Option (List (T n)) := match x with
  | .tl m l => if e : m = n then some (e ▸ l) else none
  | .a .nils => some []
  | _ => none
def enc0 (x : Int) : List (SV T) := [.i .i64 x]
def dec0 (cs : List (SV T)) : Option (Int) := match cs with
  | [c0] => match intK .i64 c0 with
    | some y0 => some y0
    | _ => none
  | _ => none
def enc1 (x : P) : List (SV T) := [.i .i64 x.t, .i .i64 x.p]
def dec1 (cs : List (SV T)) : Option (P) := match cs with
  | [c0, c1] => match intK .i64 c0, intK .i64 c1 with
    | some y0, some y1 => some ⟨y0, y1⟩
    | _, _ => none
  | _ => none
def encT : (n : Nat) → T n → List (SV T)
  | 0, x => enc0 x
  | 1, x => enc1 x
  | n + 2, (x : Int) => [.i .i64 x]
def decI (cs : List (SV T)) : Option Int := match cs with
  | [a] => intK .i64 a
  | _ => none
def decT : (n : Nat) → List (SV T) → Option (T n)
  | 0, cs => dec0 cs
  | 1, cs => dec1 cs
  | n + 2, cs => (decI cs : Option Int)
def dfltT : (n : Nat) → T n
  | 0 => (0 : Int)
  | 1 => (⟨0, 0⟩ : P)
  | n + 2 => (0 : Int)
def szT (n : Nat) : Nat := match n with
  | 0 => 1
  | 1 => 2
  | _ => 1
def shapeT (n : Nat) : List (Option Nat) := match n with
  | 0 => [none]
  | 1 => [none, none]
  | _ => [none]
def flatT (n : Nat) : Bool := match n with
  | 0 => true
  | 1 => true
  | _ => true
def tyT (t : TypeId) : Option Nat := if t = 3 ∨ t = 2 then some 0 else if t = 49 then some 1 else none
def cod : Codec where
  T := T
  sz := szT
  enc := encT
  dec := decT
  dflt := dfltT
  ofTy := tyT
  shape := shapeT
  flat := flatT
  bytes := fun _ => none
theorem intK_er {E : Env} {k : IntKind} {x : SV T} {n : Int} {a : AVal} (h : intK k x = some n) (hx : Er (C := cod) E x a) : Er (C := cod) E (.i k n) a := by
  unfold intK at h
  split at h
  · rename_i k' m e
    split at h
    · rename_i hk
      cases h
      subst hk
      rw [intOf_ok hx e]
      exact .i _ _
    · cases h
  · cases h
theorem boolOf_er {E : Env} {x : SV T} {n : Bool} {a : AVal} (h : boolOf x = some n) (hx : Er (C := cod) E x a) : Er (C := cod) E (.b n) a := by
  rw [boolOf_ok hx h]
  exact .b _
theorem strOf_er {E : Env} {x : SV T} {n : List UInt8} {a : AVal} (h : strOf x = some n) (hx : Er (C := cod) E x a) : Er (C := cod) E (.s n) a := by
  rw [strOf_ok hx h]
  exact .s _
theorem exOf_er {E : Env} {x : SV T} {n : AVal} {a : AVal} (h : exOf x = some n) (hx : Er (C := cod) E x a) : Er (C := cod) E (.a n) a := by
  unfold exOf at h
  split at h
  · cases h; exact hx
  · cases h
theorem tlK_er {E : Env} {n : Nat} {x : SV T} {l : List (T n)} {a : AVal} (h : tlK n x = some l) (hx : Er (C := cod) E x a) : Er (C := cod) E (.tl n l) a := by
  unfold tlK at h
  split at h
  · split at h
    · rename_i e
      subst e
      cases h
      exact hx
    · cases h
  · cases h; rw [er_a hx]; exact .tlN
  · cases h
theorem int_ers {E : Env} {n : Int} {as : List AVal} {x : SV T} (h : intK .i64 x = some n) (hE : Ers (C := cod) E [x] as) : Ers (C := cod) E [.i .i64 n] as := by
  obtain ⟨a, as, rfl, h1, hE⟩ := hE.inv_cons
  obtain rfl := hE.inv_nil
  exact Ers.nil.cons (intK_er h h1)
theorem decI_er {E : Env} {cs : List (SV T)} {x : Int} {as : List AVal} (h : decI cs = some x) (hE : Ers (C := cod) E cs as) : Ers (C := cod) E [.i .i64 x] as := by
  unfold decI at h
  split at h
  · exact int_ers h hE
  · cases h
theorem dec0_er {E : Env} {cs : List (SV T)} {x : Int} {as : List AVal} (h : dec0 cs = some x) (hE : Ers (C := cod) E cs as) : Ers (C := cod) E (enc0 x) as := by
  unfold dec0 at h
  split at h
  · split at h
    · rename_i e0
      cases h
      obtain ⟨a0, as, rfl, h0, hE⟩ := hE.inv_cons
      obtain rfl := hE.inv_nil
      exact (Ers.nil.cons (intK_er e0 h0))
    · cases h
  · cases h
theorem dec1_er {E : Env} {cs : List (SV T)} {x : P} {as : List AVal} (h : dec1 cs = some x) (hE : Ers (C := cod) E cs as) : Ers (C := cod) E (enc1 x) as := by
  unfold dec1 at h
  split at h
  · split at h
    · rename_i e0 e1
      cases h
      obtain ⟨a0, as, rfl, h0, hE⟩ := hE.inv_cons
      obtain ⟨a1, as, rfl, h1, hE⟩ := hE.inv_cons
      obtain rfl := hE.inv_nil
      exact ((Ers.nil.cons (intK_er e1 h1)).cons (intK_er e0 h0))
    · cases h
  · cases h
theorem codOk : CodecOk cod where
  len := by
    intro n x
    match n, x with
    | 0, x => rfl
    | 1, x => rfl
    | n + 2, x => rfl
  one := by
    intro n x
    match n, x with
    | 0, x => rfl
    | 1, x => rfl
    | n + 2, x => rfl
  ids := by
    intro n x
    match n, x with
    | 0, x => rfl
    | 1, x => rfl
    | n + 2, x => rfl
  flat := by
    intro n x h
    match n, x, h with
    | 0, x, h => rfl
    | 1, x, h => rfl
    | n + 2, x, h => rfl
  dec := by
    intro n cs x h E as hE
    match n, x, h with
    | 0, x, h => exact dec0_er h hE
    | 1, x, h => exact dec1_er h hE
    | n + 2, x, h => exact decI_er h hE
def at0 (l : List (Int)) (i : Int) : Int := cod.at 0 l i
theorem at0_get {l : List (Int)} {i : Nat} (h : i < l.length) : at0 l (i : Int) = l[i] := at_get (C := cod) (n := 0) h
def at1 (l : List (P)) (i : Int) : P := cod.at 1 l i
theorem at1_get {l : List (P)} {i : Nat} (h : i < l.length) : at1 l (i : Int) = l[i] := at_get (C := cod) (n := 1) h
end Go.Proofs.YtomlcdalhihnaaaDoor

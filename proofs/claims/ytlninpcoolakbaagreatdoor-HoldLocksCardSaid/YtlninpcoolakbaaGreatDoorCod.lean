/- How the laws' rows lie in cells. -/
import Derived.Test.YtlninpcoolakbaaGreatDoorLib5
namespace Go.Proofs.YtlninpcoolakbaaGreatDoor
open Go.RowKit Go.Am Go.Sy
set_option linter.unusedVariables false
structure Out where
  logs : List (List (Int))
  words : List (Int)
  owners : List (Int)
  status : List (Int)
  queues : List (List (Int))
  deriving Inhabited
abbrev T : Nat → Type
  | 0 => Int
  | 1 => List (Int)
  | 2 => List UInt8
  | 3 => Int
  | 4 => Out
  | _ => Int
def intK (k : IntKind) (x : SV T) : Option Int := match intOf x with
  | some (k', n) => if k' = k then some n else none
  | none => none
def tlK (n : Nat) (x : SV T) : Option (List (T n)) := match x with
  | .tl m l => if e : m = n then some (e ▸ l) else none
  | .a .nils => some []
  | _ => none
def enc0 (x : Int) : List (SV T) := [.i .i64 x]
def dec0 (cs : List (SV T)) : Option (Int) := match cs with
  | [c0] => match intK .i64 c0 with
    | some y0 => some y0
    | _ => none
  | _ => none
def enc1 (x : List (Int)) : List (SV T) := [.tl (T := T) 0 x]
def dec1 (cs : List (SV T)) : Option (List (Int)) := match cs with
  | [c0] => match tlK 0 c0 with
    | some y0 => some y0
    | _ => none
  | _ => none
def enc2 (x : List UInt8) : List (SV T) := [.s x]
def dec2 (cs : List (SV T)) : Option (List UInt8) := match cs with
  | [c0] => match strOf c0 with
    | some y0 => some y0
    | _ => none
  | _ => none
def enc3 (x : Int) : List (SV T) := [.i .u8 x]
def dec3 (cs : List (SV T)) : Option (Int) := match cs with
  | [c0] => match intK .u8 c0 with
    | some y0 => some y0
    | _ => none
  | _ => none
def enc4 (x : Out) : List (SV T) := [.tl (T := T) 1 x.logs, .tl (T := T) 0 x.words, .tl (T := T) 0 x.owners, .tl (T := T) 0 x.status, .tl (T := T) 1 x.queues]
def dec4 (cs : List (SV T)) : Option (Out) := match cs with
  | [c0, c1, c2, c3, c4] => match tlK 1 c0, tlK 0 c1, tlK 0 c2, tlK 0 c3, tlK 1 c4 with
    | some y0, some y1, some y2, some y3, some y4 => some ⟨y0, y1, y2, y3, y4⟩
    | _, _, _, _, _ => none
  | _ => none
def encT : (n : Nat) → T n → List (SV T)
  | 0, x => enc0 x
  | 1, x => enc1 x
  | 2, x => enc2 x
  | 3, x => enc3 x
  | 4, x => enc4 x
  | n + 5, (x : Int) => [.i .i64 x]
def decI (cs : List (SV T)) : Option Int := match cs with
  | [a] => intK .i64 a
  | _ => none
def decT : (n : Nat) → List (SV T) → Option (T n)
  | 0, cs => dec0 cs
  | 1, cs => dec1 cs
  | 2, cs => dec2 cs
  | 3, cs => dec3 cs
  | 4, cs => dec4 cs
  | n + 5, cs => (decI cs : Option Int)
def dfltT : (n : Nat) → T n
  | 0 => (0 : Int)
  | 1 => ([] : List (Int))
  | 2 => ([] : List UInt8)
  | 3 => (0 : Int)
  | 4 => (⟨[], [], [], [], []⟩ : Out)
  | n + 5 => (0 : Int)
def szT (n : Nat) : Nat := match n with
  | 0 => 1
  | 1 => 1
  | 2 => 1
  | 3 => 1
  | 4 => 5
  | _ => 1
def shapeT (n : Nat) : List (Option Nat) := match n with
  | 0 => [none]
  | 1 => [some 0]
  | 2 => [none]
  | 3 => [none]
  | 4 => [some 1, some 0, some 0, some 0, some 1]
  | _ => [none]
def flatT (n : Nat) : Bool := match n with
  | 0 => true
  | 1 => false
  | 2 => true
  | 3 => true
  | 4 => false
  | _ => true
def tyT (t : TypeId) : Option Nat := if t = 2 ∨ t = 3 then some 0 else if t = 23 ∨ t = 24 then some 1 else if t = 9 then some 2 else if t = 5 then some 3 else if t = 27 then some 4 else none
def cod : Codec where
  T := T
  sz := szT
  enc := encT
  dec := decT
  dflt := dfltT
  ofTy := tyT
  shape := shapeT
  flat := flatT
  bytes := fun _ => none
theorem intK_er {E : Env} {k : IntKind} {x : SV T} {n : Int} {a : AVal} (h : intK k x = some n) (hx : Er (C := cod) E x a) : Er (C := cod) E (.i k n) a := by
  unfold intK at h
  split at h
  · rename_i k' m e
    split at h
    · rename_i hk
      cases h
      subst hk
      rw [intOf_ok hx e]
      exact .i _ _
    · cases h
  · cases h
theorem strOf_er {E : Env} {x : SV T} {n : List UInt8} {a : AVal} (h : strOf x = some n) (hx : Er (C := cod) E x a) : Er (C := cod) E (.s n) a := by
  rw [strOf_ok hx h]
  exact .s _
theorem tlK_er {E : Env} {n : Nat} {x : SV T} {l : List (T n)} {a : AVal} (h : tlK n x = some l) (hx : Er (C := cod) E x a) : Er (C := cod) E (.tl n l) a := by
  unfold tlK at h
  split at h
  · split at h
    · rename_i e
      subst e
      cases h
      exact hx
    · cases h
  · cases h; rw [er_a hx]; exact .tlN
  · cases h
theorem int_ers {E : Env} {n : Int} {as : List AVal} {x : SV T} (h : intK .i64 x = some n) (hE : Ers (C := cod) E [x] as) : Ers (C := cod) E [.i .i64 n] as := by
  obtain ⟨a, as, rfl, h1, hE⟩ := hE.inv_cons
  obtain rfl := hE.inv_nil
  exact Ers.nil.cons (intK_er h h1)
theorem decI_er {E : Env} {cs : List (SV T)} {x : Int} {as : List AVal} (h : decI cs = some x) (hE : Ers (C := cod) E cs as) : Ers (C := cod) E [.i .i64 x] as := by
  unfold decI at h
  split at h
  · exact int_ers h hE
  · cases h
theorem dec0_er {E : Env} {cs : List (SV T)} {x : Int} {as : List AVal} (h : dec0 cs = some x) (hE : Ers (C := cod) E cs as) : Ers (C := cod) E (enc0 x) as := by
  unfold dec0 at h
  split at h
  · split at h
    · rename_i e0
      cases h
      obtain ⟨a0, as, rfl, h0, hE⟩ := hE.inv_cons
      obtain rfl := hE.inv_nil
      exact (Ers.nil.cons (intK_er e0 h0))
    · cases h
  · cases h
theorem dec1_er {E : Env} {cs : List (SV T)} {x : List (Int)} {as : List AVal} (h : dec1 cs = some x) (hE : Ers (C := cod) E cs as) : Ers (C := cod) E (enc1 x) as := by
  unfold dec1 at h
  split at h
  · split at h
    · rename_i e0
      cases h
      obtain ⟨a0, as, rfl, h0, hE⟩ := hE.inv_cons
      obtain rfl := hE.inv_nil
      exact (Ers.nil.cons (tlK_er e0 h0))
    · cases h
  · cases h
theorem dec2_er {E : Env} {cs : List (SV T)} {x : List UInt8} {as : List AVal} (h : dec2 cs = some x) (hE : Ers (C := cod) E cs as) : Ers (C := cod) E (enc2 x) as := by
  unfold dec2 at h
  split at h
  · split at h
    · rename_i e0
      cases h
      obtain ⟨a0, as, rfl, h0, hE⟩ := hE.inv_cons
      obtain rfl := hE.inv_nil
      exact (Ers.nil.cons (strOf_er e0 h0))
    · cases h
  · cases h
theorem dec3_er {E : Env} {cs : List (SV T)} {x : Int} {as : List AVal} (h : dec3 cs = some x) (hE : Ers (C := cod) E cs as) : Ers (C := cod) E (enc3 x) as := by
  unfold dec3 at h
  split at h
  · split at h
    · rename_i e0
      cases h
      obtain ⟨a0, as, rfl, h0, hE⟩ := hE.inv_cons
      obtain rfl := hE.inv_nil
      exact (Ers.nil.cons (intK_er e0 h0))
    · cases h
  · cases h
theorem dec4_er {E : Env} {cs : List (SV T)} {x : Out} {as : List AVal} (h : dec4 cs = some x) (hE : Ers (C := cod) E cs as) : Ers (C := cod) E (enc4 x) as := by
  unfold dec4 at h
  split at h
  · split at h
    · rename_i e0 e1 e2 e3 e4
      cases h
      obtain ⟨a0, as, rfl, h0, hE⟩ := hE.inv_cons
      obtain ⟨a1, as, rfl, h1, hE⟩ := hE.inv_cons
      obtain ⟨a2, as, rfl, h2, hE⟩ := hE.inv_cons
      obtain ⟨a3, as, rfl, h3, hE⟩ := hE.inv_cons
      obtain ⟨a4, as, rfl, h4, hE⟩ := hE.inv_cons
      obtain rfl := hE.inv_nil
      exact (((((Ers.nil.cons (tlK_er e4 h4)).cons (tlK_er e3 h3)).cons (tlK_er e2 h2)).cons (tlK_er e1 h1)).cons (tlK_er e0 h0))
    · cases h
  · cases h
theorem codOk : CodecOk cod where
  len := by
    intro n x
    match n, x with
    | 0, x => rfl
    | 1, x => rfl
    | 2, x => rfl
    | 3, x => rfl
    | 4, x => rfl
    | n + 5, x => rfl
  one := by
    intro n x
    match n, x with
    | 0, x => rfl
    | 1, x => rfl
    | 2, x => rfl
    | 3, x => rfl
    | 4, x => rfl
    | n + 5, x => rfl
  ids := by
    intro n x
    match n, x with
    | 0, x => rfl
    | 1, x => rfl
    | 2, x => rfl
    | 3, x => rfl
    | 4, x => rfl
    | n + 5, x => rfl
  flat := by
    intro n x h
    match n, x, h with
    | 0, x, h => rfl
    | 1, x, h => cases h
    | 2, x, h => rfl
    | 3, x, h => rfl
    | 4, x, h => cases h
    | n + 5, x, h => rfl
  dec := by
    intro n cs x h E as hE
    match n, x, h with
    | 0, x, h => exact dec0_er h hE
    | 1, x, h => exact dec1_er h hE
    | 2, x, h => exact dec2_er h hE
    | 3, x, h => exact dec3_er h hE
    | 4, x, h => exact dec4_er h hE
    | n + 5, x, h => exact decI_er h hE
end Go.Proofs.YtlninpcoolakbaaGreatDoor

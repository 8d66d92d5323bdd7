/- How the law's rows lie in cells. -/
import Derived.Test.YtomlcdalhihnaaaDoorLib4
namespace Go.Proofs.YtomlcdalhihnaaaDoor
open Go.RowKit Go.Am Go.Sy
set_option linter.unusedVariables false
structure P where
  t : Int
  p : Int
  deriving Inhabited
structure Op where
  kind : Int
  a : Int
  v : Int
  deriving Inhabited
structure Try where
  thread : Int
  frm : Int
  long : Int
  fin : Int
  real : Bool
  ops : List (Op)
  deriving Inhabited
structure Wd where
  a : Int
  v : Int
  deriving Inhabited
structure Att where
  thread : Int
  tri : Int
  real : Bool
  frm : Int
  unt : Int
  fin : Int
  stamp : Int
  step : Int
  reads : List (Wd)
  writes : List (Wd)
  seen : List (Int)
  calls : List (Wd)
  deriving Inhabited
structure Tly where
  tries : Int
  c0 : Int
  c1 : Int
  c2 : Int
  c3 : Int
  c4 : Int
  c5 : Int
  c6 : Int
  spec : Int
  real : Int
  deriving Inhabited
structure W3 where
  a : Int
  b : Int
  c : Int
  deriving Inhabited
abbrev T : Nat → Type
  | 0 => Int
  | 1 => P
  | 2 => Op
  | 3 => Try
  | 4 => Wd
  | 5 => Att
  | 6 => Tly
  | 7 => W3
  | _ => Int
def intK (k : IntKind) (x : SV T) : Option Int := match intOf x with
  | some (k', n) => if k' = k then some n else none
  | none => none
def exOf (x : SV T) : Option AVal := match x with
  | .a v => some v
  | _ => none
def tlK (n : Nat) (x : SV T) : Option (List (T n)) := match x with
  | .tl m l => if e : m = n then some (e ▸ l) else none
  | .a .nils => some []
  | _ => none
def enc0 (x : Int) : List (SV T) := [.i .i64 x]
def dec0 (cs : List (SV T)) : Option (Int) := match cs with
  | [c0] => match intK .i64 c0 with
    | some y0 => some y0
    | _ => none
  | _ => none
def enc1 (x : P) : List (SV T) := [.i .i64 x.t, .i .i64 x.p]
def dec1 (cs : List (SV T)) : Option (P) := match cs with
  | [c0, c1] => match intK .i64 c0, intK .i64 c1 with
    | some y0, some y1 => some ⟨y0, y1⟩
    | _, _ => none
  | _ => none
def enc2 (x : Op) : List (SV T) := [.i .i64 x.kind, .i .i64 x.a, .i .i64 x.v]
def dec2 (cs : List (SV T)) : Option (Op) := match cs with
  | [c0, c1, c2] => match intK .i64 c0, intK .i64 c1, intK .i64 c2 with
    | some y0, some y1, some y2 => some ⟨y0, y1, y2⟩
    | _, _, _ => none
  | _ => none
def enc3 (x : Try) : List (SV T) := [.i .i64 x.thread, .i .i64 x.frm, .i .i64 x.long, .i .i64 x.fin, .b x.real, .tl (T := T) 2 x.ops]
def dec3 (cs : List (SV T)) : Option (Try) := match cs with
  | [c0, c1, c2, c3, c4, c5] => match intK .i64 c0, intK .i64 c1, intK .i64 c2, intK .i64 c3, boolOf c4, tlK 2 c5 with
    | some y0, some y1, some y2, some y3, some y4, some y5 => some ⟨y0, y1, y2, y3, y4, y5⟩
    | _, _, _, _, _, _ => none
  | _ => none
def enc4 (x : Wd) : List (SV T) := [.i .i64 x.a, .i .i64 x.v]
def dec4 (cs : List (SV T)) : Option (Wd) := match cs with
  | [c0, c1] => match intK .i64 c0, intK .i64 c1 with
    | some y0, some y1 => some ⟨y0, y1⟩
    | _, _ => none
  | _ => none
def enc5 (x : Att) : List (SV T) := [.i .i64 x.thread, .i .i64 x.tri, .b x.real, .i .i64 x.frm, .i .i64 x.unt, .i .i64 x.fin, .i .i64 x.stamp, .i .i64 x.step, .tl (T := T) 4 x.reads, .tl (T := T) 4 x.writes, .tl (T := T) 0 x.seen, .tl (T := T) 4 x.calls]
def dec5 (cs : List (SV T)) : Option (Att) := match cs with
  | [c0, c1, c2, c3, c4, c5, c6, c7, c8, c9, c10, c11] => match intK .i64 c0, intK .i64 c1, boolOf c2, intK .i64 c3, intK .i64 c4, intK .i64 c5, intK .i64 c6, intK .i64 c7, tlK 4 c8, tlK 4 c9, tlK 0 c10, tlK 4 c11 with
    | some y0, some y1, some y2, some y3, some y4, some y5, some y6, some y7, some y8, some y9, some y10, some y11 => some ⟨y0, y1, y2, y3, y4, y5, y6, y7, y8, y9, y10, y11⟩
    | _, _, _, _, _, _, _, _, _, _, _, _ => none
  | _ => none
def enc6 (x : Tly) : List (SV T) := [.i .i64 x.tries, .i .i64 x.c0, .i .i64 x.c1, .i .i64 x.c2, .i .i64 x.c3, .i .i64 x.c4, .i .i64 x.c5, .i .i64 x.c6, .i .i64 x.spec, .i .i64 x.real]
def dec6 (cs : List (SV T)) : Option (Tly) := match cs with
  | [c0, c1, c2, c3, c4, c5, c6, c7, c8, c9] => match intK .i64 c0, intK .i64 c1, intK .i64 c2, intK .i64 c3, intK .i64 c4, intK .i64 c5, intK .i64 c6, intK .i64 c7, intK .i64 c8, intK .i64 c9 with
    | some y0, some y1, some y2, some y3, some y4, some y5, some y6, some y7, some y8, some y9 => some ⟨y0, y1, y2, y3, y4, y5, y6, y7, y8, y9⟩
    | _, _, _, _, _, _, _, _, _, _ => none
  | _ => none
def enc7 (x : W3) : List (SV T) := [.i .i64 x.a, .i .i64 x.b, .i .i64 x.c]
def dec7 (cs : List (SV T)) : Option (W3) := match cs with
  | [c0, c1, c2] => match intK .i64 c0, intK .i64 c1, intK .i64 c2 with
    | some y0, some y1, some y2 => some ⟨y0, y1, y2⟩
    | _, _, _ => none
  | _ => none
def encT : (n : Nat) → T n → List (SV T)
  | 0, x => enc0 x
  | 1, x => enc1 x
  | 2, x => enc2 x
  | 3, x => enc3 x
  | 4, x => enc4 x
  | 5, x => enc5 x
  | 6, x => enc6 x
  | 7, x => enc7 x
  | n + 8, (x : Int) => [.i .i64 x]
def decI (cs : List (SV T)) : Option Int := match cs with
  | [a] => intK .i64 a
  | _ => none
def decT : (n : Nat) → List (SV T) → Option (T n)
  | 0, cs => dec0 cs
  | 1, cs => dec1 cs
  | 2, cs => dec2 cs
  | 3, cs => dec3 cs
  | 4, cs => dec4 cs
  | 5, cs => dec5 cs
  | 6, cs => dec6 cs
  | 7, cs => dec7 cs
  | n + 8, cs => (decI cs : Option Int)
def dfltT : (n : Nat) → T n
  | 0 => (0 : Int)
  | 1 => (⟨0, 0⟩ : P)
  | 2 => (⟨0, 0, 0⟩ : Op)
  | 3 => (⟨0, 0, 0, 0, false, []⟩ : Try)
  | 4 => (⟨0, 0⟩ : Wd)
  | 5 => (⟨0, 0, false, 0, 0, 0, 0, 0, [], [], [], []⟩ : Att)
  | 6 => (⟨0, 0, 0, 0, 0, 0, 0, 0, 0, 0⟩ : Tly)
  | 7 => (⟨0, 0, 0⟩ : W3)
  | n + 8 => (0 : Int)
def szT (n : Nat) : Nat := match n with
  | 0 => 1
  | 1 => 2
  | 2 => 3
  | 3 => 6
  | 4 => 2
  | 5 => 12
  | 6 => 10
  | 7 => 3
  | _ => 1
def shapeT (n : Nat) : List (Option Nat) := match n with
  | 0 => [none]
  | 1 => [none, none]
  | 2 => [none, none, none]
  | 3 => [none, none, none, none, none, some 2]
  | 4 => [none, none]
  | 5 => [none, none, none, none, none, none, none, none, some 4, some 4, some 0, some 4]
  | 6 => [none, none, none, none, none, none, none, none, none, none]
  | 7 => [none, none, none]
  | _ => [none]
def flatT (n : Nat) : Bool := match n with
  | 0 => true
  | 1 => true
  | 2 => true
  | 3 => false
  | 4 => true
  | 5 => false
  | 6 => true
  | 7 => true
  | _ => true
def tyT (t : TypeId) : Option Nat := if t = 3 ∨ t = 2 then some 0 else if t = 49 then some 1 else if t = 67 then some 2 else if t = 29 then some 3 else if t = 70 then some 4 else if t = 36 then some 5 else if t = 24 then some 6 else if t = 32 then some 7 else none
def cod : Codec where
  T := T
  sz := szT
  enc := encT
  dec := decT
  dflt := dfltT
  ofTy := tyT
  shape := shapeT
  flat := flatT
  bytes := fun _ => none
theorem intK_er {E : Env} {k : IntKind} {x : SV T} {n : Int} {a : AVal} (h : intK k x = some n) (hx : Er (C := cod) E x a) : Er (C := cod) E (.i k n) a := by
  unfold intK at h
  split at h
  · rename_i k' m e
    split at h
    · rename_i hk
      cases h
      subst hk
      rw [intOf_ok hx e]
      exact .i _ _
    · cases h
  · cases h
theorem boolOf_er {E : Env} {x : SV T} {n : Bool} {a : AVal} (h : boolOf x = some n) (hx : Er (C := cod) E x a) : Er (C := cod) E (.b n) a := by
  rw [boolOf_ok hx h]
  exact .b _
theorem strOf_er {E : Env} {x : SV T} {n : List UInt8} {a : AVal} (h : strOf x = some n) (hx : Er (C := cod) E x a) : Er (C := cod) E (.s n) a := by
  rw [strOf_ok hx h]
  exact .s _
theorem exOf_er {E : Env} {x : SV T} {n : AVal} {a : AVal} (h : exOf x = some n) (hx : Er (C := cod) E x a) : Er (C := cod) E (.a n) a := by
  unfold exOf at h
  split at h
  · cases h; exact hx
  · cases h
theorem tlK_er {E : Env} {n : Nat} {x : SV T} {l : List (T n)} {a : AVal} (h : tlK n x = some l) (hx : Er (C := cod) E x a) : Er (C := cod) E (.tl n l) a := by
  unfold tlK at h
  split at h
  · split at h
    · rename_i e
      subst e
      cases h
      exact hx
    · cases h
  · cases h; rw [er_a hx]; exact .tlN
  · cases h
theorem int_ers {E : Env} {n : Int} {as : List AVal} {x : SV T} (h : intK .i64 x = some n) (hE : Ers (C := cod) E [x] as) : Ers (C := cod) E [.i .i64 n] as := by
  obtain ⟨a, as, rfl, h1, hE⟩ := hE.inv_cons
  obtain rfl := hE.inv_nil
  exact Ers.nil.cons (intK_er h h1)
theorem decI_er {E : Env} {cs : List (SV T)} {x : Int} {as : List AVal} (h : decI cs = some x) (hE : Ers (C := cod) E cs as) : Ers (C := cod) E [.i .i64 x] as := by
  unfold decI at h
  split at h
  · exact int_ers h hE
  · cases h
theorem dec0_er {E : Env} {cs : List (SV T)} {x : Int} {as : List AVal} (h : dec0 cs = some x) (hE : Ers (C := cod) E cs as) : Ers (C := cod) E (enc0 x) as := by
  unfold dec0 at h
  split at h
  · split at h
    · rename_i e0
      cases h
      obtain ⟨a0, as, rfl, h0, hE⟩ := hE.inv_cons
      obtain rfl := hE.inv_nil
      exact (Ers.nil.cons (intK_er e0 h0))
    · cases h
  · cases h
theorem dec1_er {E : Env} {cs : List (SV T)} {x : P} {as : List AVal} (h : dec1 cs = some x) (hE : Ers (C := cod) E cs as) : Ers (C := cod) E (enc1 x) as := by
  unfold dec1 at h
  split at h
  · split at h
    · rename_i e0 e1
      cases h
      obtain ⟨a0, as, rfl, h0, hE⟩ := hE.inv_cons
      obtain ⟨a1, as, rfl, h1, hE⟩ := hE.inv_cons
      obtain rfl := hE.inv_nil
      exact ((Ers.nil.cons (intK_er e1 h1)).cons (intK_er e0 h0))
    · cases h
  · cases h
theorem dec2_er {E : Env} {cs : List (SV T)} {x : Op} {as : List AVal} (h : dec2 cs = some x) (hE : Ers (C := cod) E cs as) : Ers (C := cod) E (enc2 x) as := by
  unfold dec2 at h
  split at h
  · split at h
    · rename_i e0 e1 e2
      cases h
      obtain ⟨a0, as, rfl, h0, hE⟩ := hE.inv_cons
      obtain ⟨a1, as, rfl, h1, hE⟩ := hE.inv_cons
      obtain ⟨a2, as, rfl, h2, hE⟩ := hE.inv_cons
      obtain rfl := hE.inv_nil
      exact (((Ers.nil.cons (intK_er e2 h2)).cons (intK_er e1 h1)).cons (intK_er e0 h0))
    · cases h
  · cases h
theorem dec3_er {E : Env} {cs : List (SV T)} {x : Try} {as : List AVal} (h : dec3 cs = some x) (hE : Ers (C := cod) E cs as) : Ers (C := cod) E (enc3 x) as := by
  unfold dec3 at h
  split at h
  · split at h
    · rename_i e0 e1 e2 e3 e4 e5
      cases h
      obtain ⟨a0, as, rfl, h0, hE⟩ := hE.inv_cons
      obtain ⟨a1, as, rfl, h1, hE⟩ := hE.inv_cons
      obtain ⟨a2, as, rfl, h2, hE⟩ := hE.inv_cons
      obtain ⟨a3, as, rfl, h3, hE⟩ := hE.inv_cons
      obtain ⟨a4, as, rfl, h4, hE⟩ := hE.inv_cons
      obtain ⟨a5, as, rfl, h5, hE⟩ := hE.inv_cons
      obtain rfl := hE.inv_nil
      exact ((((((Ers.nil.cons (tlK_er e5 h5)).cons (boolOf_er e4 h4)).cons (intK_er e3 h3)).cons (intK_er e2 h2)).cons (intK_er e1 h1)).cons (intK_er e0 h0))
    · cases h
  · cases h
theorem dec4_er {E : Env} {cs : List (SV T)} {x : Wd} {as : List AVal} (h : dec4 cs = some x) (hE : Ers (C := cod) E cs as) : Ers (C := cod) E (enc4 x) as := by
  unfold dec4 at h
  split at h
  · split at h
    · rename_i e0 e1
      cases h
      obtain ⟨a0, as, rfl, h0, hE⟩ := hE.inv_cons
      obtain ⟨a1, as, rfl, h1, hE⟩ := hE.inv_cons
      obtain rfl := hE.inv_nil
      exact ((Ers.nil.cons (intK_er e1 h1)).cons (intK_er e0 h0))
    · cases h
  · cases h
theorem dec5_er {E : Env} {cs : List (SV T)} {x : Att} {as : List AVal} (h : dec5 cs = some x) (hE : Ers (C := cod) E cs as) : Ers (C := cod) E (enc5 x) as := by
  unfold dec5 at h
  split at h
  · split at h
    · rename_i e0 e1 e2 e3 e4 e5 e6 e7 e8 e9 e10 e11
      cases h
      obtain ⟨a0, as, rfl, h0, hE⟩ := hE.inv_cons
      obtain ⟨a1, as, rfl, h1, hE⟩ := hE.inv_cons
      obtain ⟨a2, as, rfl, h2, hE⟩ := hE.inv_cons
      obtain ⟨a3, as, rfl, h3, hE⟩ := hE.inv_cons
      obtain ⟨a4, as, rfl, h4, hE⟩ := hE.inv_cons
      obtain ⟨a5, as, rfl, h5, hE⟩ := hE.inv_cons
      obtain ⟨a6, as, rfl, h6, hE⟩ := hE.inv_cons
      obtain ⟨a7, as, rfl, h7, hE⟩ := hE.inv_cons
      obtain ⟨a8, as, rfl, h8, hE⟩ := hE.inv_cons
      obtain ⟨a9, as, rfl, h9, hE⟩ := hE.inv_cons
      obtain ⟨a10, as, rfl, h10, hE⟩ := hE.inv_cons
      obtain ⟨a11, as, rfl, h11, hE⟩ := hE.inv_cons
      obtain rfl := hE.inv_nil
      exact ((((((((((((Ers.nil.cons (tlK_er e11 h11)).cons (tlK_er e10 h10)).cons (tlK_er e9 h9)).cons (tlK_er e8 h8)).cons (intK_er e7 h7)).cons (intK_er e6 h6)).cons (intK_er e5 h5)).cons (intK_er e4 h4)).cons (intK_er e3 h3)).cons (boolOf_er e2 h2)).cons (intK_er e1 h1)).cons (intK_er e0 h0))
    · cases h
  · cases h
theorem dec6_er {E : Env} {cs : List (SV T)} {x : Tly} {as : List AVal} (h : dec6 cs = some x) (hE : Ers (C := cod) E cs as) : Ers (C := cod) E (enc6 x) as := by
  unfold dec6 at h
  split at h
  · split at h
    · rename_i e0 e1 e2 e3 e4 e5 e6 e7 e8 e9
      cases h
      obtain ⟨a0, as, rfl, h0, hE⟩ := hE.inv_cons
      obtain ⟨a1, as, rfl, h1, hE⟩ := hE.inv_cons
      obtain ⟨a2, as, rfl, h2, hE⟩ := hE.inv_cons
      obtain ⟨a3, as, rfl, h3, hE⟩ := hE.inv_cons
      obtain ⟨a4, as, rfl, h4, hE⟩ := hE.inv_cons
      obtain ⟨a5, as, rfl, h5, hE⟩ := hE.inv_cons
      obtain ⟨a6, as, rfl, h6, hE⟩ := hE.inv_cons
      obtain ⟨a7, as, rfl, h7, hE⟩ := hE.inv_cons
      obtain ⟨a8, as, rfl, h8, hE⟩ := hE.inv_cons
      obtain ⟨a9, as, rfl, h9, hE⟩ := hE.inv_cons
      obtain rfl := hE.inv_nil
      exact ((((((((((Ers.nil.cons (intK_er e9 h9)).cons (intK_er e8 h8)).cons (intK_er e7 h7)).cons (intK_er e6 h6)).cons (intK_er e5 h5)).cons (intK_er e4 h4)).cons (intK_er e3 h3)).cons (intK_er e2 h2)).cons (intK_er e1 h1)).cons (intK_er e0 h0))
    · cases h
  · cases h
theorem dec7_er {E : Env} {cs : List (SV T)} {x : W3} {as : List AVal} (h : dec7 cs = some x) (hE : Ers (C := cod) E cs as) : Ers (C := cod) E (enc7 x) as := by
  unfold dec7 at h
  split at h
  · split at h
    · rename_i e0 e1 e2
      cases h
      obtain ⟨a0, as, rfl, h0, hE⟩ := hE.inv_cons
      obtain ⟨a1, as, rfl, h1, hE⟩ := hE.inv_cons
      obtain ⟨a2, as, rfl, h2, hE⟩ := hE.inv_cons
      obtain rfl := hE.inv_nil
      exact (((Ers.nil.cons (intK_er e2 h2)).cons (intK_er e1 h1)).cons (intK_er e0 h0))
    · cases h
  · cases h
theorem codOk : CodecOk cod where
  len := by
    intro n x
    match n, x with
    | 0, x => rfl
    | 1, x => rfl
    | 2, x => rfl
    | 3, x => rfl
    | 4, x => rfl
    | 5, x => rfl
    | 6, x => rfl
    | 7, x => rfl
    | n + 8, x => rfl
  one := by
    intro n x
    match n, x with
    | 0, x => rfl
    | 1, x => rfl
    | 2, x => rfl
    | 3, x => rfl
    | 4, x => rfl
    | 5, x => rfl
    | 6, x => rfl
    | 7, x => rfl
    | n + 8, x => rfl
  ids := by
    intro n x
    match n, x with
    | 0, x => rfl
    | 1, x => rfl
    | 2, x => rfl
    | 3, x => rfl
    | 4, x => rfl
    | 5, x => rfl
    | 6, x => rfl
    | 7, x => rfl
    | n + 8, x => rfl
  flat := by
    intro n x h
    match n, x, h with
    | 0, x, h => rfl
    | 1, x, h => rfl
    | 2, x, h => rfl
    | 3, x, h => cases h
    | 4, x, h => rfl
    | 5, x, h => cases h
    | 6, x, h => rfl
    | 7, x, h => rfl
    | n + 8, x, h => rfl
  dec := by
    intro n cs x h E as hE
    match n, x, h with
    | 0, x, h => exact dec0_er h hE
    | 1, x, h => exact dec1_er h hE
    | 2, x, h => exact dec2_er h hE
    | 3, x, h => exact dec3_er h hE
    | 4, x, h => exact dec4_er h hE
    | 5, x, h => exact dec5_er h hE
    | 6, x, h => exact dec6_er h hE
    | 7, x, h => exact dec7_er h hE
    | n + 8, x, h => exact decI_er h hE
def at0 (l : List (Int)) (i : Int) : Int := cod.at 0 l i
theorem at0_get {l : List (Int)} {i : Nat} (h : i < l.length) : at0 l (i : Int) = l[i] := at_get (C := cod) (n := 0) h
def at1 (l : List (P)) (i : Int) : P := cod.at 1 l i
theorem at1_get {l : List (P)} {i : Nat} (h : i < l.length) : at1 l (i : Int) = l[i] := at_get (C := cod) (n := 1) h
def at2 (l : List (Op)) (i : Int) : Op := cod.at 2 l i
theorem at2_get {l : List (Op)} {i : Nat} (h : i < l.length) : at2 l (i : Int) = l[i] := at_get (C := cod) (n := 2) h
def at3 (l : List (Try)) (i : Int) : Try := cod.at 3 l i
theorem at3_get {l : List (Try)} {i : Nat} (h : i < l.length) : at3 l (i : Int) = l[i] := at_get (C := cod) (n := 3) h
def at4 (l : List (Wd)) (i : Int) : Wd := cod.at 4 l i
theorem at4_get {l : List (Wd)} {i : Nat} (h : i < l.length) : at4 l (i : Int) = l[i] := at_get (C := cod) (n := 4) h
def at5 (l : List (Att)) (i : Int) : Att := cod.at 5 l i
theorem at5_get {l : List (Att)} {i : Nat} (h : i < l.length) : at5 l (i : Int) = l[i] := at_get (C := cod) (n := 5) h
def at6 (l : List (Tly)) (i : Int) : Tly := cod.at 6 l i
theorem at6_get {l : List (Tly)} {i : Nat} (h : i < l.length) : at6 l (i : Int) = l[i] := at_get (C := cod) (n := 6) h
def at7 (l : List (W3)) (i : Int) : W3 := cod.at 7 l i
theorem at7_get {l : List (W3)} {i : Nat} (h : i < l.length) : at7 l (i : Int) = l[i] := at_get (C := cod) (n := 7) h
end Go.Proofs.YtomlcdalhihnaaaDoor

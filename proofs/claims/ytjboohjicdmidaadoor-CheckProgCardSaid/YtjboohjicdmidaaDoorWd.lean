/- check.Prog: what its walk answers. -/
import Derived.Test.YtjboohjicdmidaaDoorMx
namespace Go.Proofs.YtjboohjicdmidaaDoor
open Go.RowKit Go.Am Go.Sy
set_option linter.unusedVariables false

def writesB (o : List Instr) : Bool := o.any fun x => x.b == 0
def waitF (conds : List Int) (o : List Instr) (x : Instr) : Int := if x.a ≥ conds.length then 9 else if (o.length : Int) ≠ 1 ∨ (at2 o 0).a ≠ at0 conds x.a then 6 else if (at2 o 0).b = 1 then 7 else 0
def wakeF (conds : List Int) (o : List Instr) (x : Instr) : Int := if x.a ≥ conds.length then 9 else match o.find? (fun y => y.a == at0 conds x.a) with
  | none => 6
  | some y => if y.b = 1 then 7 else 0
def wrD : CtrD cod where
  pats := [.frow 9]
  pre := fun (x : Wk × Unit) => x.1.o.length ≤ 1000
  res := fun (x : Wk × Unit) => .b (writesB x.1.o)
  objs := fun x => []
def wrC (w : Wk) : CutD cod := ⟨Nat, fun k => k ≤ w.o.length ∧ ∀ y ∈ w.o.take k, (y.b == 0) = false, fun k => w.o.length - k,
  fun k => [(8, .tl (T := T) 2 w.o), (9, .i .i64 w.o.length), (10, .i .i64 k)], fun _ => []⟩
def waD : CtrD cod where
  pats := [.frow 9, .row 2]
  pre := fun (x : Wk × Instr × Unit) => x.1.o.length ≤ 1000 ∧ 0 ≤ x.2.1.a
  res := fun (x : Wk × Instr × Unit) => .i .i64 (waitF x.1.conds x.1.o x.2.1)
  objs := fun x => []
def wkD : CtrD cod where
  pats := [.frow 9, .row 2]
  pre := fun (x : Wk × Instr × Unit) => x.1.o.length ≤ 1000 ∧ 0 ≤ x.2.1.a
  res := fun (x : Wk × Instr × Unit) => .i .i64 (wakeF x.1.conds x.1.o x.2.1)
  objs := fun x => []
def wkC (w : Wk) (x : Instr) : CutD cod := ⟨Nat, fun k => k ≤ w.o.length ∧ x.a < w.conds.length ∧ ∀ y ∈ w.o.take k, (y.a == at0 w.conds x.a) = false, fun k => w.o.length - k,
  fun k => [(0, .fp (enc9 w)), (3, .ptr 0 0), (19, .tl (T := T) 2 w.o), (20, .i .i64 w.o.length), (21, .i .i64 k)], fun _ => [.cells (enc2 x)]⟩

structure WS where
  o : List Instr
  top : Int
  loops : Int
def wcode (c : Config) (x : Instr) (w : WS) : Int :=
  if x.op = 13 then (if x.a ≥ c.locks.length then 6 else if x.b = 1 ∧ (at1 c.locks x.a).kind ≠ 3 then 7 else if (w.o.length : Int) = 0 then 0 else if (w.o.length : Int) ≥ 3 then 5 else if w.loops > 0 ∨ x.a ≤ w.top then 8 else 0)
  else if x.op = 9 then (if (w.o.length : Int) > 0 ∧ writesB w.o = false then 7 else 0)
  else if x.op = 10 ∨ x.op = 11 then (if writesB w.o = false then 7 else 0)
  else if x.op = 15 then waitF c.conds w.o x
  else if x.op = 16 ∨ x.op = 17 then wakeF c.conds w.o x
  else 0
def mx (a b : Int) : Int := if a < b then b else a
def wnext (x : Instr) (w : WS) : WS :=
  if x.op = 13 then ⟨w.o ++ [x], mx (if (w.o.length : Int) = 0 then -1 else w.top) x.a, if (w.o.length : Int) = 0 then 0 else w.loops⟩
  else if x.op = 14 then ⟨w.o.take (w.o.length - 1), w.top, w.loops⟩
  else if x.op = 21 then ⟨w.o, w.top, w.loops + 1⟩
  else if x.op = 22 then ⟨w.o, w.top, w.loops - 1⟩
  else w
def wgo (c : Config) (t : Nat) (p : List Instr) : Nat → Nat → WS → W3
  | 0, _, _ => (0, 0, 0)
  | r + 1, i, w => if wcode c (at2 p i) w = 0 then wgo c t p r (i + 1) (wnext (at2 p i) w) else (wcode c (at2 p i) w, t, i)
def mayGo (p : List Instr) : Nat → Nat → Int
  | 0, _ => -1
  | r + 1, i => if mayB (at2 p i) = true then mayGo p r (i + 1) else i
def progP (c : Config) (t : Nat) (p : List Instr) : W3 := if (p.length : Int) > 48 then (4, t, -1) else if mayGo p p.length 0 ≥ 0 then (1, t, mayGo p p.length 0) else if (matesR p).2 ≥ 0 then (5, t, (matesR p).2) else wgo c t p p.length 0 ⟨[], 0, 0⟩
def pwC (c : Config) (t : Nat) : W3 := progP c t (at3 c.progs t)

/-- Sections that are open. -/
def cnt (p : List Instr) (s : List Blk) : Nat := (s.filter fun b => (at2 p b.a).op == 13).length
structure PgS where
  i : Nat
  w : WS
  q : MS
def pgC7 (c : Config) (t : Nat) : CutD cod := ⟨Nat, fun i => i ≤ (at3 c.progs t).length ∧ (at3 c.progs t).length ≤ 48 ∧ mayGo (at3 c.progs t) ((at3 c.progs t).length - i) i = mayGo (at3 c.progs t) (at3 c.progs t).length 0 ∧ ∀ k, k < i → mayB (at2 (at3 c.progs t) k) = true, fun i => 200 - i,
  fun i => [(1, .i .i64 t), (2, .ptr 0 0), (5, .tl (T := T) 2 (at3 c.progs t)), (35, .tl (T := T) 2 (at3 c.progs t)), (36, .i .i64 (at3 c.progs t).length), (37, .i .i64 i)], fun _ => [.cells (enc4 c)]⟩
def pgI (c : Config) (t : Nat) (p : List Instr) (s : PgS) : Prop := s.i ≤ p.length ∧ p.length ≤ 48 ∧ (∀ k, k < p.length → mayB (at2 p k) = true) ∧ pwC c t = wgo c t p (p.length - s.i) s.i s.w ∧ (-(s.i : Int) ≤ s.w.loops ∧ s.w.loops ≤ s.i) ∧ s.w.o.length ≤ s.i ∧
  (matesR p).2 < 0 ∧ mtI p ⟨s.q, s.i⟩ ∧ s.w.o.length = cnt p s.q.s
def pgC17 (c : Config) (t : Nat) : CutD cod := ⟨PgS, fun s => pgI c t (at3 c.progs t) s, fun s => 100 - s.i,
  fun s => [(1, .i .i64 t), (10, .ptr 0 0), (64, .tl (T := T) 2 (at3 c.progs t)), (65, .i .i64 (at3 c.progs t).length), (66, .i .i64 s.i)],
  fun s => [.cells (enc4 c ++ [.R 1, .i .i64 s.w.top, .i .i64 s.w.loops]), .rows 2 s.w.o false 1]⟩
def pgF (c : Config) (t : Nat) : FnD cod := ⟨[(7, pgC7 c t), (17, pgC17 c t)], .a (errV (pwC c t)), []⟩
noncomputable def b48 : Code := Tryd.f48.body.getD .skip
noncomputable def b49 : Code := Tryd.f49.body.getD .skip
noncomputable def b50 : Code := Tryd.f50.body.getD .skip
noncomputable def b16 : Code := Tryd.f16.body.getD .skip
noncomputable def g1 : List (FuncId × Ctr cod) := [(28, mkCtr wiD), (26, mkCtr newD), (25, mkCtr putC), (31, mkCtr mayD), (32, mkCtr mtD), (48, mkCtr wrD), (49, mkCtr waD), (50, mkCtr wkD)]
end Go.Proofs.YtjboohjicdmidaaDoor

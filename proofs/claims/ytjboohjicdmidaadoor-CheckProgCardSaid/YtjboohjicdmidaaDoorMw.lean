/- check.Prog: what it answers. -/
import Derived.Test.YtjboohjicdmidaaDoorCt
namespace Go.Proofs.YtjboohjicdmidaaDoor
open Go.RowKit Go.Am Go.Sy
set_option linter.unusedVariables false

/-! ### Which instructions may be -/
/-- What an op's fields are: registers 1, a lock 2, a condition 3, a bit 4, a number 5. -/
def shA (op : Int) : Int := if op = 13 then 2 else if op = 15 ∨ op = 16 ∨ op = 17 then 3 else if (1 ≤ op ∧ op ≤ 9) ∨ op = 12 ∨ op = 18 ∨ op = 21 then 1 else 0
def shB (op : Int) : Int := if op = 13 then 4 else if 2 ≤ op ∧ op ≤ 11 then 1 else 0
def shC (op : Int) : Int := if 2 ≤ op ∧ op ≤ 7 then 1 else 0
def shN (op : Int) : Int := if op = 1 ∨ (8 ≤ op ∧ op ≤ 11) then 5 else 0
def mostK (k : Int) : Int := if k = 1 ∨ k = 2 ∨ k = 3 then 3 else if k = 4 then 1 else 0
def fitB (k v : Int) : Bool := decide (v ≥ 0) && decide (v ≤ mostK k)
def mayB (x : Instr) : Bool := decide (x.op ≥ 1) && (decide (x.op ≤ 22) && (fitB (shA x.op) x.a && (fitB (shB x.op) x.b && (fitB (shC x.op) x.c && ((shN x.op == 5) || (x.n == 0))))))
def shD : CtrD cod where
  pats := [.int .i64]
  pre := fun x => True
  res := fun (x : Int × Unit) => .tup [.i .i64 (shA x.1), .i .i64 (shB x.1), .i .i64 (shC x.1), .i .i64 (shN x.1)]
  objs := fun x => []
def fitD : CtrD cod where
  pats := [.int .i64, .int .i64]
  pre := fun x => True
  res := fun (x : Int × Int × Unit) => .b (fitB x.1 x.2.1)
  objs := fun x => []
def mayD : CtrD cod where
  pats := [.row 2]
  pre := fun x => True
  res := fun (x : Instr × Unit) => .b (mayB x.1)
  objs := fun x => []

/-! ### Mates -/
structure MS where
  m : List Int
  s : List Blk
def opener (op : Int) : Int := if op = 19 ∨ op = 20 then 18 else if op = 22 then 21 else if op = 14 then 13 else 0
/-- The last one that is open. -/
def lst (s : List Blk) : Blk := at8 s ((s.length : Int) - 1)
def mstep (p : List Instr) (i : Nat) (q : MS) : Option MS :=
  let op := (at2 p i).op
  let m1 := q.m.set i (-1)
  if op = 18 ∨ op = 21 ∨ op = 13 then some ⟨m1, q.s ++ [⟨i, i⟩]⟩
  else if opener op = 0 then some ⟨m1, q.s⟩
  else if q.s = [] ∨ (at2 p (lst q.s).a).op ≠ opener (at2 p i).op ∨ ((at2 p i).op = 19 ∧ (lst q.s).l ≠ (lst q.s).a) then none
  else
    let m2 := m1.set (lst q.s).l.toNat i
    if op = 19 then some ⟨m2, q.s.set (q.s.length - 1) ⟨(lst q.s).a, i⟩⟩
    else if op = 22 ∨ op = 14 then some ⟨m2.set i (lst q.s).a, q.s.take (q.s.length - 1)⟩
    else some ⟨m2, q.s.take (q.s.length - 1)⟩
def mgo (p : List Instr) : Nat → Nat → MS → List Int × Int
  | 0, i, q => if q.s = [] then (q.m, -1) else ([], (lst q.s).a)
  | r + 1, i, q => match mstep p i q with
    | none => ([], (i : Int))
    | some q' => mgo p r (i + 1) q'
def matesR (p : List Instr) : List Int × Int := mgo p p.length 0 ⟨List.replicate p.length 0, []⟩
def msOk (p : List Instr) (q : MS) : Prop := q.m.length = p.length ∧ ∀ b ∈ q.s, (0 ≤ b.a ∧ b.a < p.length) ∧ 0 ≤ b.l ∧ b.l < p.length
def mtD : CtrD cod where
  pats := [.tl 2]
  pre := fun (x : List Instr × Unit) => x.1.length ≤ 100000
  res := fun (x : List Instr × Unit) => .tup [.R 0, .i .i64 (matesR x.1).2]
  objs := fun (x : List Instr × Unit) => [.rows 0 (matesR x.1).1 false 0]
structure MtS where
  q : MS
  i : Nat
def mtI (p : List Instr) (s : MtS) : Prop := s.i ≤ p.length ∧ msOk p s.q ∧ s.q.s.length ≤ s.i ∧ mgo p (p.length - s.i) s.i s.q = matesR p
def mtC (p : List Instr) : CutD cod := ⟨MtS, fun s => mtI p s, fun s => 2 + 3 * (p.length - s.i),
  fun s => [(0, .tl (T := T) 2 p), (4, .R 0), (5, .R 1), (13, .i .i64 p.length), (14, .i .i64 s.i)], fun s => [.rows 0 s.q.m false 0, .rows 8 s.q.s false 1]⟩
/-- Behind the places of what opens a block. -/
def mtC21 (p : List Instr) : CutD cod := ⟨MtS, fun s => s.i < p.length ∧ mtI p s ∧ opener (at2 p s.i).op ≠ 0, fun s => 1 + 3 * (p.length - s.i),
  fun s => [(0, .tl (T := T) 2 p), (4, .R 0), (5, .R 1), (6, .i .i64 s.i), (7, .i .i64 (opener (at2 p s.i).op)), (8, .i .i64 ((s.q.s.length : Int) - 1)), (13, .i .i64 p.length), (14, .i .i64 s.i)], fun s => [.rows 0 (s.q.m.set s.i (-1)) false 0, .rows 8 s.q.s false 1]⟩
/-- What does not fit. -/
def msBad (p : List Instr) (i : Nat) (s : List Blk) : Prop := s = [] ∨ (at2 p (lst s).a).op ≠ opener (at2 p i).op ∨ ((at2 p i).op = 19 ∧ (lst s).l ≠ (lst s).a)
def mtC23 (p : List Instr) : CutD cod := ⟨MtS, fun s => s.i < p.length ∧ mtI p s ∧ opener (at2 p s.i).op ≠ 0 ∧ ¬ msBad p s.i s.q.s, fun s => 3 * (p.length - s.i),
  fun s => [(0, .tl (T := T) 2 p), (4, .R 0), (5, .R 1), (6, .i .i64 s.i), (8, .i .i64 ((s.q.s.length : Int) - 1)), (13, .i .i64 p.length), (14, .i .i64 s.i)], fun s => [.rows 0 (s.q.m.set s.i (-1)) false 0, .rows 8 s.q.s false 1]⟩
def mtF (p : List Instr) : FnD cod := ⟨[(4, mtC p), (21, mtC21 p), (23, mtC23 p)], .tup [.R 0, .i .i64 (matesR p).2], [.rows 0 (matesR p).1 false 0]⟩
noncomputable def b45 : Code := Tryd.f45.body.getD .skip
noncomputable def b46 : Code := Tryd.f46.body.getD .skip
noncomputable def b31 : Code := Tryd.f31.body.getD .skip
noncomputable def b32 : Code := Tryd.f32.body.getD .skip
noncomputable def e1 : List (FuncId × Ctr cod) := [(45, mkCtr shD), (46, mkCtr fitD)]
end Go.Proofs.YtjboohjicdmidaaDoor

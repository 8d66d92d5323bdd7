/- Which instructions may be, on both sides; an instruction out of a row: what these answer. -/
import Derived.Test.YtbbbpnaghipfmaaGreatDoorSx
namespace Go.Proofs.YtbbbpnaghipfmaaGreatDoor
open Go.RowKit Go.Am Go.Sy
set_option linter.unusedVariables false
set_option linter.unusedSimpArgs false

/-- What an op's fields are: registers 1, a lock 2, a condition 3, a bit 4, a number 5. -/
def shA (op : Int) : Int := if op = 13 then 2 else if op = 15 ∨ op = 16 ∨ op = 17 then 3 else if (1 ≤ op ∧ op ≤ 9) ∨ op = 12 ∨ op = 18 ∨ op = 21 then 1 else 0
def shB (op : Int) : Int := if op = 13 then 4 else if 2 ≤ op ∧ op ≤ 11 then 1 else 0
def shC (op : Int) : Int := if 2 ≤ op ∧ op ≤ 7 then 1 else 0
def shN (op : Int) : Int := if op = 1 ∨ (8 ≤ op ∧ op ≤ 11) then 5 else 0
def mostK (k : Int) : Int := if k = 1 ∨ k = 2 ∨ k = 3 then 3 else if k = 4 then 1 else 0
def fitB (k v : Int) : Bool := decide (v ≥ 0) && decide (v ≤ mostK k)
def mayB (x : Ins) : Bool := decide (x.op ≥ 1) && (decide (x.op ≤ 22) && (fitB (shA x.op) x.a && (fitB (shB x.op) x.b && (fitB (shC x.op) x.c && ((shN x.op == 5) || (x.n == 0))))))
def shD : CtrD cod where
  pats := [.int .i64]
  pre := fun x => True
  res := fun (x : Int × Unit) => .tup [.i .i64 (shA x.1), .i .i64 (shB x.1), .i .i64 (shC x.1), .i .i64 (shN x.1)]
  objs := fun x => []
def fitD : CtrD cod where
  pats := [.int .i64, .int .i64]
  pre := fun x => True
  res := fun (x : Int × Int × Unit) => .b (fitB x.1 x.2.1)
  objs := fun x => []
def mayD : CtrD cod where
  pats := [.row 2]
  pre := fun x => True
  res := fun (x : Ins × Unit) => .b (mayB x.1)
  objs := fun x => []

noncomputable def b40 : Code := Tryz.f40.body.getD .skip
noncomputable def b41 : Code := Tryz.f41.body.getD .skip
noncomputable def b29 : Code := Tryz.f29.body.getD .skip
noncomputable def e1 : List (FuncId × Ctr cod) := [(40, mkCtr shD), (41, mkCtr fitD)]
def fdD : CtrD cod where
  pats := [.int .i64]
  pre := fun x => True
  res := fun (x : Int × Unit) => .tup [.i .i64 (shA x.1), .i .i64 (shB x.1), .i .i64 (shC x.1), .b (shN x.1 == 5)]
  objs := fun x => []
def fiD : CtrD cod where
  pats := [.int .i64, .int .i64]
  pre := fun (x : Int × Int × Unit) => 0 ≤ x.1 ∧ x.1 ≤ 4
  res := fun (x : Int × Int × Unit) => .b (fitB x.1 x.2.1)
  objs := fun x => []
noncomputable def b10 : Code := Tryz.f10.body.getD .skip
noncomputable def b23 : Code := Tryz.f23.body.getD .skip
noncomputable def b9 : Code := Tryz.f9.body.getD .skip
noncomputable def r1 : List (FuncId × Ctr cod) := [(10, mkCtr fdD), (23, mkCtr fiD)]

/-- One of so many. -/
def pk (x m : Int) : Int := IntKind.i64.wrap ((IntKind.u64.wrap x).tmod m)
/-- An instruction out of a row. -/
def insF (k : K4) (n : Int) (raw : Bool) : Ins := if raw = true then ⟨k.a, k.b, k.c, k.d, n⟩ else
  let op := IntKind.i64.wrap (1 + pk k.a 22)
  let b := pk k.c 4
  if op = 1 then ⟨op, pk k.b 4, 0, 0, n⟩
  else if op ≤ 7 then ⟨op, pk k.b 4, b, pk k.d 4, 0⟩
  else if op ≤ 9 then ⟨op, pk k.b 4, b, 0, n⟩
  else if op ≤ 11 then ⟨op, 0, b, 0, n⟩
  else if op = 13 then ⟨op, pk k.b 4, b.tmod 2, 0, 0⟩
  else if op = 14 ∨ op = 19 ∨ op = 20 ∨ op = 22 then ⟨op, 0, 0, 0, 0⟩
  else ⟨op, pk k.b 4, 0, 0, 0⟩
def inD : CtrD cod where
  pats := [.row 6, .int .i64, .bool]
  pre := fun x => True
  res := fun (x : K4 × Int × Bool × Unit) => .agg (enc2 (insF x.1 x.2.1 x.2.2.1))
  objs := fun x => []
noncomputable def b6 : Code := Tryz.f6.body.getD .skip
end Go.Proofs.YtbbbpnaghipfmaaGreatDoor

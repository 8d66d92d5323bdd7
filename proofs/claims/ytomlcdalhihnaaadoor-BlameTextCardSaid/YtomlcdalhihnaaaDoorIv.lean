/- What is told of an error. -/
import Derived.Test.YtomlcdalhihnaaaDoorIu
import Derived.Test.YtomlcdalhihnaaaDoorBp
namespace Go.Proofs.YtomlcdalhihnaaaDoor
open Go.RowKit Go.Am Go.Sy
set_option linter.unusedVariables false

def inI (n : Int) : Prop := -9223372036854775808 ≤ n ∧ n ≤ 9223372036854775807
def itoaD : CtrD cod where
  pats := [.int .i64]
  pre := fun (x : Int × Unit) => inI x.1
  res := fun (x : Int × Unit) => .s (decS x.1)
  objs := fun x => []
noncomputable def n0 : List (FuncId × Ctr cod) := [(46, mkCtr fiD)]
noncomputable def n1 : List (FuncId × Ctr cod) := [(45, mkCtr itoaD)]
def sThread : List UInt8 := [116, 104, 114, 101, 97, 100, 32]
def sPlace : List UInt8 := [44, 32, 112, 108, 97, 99, 101, 32]
def sColon : List UInt8 := [58, 32]
/-- One place in words. -/
def word1 (x : P) : List UInt8 := sThread ++ decS x.t ++ sPlace ++ decS x.p ++ sColon
def text (c : Int) : List P → List UInt8
  | [] => codeT c
  | x :: l => word1 x ++ text c l
def okP (x : P) : Prop := inI x.t ∧ inI x.p
def textD (n : Nat) : CtrD cod where
  pats := erP
  pre := fun (x : (Int × List P) × Unit) => x.1.2.length ≤ n ∧ n ≤ 20 ∧ ∀ y ∈ x.1.2, okP y
  res := fun (x : (Int × List P) × Unit) => .s (text x.1.1 x.1.2)
  objs := fun x => []
noncomputable def b45 : Code := Tryd.f45.body.getD .skip
noncomputable def b40 : Code := Tryd.f40.body.getD .skip
noncomputable def b18 : Code := Tryd.f18.body.getD .skip
noncomputable def t1 (n : Nat) : List (FuncId × Ctr cod) := [(40, mkCtr itoaD), (18, mkCtr (textD n))]
end Go.Proofs.YtomlcdalhihnaaaDoor

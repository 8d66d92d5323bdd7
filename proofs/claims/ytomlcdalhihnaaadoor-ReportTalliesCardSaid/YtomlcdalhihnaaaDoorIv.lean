/- strconv.Itoa. -/
import Derived.Test.YtomlcdalhihnaaaDoorIu
namespace Go.Proofs.YtomlcdalhihnaaaDoor
open Go.RowKit Go.Am Go.Sy
set_option linter.unusedVariables false

def inI (n : Int) : Prop := -9223372036854775808 ≤ n ∧ n ≤ 9223372036854775807
def itoaD : CtrD cod where
  pats := [.int .i64]
  pre := fun (x : Int × Unit) => inI x.1
  res := fun (x : Int × Unit) => .s (decS x.1)
  objs := fun x => []
noncomputable def n0 : List (FuncId × Ctr cod) := [(46, mkCtr fiD)]
noncomputable def n1 : List (FuncId × Ctr cod) := [(45, mkCtr itoaD)]
noncomputable def b45 : Code := Tryd.f45.body.getD .skip
noncomputable def b40 : Code := Tryd.f40.body.getD .skip
end Go.Proofs.YtomlcdalhihnaaaDoor

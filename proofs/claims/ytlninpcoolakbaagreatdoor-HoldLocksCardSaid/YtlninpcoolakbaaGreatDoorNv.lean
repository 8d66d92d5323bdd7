/- The document's lists of numbers: their contracts are paid. -/
import Derived.Test.YtlninpcoolakbaaGreatDoorTk
namespace Go.Proofs.YtlninpcoolakbaaGreatDoor
open Go.RowKit Go.Am Go.Sy
set_option linter.unusedVariables false
set_option linter.unusedSimpArgs false
def outOk (o : Out) : Prop := outB (oc o) = true ∧ o.logs.length = o.status.length
def rtD : CtrD cod where
  pats := [.row 4]
  pre := fun (x : Out × Unit) => outOk x.1
  res := fun (x : Out × Unit) => .s (textR (oc x.1))
  objs := fun x => []
structure RtS where
  k : Nat
  acc : List UInt8
noncomputable def b7 : Code := Tryz.f7.body.getD .skip
noncomputable def l7 : List (FuncId × Ctr cod) := [(23, mkCtr decD), (24, mkCtr nuD), (25, mkCtr nuD)]
structure HtS where
  l : List (List Int)
  k : Nat
noncomputable def tellCtr : Ctr cod := fun _ args h K => match args with
  | [] => K (.a (.bool true)) h
  | _ => .stuck "told"
noncomputable def b3 : Code := Tryz.f3.body.getD .skip
noncomputable def l3 : List (FuncId × Ctr cod) := [(5, tellCtr), (6, textCtr), (7, mkCtr rtD)]
end Go.Proofs.YtlninpcoolakbaaGreatDoor

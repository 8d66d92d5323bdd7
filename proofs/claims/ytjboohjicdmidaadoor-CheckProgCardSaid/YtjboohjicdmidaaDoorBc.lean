/- What the functions of blame's answer. -/
import Derived.Test.YtjboohjicdmidaaDoorEr
namespace Go.Proofs.YtjboohjicdmidaaDoor
open Go.RowKit Go.Am Go.Sy
set_option linter.unusedVariables false

/-- blame.New -/
def newD : CtrD cod where
  pats := [.int .i64]
  pre := fun (x : Int × Unit) => 1 ≤ x.1 ∧ x.1 ≤ 10
  res := fun (x : Int × Unit) => .a (newV x.1)
  objs := fun x => []
/-- blame.Put -/
def putP : List (Pat cod) := [.lit (Int × List P) (fun y => ch y.1 y.2), .int .i64, .int .i64]
def putD : CtrD cod where
  pats := putP
  pre := fun x => True
  res := fun x => .iface 70 (.ptr 0 0)
  objs := fun (x : (Int × List P) × Int × Int × Unit) => [.cells [.i .i64 x.2.1, .i .i64 x.2.2.1, .a (ch x.1.1 x.1.2)]]
def putZ (x : (Int × List P) × Int × Int × Unit) : AVal := ch x.1.1 (⟨x.2.1, x.2.2.1⟩ :: x.1.2)
def putC : CtrD cod := ⟨putP, fun x => True, fun x => .a (putZ x), fun _ => []⟩
noncomputable def b26 : Code := Tryd.f26.body.getD .skip
noncomputable def b25 : Code := Tryd.f25.body.getD .skip
noncomputable def l0 : List (FuncId × Ctr cod) := []
noncomputable def l1 : List (FuncId × Ctr cod) := [(26, mkCtr newD), (25, mkCtr putC)]
def putF (u : TypeId) (a : AVal) (t p : Int) : FnD cod := ⟨[], .iface 70 (.ptr 0 0), [.cells [.i .i64 t, .i .i64 p, .a (.iface u a)]]⟩
end Go.Proofs.YtjboohjicdmidaaDoor

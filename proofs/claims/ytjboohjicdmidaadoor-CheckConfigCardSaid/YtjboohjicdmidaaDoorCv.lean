/- Programs without an instruction; syncopelaw6.CheckConfig: what holds at its places. -/
import Derived.Test.YtjboohjicdmidaaDoorCt
namespace Go.Proofs.YtjboohjicdmidaaDoor
open Go.RowKit Go.Am Go.Sy
set_option linter.unusedVariables false

/-- Nobody comes here. -/
def noC : CutD cod := ⟨Unit, fun _ => False, fun _ => 0, fun _ => [], fun _ => []⟩
def mt0 : CtrD cod where
  pats := [.tl 2]
  pre := fun (x : List Instr × Unit) => x.1 = []
  res := fun x => .tup [.R 0, .i .i64 (-1)]
  objs := fun x => [.rows 0 [] true 0]
/-- All programs are empty. -/
def Q0 (c : Config) : Prop := c.progs.length ≤ 1000 ∧ ∀ p ∈ c.progs, p = []
def pw0 (c : Config) (k : Nat) : W3 := (0, 0, 0)
theorem pw0Ok : PwOk pw0 := ⟨fun _ _ _ => rfl, fun _ _ h => (h rfl).elim⟩
noncomputable def b32 : Code := Tryd.f32.body.getD .skip
noncomputable def b59 : Code := Tryd.f59.body.getD .skip
noncomputable def b16 : Code := Tryd.f16.body.getD .skip
noncomputable def b52 : Code := Tryd.f52.body.getD .skip
noncomputable def b8 : Code := Tryd.f8.body.getD .skip
noncomputable def v1 : List (FuncId × Ctr cod) := [(28, mkCtr wiD), (26, mkCtr newD), (25, mkCtr putC), (32, mkCtr mt0)]
noncomputable def v2 : List (FuncId × Ctr cod) := [(59, mkCtr mt0)]
noncomputable def v3 : List (FuncId × Ctr cod) := [(14, toldCtr (.bool true)), (21, mkCtr (akD Q0))]
end Go.Proofs.YtjboohjicdmidaaDoor

/- What the seat's runs over rows stand on. -/
import Derived.Test.YtlninpcoolakbaaGreatDoorBase
import Derived.Test.YtlninpcoolakbaaGreatDoorCod
namespace Go.Proofs.YtlninpcoolakbaaGreatDoor
open Go.RowKit Go.Am Go.Sy
set_option linter.unusedVariables false
def toldL : Lits := [(5, [], .bool true)]
def pol (f : FuncId) : Pol := if f == 3 then .keep else .fresh
noncomputable def S : AStat := St pol toldL
noncomputable def F : Cf cod := ⟨S, fun _ => true⟩
theorem noExt : ExtNo F.S F.noExt := fun f h av => rfl
theorem hookLow : HookLow F.S := stLow pol toldL
end Go.Proofs.YtlninpcoolakbaaGreatDoor

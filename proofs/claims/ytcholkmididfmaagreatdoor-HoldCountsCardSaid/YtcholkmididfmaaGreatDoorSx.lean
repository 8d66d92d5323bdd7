/- What the seat's runs over rows stand on. -/
import Derived.Test.YtcholkmididfmaaGreatDoorBase
import Derived.Test.YtcholkmididfmaaGreatDoorCod
namespace Go.Proofs.YtcholkmididfmaaGreatDoor
open Go.RowKit Go.Am Go.Sy
set_option linter.unusedVariables false
def toldL : Lits := [(10,[],.bool true)]
def keepL : List Nat := [3,4,5,6,7,8,17,20,23,24,25,26,39,55,56,61,64,69,90,91,94,124,149]
def pureL : List Nat := [31,53,54,68]
def pol (f : FuncId) : Pol := if keepL.any (Nat.beq f) then .keep else if pureL.any (Nat.beq f) then .pure else .fresh
noncomputable def S : AStat := St pol toldL
noncomputable def F : Cf cod := ⟨S,fun _ => true⟩
theorem noExt : ExtNo F.S F.noExt := fun f h av => rfl
theorem hookLow : HookLow F.S := stLow pol toldL
theorem noneOk : CtrOk F.S (lookC ([] : List (FuncId × Ctr cod))) := fun f c h => by cases h
end Go.Proofs.YtcholkmididfmaaGreatDoor

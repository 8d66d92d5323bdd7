/- What the seat's runs over rows stand on. -/
import Derived.Test.YtbbbpnaghipfmaaDoorRd
namespace Go.Proofs.YtbbbpnaghipfmaaDoor
open Go.RowKit Go.Am Go.Sy
set_option linter.unusedVariables false

/-- How each call ends: what an instruction's row and the words are is sealed; those that make memory and give it away. -/
def pol (f : FuncId) : Pol := if f == 8 || f == 13 || f == 25 then .pure else if f == 3 || f == 4 || f == 7 || f == 43 then .keep else .fresh
noncomputable def S (Z : Xs) : AStat := St pol toldL Z
noncomputable def F (Z : Xs) : Cf cod := ⟨S Z, fun _ => true⟩
theorem noExt {Z : Xs} : ExtNo (F Z).S (F Z).noExt := fun f h av => rfl
theorem hookLow {Z : Xs} : HookLow (F Z).S := stLow pol toldL Z
theorem noneOk {Z : Xs} : CtrOk (F Z).S (lookC ([] : List (FuncId × Ctr cod))) := fun f c h => by cases h
end Go.Proofs.YtbbbpnaghipfmaaDoor

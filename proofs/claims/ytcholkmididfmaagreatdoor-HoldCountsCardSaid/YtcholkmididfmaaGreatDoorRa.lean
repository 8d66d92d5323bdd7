/- hold.All at the example: what a round is. -/
import Derived.Test.YtcholkmididfmaaGreatDoorSa
namespace Go.Proofs.YtcholkmididfmaaGreatDoor
open Go.RowKit Go.Am
set_option linter.unusedVariables false
def fr : List Nat := [16,18,19,21,30,31,49,50,51,52,53,54,57,58,33,68,81,82,83,84,85,87,88,89,71,72,73,32,95,96,97,98,99,123,125,126,127,128,43,44,147,148,153,107]
def polR (f : FuncId) : Pol := if Nat.beq f 11 then .pure else if fr.any (Nat.beq f) then .fresh else .keep
noncomputable def SR : AStat := St polR []
noncomputable def b15 : Code := Tryz.f12.body.getD .skip
noncomputable def preL : List Code := (flat b15 []).take 7
noncomputable def postL : List Code := (flat b15 []).drop 8
noncomputable def loopP : Code := match List.drop 7 (flat b15 []) with
 | Code.block _ (Code.loop b) :: _ => b
 | _ => .skip
theorem flat_eq : flat b15 [] = preL ++ (.block 0 (.loop loopP) :: postL) := by kernel_rfl
noncomputable def st0 : StA := (cfgA :: i 5000 :: List.replicate (Tryz.f12.ntmps - 2) undefA,[])
def RoundOk (k : Nat) : Prop := roundF SR HT0 100000 [loopP] [1,7,8,9] (taus k) (st k) = some (.normal,st (k + 1))
end Go.Proofs.YtcholkmididfmaaGreatDoor

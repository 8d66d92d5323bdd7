/- hold.All at the example: what a round is. -/
import Derived.Test.YtlninpcoolakbaaGreatDoorSa
namespace Go.Proofs.YtlninpcoolakbaaGreatDoor
open Go.RowKit Go.Am
set_option linter.unusedVariables false
def fr : List Nat := [9, 11, 13, 14, 26, 27, 28, 29, 30, 31, 32, 33, 36, 37, 38, 44, 45, 46, 47, 48, 49, 51, 52, 53, 56, 57, 58, 39, 68, 69, 70, 71, 72, 77, 79, 80, 81, 82, 20, 21, 102, 103, 108, 90]
def polR (f : FuncId) : Pol := if Nat.beq f 8 then .pure else if fr.any (Nat.beq f) then .fresh else .keep
noncomputable def SR : AStat := St polR []
noncomputable def b15 : Code := Tryz.f15.body.getD .skip
noncomputable def preL : List Code := (flat b15 []).take 7
noncomputable def postL : List Code := (flat b15 []).drop 8
noncomputable def loopP : Code := match List.drop 7 (flat b15 []) with
  | Code.block _ (Code.loop b) :: _ => b
  | _ => .skip
theorem flat_eq : flat b15 [] = preL ++ (.block 0 (.loop loopP) :: postL) := by kernel_rfl
noncomputable def st0 : StA := (cfgA :: i 5000 :: List.replicate (Tryz.f15.ntmps - 2) undefA, [])
def RoundOk (k : Nat) : Prop := roundF SR HT0 100000 [loopP] [1, 7, 8, 9] (taus k) (st k) = some (.normal, st (k + 1))
end Go.Proofs.YtlninpcoolakbaaGreatDoor

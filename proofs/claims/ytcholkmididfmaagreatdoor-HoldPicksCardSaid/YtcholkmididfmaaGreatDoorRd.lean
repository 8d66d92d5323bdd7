import Derived.Test.YtcholkmididfmaaGreatDoorRa
set_option linter.unusedVariables false
set_option linter.unusedSimpArgs false
namespace Go.Proofs.Y
open Go.RowKit Go.Am
set_option maxRecDepth 100000
theorem RL:bp 18:=by unfold bp;kernel_rfl
theorem SA:bp 19:=by unfold bp;kernel_rfl
theorem Tu:bp 20:=by unfold bp;kernel_rfl
theorem R9:bp 21:=by unfold bp;kernel_rfl
theorem RR:bp 22:=by unfold bp;kernel_rfl
theorem QP:bp 23:=by unfold bp;kernel_rfl
theorem T6:bp 24:=by unfold bp;kernel_rfl
theorem Uk:bp 25:=by unfold bp;kernel_rfl
theorem To:bp 26:=by unfold bp;kernel_rfl
end Go.Proofs.Y

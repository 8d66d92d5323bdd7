import Derived.Test.YtcholkmididfmaaGreatDoorRa
set_option linter.unusedVariables false
set_option linter.unusedSimpArgs false
namespace Go.Proofs.Y
open Go.RowKit Go.Am
set_option maxRecDepth 100000
theorem rd9:bp 9:=by unfold bp;kernel_rfl
theorem S2:bp 10:=by unfold bp;kernel_rfl
theorem R7:bp 11:=by unfold bp;kernel_rfl
theorem SZ:bp 12:=by unfold bp;kernel_rfl
theorem Tz:bp 13:=by unfold bp;kernel_rfl
theorem RG:bp 14:=by unfold bp;kernel_rfl
theorem QX:bp 15:=by unfold bp;kernel_rfl
theorem R0:bp 16:=by unfold bp;kernel_rfl
theorem Rr:bp 17:=by unfold bp;kernel_rfl
end Go.Proofs.Y

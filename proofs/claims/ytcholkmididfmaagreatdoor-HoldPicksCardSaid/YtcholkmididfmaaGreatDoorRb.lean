import Derived.Test.YtcholkmididfmaaGreatDoorRa
set_option linter.unusedVariables false
set_option linter.unusedSimpArgs false
namespace Go.Proofs.Y
open Go.RowKit Go.Am
set_option maxRecDepth 100000
theorem rd0:bp 0:=by unfold bp;kernel_rfl
theorem rd1:bp 1:=by unfold bp;kernel_rfl
theorem rd2:bp 2:=by unfold bp;kernel_rfl
theorem rd3:bp 3:=by unfold bp;kernel_rfl
theorem rd4:bp 4:=by unfold bp;kernel_rfl
theorem rd5:bp 5:=by unfold bp;kernel_rfl
theorem rd6:bp 6:=by unfold bp;kernel_rfl
theorem rd7:bp 7:=by unfold bp;kernel_rfl
theorem rd8:bp 8:=by unfold bp;kernel_rfl
end Go.Proofs.Y

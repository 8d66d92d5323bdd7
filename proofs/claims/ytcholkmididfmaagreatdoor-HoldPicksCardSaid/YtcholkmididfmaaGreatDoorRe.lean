import Derived.Test.YtcholkmididfmaaGreatDoorRa
set_option linter.unusedVariables false
set_option linter.unusedSimpArgs false
namespace Go.Proofs.Y
open Go.RowKit Go.Am
set_option maxRecDepth 100000
theorem Q1:bp 27:=by unfold bp;kernel_rfl
theorem R5:bp 28:=by unfold bp;kernel_rfl
theorem R6:bp 29:=by unfold bp;kernel_rfl
theorem SO:bp 30:=by unfold bp;kernel_rfl
theorem Rz:bp 31:=by unfold bp;kernel_rfl
theorem RE:bp 32:=by unfold bp;kernel_rfl
theorem S1:bp 33:=by unfold bp;kernel_rfl
theorem rdE:jB SR HT0 100000 [Ao] [8] SN (st 34)=some (.exit 0,stE):=by kernel_rfl
theorem KS:jB SR HT0 100000 NO [1,7,8,9] S5 st0=some (.normal,st 0):=by kernel_rfl
theorem ID:uW SR 100000 G1 [4,5] [] stE=some (.ret,yv):=by kernel_rfl
end Go.Proofs.Y

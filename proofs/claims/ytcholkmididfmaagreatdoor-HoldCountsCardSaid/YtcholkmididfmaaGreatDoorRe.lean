/- hold.All at the example: rounds 27 to 34. Printed by a program (gen_rounds.py). -/
import Derived.Test.YtcholkmididfmaaGreatDoorRa
namespace Go.Proofs.YtcholkmididfmaaGreatDoor
open Go.RowKit Go.Am
set_option maxRecDepth 100000
theorem rd27 : RoundOk 27 := by unfold RoundOk; kernel_rfl
theorem rd28 : RoundOk 28 := by unfold RoundOk; kernel_rfl
theorem rd29 : RoundOk 29 := by unfold RoundOk; kernel_rfl
theorem rd30 : RoundOk 30 := by unfold RoundOk; kernel_rfl
theorem rd31 : RoundOk 31 := by unfold RoundOk; kernel_rfl
theorem rd32 : RoundOk 32 := by unfold RoundOk; kernel_rfl
theorem rd33 : RoundOk 33 := by unfold RoundOk; kernel_rfl
theorem rdE : roundF SR HT0 100000 [loopP] [8] tauE (st 34) = some (.exit 0,stE) := by kernel_rfl
theorem rd_pre : roundF SR HT0 100000 preL [1,7,8,9] tau0 st0 = some (.normal,st 0) := by kernel_rfl
theorem rd_post : roundA SR 100000 postL [4,5] [] stE = some (.ret,stR) := by kernel_rfl
end Go.Proofs.YtcholkmididfmaaGreatDoor

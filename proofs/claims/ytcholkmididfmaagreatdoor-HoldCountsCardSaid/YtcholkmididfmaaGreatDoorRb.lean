/- hold.All at the example: rounds 0 to 8. Printed by a program (gen_rounds.py). -/
import Derived.Test.YtcholkmididfmaaGreatDoorRa
namespace Go.Proofs.YtcholkmididfmaaGreatDoor
open Go.RowKit Go.Am
set_option maxRecDepth 100000
theorem rd0 : RoundOk 0 := by unfold RoundOk; kernel_rfl
theorem rd1 : RoundOk 1 := by unfold RoundOk; kernel_rfl
theorem rd2 : RoundOk 2 := by unfold RoundOk; kernel_rfl
theorem rd3 : RoundOk 3 := by unfold RoundOk; kernel_rfl
theorem rd4 : RoundOk 4 := by unfold RoundOk; kernel_rfl
theorem rd5 : RoundOk 5 := by unfold RoundOk; kernel_rfl
theorem rd6 : RoundOk 6 := by unfold RoundOk; kernel_rfl
theorem rd7 : RoundOk 7 := by unfold RoundOk; kernel_rfl
theorem rd8 : RoundOk 8 := by unfold RoundOk; kernel_rfl
end Go.Proofs.YtcholkmididfmaaGreatDoor

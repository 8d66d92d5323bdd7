/- hold.All at the example: rounds 9 to 17. Printed by a program (gen_rounds.py). -/
import Derived.Test.YtcholkmididfmaaGreatDoorRa
namespace Go.Proofs.YtcholkmididfmaaGreatDoor
open Go.RowKit Go.Am
set_option maxRecDepth 100000
theorem rd9 : RoundOk 9 := by unfold RoundOk; kernel_rfl
theorem rd10 : RoundOk 10 := by unfold RoundOk; kernel_rfl
theorem rd11 : RoundOk 11 := by unfold RoundOk; kernel_rfl
theorem rd12 : RoundOk 12 := by unfold RoundOk; kernel_rfl
theorem rd13 : RoundOk 13 := by unfold RoundOk; kernel_rfl
theorem rd14 : RoundOk 14 := by unfold RoundOk; kernel_rfl
theorem rd15 : RoundOk 15 := by unfold RoundOk; kernel_rfl
theorem rd16 : RoundOk 16 := by unfold RoundOk; kernel_rfl
theorem rd17 : RoundOk 17 := by unfold RoundOk; kernel_rfl
end Go.Proofs.YtcholkmididfmaaGreatDoor

/- hold.All at the example: rounds 18 to 26. Printed by a program (gen_rounds.py). -/
import Derived.Test.YtcholkmididfmaaGreatDoorRa
namespace Go.Proofs.YtcholkmididfmaaGreatDoor
open Go.RowKit Go.Am
set_option maxRecDepth 100000
theorem rd18 : RoundOk 18 := by unfold RoundOk; kernel_rfl
theorem rd19 : RoundOk 19 := by unfold RoundOk; kernel_rfl
theorem rd20 : RoundOk 20 := by unfold RoundOk; kernel_rfl
theorem rd21 : RoundOk 21 := by unfold RoundOk; kernel_rfl
theorem rd22 : RoundOk 22 := by unfold RoundOk; kernel_rfl
theorem rd23 : RoundOk 23 := by unfold RoundOk; kernel_rfl
theorem rd24 : RoundOk 24 := by unfold RoundOk; kernel_rfl
theorem rd25 : RoundOk 25 := by unfold RoundOk; kernel_rfl
theorem rd26 : RoundOk 26 := by unfold RoundOk; kernel_rfl
end Go.Proofs.YtcholkmididfmaaGreatDoor

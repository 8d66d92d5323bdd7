/- HoldCounts: its conditions at New, and at each pick. -/
import Derived.Test.YtcholkmididfmaaGreatDoorFb
namespace Go.Proofs.YtcholkmididfmaaGreatDoor
open Go.RowKit Go.Am Go.Sy
set_option maxRecDepth 100000
theorem hc_190 (s : HS) : Go.Sy.Tree.holds (cutH 19 (h19 0) s) = p19 s 0 := by kernel_rfl
theorem hc_191 (s : HS) : Go.Sy.Tree.holds (cutH 19 (h19 1) s) = p19 s 1 := by kernel_rfl
theorem hc_192 (s : HS) : Go.Sy.Tree.holds (cutH 19 (h19 2) s) = p19 s 2 := by kernel_rfl
theorem hc_193 (s : HS) : Go.Sy.Tree.holds (cutH 19 (h19 3) s) = p19 s 3 := by kernel_rfl
end Go.Proofs.YtcholkmididfmaaGreatDoor

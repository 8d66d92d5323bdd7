/- HoldCounts: its conditions at each pick. -/
import Derived.Test.YtcholkmididfmaaGreatDoorFb
namespace Go.Proofs.YtcholkmididfmaaGreatDoor
open Go.RowKit Go.Am Go.Sy
set_option maxRecDepth 100000
theorem hc_230 (s : HL) : Go.Sy.Tree.holds (cutH 23 (h23 0) s) = p23 0 s := by kernel_rfl
theorem hc_231 (s : HL) : Go.Sy.Tree.holds (cutH 23 (h23 1) s) = p23 1 s := by kernel_rfl
theorem hc_232 (s : HL) : Go.Sy.Tree.holds (cutH 23 (h23 2) s) = p23 2 s := by kernel_rfl
theorem hc_233 (s : HL) : Go.Sy.Tree.holds (cutH 23 (h23 3) s) = p23 3 s := by kernel_rfl
end Go.Proofs.YtcholkmididfmaaGreatDoor

/- does: its conditions. -/
import Derived.Test.YtcholkmididfmaaGreatDoorDs
namespace Go.Proofs.YtcholkmididfmaaGreatDoor
open Go.RowKit Go.Am Go.Sy
set_option maxRecDepth 100000
theorem ds_10 : dsQ 1 0 := fun s f => by kernel_rfl
theorem ds_20 : dsQ 2 0 := fun s f => by kernel_rfl
theorem ds_21 : dsQ 2 1 := fun s f => by kernel_rfl
end Go.Proofs.YtcholkmididfmaaGreatDoor

/- does: its conditions. -/
import Derived.Test.YtcholkmididfmaaGreatDoorDs
namespace Go.Proofs.YtcholkmididfmaaGreatDoor
open Go.RowKit Go.Am Go.Sy
set_option maxRecDepth 100000
theorem ds_30 : dsQ 3 0 := fun s f => by kernel_rfl
theorem ds_31 : dsQ 3 1 := fun s f => by kernel_rfl
theorem ds_32 : dsQ 3 2 := fun s f => by kernel_rfl
end Go.Proofs.YtcholkmididfmaaGreatDoor

/- Pick: its conditions. -/
import Derived.Test.YtcholkmididfmaaGreatDoorQs
namespace Go.Proofs.YtcholkmididfmaaGreatDoor
open Go.RowKit Go.Am Go.Sy
set_option maxRecDepth 100000
theorem pk_10 : pkQ 1 0 := fun s f => by kernel_rfl
theorem pk_20 : pkQ 2 0 := fun s f => by kernel_rfl
theorem pk_21 : pkQ 2 1 := fun s f => by kernel_rfl
theorem pk_30 : pkQ 3 0 := fun s f => by kernel_rfl
theorem pk_31 : pkQ 3 1 := fun s f => by kernel_rfl
theorem pk_32 : pkQ 3 2 := fun s f => by kernel_rfl
theorem pk_11 : pnQ 1 1 := fun s f => by kernel_rfl
theorem pk_12 : pnQ 1 2 := fun s f => by kernel_rfl
theorem pk_22 : pnQ 2 2 := fun s f => by kernel_rfl
end Go.Proofs.YtcholkmididfmaaGreatDoor

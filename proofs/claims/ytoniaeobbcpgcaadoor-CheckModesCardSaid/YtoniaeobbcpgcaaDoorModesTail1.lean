/- The law CheckModes as an idealised run: its tail, the lock 1. -/
import Derived.Test.YtoniaeobbcpgcaaDoorModesHead
namespace Go.Proofs.YtoniaeobbcpgcaaDoor.checkModes
open Go.Am
theorem end10 (w l : Int) : tail w l 1 0 = some (.bool true) := by kernel_rfl
theorem end11 (w l : Int) : tail w l 1 1 = some (.bool true) := by kernel_rfl
theorem end12 (w l : Int) : tail w l 1 2 = some (.bool true) := by kernel_rfl
theorem end13 (w l : Int) : tail w l 1 3 = some (.bool true) := by kernel_rfl
theorem end14 (w l : Int) : tail w l 1 4 = some (.bool true) := by kernel_rfl
theorem end15 (w l : Int) : tail w l 1 5 = some (.bool true) := by kernel_rfl
end Go.Proofs.YtoniaeobbcpgcaaDoor.checkModes

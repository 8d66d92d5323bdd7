/- The law CheckModes as an idealised run: its tail, the lock 2. -/
import Derived.Test.YtoniaeobbcpgcaaDoorModesHead
namespace Go.Proofs.YtoniaeobbcpgcaaDoor.checkModes
open Go.Am
theorem end20 (w l : Int) : tail w l 2 0 = some (.bool true) := by kernel_rfl
theorem end21 (w l : Int) : tail w l 2 1 = some (.bool true) := by kernel_rfl
theorem end22 (w l : Int) : tail w l 2 2 = some (.bool true) := by kernel_rfl
theorem end23 (w l : Int) : tail w l 2 3 = some (.bool true) := by kernel_rfl
theorem end24 (w l : Int) : tail w l 2 4 = some (.bool true) := by kernel_rfl
theorem end25 (w l : Int) : tail w l 2 5 = some (.bool true) := by kernel_rfl
end Go.Proofs.YtoniaeobbcpgcaaDoor.checkModes

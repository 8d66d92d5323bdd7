/- The law CheckModes as an idealised run: its tail, the lock 0. -/
import Derived.Test.YtoniaeobbcpgcaaDoorModesHead
namespace Go.Proofs.YtoniaeobbcpgcaaDoor.checkModes
open Go.Am
theorem end00 (w l : Int) : tail w l 0 0 = some (.bool true) := by kernel_rfl
theorem end01 (w l : Int) : tail w l 0 1 = some (.bool true) := by kernel_rfl
theorem end02 (w l : Int) : tail w l 0 2 = some (.bool true) := by kernel_rfl
theorem end03 (w l : Int) : tail w l 0 3 = some (.bool true) := by kernel_rfl
theorem end04 (w l : Int) : tail w l 0 4 = some (.bool true) := by kernel_rfl
theorem end05 (w l : Int) : tail w l 0 5 = some (.bool true) := by kernel_rfl
end Go.Proofs.YtoniaeobbcpgcaaDoor.checkModes

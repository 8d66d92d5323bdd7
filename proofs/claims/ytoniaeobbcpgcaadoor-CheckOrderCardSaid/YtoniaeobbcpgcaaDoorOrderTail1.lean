/- The law CheckOrder as an idealised run: its tail, the first lock 1. -/
import Derived.Test.YtoniaeobbcpgcaaDoorOrderHead
namespace Go.Proofs.YtoniaeobbcpgcaaDoor.checkOrder
open Go.Am
theorem end100 (a b d : Int) : tail a b d 1 0 0 = some (.bool true) := by kernel_rfl
theorem end101 (a b d : Int) : tail a b d 1 0 1 = some (.bool true) := by kernel_rfl
theorem end102 (a b d : Int) : tail a b d 1 0 2 = some (.bool true) := by kernel_rfl
theorem end110 (a b d : Int) : tail a b d 1 1 0 = some (.bool true) := by kernel_rfl
theorem end111 (a b d : Int) : tail a b d 1 1 1 = some (.bool true) := by kernel_rfl
theorem end112 (a b d : Int) : tail a b d 1 1 2 = some (.bool true) := by kernel_rfl
theorem end120 (a b d : Int) : tail a b d 1 2 0 = some (.bool true) := by kernel_rfl
theorem end121 (a b d : Int) : tail a b d 1 2 1 = some (.bool true) := by kernel_rfl
theorem end122 (a b d : Int) : tail a b d 1 2 2 = some (.bool true) := by kernel_rfl
end Go.Proofs.YtoniaeobbcpgcaaDoor.checkOrder

/- The law CheckOrder as an idealised run: its tail, the first lock 2. -/
import Derived.Test.YtoniaeobbcpgcaaDoorOrderHead
namespace Go.Proofs.YtoniaeobbcpgcaaDoor.checkOrder
open Go.Am
theorem end200 (a b d : Int) : tail a b d 2 0 0 = some (.bool true) := by kernel_rfl
theorem end201 (a b d : Int) : tail a b d 2 0 1 = some (.bool true) := by kernel_rfl
theorem end202 (a b d : Int) : tail a b d 2 0 2 = some (.bool true) := by kernel_rfl
theorem end210 (a b d : Int) : tail a b d 2 1 0 = some (.bool true) := by kernel_rfl
theorem end211 (a b d : Int) : tail a b d 2 1 1 = some (.bool true) := by kernel_rfl
theorem end212 (a b d : Int) : tail a b d 2 1 2 = some (.bool true) := by kernel_rfl
theorem end220 (a b d : Int) : tail a b d 2 2 0 = some (.bool true) := by kernel_rfl
theorem end221 (a b d : Int) : tail a b d 2 2 1 = some (.bool true) := by kernel_rfl
theorem end222 (a b d : Int) : tail a b d 2 2 2 = some (.bool true) := by kernel_rfl
end Go.Proofs.YtoniaeobbcpgcaaDoor.checkOrder

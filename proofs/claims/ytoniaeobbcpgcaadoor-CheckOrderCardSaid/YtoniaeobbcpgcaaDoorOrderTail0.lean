/- The law CheckOrder as an idealised run: its tail, the first lock 0. -/
import Derived.Test.YtoniaeobbcpgcaaDoorOrderHead
namespace Go.Proofs.YtoniaeobbcpgcaaDoor.checkOrder
open Go.Am
theorem end000 (a b d : Int) : tail a b d 0 0 0 = some (.bool true) := by kernel_rfl
theorem end001 (a b d : Int) : tail a b d 0 0 1 = some (.bool true) := by kernel_rfl
theorem end002 (a b d : Int) : tail a b d 0 0 2 = some (.bool true) := by kernel_rfl
theorem end010 (a b d : Int) : tail a b d 0 1 0 = some (.bool true) := by kernel_rfl
theorem end011 (a b d : Int) : tail a b d 0 1 1 = some (.bool true) := by kernel_rfl
theorem end012 (a b d : Int) : tail a b d 0 1 2 = some (.bool true) := by kernel_rfl
theorem end020 (a b d : Int) : tail a b d 0 2 0 = some (.bool true) := by kernel_rfl
theorem end021 (a b d : Int) : tail a b d 0 2 1 = some (.bool true) := by kernel_rfl
theorem end022 (a b d : Int) : tail a b d 0 2 2 = some (.bool true) := by kernel_rfl
end Go.Proofs.YtoniaeobbcpgcaaDoor.checkOrder

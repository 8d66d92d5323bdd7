import Derived.Test.YtcholkmididfmaaGreatDoorOc
set_option linter.unusedVariables false
set_option linter.unusedSimpArgs false
namespace Go.Proofs.Y
open Go.RowKit Go.Am Go.Sy
set_option maxRecDepth 100000
theorem OZ(s:C4):Go.Sy.Tree.holds (mf F (bf gn) 3000 Tryz.f8 b8 ⟨hN,.b true,[]⟩ nL 4 (l4 1) s)=e4Q s 1:=by kernel_rfl
theorem Ot(s:C4):Go.Sy.Tree.holds (mf F (bf gn) 3000 Tryz.f8 b8 ⟨hN,.b true,[]⟩ nL 4 (l4 2) s)=e4L s 2:=by kernel_rfl
theorem PA(s:C4):Go.Sy.Tree.holds (mf F (bf gn) 3000 Tryz.f8 b8 ⟨hN,.b true,[]⟩ nL 4 (l4 3) s)=e4L s 3:=by kernel_rfl
end Go.Proofs.Y

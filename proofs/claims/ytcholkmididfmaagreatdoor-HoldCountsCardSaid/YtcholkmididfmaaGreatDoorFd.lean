/- HoldCounts: its conditions ahead of New. -/
import Derived.Test.YtcholkmididfmaaGreatDoorFb
namespace Go.Proofs.YtcholkmididfmaaGreatDoor
open Go.RowKit Go.Am Go.Sy
set_option maxRecDepth 100000
theorem hc_e (rows : List (List Int)) (l : List Int) : Go.Sy.Tree.holds (entryS F (lookC hCtr) 3000 Tryz.f6 b6 ⟨hCuts,.b true,[]⟩ hSel [.tl (T := T) 5 rows,.tl (T := T) 0 l]) = pe rows l := by kernel_rfl
theorem hc_70 (s : HS) : Go.Sy.Tree.holds (cutH 7 (h7 0) s) = p7 s 0 := by kernel_rfl
theorem hc_71 (s : HS) : Go.Sy.Tree.holds (cutH 7 (h7 1) s) = p7 s 1 := by kernel_rfl
theorem hc_72 (s : HS) : Go.Sy.Tree.holds (cutH 7 (h7 2) s) = p7 s 2 := by kernel_rfl
theorem hc_73 (s : HS) : Go.Sy.Tree.holds (cutH 7 (h7 3) s) = p7 s 3 := by kernel_rfl
theorem hc_110 (s : HS) : Go.Sy.Tree.holds (cutH 11 (h11 0) s) = p11 s 0 := by kernel_rfl
theorem hc_111 (s : HS) : Go.Sy.Tree.holds (cutH 11 (h11 1) s) = p11 s 1 := by kernel_rfl
theorem hc_112 (s : HS) : Go.Sy.Tree.holds (cutH 11 (h11 2) s) = p11 s 2 := by kernel_rfl
theorem hc_160 (s : HS) : Go.Sy.Tree.holds (cutH 16 (h16 0) s) = p16 s 0 := by kernel_rfl
theorem hc_161 (s : HS) : Go.Sy.Tree.holds (cutH 16 (h16 1) s) = p16 s 1 := by kernel_rfl
theorem hc_162 (s : HS) : Go.Sy.Tree.holds (cutH 16 (h16 2) s) = p16 s 2 := by kernel_rfl
end Go.Proofs.YtcholkmididfmaaGreatDoor

/- The document's lists of numbers: what they are in words. -/
import Derived.Test.YtlninpcoolakbaaGreatDoorDp
namespace Go.Proofs.YtlninpcoolakbaaGreatDoor
open Go.RowKit Go.Am Go.Sy
set_option linter.unusedVariables false
def numsS (l : List Int) : List UInt8 := (l.map fun n => 32 :: decS n).flatten
def nuD : CtrD cod where
  pats := [.tl 0]
  pre := fun (x : List Int × Unit) => x.1.length ≤ 1000
  res := fun (x : List Int × Unit) => .s (numsS x.1)
  objs := fun x => []
end Go.Proofs.YtlninpcoolakbaaGreatDoor

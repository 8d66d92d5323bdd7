/- The document's lists of numbers: what they are in words. -/
import Derived.Test.YtlninpcoolakbaaGreatDoorDp
namespace Go.Proofs.YtlninpcoolakbaaGreatDoor
open Go.RowKit Go.Am Go.Sy
set_option linter.unusedVariables false
def numsS (l : List Int) : List UInt8 := (l.map fun n => 32 :: decS n).flatten
def nuD : CtrD cod where
  pats := [.tl 0]
  pre := fun (x : List Int × Unit) => x.1.length ≤ 1000
  res := fun (x : List Int × Unit) => .s (numsS x.1)
  objs := fun x => []
def nuC (l : List Int) : CutD cod := ⟨Nat, fun k => k ≤ l.length, fun k => l.length - k, fun k => [(0, .tl (T := T) 0 l), (3, .s (numsS (l.take k))), (4, .i .i64 (k : Int))], fun _ => []⟩
def nuF (l : List Int) : FnD cod := ⟨[(3, nuC l)], .s (numsS l), []⟩
noncomputable def b24 : Code := Tryz.f24.body.getD .skip
noncomputable def b25 : Code := Tryz.f25.body.getD .skip
noncomputable def l24 : List (FuncId × Ctr cod) := [(23, mkCtr decD)]
end Go.Proofs.YtlninpcoolakbaaGreatDoor

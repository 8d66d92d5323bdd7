/- strconv.Itoa: what it and its parts answer. -/
import Derived.Test.YtomlcdalhihnaaaDoorDp
namespace Go.Proofs.YtomlcdalhihnaaaDoor
open Go.RowKit Go.Am Go.Sy
set_option linter.unusedVariables false

def tab0 : List UInt8 := [0, 1, 2, 2, 3, 3, 3, 3, 4, 4, 4, 4, 4, 4, 4, 4, 5, 5, 5, 5, 5, 5, 5, 5, 5, 5, 5, 5, 5, 5, 5, 5, 6, 6, 6, 6, 6, 6, 6, 6, 6, 6, 6, 6, 6, 6, 6, 6, 6, 6, 6, 6, 6, 6, 6, 6, 6, 6, 6, 6, 6, 6, 6, 6, 7, 7, 7, 7, 7, 7, 7, 7, 7, 7, 7, 7, 7, 7, 7, 7, 7, 7, 7, 7, 7, 7, 7, 7, 7, 7, 7, 7, 7, 7, 7, 7, 7, 7, 7, 7, 7, 7, 7, 7, 7, 7, 7, 7, 7, 7, 7, 7, 7, 7, 7, 7, 7, 7, 7, 7, 7, 7, 7, 7, 7, 7, 7, 7, 8, 8, 8, 8, 8, 8, 8, 8, 8, 8, 8, 8, 8, 8, 8, 8, 8, 8, 8, 8, 8, 8, 8, 8, 8, 8, 8, 8, 8, 8, 8, 8, 8, 8, 8, 8, 8, 8, 8, 8, 8, 8, 8, 8, 8, 8, 8, 8, 8, 8, 8, 8, 8, 8, 8, 8, 8, 8, 8, 8, 8, 8, 8, 8, 8, 8, 8, 8, 8, 8, 8, 8, 8, 8, 8, 8, 8, 8, 8, 8, 8, 8, 8, 8, 8, 8, 8, 8, 8, 8, 8, 8, 8, 8, 8, 8, 8, 8, 8, 8, 8, 8, 8, 8, 8, 8, 8, 8, 8, 8, 8, 8, 8, 8, 8, 8, 8, 8, 8, 8, 8, 8, 8, 8, 8, 8, 8, 8]
def tab1 : List UInt8 := [48, 48, 48, 49, 48, 50, 48, 51, 48, 52, 48, 53, 48, 54, 48, 55, 48, 56, 48, 57, 49, 48, 49, 49, 49, 50, 49, 51, 49, 52, 49, 53, 49, 54, 49, 55, 49, 56, 49, 57, 50, 48, 50, 49, 50, 50, 50, 51, 50, 52, 50, 53, 50, 54, 50, 55, 50, 56, 50, 57, 51, 48, 51, 49, 51, 50, 51, 51, 51, 52, 51, 53, 51, 54, 51, 55, 51, 56, 51, 57, 52, 48, 52, 49, 52, 50, 52, 51, 52, 52, 52, 53, 52, 54, 52, 55, 52, 56, 52, 57, 53, 48, 53, 49, 53, 50, 53, 51, 53, 52, 53, 53, 53, 54, 53, 55, 53, 56, 53, 57, 54, 48, 54, 49, 54, 50, 54, 51, 54, 52, 54, 53, 54, 54, 54, 55, 54, 56, 54, 57, 55, 48, 55, 49, 55, 50, 55, 51, 55, 52, 55, 53, 55, 54, 55, 55, 55, 56, 55, 57, 56, 48, 56, 49, 56, 50, 56, 51, 56, 52, 56, 53, 56, 54, 56, 55, 56, 56, 56, 57, 57, 48, 57, 49, 57, 50, 57, 51, 57, 52, 57, 53, 57, 54, 57, 55, 57, 56, 57, 57]
def tab2 : List UInt8 := [48, 49, 50, 51, 52, 53, 54, 55, 56, 57, 97, 98, 99, 100, 101, 102, 103, 104, 105, 106, 107, 108, 109, 110, 111, 112, 113, 114, 115, 116, 117, 118, 119, 120, 121, 122]
/-- bits.Len64 -/
def len64 (x : Int) : Int := if x = 0 then 0 else (Nat.log2 x.toNat : Int) + 1
def lenD : CtrD cod where
  pats := [.int .u64]
  pre := fun (x : Int × Unit) => 0 ≤ x.1 ∧ x.1 < 18446744073709551616
  res := fun (x : Int × Unit) => .i .i64 (len64 x.1)
  objs := fun x => []
/-- strconv.numDigits -/
def ndD : CtrD cod where
  pats := [.int .u64]
  pre := fun (x : Int × Unit) => 0 < x.1 ∧ x.1 < 18446744073709551616
  res := fun (x : Int × Unit) => .i .i64 ((digits x.1.toNat).length : Int)
  objs := fun x => []
/-- strconv.FormatInt, by tens -/
def fiD : CtrD cod where
  pats := [.int .i64, .lit Unit (fun _ => .int .i64 10)]
  pre := fun (x : Int × Unit × Unit) => -9223372036854775808 ≤ x.1 ∧ x.1 ≤ 9223372036854775807
  res := fun (x : Int × Unit × Unit) => .s (decS x.1)
  objs := fun x => []
def fiC (n : Int) : CutD cod := ⟨Nat, fun k => k = (digits (mag n)).length ∧ 0 < mag n, fun k => 0,
  fun k => [(0, .i .i64 n), (5, .ptr 0 0), (6, .i .u64 (mag n)), (7, .a (.int .i64 k))], fun _ => [.cells (List.replicate 24 .any)]⟩
def fiF (n : Int) : FnD cod := ⟨[(9, fiC n)], .s (decS n), []⟩
noncomputable def b52 : Code := Tryd.f52.body.getD .skip
noncomputable def b48 : Code := Tryd.f48.body.getD .skip
noncomputable def b46 : Code := Tryd.f46.body.getD .skip
noncomputable def m0 : List (FuncId × Ctr cod) := [(52, mkCtr lenD)]
noncomputable def m1 : List (FuncId × Ctr cod) := [(48, mkCtr ndD)]
end Go.Proofs.YtomlcdalhihnaaaDoor

/- Where words stand, of the one map of these laws; the marks of stripes: what is answered. Printed by a program (gen_pl.py). -/
import Derived.Test.YtmjjljngaefpaaaSx
namespace Go.Proofs.Ytmjjljngaefpaaa
open Go.RowKit Go.Am Go.Sy
set_option linter.unusedVariables false
set_option linter.unusedSimpArgs false
def mp0 : Mp := ⟨3, 1, 3, 0, 4⟩
def isData (a : Int) : Prop := a = 26 ∨ a = 28 ∨ a = 30 ∨ a = 32
def hashT (a : Int) : Int := if a = 26 then 0 else if a = 28 then 2 else 1
def mayD : CtrD cod where
  pats := [.row 4]
  pre := fun (x : Mp × Unit) => x.1 = mp0
  res := fun (x : Mp × Unit) => .a (.bool true)
  objs := fun x => []
noncomputable def b51 : Code := Try.f51.body.getD .skip
noncomputable def l51 : List (FuncId × Ctr cod) := []
def startsD : CtrD cod where
  pats := [.row 4]
  pre := fun (x : Mp × Unit) => x.1 = mp0
  res := fun (x : Mp × Unit) => .agg (([2, 5, 11, 17, 23, 26, 26, 34] : List Int).map fun n => .a (.int .i64 n))
  objs := fun x => []
noncomputable def b53 : Code := Try.f53.body.getD .skip
noncomputable def l53 : List (FuncId × Ctr cod) := []
def dataD : CtrD cod where
  pats := [.row 4, .int .i64]
  pre := fun (x : Mp × Int × Unit) => x.1 = mp0 ∧ 0 ≤ x.2.1 ∧ x.2.1 < 4
  res := fun (x : Mp × Int × Unit) => .i .i64 (26 + 2 * x.2.1)
  objs := fun x => []
noncomputable def b17 : Code := Try.f17.body.getD .skip
noncomputable def l17 : List (FuncId × Ctr cod) := [(51, mkCtr mayD), (53, mkCtr startsD)]
def stripeD : CtrD cod where
  pats := [.row 4, .int .i64]
  pre := fun (x : Mp × Int × Unit) => x.1 = mp0 ∧ 0 ≤ x.2.1 ∧ x.2.1 < 3
  res := fun (x : Mp × Int × Unit) => .i .i64 (2 + x.2.1)
  objs := fun x => []
noncomputable def b18 : Code := Try.f18.body.getD .skip
noncomputable def l18 : List (FuncId × Ctr cod) := [(51, mkCtr mayD), (53, mkCtr startsD)]
def threadD : CtrD cod where
  pats := [.row 4, .int .i64, .int .i64]
  pre := fun (x : Mp × Int × Int × Unit) => x.1 = mp0 ∧ x.2.1 = 1 ∧ x.2.2.1 = 0
  res := fun (x : Mp × Int × Int × Unit) => .a (.int .i64 13)
  objs := fun x => []
noncomputable def b21 : Code := Try.f21.body.getD .skip
noncomputable def l21 : List (FuncId × Ctr cod) := [(51, mkCtr mayD), (53, mkCtr startsD)]
def seqD : CtrD cod where
  pats := [.row 4]
  pre := fun (x : Mp × Unit) => x.1 = mp0
  res := fun (x : Mp × Unit) => .a (.int .i64 1)
  objs := fun x => []
noncomputable def b22 : Code := Try.f22.body.getD .skip
noncomputable def l22 : List (FuncId × Ctr cod) := [(51, mkCtr mayD)]
def clockD : CtrD cod where
  pats := [.row 4]
  pre := fun (x : Mp × Unit) => x.1 = mp0
  res := fun (x : Mp × Unit) => .a (.int .i64 0)
  objs := fun x => []
noncomputable def b28 : Code := Try.f28.body.getD .skip
noncomputable def l28 : List (FuncId × Ctr cod) := [(51, mkCtr mayD)]
def sizeD : CtrD cod where
  pats := [.row 4]
  pre := fun (x : Mp × Unit) => x.1 = mp0
  res := fun (x : Mp × Unit) => .a (.int .i64 34)
  objs := fun x => []
noncomputable def b43 : Code := Try.f43.body.getD .skip
noncomputable def l43 : List (FuncId × Ctr cod) := [(51, mkCtr mayD), (53, mkCtr startsD)]
def hashD : CtrD cod where
  pats := [.row 4, .int .i64]
  pre := fun (x : Mp × Int × Unit) => x.1 = mp0 ∧ isData x.2.1
  res := fun (x : Mp × Int × Unit) => .i .i64 (hashT x.2.1)
  objs := fun x => []
noncomputable def b56 : Code := Try.f56.body.getD .skip
noncomputable def l56 : List (FuncId × Ctr cod) := [(51, mkCtr mayD), (53, mkCtr startsD), (43, mkCtr sizeD)]
def freshD : CtrD cod where
  pats := [.int .i64, .int .i64]
  pre := fun (x : Int × Int × Unit) => x.1 = 0 ∧ 0 ≤ x.2.1
  res := fun (x : Int × Int × Unit) => .a (.int .i64 0)
  objs := fun x => []
noncomputable def b70 : Code := Try.f70.body.getD .skip
noncomputable def l70 : List (FuncId × Ctr cod) := []
def holderD : CtrD cod where
  pats := [.int .i64]
  pre := fun (x : Int × Unit) => x.1 = 0 ∨ x.1 = 2
  res := fun (x : Int × Unit) => .i .i64 (if x.1 = 0 then -1 else 1)
  objs := fun x => []
noncomputable def b90 : Code := Try.f90.body.getD .skip
noncomputable def l90 : List (FuncId × Ctr cod) := []
def versionD : CtrD cod where
  pats := [.int .i64]
  pre := fun (x : Int × Unit) => x.1 = 0 ∨ x.1 = 2
  res := fun (x : Int × Unit) => .a (.int .i64 0)
  objs := fun x => []
noncomputable def b91 : Code := Try.f91.body.getD .skip
noncomputable def l91 : List (FuncId × Ctr cod) := []
def takenD : CtrD cod where
  pats := [.int .i64, .int .i64]
  pre := fun (x : Int × Int × Unit) => x.1 = 0 ∧ x.2.1 = 1
  res := fun (x : Int × Int × Unit) => .a (.int .i64 2)
  objs := fun x => []
noncomputable def b94 : Code := Try.f94.body.getD .skip
noncomputable def l94 : List (FuncId × Ctr cod) := []
def freeD : CtrD cod where
  pats := [.int .i64]
  pre := fun (x : Int × Unit) => x.1 = 1
  res := fun (x : Int × Unit) => .a (.int .i64 16)
  objs := fun x => []
noncomputable def b98 : Code := Try.f98.body.getD .skip
noncomputable def l98 : List (FuncId × Ctr cod) := []
end Go.Proofs.Ytmjjljngaefpaaa

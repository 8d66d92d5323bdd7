/- Where words stand, of the one map of these laws; the marks of stripes: what is answered. Printed by a program (gen_pl.py). -/
import Derived.Test.YtmjjljngaefpaaaSx
namespace Go.Proofs.Ytmjjljngaefpaaa
open Go.RowKit Go.Am Go.Sy
open Go.IntKind (i64 u64)
set_option linter.unusedVariables false
set_option linter.unusedSimpArgs false
def freshT (x s : Int) : Int := if x % 16 - 1 ≥ 0 then 1 else if x / 16 > s then 2 else 0
def mp0 : Mp := ⟨3,1,3,0,4⟩
def isData (a : Int) : Prop := a = 26 ∨ a = 28 ∨ a = 30 ∨ a = 32
def hashT (a : Int) : Int := if a = 26 then 0 else if a = 28 then 2 else 1
def mayD : CtrD cod where
 pats := [.row 4]
 pre := fun (x : Mp × Unit) => x.1 = mp0
 res := fun (x : Mp × Unit) => .a (.bool true)
 objs := fun x => []
noncomputable def b38 : Code := Try.f51.body.getD .skip
noncomputable def l38 : List (FuncId × Ctr cod) := []
def startsD : CtrD cod where
 pats := [.row 4]
 pre := fun (x : Mp × Unit) => x.1 = mp0
 res := fun (x : Mp × Unit) => .agg (([2,5,11,17,23,26,26,34] : List Int).map fun n => .a (.int .i64 n))
 objs := fun x => []
noncomputable def b40 : Code := Try.f53.body.getD .skip
noncomputable def l40 : List (FuncId × Ctr cod) := []
def dataD : CtrD cod where
 pats := [.row 4,.int .i64]
 pre := fun (x : Mp × Int × Unit) => x.1 = mp0 ∧ 0 ≤ x.2.1 ∧ x.2.1 < 4
 res := fun (x : Mp × Int × Unit) => .i .i64 (26 + 2 * x.2.1)
 objs := fun x => []
noncomputable def b13 : Code := Try.f17.body.getD .skip
noncomputable def l13 : List (FuncId × Ctr cod) := [(51,mkCtr mayD),(53,mkCtr startsD)]
def stripeD : CtrD cod where
 pats := [.row 4,.int .i64]
 pre := fun (x : Mp × Int × Unit) => x.1 = mp0 ∧ 0 ≤ x.2.1 ∧ x.2.1 < 3
 res := fun (x : Mp × Int × Unit) => .i .i64 (2 + x.2.1)
 objs := fun x => []
noncomputable def b88 : Code := Try.f18.body.getD .skip
noncomputable def l88 : List (FuncId × Ctr cod) := [(51,mkCtr mayD),(53,mkCtr startsD)]
def threadD : CtrD cod where
 pats := [.row 4,.int .i64,.int .i64]
 pre := fun (x : Mp × Int × Int × Unit) => x.1 = mp0 ∧ 0 ≤ x.2.1 ∧ x.2.1 < 3 ∧ x.2.2.1 = 0
 res := fun (x : Mp × Int × Int × Unit) => .i .i64 (11 + 2 * x.2.1)
 objs := fun x => []
noncomputable def b74 : Code := Try.f21.body.getD .skip
noncomputable def l74 : List (FuncId × Ctr cod) := [(51,mkCtr mayD),(53,mkCtr startsD)]
def seqD : CtrD cod where
 pats := [.row 4]
 pre := fun (x : Mp × Unit) => x.1 = mp0
 res := fun (x : Mp × Unit) => .a (.int .i64 1)
 objs := fun x => []
noncomputable def b134 : Code := Try.f22.body.getD .skip
noncomputable def l134 : List (FuncId × Ctr cod) := [(51,mkCtr mayD)]
def clockD : CtrD cod where
 pats := [.row 4]
 pre := fun (x : Mp × Unit) => x.1 = mp0
 res := fun (x : Mp × Unit) => .a (.int .i64 0)
 objs := fun x => []
noncomputable def b55 : Code := Try.f28.body.getD .skip
noncomputable def l55 : List (FuncId × Ctr cod) := [(51,mkCtr mayD)]
def sizeD : CtrD cod where
 pats := [.row 4]
 pre := fun (x : Mp × Unit) => x.1 = mp0
 res := fun (x : Mp × Unit) => .a (.int .i64 34)
 objs := fun x => []
noncomputable def b53 : Code := Try.f43.body.getD .skip
noncomputable def l53 : List (FuncId × Ctr cod) := [(51,mkCtr mayD),(53,mkCtr startsD)]
def hashD : CtrD cod where
 pats := [.row 4,.int .i64]
 pre := fun (x : Mp × Int × Unit) => x.1 = mp0 ∧ isData x.2.1
 res := fun (x : Mp × Int × Unit) => .i .i64 (hashT x.2.1)
 objs := fun x => []
noncomputable def b42 : Code := Try.f56.body.getD .skip
noncomputable def l42 : List (FuncId × Ctr cod) := [(51,mkCtr mayD),(53,mkCtr startsD),(43,mkCtr sizeD)]
def holderD : CtrD cod where
 pats := [.int .i64]
 pre := fun (x : Int × Unit) => 0 ≤ x.1 ∧ x.1 < 1099511627776
 res := fun (x : Int × Unit) => .i .i64 (x.1 % 16 - 1)
 objs := fun x => []
noncomputable def b128 : Code := Try.f90.body.getD .skip
noncomputable def l128 : List (FuncId × Ctr cod) := []
def versionD : CtrD cod where
 pats := [.int .i64]
 pre := fun (x : Int × Unit) => 0 ≤ x.1 ∧ x.1 < 1099511627776
 res := fun (x : Int × Unit) => .i .i64 (x.1 / 16)
 objs := fun x => []
noncomputable def b129 : Code := Try.f91.body.getD .skip
noncomputable def l129 : List (FuncId × Ctr cod) := []
def freshD : CtrD cod where
 pats := [.int .i64,.int .i64]
 pre := fun (x : Int × Int × Unit) => 0 ≤ x.1 ∧ x.1 < 1099511627776
 res := fun (x : Int × Int × Unit) => .i .i64 (freshT x.1 x.2.1)
 objs := fun x => []
noncomputable def b89 : Code := Try.f70.body.getD .skip
noncomputable def l89 : List (FuncId × Ctr cod) := [(90,mkCtr holderD),(91,mkCtr versionD)]
def takenD : CtrD cod where
 pats := [.int .i64,.int .i64]
 pre := fun (x : Int × Int × Unit) => 0 ≤ x.1 ∧ x.1 < 1099511627776 ∧ 0 ≤ x.2.1 ∧ x.2.1 < 3
 res := fun (x : Int × Int × Unit) => .i .i64 (x.1 - x.1 % 16 + x.2.1 + 1)
 objs := fun x => []
noncomputable def b132 : Code := Try.f94.body.getD .skip
noncomputable def l132 : List (FuncId × Ctr cod) := []
def freeD : CtrD cod where
 pats := [.int .i64]
 pre := fun (x : Int × Unit) => 0 ≤ x.1 ∧ x.1 < 68719476736
 res := fun (x : Int × Unit) => .i .i64 (x.1 * 16)
 objs := fun x => []
noncomputable def b137 : Code := Try.f98.body.getD .skip
noncomputable def l137 : List (FuncId × Ctr cod) := []
end Go.Proofs.Ytmjjljngaefpaaa

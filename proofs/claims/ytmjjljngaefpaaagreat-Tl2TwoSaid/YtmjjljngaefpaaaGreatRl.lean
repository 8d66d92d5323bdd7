/- Of the reference: where words stand, the marks of stripes, sets: what is answered. -/
import Derived.Test.YtmjjljngaefpaaaGreatPt
import Derived.Test.YtmjjljngaefpaaaGreatLib4
namespace Go.Proofs.YtmjjljngaefpaaaGreat
open Go.RowKit Go.Am Go.Sy
open Go.IntKind (i64 u64)
set_option linter.unusedVariables false
noncomputable def b77r : Code := Tryz.f77.body.getD .skip
noncomputable def b113 : Code := Tryz.f113.body.getD .skip
noncomputable def b123 : Code := Tryz.f123.body.getD .skip
noncomputable def b124 : Code := Tryz.f124.body.getD .skip
noncomputable def b143 : Code := Tryz.f143.body.getD .skip
noncomputable def l113 : List (FuncId × Ctr cod) := [(123,mkCtr holderD),(124,mkCtr versionD)]
def seekD : CtrD cod where
 pats := [.tl 3,.int .i64]
 pre := fun (x : List Wo × Int × Unit) => x.1.length ≤ 1000
 res := fun (x : List Wo × Int × Unit) => .i .i64 (findT x.1 x.2.1)
 objs := fun x => []
def seekC (l : List Wo) (k : Int) : CutD cod := ⟨Nat,fun i => i ≤ l.length ∧ findT l k = findGo k (l.drop i) i,fun i => l.length - i,
 fun i => [(0,.tl (T := T) 3 l),(1,.i .i64 k),(5,.i .i64 (i : Int))],fun i => []⟩
def seekF (l : List Wo) (k : Int) : FnD cod := ⟨[(2,seekC l k)],.i .i64 (findT l k),[]⟩
noncomputable def b84 : Code := Tryz.f84.body.getD .skip
def filtD : CtrD cod where
 pats := [.frow 7]
 pre := fun (x : Wq × Unit) => x.1.ls.length ≤ 1000 ∧ ∀ w ∈ x.1.ls,isData w.pl
 res := fun (x : Wq × Unit) => .i .u64 (filtT x.1.ls)
 objs := fun x => []
def filtC (w : Wq) : CutD cod := ⟨Nat,fun i => i ≤ w.ls.length,fun i => w.ls.length - i,
 fun i => [(0,.fp (enc7 w)),(3,.i .u64 (filtT (w.ls.take i))),(4,.i .i64 (i : Int))],fun i => []⟩
def filtF (w : Wq) : FnD cod := ⟨[(3,filtC w)],.i .u64 (filtT w.ls),[]⟩
noncomputable def b83 : Code := Tryz.f83.body.getD .skip
def rowsN (l : List Int) : Nat → List Int
 | 0 => []
 | s + 1 => rowsN l s ++ bif inR (s : Int) l then [(s : Int)] else []
def rowsO (l : List Int) : CutD cod := ⟨Nat,fun s => s ≤ 3,fun s => (3 - s) * 2000,
 fun s => [(1,.tl (T := T) 0 l),(2,.ptr 0 0),(5,.R 1),(6,.i .i64 (s : Int))],fun s => [.cells (enc4 mp0),.rows 0 (rowsN l s) true 1]⟩
def rowsI (l : List Int) : CutD cod := ⟨Nat × Nat,fun x => x.1 < 3 ∧ x.2 ≤ l.length ∧ inR (x.1 : Int) (l.take x.2) = false,fun x => (3 - x.1) * 2000 - 1 - x.2,
 fun x => [(1,.tl (T := T) 0 l),(2,.ptr 0 0),(5,.R 1),(6,.i .i64 (x.1 : Int)),(7,.i .i64 (x.2 : Int))],fun x => [.cells (enc4 mp0),.rows 0 (rowsN l x.1) true 1]⟩
def rowsRF (l : List Int) : FnD cod := ⟨[(3,rowsO l),(6,rowsI l)],.R 0,[.rows 0 (rowsT l) true 0]⟩
def rowsLD : LabD cod where
 pats := [.row 4,.tl 0]
 pre := fun (x : Mp × List Int × Unit) => x.1 = mp0 ∧ x.2.1.length ≤ 1000 ∧ ∀ a ∈ x.2.1,isData a
 n := 0
 res := fun (x : Mp × List Int × Unit) => rowsT x.2.1
noncomputable def b141 : Code := Tryz.f141.body.getD .skip
noncomputable def l141 : List (FuncId × Ctr cod) := [(77,mkCtr mayD),(85,mkCtr hashD)]
def inD : CtrD cod where
 pats := [.frow 8,.int .i64]
 pre := fun (x : Mw × Int × Unit) => 0 ≤ x.2.1 ∧ x.2.1 < (x.1.ws.length : Int)
 res := fun x => .a (.bool true)
 objs := fun x => []
noncomputable def b139 : Code := Tryz.f139.body.getD .skip
noncomputable def b48 : Code := Tryz.f48.body.getD .skip
noncomputable def l48 : List (FuncId × Ctr cod) := [(84,mkCtr seekD)]
def placeT (p : Pk) : Int := if p.pk = 1 then 0 else if p.pk = 2 then 1 else if p.pk = 3 then 2 + p.pi else 11 + 2 * p.pi
def isPlace (p : Pk) : Prop := p.pj = 0 ∧ p.pp = 0 ∧ ((p.pk = 1 ∧ p.pi = 0) ∨ (p.pk = 2 ∧ p.pi = 0) ∨ (p.pk = 3 ∧ 0 ≤ p.pi ∧ p.pi < 3) ∨ (p.pk = 5 ∧ 0 ≤ p.pi ∧ p.pi < 3))
def placeD : CtrD cod where
 pats := [.row 4,.row 9]
 pre := fun (x : Mp × Pk × Unit) => x.1 = mp0 ∧ isPlace x.2.1
 res := fun (x : Mp × Pk × Unit) => .i .i64 (placeT x.2.1)
 objs := fun x => []
noncomputable def lP : List (FuncId × Ctr cod) := [(138,mkCtr placeD)]
noncomputable def b106 : Code := Tryz.f106.body.getD .skip
noncomputable def b107 : Code := Tryz.f107.body.getD .skip
noncomputable def b112 : Code := Tryz.f112.body.getD .skip
noncomputable def b117 : Code := Tryz.f117.body.getD .skip
noncomputable def b85r : Code := Tryz.f85.body.getD .skip
noncomputable def lH : List (FuncId × Ctr cod) := [(77,mkCtr mayD),(27,mkCtr sizeD)]
end Go.Proofs.YtmjjljngaefpaaaGreat

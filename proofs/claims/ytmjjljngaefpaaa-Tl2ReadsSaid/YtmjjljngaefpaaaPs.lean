/- Sets of words, rows of stripes, what a plan writes: what is answered. -/
import Derived.Test.YtmjjljngaefpaaaPm
namespace Go.Proofs.Ytmjjljngaefpaaa
open Go.RowKit Go.Am Go.Sy
open Go.IntKind (i64 u64)
set_option linter.unusedVariables false
def hasB (l : List Wo) (k : Int) : Bool := l.any fun w => w.pl == k
def roomD : CtrD cod where
 pats := [.frow 5,.int .i64]
 pre := fun (x : Rs × Int × Unit) => x.1.rm = 32 ∧ x.1.ls.length < 32
 res := fun x => .a (.bool true)
 objs := fun x => []
noncomputable def b57 : Code := Try.f57.body.getD .skip
def hasD : CtrD cod where
 pats := [.frow 5,.int .i64]
 pre := fun (x : Rs × Int × Unit) => x.1.ls.length ≤ 1000
 res := fun (x : Rs × Int × Unit) => .b (hasB x.1.ls x.2.1)
 objs := fun x => []
def hasC (l : List Wo) (k : Int) : CutD cod := ⟨Nat,fun i => i ≤ l.length ∧ hasB (l.take i) k = false,fun i => l.length - i,
 fun i => [(1,.i .i64 k),(12,.tl (T := T) 3 l),(13,.i .i64 (l.length : Int)),(14,.i .i64 (i : Int))],fun i => []⟩
def hasF (l : List Wo) (k : Int) : FnD cod := ⟨[(4,hasC l k)],.b (hasB l k),[]⟩
noncomputable def b87 : Code := Try.f87.body.getD .skip
noncomputable def l57 : List (FuncId × Ctr cod) := [(87,mkCtr hasD)]
def atD : CtrD cod where
 pats := [.frow 5,.int .i64]
 pre := fun (x : Rs × Int × Unit) => 0 ≤ x.2.1 ∧ x.2.1 < (x.1.ls.length : Int)
 res := fun (x : Rs × Int × Unit) => .agg (enc3 (at3 x.1.ls x.2.1))
 objs := fun x => []
noncomputable def b73 : Code := Try.f73.body.getD .skip
def badD : CtrD cod where
 pats := [.frow 8,.int .i64]
 pre := fun (x : Mw × Int × Unit) => 0 ≤ x.2.1 ∧ x.2.1 < (x.1.ws.length : Int)
 res := fun x => .a (.int .i64 0)
 objs := fun x => []
noncomputable def b50 : Code := Try.f50.body.getD .skip
def bitT (a : Int) : Int := if a = 26 then 67108864 else if a = 28 then 268435456 else if a = 30 then 1073741824 else 4294967296
def bitD : CtrD cod where
 pats := [.int .i64]
 pre := fun (x : Int × Unit) => isData x.1
 res := fun (x : Int × Unit) => .i .u64 (bitT x.1)
 objs := fun x => []
noncomputable def b85 : Code := Try.f85.body.getD .skip
def filtT (l : List Wo) : Int := (if hasB l 26 then 67108864 else 0) + (if hasB l 28 then 268435456 else 0) + (if hasB l 30 then 1073741824 else 0) + (if hasB l 32 then 4294967296 else 0)
def findGo (k : Int) : List Wo → Int → Int
 | [],_ => -1
 | w :: l,i => if w.pl = k then i else findGo k l (i + 1)
def findT (l : List Wo) (k : Int) : Int := findGo k l 0
def findD : CtrD cod where
 pats := [.frow 6,.int .i64]
 pre := fun (x : Wr × Int × Unit) => x.1.ls.length ≤ 1000 ∧ isData x.2.1 ∧ x.1.fi = filtT x.1.ls
 res := fun (x : Wr × Int × Unit) => .i .i64 (findT x.1.ls x.2.1)
 objs := fun x => []
def findC (w : Wr) (k : Int) : CutD cod := ⟨Nat,fun i => i ≤ w.ls.length ∧ findT w.ls k = findGo k (w.ls.drop i) i,fun i => w.ls.length - i,
 fun i => [(0,.fp (enc6 w)),(1,.i .i64 k),(18,.i .i64 (w.ls.length : Int)),(19,.i .i64 (i : Int))],fun i => []⟩
def findF (w : Wr) (k : Int) : FnD cod := ⟨[(4,findC w k)],.i .i64 (findT w.ls k),[]⟩
noncomputable def b86 : Code := Try.f86.body.getD .skip
noncomputable def l86 : List (FuncId × Ctr cod) := [(85,mkCtr bitD)]
def placesD : CtrD cod where
 pats := [.tl 3]
 pre := fun (x : List Wo × Unit) => x.1.length ≤ 1000
 res := fun x => .R 0
 objs := fun (x : List Wo × Unit) => [.rows 0 (x.1.map (·.pl)) true 0]
def placesC (l : List Wo) : CutD cod := ⟨Nat,fun i => i ≤ l.length,fun i => l.length - i,
 fun i => [(3,.R 0),(6,.tl (T := T) 3 l),(7,.i .i64 (l.length : Int)),(8,.i .i64 (i : Int))],fun i => [.rows 0 ((l.take i).map (·.pl)) true 0]⟩
def placesF (l : List Wo) : FnD cod := ⟨[(3,placesC l)],.R 0,[.rows 0 (l.map (·.pl)) true 0]⟩
noncomputable def b77 : Code := Try.f77.body.getD .skip
noncomputable def hashCtr : Ctr cod := fun wlo args h K => takeAll h [.row 4,.int .i64] args fun (x : Mp × Int × Unit) => .need (x.1 = mp0 ∧ isData x.2.1)
 (.fork (hashT x.2.1 == 0) (K (.a (.int .i64 0)) h) (.fork (hashT x.2.1 == 2) (K (.a (.int .i64 2)) h) (K (.a (.int .i64 1)) h)))
def inR (r : Int) (l : List Int) : Bool := l.any fun a => hashT a == r
def rowsT (l : List Int) : List Int := (if inR 0 l then [0] else []) ++ ((if inR 1 l then [1] else []) ++ (if inR 2 l then [2] else []))
def rowsD : CtrD cod where
 pats := [.row 4,.tl 0]
 pre := fun (x : Mp × List Int × Unit) => x.1 = mp0 ∧ x.2.1.length ≤ 1000 ∧ ∀ a ∈ x.2.1,isData a
 res := fun x => .R 0
 objs := fun (x : Mp × List Int × Unit) => [.rows 0 (rowsT x.2.1) true 0]
def rowsC (l : List Int) : CutD cod := ⟨Nat,fun i => i ≤ l.length,fun i => l.length - i,
 fun i => [(2,.ptr 0 0),(5,.ptr 1 0),(12,.tl (T := T) 0 l),(13,.i .i64 (l.length : Int)),(14,.i .i64 (i : Int))],
 fun i => [.cells (enc4 mp0),.cells ([.b (inR 0 (l.take i)),.b (inR 1 (l.take i)),.b (inR 2 (l.take i))] ++ List.replicate 13 (.a (.bool false)))]⟩
def rowsF (l : List Int) : FnD cod := ⟨[(3,rowsC l)],.R 0,[.rows 0 (rowsT l) true 0]⟩
noncomputable def b76 : Code := Try.f76.body.getD .skip
noncomputable def l76 : List (FuncId × Ctr cod) := [(56,hashCtr)]
end Go.Proofs.Ytmjjljngaefpaaa

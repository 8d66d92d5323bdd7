/- What the functions that look into an error answer. -/
import Derived.Test.YtjboohjicdmidaaDoorAs
namespace Go.Proofs.YtjboohjicdmidaaDoor
open Go.RowKit Go.Am Go.Sy
set_option linter.unusedVariables false

/-- An error and what it is of. -/
structure ErS where
  e : AVal
  l : List P
/-- errors.is -/
def isP : List (Pat cod) := [.lit (Int × List P) (fun y => ch y.1 y.2), .lit Int newV, .bool]
def isD : CtrD cod where
  pats := isP
  pre := fun (x : (Int × List P) × Int × Bool × Unit) => x.2.2.1 = true ∧ 1 ≤ x.1.1 ∧ x.1.1 ≤ 10 ∧ 1 ≤ x.2.1 ∧ x.2.1 ≤ 10
  res := fun (x : (Int × List P) × Int × Bool × Unit) => .b (x.1.1 == x.2.1)
  objs := fun x => []
def isC (c d : Int) : CutD cod := ⟨ErS, fun s => s.e = ch c s.l, fun s => s.l.length,
  fun s => [(0, .a s.e), (1, .a (newV d)), (2, .b true)], fun _ => []⟩
def isF (c d : Int) : FnD cod := ⟨[(1, isC c d)], .b (c == d), []⟩
/-- errors.Is -/
def IsP : List (Pat cod) := [.lit (Int × List P) (fun y => ch y.1 y.2), .lit Int newV]
def IsD : CtrD cod where
  pats := IsP
  pre := fun (x : (Int × List P) × Int × Unit) => 1 ≤ x.1.1 ∧ x.1.1 ≤ 10 ∧ 1 ≤ x.2.1 ∧ x.2.1 ≤ 10
  res := fun (x : (Int × List P) × Int × Unit) => .b (x.1.1 == x.2.1)
  objs := fun x => []
/-- blame.Code -/
def erP : List (Pat cod) := [.lit (Int × List P) (fun y => ch y.1 y.2)]
def codeD : CtrD cod where
  pats := erP
  pre := fun (x : (Int × List P) × Unit) => 1 ≤ x.1.1 ∧ x.1.1 ≤ 10
  res := fun (x : (Int × List P) × Unit) => .i .i64 x.1.1
  objs := fun x => []
def codeC (c : Int) (l : List P) : CutD cod := ⟨Int, fun i => 1 ≤ i ∧ i ≤ c, fun i => (c - i).toNat,
  fun i => [(0, .a (ch c l)), (3, .i .i64 i)], fun _ => []⟩
def codeF (c : Int) (l : List P) : FnD cod := ⟨[(2, codeC c l)], .i .i64 c, []⟩
/-- blame.Where -/
def hdT : List P → Int | [] => 0 | x :: _ => x.t
def hdP : List P → Int | [] => 0 | x :: _ => x.p
def hdB : List P → Bool | [] => false | _ :: _ => true
def whereD : CtrD cod where
  pats := erP
  pre := fun x => True
  res := fun (x : (Int × List P) × Unit) => .tup [.i .i64 (hdT x.1.2), .i .i64 (hdP x.1.2), .b (hdB x.1.2)]
  objs := fun x => []
/-- blame.Trail -/
structure TrS where
  q : List Int
  t : Int
  p : Int
  e : AVal
  l : List P
def trailD : CtrD cod where
  pats := erP
  pre := fun (x : (Int × List P) × Unit) => x.1.2.length ≤ 20
  res := fun x => .R 0
  objs := fun (x : (Int × List P) × Unit) => [.rows 0 (x.1.2.map P.p) true 0]
def trailC (c : Int) (l : List P) : CutD cod := ⟨TrS, fun s => s.e = ch c s.l ∧ s.q ++ s.l.map P.p = l.map P.p ∧ l.length ≤ 20, fun s => s.l.length,
  fun s => [(3, .R 0), (4, .a (.ipt [.int .i64 s.t, .int .i64 s.p, s.e]))], fun s => [.rows 0 s.q true 0]⟩
def trailF (c : Int) (l : List P) : FnD cod := ⟨[(4, trailC c l)], .R 0, [.rows 0 (l.map P.p) true 0]⟩
noncomputable def b44 : Code := Tryd.f44.body.getD .skip
noncomputable def b30 : Code := Tryd.f30.body.getD .skip
noncomputable def b13 : Code := Tryd.f13.body.getD .skip
noncomputable def b20 : Code := Tryd.f20.body.getD .skip
noncomputable def b36 : Code := Tryd.f36.body.getD .skip
noncomputable def l2 : List (FuncId × Ctr cod) := [(29, asCtr)]
noncomputable def l3 : List (FuncId × Ctr cod) := [(44, mkCtr isD)]
noncomputable def l4 : List (FuncId × Ctr cod) := [(26, mkCtr newD), (30, mkCtr IsD)]
end Go.Proofs.YtjboohjicdmidaaDoor

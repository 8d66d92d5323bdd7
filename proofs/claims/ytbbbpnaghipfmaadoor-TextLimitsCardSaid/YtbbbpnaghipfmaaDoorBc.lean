/- What blame.Put answers; errors.As over rows; how a text is read. -/
import Derived.Test.YtbbbpnaghipfmaaDoorTc
namespace Go.Proofs.YtbbbpnaghipfmaaDoor
open Go.RowKit Go.Am Go.Sy
set_option linter.unusedVariables false

/-- blame.Put -/
def putP : List (Pat cod) := [.lit (Int × List P) (fun y => ch y.1 y.2), .int .i64, .int .i64]
def putD : CtrD cod where
  pats := putP
  pre := fun x => True
  res := fun x => .iface 73 (.ptr 0 0)
  objs := fun (x : (Int × List P) × Int × Int × Unit) => [.cells [.i .i64 x.2.1, .i .i64 x.2.2.1, .a (ch x.1.1 x.1.2)]]
def putZ (x : (Int × List P) × Int × Int × Unit) : AVal := ch x.1.1 (⟨x.2.1, x.2.2.1⟩ :: x.1.2)
def putC : CtrD cod := ⟨putP, fun x => True, fun x => .a (putZ x), fun _ => []⟩
noncomputable def b29 : Code := Tryd.f29.body.getD .skip
noncomputable def l0 : List (FuncId × Ctr cod) := []
def putF (u : TypeId) (a : AVal) (t p : Int) : FnD cod := ⟨[], .iface 73 (.ptr 0 0), [.cells [.i .i64 t, .i .i64 p, .a (.iface u a)]]⟩

/-- text.Parse: by lines. -/
def parseL : List (List UInt8) → Nat → List Ins → List Ins × AVal
  | [], _, q => (q, .nili)
  | l :: ls, i, q => if l = [] then parseL ls (i + 1) q else if 48 ≤ q.length then ([], ch 4 [⟨-1, (i : Int) + 1⟩]) else if okS l = true then parseL ls (i + 1) (q ++ [insS l]) else ([], ch 3 [⟨-1, (i : Int) + 1⟩])
def parseS (s : List UInt8) : List Ins × AVal := if 20000 < s.length then ([], ch 4 [⟨-1, 0⟩]) else parseL (splitL 10 s) 0 []
def parseD : CtrD cod where
  pats := [.str]
  pre := fun (x : List UInt8 × Unit) => x.1.length < 4294967281 ∧ (x.1.length ≤ 20000 → ∀ l ∈ splitL 10 x.1, l ≠ [] → l ∈ lines)
  res := fun (x : List UInt8 × Unit) => .tup [.R 0, .a (parseS x.1).2]
  objs := fun (x : List UInt8 × Unit) => [.rows 2 (parseS x.1).1 true 0]
structure ParS where
  k : Nat
  q : List Ins
def parseC (s : List UInt8) : CutD cod := ⟨ParS, fun x => x.k ≤ (splitL 10 s).length ∧ parseL ((splitL 10 s).drop x.k) x.k x.q = parseL (splitL 10 s) 0 [] ∧ x.q.length ≤ 48 ∧ s.length ≤ 20000, fun x => (splitL 10 s).length - x.k,
  fun x => [(4, .R 0), (15, .tl (T := T) 3 (splitL 10 s)), (16, .i .i64 ((splitL 10 s).length : Int)), (17, .i .i64 (x.k : Int))], fun x => [.rows 2 x.q true 0]⟩
def parseF (s : List UInt8) : FnD cod := ⟨[(5, parseC s)], .tup [.R 0, .a (parseS s).2], [.rows 2 (parseS s).1 true 0]⟩
noncomputable def b13 : Code := Tryd.f13.body.getD .skip
noncomputable def l1 : List (FuncId × Ctr cod) := [(29, mkCtr putC), (32, readCtr), (42, splitCtr)]
end Go.Proofs.YtbbbpnaghipfmaaDoor

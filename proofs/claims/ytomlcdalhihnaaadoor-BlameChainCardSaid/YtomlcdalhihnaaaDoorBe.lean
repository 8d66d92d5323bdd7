/- syncopelaw1.BlameChain: what holds behind the chain, and at the loop's head. -/
import Derived.Test.YtomlcdalhihnaaaDoorBd
namespace Go.Proofs.YtomlcdalhihnaaaDoor
open Go.RowKit Go.Am Go.Sy
set_option linter.unusedVariables false

/-- Any of 1 to 10. -/
def cd (c : Int) : Int := IntKind.i64.wrap (1 + IntKind.i64.wrap ((IntKind.u64.wrap c).tmod 10))
noncomputable def b7 : Code := Tryd.f7.body.getD .skip
def chainC4 (c : Int) (l : List P) : CutD cod := ⟨ErS, fun s => s.e = ch (cd c) l ∧ l.length ≤ 20, fun s => 100,
  fun s => [(0, .i .i64 c), (1, .tl (T := T) 1 l), (5, .a s.e)], fun _ => []⟩
def chainC13 (c : Int) (l : List P) : CutD cod := ⟨Nat, fun i => i ≤ l.length ∧ l.length ≤ 20, fun i => l.length - i,
  fun i => [(0, .i .i64 c), (1, .tl (T := T) 1 l), (5, .a (ch (cd c) l)), (9, .R 0), (10, .i .i64 i)], fun _ => [.rows 0 (l.map P.p) true 0]⟩
def chainL (c : Int) (l : List P) : FnD cod := ⟨[(4, chainC4 c l), (13, chainC13 c l)], .b true, []⟩
noncomputable def l5 : List (FuncId × Ctr cod) := [(16, toldCtr (.bool true)), (22, mkCtr chainD), (27, mkCtr whereD), (26, mkCtr trailD), (17, mkCtr codeD)]
end Go.Proofs.YtomlcdalhihnaaaDoor

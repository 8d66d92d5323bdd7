/- syncopelaw1.BlameText: what holds at its loop's head, and behind the chain. -/
import Derived.Test.YtomlcdalhihnaaaDoorIw
namespace Go.Proofs.YtomlcdalhihnaaaDoor
open Go.RowKit Go.Am Go.Sy
set_option linter.unusedVariables false

/-- Any of 1 to 10. -/
def cd (c : Int) : Int := IntKind.i64.wrap (1 + IntKind.i64.wrap ((IntKind.u64.wrap c).tmod 10))
def words : List P → List UInt8
  | [] => []
  | x :: l => word1 x ++ words l
noncomputable def b5 : Code := Tryd.f5.body.getD .skip
def btC5 (c : Int) (l : List P) : CutD cod := ⟨Nat, fun i => i ≤ l.length ∧ l.length ≤ 20, fun i => 100 + (l.length - i),
  fun i => [(0, .i .i64 c), (1, .tl (T := T) 1 l), (5, .s (words (l.take i))), (6, .i .i64 i)], fun _ => []⟩
def btC10 (c : Int) (l : List P) : CutD cod := ⟨ErS, fun s => s.e = ch (cd c) l ∧ l.length ≤ 20, fun s => 0,
  fun s => [(0, .i .i64 c), (1, .tl (T := T) 1 l), (5, .s (text (cd c) l)), (7, .a s.e)], fun _ => []⟩
def btF (c : Int) (l : List P) : FnD cod := ⟨[(5, btC5 c l), (10, btC10 c l)], .b true, []⟩
noncomputable def u5 : List (FuncId × Ctr cod) := [(16, toldCtr (.bool true)), (19, mkCtr decD), (22, mkCtr chainD), (23, asCtr), (40, mkCtr itoaD), (18, mkCtr (textD 20))]
end Go.Proofs.YtomlcdalhihnaaaDoor

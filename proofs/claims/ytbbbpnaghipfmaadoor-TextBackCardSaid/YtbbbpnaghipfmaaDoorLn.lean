/- An instruction's line, on both sides: what is answered. -/
import Derived.Test.YtbbbpnaghipfmaaDoorLw
namespace Go.Proofs.YtbbbpnaghipfmaaDoor
open Go.RowKit Go.Am Go.Sy
set_option linter.unusedVariables false
variable {Z : Xs}

/-! ### A line -/
def wordB (op b : Int) : List UInt8 := if op = 13 ∧ b = 1 then [114, 101, 97, 100] else at3 wordsL op
def lineS (x : Ins) : List UInt8 :=
  wordB x.op x.b ++ (if shA x.op > 0 then [32] ++ decS x.a else []) ++ (if shB x.op > 0 ∧ x.op ≠ 13 then [32] ++ decS x.b else []) ++ (if shC x.op > 0 then [32] ++ decS x.c else []) ++ (if shN x.op = 5 then [32] ++ decS x.n else [])
def lineR (x : Ins) : List UInt8 := if mayB x = true then lineS x else []
def lnD : CtrD cod where
  pats := [.row 2]
  pre := fun (x : Ins × Unit) => okI x.1.n
  res := fun (x : Ins × Unit) => .tup [.s (lineR x.1), .b (mayB x.1)]
  objs := fun x => []
noncomputable def b9 : Code := Tryd.f9.body.getD .skip
noncomputable def b10 : Code := Tryd.f10.body.getD .skip
noncomputable def l9 : List (FuncId × Ctr cod) := [(19, mkCtr mayD), (21, itoaCtr), (22, fmtCtr)]
noncomputable def l10 : List (FuncId × Ctr cod) := [(23, mkCtr mayD), (24, mkCtr fdD), (25, wordsCtr), (15, mkCtr decD)]
end Go.Proofs.YtbbbpnaghipfmaaDoor

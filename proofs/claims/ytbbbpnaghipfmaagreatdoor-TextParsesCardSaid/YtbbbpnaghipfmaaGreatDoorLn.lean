/- The document's own line of an instruction: what is answered. -/
import Derived.Test.YtbbbpnaghipfmaaGreatDoorLw
namespace Go.Proofs.YtbbbpnaghipfmaaGreatDoor
open Go.RowKit Go.Am Go.Sy
set_option linter.unusedVariables false

/-! ### A line -/
def wordB (op b : Int) : List UInt8 := if op = 13 ∧ b = 1 then [114, 101, 97, 100] else at3 wordsL op
def okI (n : Int) : Prop := -9223372036854775808 ≤ n ∧ n ≤ 9223372036854775807
def lineS (x : Ins) : List UInt8 :=
  wordB x.op x.b ++ (if shA x.op > 0 then [32] ++ decS x.a else []) ++ (if shB x.op > 0 ∧ x.op ≠ 13 then [32] ++ decS x.b else []) ++ (if shC x.op > 0 then [32] ++ decS x.c else []) ++ (if shN x.op = 5 then [32] ++ decS x.n else [])
def lineR (x : Ins) : List UInt8 := if mayB x = true then lineS x else []
def lnD : CtrD cod where
  pats := [.row 2]
  pre := fun (x : Ins × Unit) => True
  res := fun (x : Ins × Unit) => .tup [.s (lineR x.1), .b (mayB x.1)]
  objs := fun x => []
noncomputable def b5 : Code := Tryz.f5.body.getD .skip
noncomputable def l10 : List (FuncId × Ctr cod) := [(9, mkCtr mayD), (10, mkCtr fdD), (11, wordsCtr), (12, mkCtr decD)]
end Go.Proofs.YtbbbpnaghipfmaaGreatDoor

/- Programs that are built: what their parts are. Printed by a program (gen_pi.py). -/
import Derived.Test.YtjboohjicdmidaaDoorWp
namespace Go.Proofs.YtjboohjicdmidaaDoor
open Go.RowKit Go.Am Go.Sy
set_option linter.unusedVariables false

/-- One of so many. -/
def pk (x m : Int) : Int := IntKind.i64.wrap ((IntKind.u64.wrap x).tmod m)
def qv (x : Int) : Int := IntKind.i64.wrap ((IntKind.u64.wrap ((IntKind.u64.wrap x).tdiv 13)).tmod 1073741824)
/-- Some instructions, out of a number. -/
def pieceL (x : Int) : List Instr :=
  if pk x 13 = 0 then [.mk 12 ((pk (qv x) 4)) 0 0 0]
  else  if pk x 13 = 1 then [.mk 1 2 0 0 (IntKind.i64.wrap ((pk (qv x) 9) - 4))]
  else  if pk x 13 = 2 then [.mk 13 ((pk (qv x) 3)) 0 0 0, .mk 8 2 0 0 (IntKind.i64.wrap (IntKind.i64.wrap (3 * (pk (qv x) 3)) + (pk (IntKind.i64.wrap ((qv x).tdiv 3)) 3))), .mk 2 2 2 1 0, .mk 9 2 0 0 (IntKind.i64.wrap (IntKind.i64.wrap (3 * (pk (qv x) 3)) + (pk (IntKind.i64.wrap ((qv x).tdiv 3)) 3))), .mk 14 0 0 0 0]
  else  if pk x 13 = 3 then [.mk 13 ((pk (qv x) 3)) 0 0 0, .mk 8 2 0 0 (IntKind.i64.wrap (IntKind.i64.wrap (3 * (pk (qv x) 3)) + (pk (IntKind.i64.wrap ((qv x).tdiv 3)) 3))), .mk 8 3 0 0 (IntKind.i64.wrap (IntKind.i64.wrap (3 * (pk (qv x) 3)) + (pk (IntKind.i64.wrap ((qv x).tdiv 9)) 3))), .mk 9 3 0 0 (IntKind.i64.wrap (IntKind.i64.wrap (3 * (pk (qv x) 3)) + (pk (IntKind.i64.wrap ((qv x).tdiv 3)) 3))), .mk 9 2 0 0 (IntKind.i64.wrap (IntKind.i64.wrap (3 * (pk (qv x) 3)) + (pk (IntKind.i64.wrap ((qv x).tdiv 9)) 3))), .mk 14 0 0 0 0]
  else  if pk x 13 = 4 then [.mk 13 ((pk (qv x) 2)) 0 0 0, .mk 8 2 0 0 (IntKind.i64.wrap (IntKind.i64.wrap (3 * (pk (qv x) 2)) + (pk (IntKind.i64.wrap ((qv x).tdiv 3)) 3))), .mk 13 (IntKind.i64.wrap (IntKind.i64.wrap ((pk (qv x) 2) + 1) + IntKind.i64.wrap ((IntKind.u64.wrap (IntKind.i64.wrap ((qv x).tdiv 2))).tmod (IntKind.u64.wrap (IntKind.i64.wrap (2 - (pk (qv x) 2))))))) 0 0 0, .mk 8 3 0 0 (IntKind.i64.wrap (IntKind.i64.wrap (3 * IntKind.i64.wrap (IntKind.i64.wrap ((pk (qv x) 2) + 1) + IntKind.i64.wrap ((IntKind.u64.wrap (IntKind.i64.wrap ((qv x).tdiv 2))).tmod (IntKind.u64.wrap (IntKind.i64.wrap (2 - (pk (qv x) 2))))))) + (pk (IntKind.i64.wrap ((qv x).tdiv 9)) 3))), .mk 2 2 2 1 0, .mk 9 2 0 0 (IntKind.i64.wrap (IntKind.i64.wrap (3 * IntKind.i64.wrap (IntKind.i64.wrap ((pk (qv x) 2) + 1) + IntKind.i64.wrap ((IntKind.u64.wrap (IntKind.i64.wrap ((qv x).tdiv 2))).tmod (IntKind.u64.wrap (IntKind.i64.wrap (2 - (pk (qv x) 2))))))) + (pk (IntKind.i64.wrap ((qv x).tdiv 9)) 3))), .mk 14 0 0 0 0, .mk 2 3 3 1 0, .mk 9 3 0 0 (IntKind.i64.wrap (IntKind.i64.wrap (3 * (pk (qv x) 2)) + (pk (IntKind.i64.wrap ((qv x).tdiv 27)) 3))), .mk 14 0 0 0 0]
  else  if pk x 13 = 5 then [.mk 13 2 1 0 0, .mk 8 2 0 0 (IntKind.i64.wrap (6 + (pk (qv x) 3))), .mk 8 3 0 0 (IntKind.i64.wrap (6 + (pk (IntKind.i64.wrap ((qv x).tdiv 3)) 3))), .mk 14 0 0 0 0, .mk 12 2 0 0 0, .mk 12 3 0 0 0]
  else  if pk x 13 = 6 then [.mk 13 ((pk (qv x) 3)) 0 0 0, .mk 10 0 0 0 (IntKind.i64.wrap (IntKind.i64.wrap (3 * (pk (qv x) 3)) + (pk (IntKind.i64.wrap ((qv x).tdiv 3)) 3))), .mk 14 0 0 0 0, .mk 8 2 0 0 (IntKind.i64.wrap (IntKind.i64.wrap (3 * (pk (qv x) 3)) + (pk (IntKind.i64.wrap ((qv x).tdiv 3)) 3))), .mk 2 2 2 1 0, .mk 9 2 0 0 (IntKind.i64.wrap (IntKind.i64.wrap (3 * (pk (qv x) 3)) + (pk (IntKind.i64.wrap ((qv x).tdiv 3)) 3))), .mk 13 ((pk (qv x) 3)) 0 0 0, .mk 11 0 0 0 (IntKind.i64.wrap (IntKind.i64.wrap (3 * (pk (qv x) 3)) + (pk (IntKind.i64.wrap ((qv x).tdiv 3)) 3))), .mk 14 0 0 0 0]
  else  if pk x 13 = 7 then [.mk 13 ((pk (qv x) 3)) 0 0 0, .mk 8 2 0 0 (IntKind.i64.wrap (IntKind.i64.wrap (3 * (pk (qv x) 3)) + (pk (IntKind.i64.wrap ((qv x).tdiv 3)) 3))), .mk 18 2 0 0 0, .mk 19 0 0 0 0, .mk 15 ((pk (qv x) 3)) 0 0 0, .mk 20 0 0 0 0, .mk 8 3 0 0 (IntKind.i64.wrap (IntKind.i64.wrap (3 * (pk (qv x) 3)) + (pk (IntKind.i64.wrap ((qv x).tdiv 3)) 3))), .mk 14 0 0 0 0]
  else  if pk x 13 = 8 then [.mk 13 ((pk (qv x) 3)) 0 0 0, .mk 8 2 0 0 (IntKind.i64.wrap (IntKind.i64.wrap (3 * (pk (qv x) 3)) + (pk (IntKind.i64.wrap ((qv x).tdiv 3)) 3))), .mk 2 2 2 1 0, .mk 9 2 0 0 (IntKind.i64.wrap (IntKind.i64.wrap (3 * (pk (qv x) 3)) + (pk (IntKind.i64.wrap ((qv x).tdiv 3)) 3))), .mk 16 ((pk (qv x) 3)) 0 0 0, .mk 14 0 0 0 0]
  else  if pk x 13 = 9 then [.mk 13 ((pk (qv x) 3)) 0 0 0, .mk 8 2 0 0 (IntKind.i64.wrap (IntKind.i64.wrap (3 * (pk (qv x) 3)) + (pk (IntKind.i64.wrap ((qv x).tdiv 3)) 3))), .mk 2 2 2 1 0, .mk 9 2 0 0 (IntKind.i64.wrap (IntKind.i64.wrap (3 * (pk (qv x) 3)) + (pk (IntKind.i64.wrap ((qv x).tdiv 3)) 3))), .mk 17 ((pk (qv x) 3)) 0 0 0, .mk 14 0 0 0 0]
  else  if pk x 13 = 10 then [.mk 13 ((pk (qv x) 3)) 0 0 0, .mk 8 2 0 0 (IntKind.i64.wrap (IntKind.i64.wrap (3 * (pk (qv x) 3)) + (pk (IntKind.i64.wrap ((qv x).tdiv 3)) 3))), .mk 8 3 2 0 (IntKind.i64.wrap (IntKind.i64.wrap (IntKind.i64.wrap (3 * (pk (qv x) 3)) + (pk (IntKind.i64.wrap ((qv x).tdiv 9)) 3)) - 2)), .mk 14 0 0 0 0, .mk 12 3 0 0 0]
  else  if pk x 13 = 11 then [.mk 1 3 0 0 (IntKind.i64.wrap (1 + (pk (IntKind.i64.wrap ((qv x).tdiv 9)) 3))), .mk 21 3 0 0 0, .mk 13 ((pk (qv x) 3)) 0 0 0, .mk 8 2 0 0 (IntKind.i64.wrap (IntKind.i64.wrap (3 * (pk (qv x) 3)) + (pk (IntKind.i64.wrap ((qv x).tdiv 3)) 3))), .mk 2 2 2 1 0, .mk 9 2 0 0 (IntKind.i64.wrap (IntKind.i64.wrap (3 * (pk (qv x) 3)) + (pk (IntKind.i64.wrap ((qv x).tdiv 3)) 3))), .mk 14 0 0 0 0, .mk 3 3 3 1 0, .mk 22 0 0 0 0]
  else
    [.mk 13 ((pk (qv x) 3)) 0 0 0, .mk 1 3 0 0 (IntKind.i64.wrap (1 + (pk (IntKind.i64.wrap ((qv x).tdiv 9)) 3))), .mk 21 3 0 0 0, .mk 8 2 0 0 (IntKind.i64.wrap (IntKind.i64.wrap (3 * (pk (qv x) 3)) + (pk (IntKind.i64.wrap ((qv x).tdiv 3)) 3))), .mk 2 2 2 1 0, .mk 9 2 0 0 (IntKind.i64.wrap (IntKind.i64.wrap (3 * (pk (qv x) 3)) + (pk (IntKind.i64.wrap ((qv x).tdiv 3)) 3))), .mk 3 3 3 1 0, .mk 22 0 0 0 0, .mk 14 0 0 0 0]

def progGo (l : List Int) : Nat → Nat → List Instr → List Instr
  | 0, _, p => p
  | r + 1, i, p => if (p.length : Int) < 34 then progGo l r (i + 1) (p ++ pieceL (at0 l i)) else p
def progL (l : List Int) : List Instr := progGo l l.length 0 [⟨1, 1, 0, 0, 1⟩]
def pgP : List (Pat cod) := [.tl 0]
def lenOk (l : List Int) : Prop := l.length ≤ 1000
def pgC (l : List Int) : CutD cod := ⟨Nat × List Instr, fun s => s.1 ≤ l.length ∧ s.2.length ≤ 100 ∧ progGo l (l.length - s.1) s.1 s.2 = progL l, fun s => l.length - s.1,
  fun s => [(0, .tl (T := T) 0 l), (3, .R 0), (4, .i .i64 s.1)], fun s => [.rows 2 s.2 true 0]⟩
noncomputable def b38 : Code := Tryd.f38.body.getD .skip
noncomputable def b23 : Code := Tryd.f23.body.getD .skip
noncomputable def b15 : Code := Tryd.f15.body.getD .skip
noncomputable def h1 : List (FuncId × Ctr cod) := [(38, mkCtrL [.int .i64] (fun _ => True) 2 (fun (x : Int × Unit) => pieceL x.1))]
/-- Few. -/
def fewGo (rows : List (List Int)) (n : Int) : Nat → Nat → Bool
  | 0, _ => decide ((rows.length : Int) ≤ 4)
  | r + 1, i => if (i : Int) < rows.length then (if ((at5 rows i).length : Int) > n then false else fewGo rows n r (i + 1)) else decide ((rows.length : Int) ≤ 4)
def fewB (rows : List (List Int)) (n : Int) : Bool := fewGo rows n 5 0
def fwD : CtrD cod where
  pats := [.tl 5, .int .i64]
  pre := fun x => True
  res := fun (x : List (List Int) × Int × Unit) => .b (fewB x.1 x.2.1)
  objs := fun x => []
end Go.Proofs.YtjboohjicdmidaaDoor

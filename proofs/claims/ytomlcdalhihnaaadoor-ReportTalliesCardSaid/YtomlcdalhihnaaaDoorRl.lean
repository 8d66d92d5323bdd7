/- syncopelaw29.ReportTallies: what holds at its places. -/
import Derived.Test.YtomlcdalhihnaaaDoorRv
namespace Go.Proofs.YtomlcdalhihnaaaDoor
open Go.RowKit Go.Am Go.Sy
set_option linter.unusedVariables false

def Tq : Nat → Type
  | 0 => Unit
  | k + 1 => Try × Tq k
def tql : (k : Nat) → Tq k → List Try
  | 0, _ => []
  | k + 1, s => s.1 :: tql k s.2
def ok1 (x : Att) : Prop := inI x.thread ∧ inI x.tri ∧ x.reads.length ≤ 1000000 ∧ x.writes.length ≤ 1000000
def rtC4 (t : Tly) (l : List Try) (n : Int) : CutD cod := ⟨Nat, fun i => i ≤ l.length ∧ l.length ≤ 3 ∧ ∀ x ∈ l.take i, x.ops.length ≤ 6, fun i => 10 + (l.length - i),
  fun i => [(1, .tl (T := T) 3 l), (2, .i .i64 n), (3, .ptr 0 0), (7, .i .i64 i)], fun _ => [.cells (enc6 t)]⟩
def rtC8 (t : Tly) (n : Int) (k : Nat) : CutD cod := ⟨Tq k, fun s => okOps (tql k s), fun _ => 5,
  fun s => [(1, .tl (T := T) 3 (tql k s)), (2, .i .i64 n), (3, .ptr 0 0)], fun _ => [.cells (enc6 t)]⟩
def rtC9 (t : Tly) (n : Int) (k : Nat) : CutD cod := ⟨Tp k, fun s => ∀ x ∈ tpl k s, ok1 x, fun _ => 1,
  fun s => [(8, outV 1 (tpl k s)), (2, .i .i64 n), (3, .ptr 0 0)], fun s => .cells (enc6 t) :: outO 1 (tpl k s)⟩
def rtCs (t : Tly) (l : List Try) (n : Int) : List (Nat × CutD cod) := [(4, rtC4 t l n), (8, rtC8 t n 0), (8, rtC8 t n 1), (8, rtC8 t n 2), (8, rtC8 t n 3), (9, rtC9 t n 0), (9, rtC9 t n 1), (9, rtC9 t n 2), (9, rtC9 t n 3)]
def rtF (t : Tly) (l : List Try) (n : Int) : FnD cod := ⟨rtCs t l n, .b true, []⟩
noncomputable def b3 : Code := Tryd.f3.body.getD .skip
noncomputable def u3c : List (FuncId × Ctr cod) := [(9, toldCtr (.bool true)), (10, mkCtr attsD), (11, mkCtr attD), (12, mkCtr attD), (13, mkCtr tallyD), (14, mkCtr tallyD)]
end Go.Proofs.YtomlcdalhihnaaaDoor

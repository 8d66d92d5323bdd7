/- TextLimits: what its loops keep. -/
import Derived.Test.YtbbbpnaghipfmaaDoorBp
namespace Go.Proofs.YtbbbpnaghipfmaaDoor
open Go.RowKit Go.Am Go.Sy
set_option linter.unusedVariables false

def leaveS : Nat → List UInt8
  | 0 => []
  | i + 1 => leaveS i ++ [108, 101, 97, 118, 101, 10, 10]
structure LiS where
  i : Nat
  k : Nat
  l : List Ins
  e : AVal
def liE (k : Nat) : AVal := if k ≤ 48 then .nili else ch 4 [⟨-1, 97⟩]
def loE (m : Nat) : AVal := if m ≤ 20000 then .nili else ch 4 [⟨-1, 0⟩]
def liC4 (b : Int) : CutD cod := ⟨LiS, fun x => x.i ≤ x.k ∧ 46 ≤ x.k ∧ x.k ≤ 50, fun x => 30000 + (x.k - x.i),
  fun x => [(1, .i .i64 b), (5, .i .i64 (x.k : Int)), (6, .s (leaveS x.i)), (7, .i .i64 (x.i : Int))], fun _ => []⟩
def liC8 (b : Int) : CutD cod := ⟨LiS, fun x => 46 ≤ x.k ∧ x.k ≤ 50 ∧ x.e = liE x.k ∧ (x.k ≤ 48 → x.l.length = x.k), fun x => 29000,
  fun x => [(1, .i .i64 b), (5, .i .i64 (x.k : Int)), (8, .R 0), (9, .a x.e)], fun x => [.rows 2 x.l true 0]⟩
def liC13 : CutD cod := ⟨LiS, fun x => x.i ≤ x.k ∧ 19998 ≤ x.k ∧ x.k ≤ 20002, fun x => 1 + (x.k - x.i),
  fun x => [(13, .R 0), (14, .i .i64 (x.i : Int))], fun x => [.rows 4 (List.replicate x.i (10 : Int) ++ List.replicate (x.k - x.i) (0 : Int)) true 0]⟩
def liC17 : CutD cod := ⟨LiS, fun x => 19998 ≤ x.k ∧ x.k ≤ 20002 ∧ x.e = loE x.k, fun x => 0,
  fun x => [(13, .R 0), (15, .R 1), (16, .a x.e)], fun x => [.rows 4 (List.replicate x.k (10 : Int)) true 0, .rows 2 [] true 1]⟩
def liCuts (b : Int) : List (Nat × CutD cod) := [(4, liC4 b), (8, liC8 b), (13, liC13), (17, liC17)]
def liF (b : Int) : FnD cod := ⟨liCuts b, .b true, []⟩
noncomputable def b6 : Code := Tryd.f6.body.getD .skip
noncomputable def l3 : List (FuncId × Ctr cod) := [(7, tellCtr), (13, mkCtr parseD), (46, asCtr)]
end Go.Proofs.YtbbbpnaghipfmaaDoor

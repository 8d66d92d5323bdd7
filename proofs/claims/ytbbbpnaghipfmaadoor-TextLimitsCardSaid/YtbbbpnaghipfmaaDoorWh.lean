/- TextWhere: what its loops keep. -/
import Derived.Test.YtbbbpnaghipfmaaDoorAs
namespace Go.Proofs.YtbbbpnaghipfmaaDoor
open Go.RowKit Go.Am Go.Sy
set_option linter.unusedVariables false

def goodS : Nat → List UInt8
  | 0 => []
  | i + 1 => goodS i ++ ([108, 111, 103, 32] ++ decS (i % 4 : Nat) ++ [10])
def headS (n g : Nat) : List UInt8 := List.replicate n 10 ++ goodS g
structure WhS where
  i : Nat
  n : Nat
  g : Nat
def whC4 (bad : Int) : CutD cod := ⟨WhS, fun x => x.i ≤ x.n ∧ x.n < 40 ∧ x.g < 40, fun x => 100 + (x.n - x.i),
  fun x => [(2, .i .i64 bad), (7, .i .i64 (x.g : Int)), (8, .i .i64 (x.n : Int)), (9, .s (List.replicate x.i 10)), (10, .i .i64 (x.i : Int))], fun _ => []⟩
def whC8 (bad : Int) : CutD cod := ⟨WhS, fun x => x.i ≤ x.g ∧ x.n < 40 ∧ x.g < 40, fun x => 2 + (x.g - x.i),
  fun x => [(2, .i .i64 bad), (7, .i .i64 (x.g : Int)), (8, .i .i64 (x.n : Int)), (9, .s (headS x.n x.i)), (11, .i .i64 (x.i : Int))], fun _ => []⟩
def whC12 (bad : Int) : CutD cod := ⟨WhS, fun x => x.n < 40 ∧ x.g < 40, fun x => 1,
  fun x => [(2, .i .i64 bad), (7, .i .i64 (x.g : Int)), (8, .i .i64 (x.n : Int)), (9, .s (headS x.n x.g)), (12, .tl (T := T) 3 bads)], fun _ => []⟩
def whC14 : CutD cod := ⟨WhS, fun x => x.n < 40 ∧ x.g < 40, fun x => 0,
  fun x => [(7, .i .i64 (x.g : Int)), (8, .i .i64 (x.n : Int)), (13, .R 0), (14, .a (ch 3 [⟨-1, (x.n : Int) + x.g + 1⟩]))], fun _ => [.rows 2 [] true 0]⟩
def whCuts (bad : Int) : List (Nat × CutD cod) := [(4, whC4 bad), (8, whC8 bad), (12, whC12 bad), (14, whC14)]
def whF (bad : Int) : FnD cod := ⟨whCuts bad, .b true, []⟩
noncomputable def b5 : Code := Tryd.f5.body.getD .skip
noncomputable def l2 : List (FuncId × Ctr cod) := [(7, tellCtr), (13, mkCtr parseD), (15, decCtr), (46, asCtr)]
end Go.Proofs.YtbbbpnaghipfmaaDoor

/- HoldLocks: its cuts. -/
import Derived.Test.YtlninpcoolakbaaGreatDoorHt
import Derived.Test.YtlninpcoolakbaaGreatDoorLib5
namespace Go.Proofs.YtlninpcoolakbaaGreatDoor
open Go.RowKit Go.Am Go.Sy
set_option linter.unusedVariables false
structure NumS where
  e : Int
  c : Int
  s : Int
  r : Int
  w : Int
  t : Int
  m : Int
  o : Int
  p : Int
structure NumOk (x : NumS) : Prop where
  e : 1 ≤ x.e ∧ x.e ≤ 2
  c : 1 ≤ x.c ∧ x.c ≤ 2
  s : 1 ≤ x.s ∧ x.s ≤ 16
  r : 1 ≤ x.r ∧ x.r ≤ 32
  w : 1 ≤ x.w ∧ x.w ≤ 32
  t : 0 ≤ x.t ∧ x.t ≤ 8
  m : 0 ≤ x.m ∧ x.m ≤ 1099511627776
  o : 1 ≤ x.o ∧ x.o ≤ 3
  p : 1 ≤ x.p ∧ x.p ≤ 3
def iv (n : Int) : SV T := .a (.int .i64 n)
def ivs (l : List Int) : List (SV T) := l.map iv
structure K8 where
  a : Int
  b : Int
  c : Int
  d : Int
  e : Int
  f : Int
  g : Int
  h : Int
def encK (k : K8) : List (SV T) := [.i .i64 k.a, .i .i64 k.b, .i .i64 k.c, .i .i64 k.d, .i .i64 k.e, .i .i64 k.f, .i .i64 k.g, .i .i64 k.h]
def initL : List Int := [0, 1, 2, 3, 0, 1, 2, 3, 0]
def nine : Nat := 9
def cfgCells (x : NumS) (fuel pr : SV T) (j : Nat) : List (SV T) := [.i .i64 x.e, .i .i64 x.c, .i .i64 x.s, .i .i64 x.r, .i .i64 x.w, .i .i64 x.t, fuel, .i .i64 x.m, .sl 1 j 0 9 9 false, .sl 3 (j + 1) 0 3 3 false, .sl 1 (j + 2) 0 3 3 false, pr]
def lockCells (x : NumS) : List (SV T) := [.i .i64 x.o, iv 0, iv 3, .i .i64 x.p, iv 3, iv 3, iv 3, iv 6, iv 3]
def progCells (a : Nat) : List (SV T) := ivs [13, a, 0, 0, 0, 8, 2, 0, 0, 3 * a, 12, 2, 0, 0, 0, 14, 0, 0, 0, 0]
def oneCells : List (SV T) := ivs [0, 50, 0, 0, 0, 0, 0, -1] ++ [.a .nils, .a .nils]
def lkA : CutD cod := ⟨K8 × Int × Nat, fun s => s.2.2 < 3, fun _ => 3, fun s => [(2, .i .i64 s.2.1), (3, .ptr 0 0), (7, iv s.2.2)], fun s => [.cells (encK s.1)]⟩
def lkC : CutD cod := ⟨NumS × Int × Nat, fun s => NumOk s.1 ∧ s.2.2 < 3, fun _ => 2, fun s => [(2, .i .i64 s.2.1), (7, iv s.2.2), (8, .ptr 0 0)], fun s => [.cells (cfgCells s.1 .any .any 1), .cells (ivs initL), .cells (lockCells s.1), .cells (ivs [0, 1, 2])]⟩
def lkB : CutD cod := ⟨NumS × Nat × Nat, fun s => s.2.1 < 3 ∧ s.2.2 < 5, fun _ => 1, fun s => [(10, .ptr 0 0), (11, iv s.2.2)],
  fun s => [.cells (cfgCells s.1 (iv 50) (.sl 1 4 0 2 2 false) 1 ++ [.sl 1 7 0 2 2 false, .sl 1 10 0 9 9 false, .sl 1 11 0 9 9 false, .sl 10 12 0 2 2 false, .sl 1 13 0 3 3 true]),
    .cells (ivs initL), .cells (lockCells s.1), .cells (ivs [0, 1, 2]), .cells [.sl 5 5 0 4 4 false, .sl 5 6 0 4 4 false], .cells (progCells s.2.1), .cells (progCells s.2.1),
    .cells [.sl 1 8 0 4 4 true, .sl 1 9 0 4 4 true], .cells (ivs [3, -1, -1, 0]), .cells (ivs [3, -1, -1, 0]), .cells (ivs initL), .cells (List.replicate 9 (iv (-1))), .cells (oneCells ++ oneCells), .cells [.a .nils, .a .nils, .a .nils]]⟩
def lkF : FnD cod := ⟨[(2, lkA), (3, lkC), (10, lkB)], .b true, []⟩
noncomputable def b4 : Code := Tryz.f4.body.getD .skip
noncomputable def l4 : List (FuncId × Ctr cod) := [(5, tellCtr), (46, noCtr), (47, noCtr)]
def keepL : List FuncId := [3, 4, 10, 11, 12, 34, 35, 54, 55, 78, 104]
def polL (f : FuncId) : Pol := if keepL.any (Nat.beq f) then .keep else .fresh
noncomputable def SL : AStat := St polL toldL
noncomputable def FL : Cf cod := ⟨SL, fun _ => true⟩
end Go.Proofs.YtlninpcoolakbaaGreatDoor

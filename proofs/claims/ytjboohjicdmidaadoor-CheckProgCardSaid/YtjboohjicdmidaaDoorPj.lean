/- The parts of what is built, and programs: their contracts are paid. Printed by a program (gen_pj.py). -/
import Derived.Test.YtjboohjicdmidaaDoorPi
namespace Go.Proofs.YtjboohjicdmidaaDoor
open Go.RowKit Go.Am Go.Sy
set_option linter.unusedVariables false
set_option linter.unusedSimpArgs false

theorem pc_e (x : Int) : Go.Sy.Tree.holds (entryX F (lookC []) 400 Tryd.f38 b38 ⟨[], .R 0, [.rows 2 (pieceL x) false 0]⟩ [.i .i64 x]) = ( ((IntKind.i64.wrap ((IntKind.u64.wrap x).tmod 13) == 0) = true → [Instr.mk (12 :
 Int) (IntKind.i64.wrap ((IntKind.u64.wrap (IntKind.i64.wrap ((IntKind.u64.wrap ((IntKind.u64.wrap x).tdiv 13)).tmod 1073741824))).tmod 4)) (0 : Int) (0 : Int) (0 : Int)] = pieceL x ∧ True) ∧ ((IntKind.i64.wrap
 ((IntKind.u64.wrap x).tmod 13) == 0) = false → ((IntKind.i64.wrap ((IntKind.u64.wrap x).tmod 13) == 1) = true → [Instr.mk (1 : Int) (2 : Int) (0 : Int) (0 : Int) (IntKind.i64.wrap (IntKind.i64.wrap ((IntKind.u64.wrap
 (IntKind.i64.wrap ((IntKind.u64.wrap ((IntKind.u64.wrap x).tdiv 13)).tmod 1073741824))).tmod 9) - 4))] = pieceL x ∧ True) ∧ ((IntKind.i64.wrap ((IntKind.u64.wrap x).tmod 13) == 1) = false → ((IntKind.i64.wrap
 ((IntKind.u64.wrap x).tmod 13) == 2) = true → [Instr.mk (13 : Int) (IntKind.i64.wrap ((IntKind.u64.wrap (IntKind.i64.wrap ((IntKind.u64.wrap ((IntKind.u64.wrap x).tdiv 13)).tmod 1073741824))).tmod 3)) (0 : Int) (0 : Int)
 (0 : Int), Instr.mk (8 : Int) (2 : Int) (0 : Int) (0 : Int) (IntKind.i64.wrap (IntKind.i64.wrap ((3 : Int) * IntKind.i64.wrap ((IntKind.u64.wrap (IntKind.i64.wrap ((IntKind.u64.wrap ((IntKind.u64.wrap x).tdiv 13)).tmod
 1073741824))).tmod 3)) + IntKind.i64.wrap ((IntKind.u64.wrap (IntKind.i64.wrap ((IntKind.i64.wrap ((IntKind.u64.wrap ((IntKind.u64.wrap x).tdiv 13)).tmod 1073741824)).tdiv 3))).tmod 3))), Instr.mk (2 : Int) (2 : Int) (2
 : Int) (1 : Int) (0 : Int), Instr.mk (9 : Int) (2 : Int) (0 : Int) (0 : Int) (IntKind.i64.wrap (IntKind.i64.wrap ((3 : Int) * IntKind.i64.wrap ((IntKind.u64.wrap (IntKind.i64.wrap ((IntKind.u64.wrap ((IntKind.u64.wrap
 x).tdiv 13)).tmod 1073741824))).tmod 3)) + IntKind.i64.wrap ((IntKind.u64.wrap (IntKind.i64.wrap ((IntKind.i64.wrap ((IntKind.u64.wrap ((IntKind.u64.wrap x).tdiv 13)).tmod 1073741824)).tdiv 3))).tmod 3))), Instr.mk (14 :
 Int) (0 : Int) (0 : Int) (0 : Int) (0 : Int)] = pieceL x ∧ True) ∧ ((IntKind.i64.wrap ((IntKind.u64.wrap x).tmod 13) == 2) = false → ((IntKind.i64.wrap ((IntKind.u64.wrap x).tmod 13) == 3) = true → [Instr.mk (13 : Int)
 (IntKind.i64.wrap ((IntKind.u64.wrap (IntKind.i64.wrap ((IntKind.u64.wrap ((IntKind.u64.wrap x).tdiv 13)).tmod 1073741824))).tmod 3)) (0 : Int) (0 : Int) (0 : Int), Instr.mk (8 : Int) (2 : Int) (0 : Int) (0 : Int)
 (IntKind.i64.wrap (IntKind.i64.wrap ((3 : Int) * IntKind.i64.wrap ((IntKind.u64.wrap (IntKind.i64.wrap ((IntKind.u64.wrap ((IntKind.u64.wrap x).tdiv 13)).tmod 1073741824))).tmod 3)) + IntKind.i64.wrap ((IntKind.u64.wrap
 (IntKind.i64.wrap ((IntKind.i64.wrap ((IntKind.u64.wrap ((IntKind.u64.wrap x).tdiv 13)).tmod 1073741824)).tdiv 3))).tmod 3))), Instr.mk (8 : Int) (3 : Int) (0 : Int) (0 : Int) (IntKind.i64.wrap (IntKind.i64.wrap ((3 :
 Int) * IntKind.i64.wrap ((IntKind.u64.wrap (IntKind.i64.wrap ((IntKind.u64.wrap ((IntKind.u64.wrap x).tdiv 13)).tmod 1073741824))).tmod 3)) + IntKind.i64.wrap ((IntKind.u64.wrap (IntKind.i64.wrap ((IntKind.i64.wrap
 ((IntKind.u64.wrap ((IntKind.u64.wrap x).tdiv 13)).tmod 1073741824)).tdiv 9))).tmod 3))), Instr.mk (9 : Int) (3 : Int) (0 : Int) (0 : Int) (IntKind.i64.wrap (IntKind.i64.wrap ((3 : Int) * IntKind.i64.wrap
 ((IntKind.u64.wrap (IntKind.i64.wrap ((IntKind.u64.wrap ((IntKind.u64.wrap x).tdiv 13)).tmod 1073741824))).tmod 3)) + IntKind.i64.wrap ((IntKind.u64.wrap (IntKind.i64.wrap ((IntKind.i64.wrap ((IntKind.u64.wrap
 ((IntKind.u64.wrap x).tdiv 13)).tmod 1073741824)).tdiv 3))).tmod 3))), Instr.mk (9 : Int) (2 : Int) (0 : Int) (0 : Int) (IntKind.i64.wrap (IntKind.i64.wrap ((3 : Int) * IntKind.i64.wrap ((IntKind.u64.wrap
 (IntKind.i64.wrap ((IntKind.u64.wrap ((IntKind.u64.wrap x).tdiv 13)).tmod 1073741824))).tmod 3)) + IntKind.i64.wrap ((IntKind.u64.wrap (IntKind.i64.wrap ((IntKind.i64.wrap ((IntKind.u64.wrap ((IntKind.u64.wrap x).tdiv
 13)).tmod 1073741824)).tdiv 9))).tmod 3))), Instr.mk (14 : Int) (0 : Int) (0 : Int) (0 : Int) (0 : Int)] = pieceL x ∧ True) ∧ ((IntKind.i64.wrap ((IntKind.u64.wrap x).tmod 13) == 3) = false → ((IntKind.i64.wrap
 ((IntKind.u64.wrap x).tmod 13) == 4) = true → IntKind.u64.wrap (IntKind.i64.wrap ((2 : Int) - IntKind.i64.wrap ((IntKind.u64.wrap (IntKind.i64.wrap ((IntKind.u64.wrap ((IntKind.u64.wrap x).tdiv 13)).tmod
 1073741824))).tmod 2))) ≠ (0 : Int) ∧ [Instr.mk (13 : Int) (IntKind.i64.wrap ((IntKind.u64.wrap (IntKind.i64.wrap ((IntKind.u64.wrap ((IntKind.u64.wrap x).tdiv 13)).tmod 1073741824))).tmod 2)) (0 : Int) (0 : Int) (0 :
 Int), Instr.mk (8 : Int) (2 : Int) (0 : Int) (0 : Int) (IntKind.i64.wrap (IntKind.i64.wrap ((3 : Int) * IntKind.i64.wrap ((IntKind.u64.wrap (IntKind.i64.wrap ((IntKind.u64.wrap ((IntKind.u64.wrap x).tdiv 13)).tmod
 1073741824))).tmod 2)) + IntKind.i64.wrap ((IntKind.u64.wrap (IntKind.i64.wrap ((IntKind.i64.wrap ((IntKind.u64.wrap ((IntKind.u64.wrap x).tdiv 13)).tmod 1073741824)).tdiv 3))).tmod 3))), Instr.mk (13 : Int)
 (IntKind.i64.wrap (IntKind.i64.wrap (IntKind.i64.wrap ((IntKind.u64.wrap (IntKind.i64.wrap ((IntKind.u64.wrap ((IntKind.u64.wrap x).tdiv 13)).tmod 1073741824))).tmod 2) + 1) + IntKind.i64.wrap ((IntKind.u64.wrap
 (IntKind.i64.wrap ((IntKind.i64.wrap ((IntKind.u64.wrap ((IntKind.u64.wrap x).tdiv 13)).tmod 1073741824)).tdiv 2))).tmod (IntKind.u64.wrap (IntKind.i64.wrap ((2 : Int) - IntKind.i64.wrap ((IntKind.u64.wrap
 (IntKind.i64.wrap ((IntKind.u64.wrap ((IntKind.u64.wrap x).tdiv 13)).tmod 1073741824))).tmod 2))))))) (0 : Int) (0 : Int) (0 : Int), Instr.mk (8 : Int) (3 : Int) (0 : Int) (0 : Int) (IntKind.i64.wrap (IntKind.i64.wrap
 ((3 : Int) * IntKind.i64.wrap (IntKind.i64.wrap (IntKind.i64.wrap ((IntKind.u64.wrap (IntKind.i64.wrap ((IntKind.u64.wrap ((IntKind.u64.wrap x).tdiv 13)).tmod 1073741824))).tmod 2) + 1) + IntKind.i64.wrap
 ((IntKind.u64.wrap (IntKind.i64.wrap ((IntKind.i64.wrap ((IntKind.u64.wrap ((IntKind.u64.wrap x).tdiv 13)).tmod 1073741824)).tdiv 2))).tmod (IntKind.u64.wrap (IntKind.i64.wrap ((2 : Int) - IntKind.i64.wrap
 ((IntKind.u64.wrap (IntKind.i64.wrap ((IntKind.u64.wrap ((IntKind.u64.wrap x).tdiv 13)).tmod 1073741824))).tmod 2))))))) + IntKind.i64.wrap ((IntKind.u64.wrap (IntKind.i64.wrap ((IntKind.i64.wrap ((IntKind.u64.wrap
 ((IntKind.u64.wrap x).tdiv 13)).tmod 1073741824)).tdiv 9))).tmod 3))), Instr.mk (2 : Int) (2 : Int) (2 : Int) (1 : Int) (0 : Int), Instr.mk (9 : Int) (2 : Int) (0 : Int) (0 : Int) (IntKind.i64.wrap (IntKind.i64.wrap ((3
 : Int) * IntKind.i64.wrap (IntKind.i64.wrap (IntKind.i64.wrap ((IntKind.u64.wrap (IntKind.i64.wrap ((IntKind.u64.wrap ((IntKind.u64.wrap x).tdiv 13)).tmod 1073741824))).tmod 2) + 1) + IntKind.i64.wrap ((IntKind.u64.wrap
 (IntKind.i64.wrap ((IntKind.i64.wrap ((IntKind.u64.wrap ((IntKind.u64.wrap x).tdiv 13)).tmod 1073741824)).tdiv 2))).tmod (IntKind.u64.wrap (IntKind.i64.wrap ((2 : Int) - IntKind.i64.wrap ((IntKind.u64.wrap
 (IntKind.i64.wrap ((IntKind.u64.wrap ((IntKind.u64.wrap x).tdiv 13)).tmod 1073741824))).tmod 2))))))) + IntKind.i64.wrap ((IntKind.u64.wrap (IntKind.i64.wrap ((IntKind.i64.wrap ((IntKind.u64.wrap ((IntKind.u64.wrap
 x).tdiv 13)).tmod 1073741824)).tdiv 9))).tmod 3))), Instr.mk (14 : Int) (0 : Int) (0 : Int) (0 : Int) (0 : Int), Instr.mk (2 : Int) (3 : Int) (3 : Int) (1 : Int) (0 : Int), Instr.mk (9 : Int) (3 : Int) (0 : Int) (0 :
 Int) (IntKind.i64.wrap (IntKind.i64.wrap ((3 : Int) * IntKind.i64.wrap ((IntKind.u64.wrap (IntKind.i64.wrap ((IntKind.u64.wrap ((IntKind.u64.wrap x).tdiv 13)).tmod 1073741824))).tmod 2)) + IntKind.i64.wrap
 ((IntKind.u64.wrap (IntKind.i64.wrap ((IntKind.i64.wrap ((IntKind.u64.wrap ((IntKind.u64.wrap x).tdiv 13)).tmod 1073741824)).tdiv 27))).tmod 3))), Instr.mk (14 : Int) (0 : Int) (0 : Int) (0 : Int) (0 : Int)] = pieceL x ∧
 True) ∧ ((IntKind.i64.wrap ((IntKind.u64.wrap x).tmod 13) == 4) = false → ((IntKind.i64.wrap ((IntKind.u64.wrap x).tmod 13) == 5) = true → [Instr.mk (13 : Int) (2 : Int) (1 : Int) (0 : Int) (0 : Int), Instr.mk (8 : Int)
 (2 : Int) (0 : Int) (0 : Int) (IntKind.i64.wrap ((6 : Int) + IntKind.i64.wrap ((IntKind.u64.wrap (IntKind.i64.wrap ((IntKind.u64.wrap ((IntKind.u64.wrap x).tdiv 13)).tmod 1073741824))).tmod 3))), Instr.mk (8 : Int) (3 :
 Int) (0 : Int) (0 : Int) (IntKind.i64.wrap ((6 : Int) + IntKind.i64.wrap ((IntKind.u64.wrap (IntKind.i64.wrap ((IntKind.i64.wrap ((IntKind.u64.wrap ((IntKind.u64.wrap x).tdiv 13)).tmod 1073741824)).tdiv 3))).tmod 3))),
 Instr.mk (14 : Int) (0 : Int) (0 : Int) (0 : Int) (0 : Int), Instr.mk (12 : Int) (2 : Int) (0 : Int) (0 : Int) (0 : Int), Instr.mk (12 : Int) (3 : Int) (0 : Int) (0 : Int) (0 : Int)] = pieceL x ∧ True) ∧
 ((IntKind.i64.wrap ((IntKind.u64.wrap x).tmod 13) == 5) = false → ((IntKind.i64.wrap ((IntKind.u64.wrap x).tmod 13) == 6) = true → [Instr.mk (13 : Int) (IntKind.i64.wrap ((IntKind.u64.wrap (IntKind.i64.wrap
 ((IntKind.u64.wrap ((IntKind.u64.wrap x).tdiv 13)).tmod 1073741824))).tmod 3)) (0 : Int) (0 : Int) (0 : Int), Instr.mk (10 : Int) (0 : Int) (0 : Int) (0 : Int) (IntKind.i64.wrap (IntKind.i64.wrap ((3 : Int) *
 IntKind.i64.wrap ((IntKind.u64.wrap (IntKind.i64.wrap ((IntKind.u64.wrap ((IntKind.u64.wrap x).tdiv 13)).tmod 1073741824))).tmod 3)) + IntKind.i64.wrap ((IntKind.u64.wrap (IntKind.i64.wrap ((IntKind.i64.wrap
 ((IntKind.u64.wrap ((IntKind.u64.wrap x).tdiv 13)).tmod 1073741824)).tdiv 3))).tmod 3))), Instr.mk (14 : Int) (0 : Int) (0 : Int) (0 : Int) (0 : Int), Instr.mk (8 : Int) (2 : Int) (0 : Int) (0 : Int) (IntKind.i64.wrap
 (IntKind.i64.wrap ((3 : Int) * IntKind.i64.wrap ((IntKind.u64.wrap (IntKind.i64.wrap ((IntKind.u64.wrap ((IntKind.u64.wrap x).tdiv 13)).tmod 1073741824))).tmod 3)) + IntKind.i64.wrap ((IntKind.u64.wrap (IntKind.i64.wrap
 ((IntKind.i64.wrap ((IntKind.u64.wrap ((IntKind.u64.wrap x).tdiv 13)).tmod 1073741824)).tdiv 3))).tmod 3))), Instr.mk (2 : Int) (2 : Int) (2 : Int) (1 : Int) (0 : Int), Instr.mk (9 : Int) (2 : Int) (0 : Int) (0 : Int)
 (IntKind.i64.wrap (IntKind.i64.wrap ((3 : Int) * IntKind.i64.wrap ((IntKind.u64.wrap (IntKind.i64.wrap ((IntKind.u64.wrap ((IntKind.u64.wrap x).tdiv 13)).tmod 1073741824))).tmod 3)) + IntKind.i64.wrap ((IntKind.u64.wrap
 (IntKind.i64.wrap ((IntKind.i64.wrap ((IntKind.u64.wrap ((IntKind.u64.wrap x).tdiv 13)).tmod 1073741824)).tdiv 3))).tmod 3))), Instr.mk (13 : Int) (IntKind.i64.wrap ((IntKind.u64.wrap (IntKind.i64.wrap ((IntKind.u64.wrap
 ((IntKind.u64.wrap x).tdiv 13)).tmod 1073741824))).tmod 3)) (0 : Int) (0 : Int) (0 : Int), Instr.mk (11 : Int) (0 : Int) (0 : Int) (0 : Int) (IntKind.i64.wrap (IntKind.i64.wrap ((3 : Int) * IntKind.i64.wrap
 ((IntKind.u64.wrap (IntKind.i64.wrap ((IntKind.u64.wrap ((IntKind.u64.wrap x).tdiv 13)).tmod 1073741824))).tmod 3)) + IntKind.i64.wrap ((IntKind.u64.wrap (IntKind.i64.wrap ((IntKind.i64.wrap ((IntKind.u64.wrap
 ((IntKind.u64.wrap x).tdiv 13)).tmod 1073741824)).tdiv 3))).tmod 3))), Instr.mk (14 : Int) (0 : Int) (0 : Int) (0 : Int) (0 : Int)] = pieceL x ∧ True) ∧ ((IntKind.i64.wrap ((IntKind.u64.wrap x).tmod 13) == 6) = false →
 ((IntKind.i64.wrap ((IntKind.u64.wrap x).tmod 13) == 7) = true → [Instr.mk (13 : Int) (IntKind.i64.wrap ((IntKind.u64.wrap (IntKind.i64.wrap ((IntKind.u64.wrap ((IntKind.u64.wrap x).tdiv 13)).tmod 1073741824))).tmod 3))
 (0 : Int) (0 : Int) (0 : Int), Instr.mk (8 : Int) (2 : Int) (0 : Int) (0 : Int) (IntKind.i64.wrap (IntKind.i64.wrap ((3 : Int) * IntKind.i64.wrap ((IntKind.u64.wrap (IntKind.i64.wrap ((IntKind.u64.wrap ((IntKind.u64.wrap
 x).tdiv 13)).tmod 1073741824))).tmod 3)) + IntKind.i64.wrap ((IntKind.u64.wrap (IntKind.i64.wrap ((IntKind.i64.wrap ((IntKind.u64.wrap ((IntKind.u64.wrap x).tdiv 13)).tmod 1073741824)).tdiv 3))).tmod 3))), Instr.mk (18 :
 Int) (2 : Int) (0 : Int) (0 : Int) (0 : Int), Instr.mk (19 : Int) (0 : Int) (0 : Int) (0 : Int) (0 : Int), Instr.mk (15 : Int) (IntKind.i64.wrap ((IntKind.u64.wrap (IntKind.i64.wrap ((IntKind.u64.wrap ((IntKind.u64.wrap
 x).tdiv 13)).tmod 1073741824))).tmod 3)) (0 : Int) (0 : Int) (0 : Int), Instr.mk (20 : Int) (0 : Int) (0 : Int) (0 : Int) (0 : Int), Instr.mk (8 : Int) (3 : Int) (0 : Int) (0 : Int) (IntKind.i64.wrap (IntKind.i64.wrap
 ((3 : Int) * IntKind.i64.wrap ((IntKind.u64.wrap (IntKind.i64.wrap ((IntKind.u64.wrap ((IntKind.u64.wrap x).tdiv 13)).tmod 1073741824))).tmod 3)) + IntKind.i64.wrap ((IntKind.u64.wrap (IntKind.i64.wrap ((IntKind.i64.wrap
 ((IntKind.u64.wrap ((IntKind.u64.wrap x).tdiv 13)).tmod 1073741824)).tdiv 3))).tmod 3))), Instr.mk (14 : Int) (0 : Int) (0 : Int) (0 : Int) (0 : Int)] = pieceL x ∧ True) ∧ ((IntKind.i64.wrap ((IntKind.u64.wrap x).tmod
 13) == 7) = false → ((IntKind.i64.wrap ((IntKind.u64.wrap x).tmod 13) == 8) = true → [Instr.mk (13 : Int) (IntKind.i64.wrap ((IntKind.u64.wrap (IntKind.i64.wrap ((IntKind.u64.wrap ((IntKind.u64.wrap x).tdiv 13)).tmod
 1073741824))).tmod 3)) (0 : Int) (0 : Int) (0 : Int), Instr.mk (8 : Int) (2 : Int) (0 : Int) (0 : Int) (IntKind.i64.wrap (IntKind.i64.wrap ((3 : Int) * IntKind.i64.wrap ((IntKind.u64.wrap (IntKind.i64.wrap
 ((IntKind.u64.wrap ((IntKind.u64.wrap x).tdiv 13)).tmod 1073741824))).tmod 3)) + IntKind.i64.wrap ((IntKind.u64.wrap (IntKind.i64.wrap ((IntKind.i64.wrap ((IntKind.u64.wrap ((IntKind.u64.wrap x).tdiv 13)).tmod
 1073741824)).tdiv 3))).tmod 3))), Instr.mk (2 : Int) (2 : Int) (2 : Int) (1 : Int) (0 : Int), Instr.mk (9 : Int) (2 : Int) (0 : Int) (0 : Int) (IntKind.i64.wrap (IntKind.i64.wrap ((3 : Int) * IntKind.i64.wrap
 ((IntKind.u64.wrap (IntKind.i64.wrap ((IntKind.u64.wrap ((IntKind.u64.wrap x).tdiv 13)).tmod 1073741824))).tmod 3)) + IntKind.i64.wrap ((IntKind.u64.wrap (IntKind.i64.wrap ((IntKind.i64.wrap ((IntKind.u64.wrap
 ((IntKind.u64.wrap x).tdiv 13)).tmod 1073741824)).tdiv 3))).tmod 3))), Instr.mk (16 : Int) (IntKind.i64.wrap ((IntKind.u64.wrap (IntKind.i64.wrap ((IntKind.u64.wrap ((IntKind.u64.wrap x).tdiv 13)).tmod 1073741824))).tmod
 3)) (0 : Int) (0 : Int) (0 : Int), Instr.mk (14 : Int) (0 : Int) (0 : Int) (0 : Int) (0 : Int)] = pieceL x ∧ True) ∧ ((IntKind.i64.wrap ((IntKind.u64.wrap x).tmod 13) == 8) = false → ((IntKind.i64.wrap ((IntKind.u64.wrap
 x).tmod 13) == 9) = true → [Instr.mk (13 : Int) (IntKind.i64.wrap ((IntKind.u64.wrap (IntKind.i64.wrap ((IntKind.u64.wrap ((IntKind.u64.wrap x).tdiv 13)).tmod 1073741824))).tmod 3)) (0 : Int) (0 : Int) (0 : Int),
 Instr.mk (8 : Int) (2 : Int) (0 : Int) (0 : Int) (IntKind.i64.wrap (IntKind.i64.wrap ((3 : Int) * IntKind.i64.wrap ((IntKind.u64.wrap (IntKind.i64.wrap ((IntKind.u64.wrap ((IntKind.u64.wrap x).tdiv 13)).tmod
 1073741824))).tmod 3)) + IntKind.i64.wrap ((IntKind.u64.wrap (IntKind.i64.wrap ((IntKind.i64.wrap ((IntKind.u64.wrap ((IntKind.u64.wrap x).tdiv 13)).tmod 1073741824)).tdiv 3))).tmod 3))), Instr.mk (2 : Int) (2 : Int) (2
 : Int) (1 : Int) (0 : Int), Instr.mk (9 : Int) (2 : Int) (0 : Int) (0 : Int) (IntKind.i64.wrap (IntKind.i64.wrap ((3 : Int) * IntKind.i64.wrap ((IntKind.u64.wrap (IntKind.i64.wrap ((IntKind.u64.wrap ((IntKind.u64.wrap
 x).tdiv 13)).tmod 1073741824))).tmod 3)) + IntKind.i64.wrap ((IntKind.u64.wrap (IntKind.i64.wrap ((IntKind.i64.wrap ((IntKind.u64.wrap ((IntKind.u64.wrap x).tdiv 13)).tmod 1073741824)).tdiv 3))).tmod 3))), Instr.mk (17 :
 Int) (IntKind.i64.wrap ((IntKind.u64.wrap (IntKind.i64.wrap ((IntKind.u64.wrap ((IntKind.u64.wrap x).tdiv 13)).tmod 1073741824))).tmod 3)) (0 : Int) (0 : Int) (0 : Int), Instr.mk (14 : Int) (0 : Int) (0 : Int) (0 : Int)
 (0 : Int)] = pieceL x ∧ True) ∧ ((IntKind.i64.wrap ((IntKind.u64.wrap x).tmod 13) == 9) = false → ((IntKind.i64.wrap ((IntKind.u64.wrap x).tmod 13) == 10) = true → [Instr.mk (13 : Int) (IntKind.i64.wrap
 ((IntKind.u64.wrap (IntKind.i64.wrap ((IntKind.u64.wrap ((IntKind.u64.wrap x).tdiv 13)).tmod 1073741824))).tmod 3)) (0 : Int) (0 : Int) (0 : Int), Instr.mk (8 : Int) (2 : Int) (0 : Int) (0 : Int) (IntKind.i64.wrap
 (IntKind.i64.wrap ((3 : Int) * IntKind.i64.wrap ((IntKind.u64.wrap (IntKind.i64.wrap ((IntKind.u64.wrap ((IntKind.u64.wrap x).tdiv 13)).tmod 1073741824))).tmod 3)) + IntKind.i64.wrap ((IntKind.u64.wrap (IntKind.i64.wrap
 ((IntKind.i64.wrap ((IntKind.u64.wrap ((IntKind.u64.wrap x).tdiv 13)).tmod 1073741824)).tdiv 3))).tmod 3))), Instr.mk (8 : Int) (3 : Int) (2 : Int) (0 : Int) (IntKind.i64.wrap (IntKind.i64.wrap (IntKind.i64.wrap ((3 :
 Int) * IntKind.i64.wrap ((IntKind.u64.wrap (IntKind.i64.wrap ((IntKind.u64.wrap ((IntKind.u64.wrap x).tdiv 13)).tmod 1073741824))).tmod 3)) + IntKind.i64.wrap ((IntKind.u64.wrap (IntKind.i64.wrap ((IntKind.i64.wrap
 ((IntKind.u64.wrap ((IntKind.u64.wrap x).tdiv 13)).tmod 1073741824)).tdiv 9))).tmod 3)) - 2)), Instr.mk (14 : Int) (0 : Int) (0 : Int) (0 : Int) (0 : Int), Instr.mk (12 : Int) (3 : Int) (0 : Int) (0 : Int) (0 : Int)] =
 pieceL x ∧ True) ∧ ((IntKind.i64.wrap ((IntKind.u64.wrap x).tmod 13) == 10) = false → ((IntKind.i64.wrap ((IntKind.u64.wrap x).tmod 13) == 11) = true → [Instr.mk (1 : Int) (3 : Int) (0 : Int) (0 : Int) (IntKind.i64.wrap
 ((1 : Int) + IntKind.i64.wrap ((IntKind.u64.wrap (IntKind.i64.wrap ((IntKind.i64.wrap ((IntKind.u64.wrap ((IntKind.u64.wrap x).tdiv 13)).tmod 1073741824)).tdiv 9))).tmod 3))), Instr.mk (21 : Int) (3 : Int) (0 : Int) (0 :
 Int) (0 : Int), Instr.mk (13 : Int) (IntKind.i64.wrap ((IntKind.u64.wrap (IntKind.i64.wrap ((IntKind.u64.wrap ((IntKind.u64.wrap x).tdiv 13)).tmod 1073741824))).tmod 3)) (0 : Int) (0 : Int) (0 : Int), Instr.mk (8 : Int)
 (2 : Int) (0 : Int) (0 : Int) (IntKind.i64.wrap (IntKind.i64.wrap ((3 : Int) * IntKind.i64.wrap ((IntKind.u64.wrap (IntKind.i64.wrap ((IntKind.u64.wrap ((IntKind.u64.wrap x).tdiv 13)).tmod 1073741824))).tmod 3)) +
 IntKind.i64.wrap ((IntKind.u64.wrap (IntKind.i64.wrap ((IntKind.i64.wrap ((IntKind.u64.wrap ((IntKind.u64.wrap x).tdiv 13)).tmod 1073741824)).tdiv 3))).tmod 3))), Instr.mk (2 : Int) (2 : Int) (2 : Int) (1 : Int) (0 :
 Int), Instr.mk (9 : Int) (2 : Int) (0 : Int) (0 : Int) (IntKind.i64.wrap (IntKind.i64.wrap ((3 : Int) * IntKind.i64.wrap ((IntKind.u64.wrap (IntKind.i64.wrap ((IntKind.u64.wrap ((IntKind.u64.wrap x).tdiv 13)).tmod
 1073741824))).tmod 3)) + IntKind.i64.wrap ((IntKind.u64.wrap (IntKind.i64.wrap ((IntKind.i64.wrap ((IntKind.u64.wrap ((IntKind.u64.wrap x).tdiv 13)).tmod 1073741824)).tdiv 3))).tmod 3))), Instr.mk (14 : Int) (0 : Int) (0
 : Int) (0 : Int) (0 : Int), Instr.mk (3 : Int) (3 : Int) (3 : Int) (1 : Int) (0 : Int), Instr.mk (22 : Int) (0 : Int) (0 : Int) (0 : Int) (0 : Int)] = pieceL x ∧ True) ∧ ((IntKind.i64.wrap ((IntKind.u64.wrap x).tmod 13)
 == 11) = false → [Instr.mk (13 : Int) (IntKind.i64.wrap ((IntKind.u64.wrap (IntKind.i64.wrap ((IntKind.u64.wrap ((IntKind.u64.wrap x).tdiv 13)).tmod 1073741824))).tmod 3)) (0 : Int) (0 : Int) (0 : Int), Instr.mk (1 :
 Int) (3 : Int) (0 : Int) (0 : Int) (IntKind.i64.wrap ((1 : Int) + IntKind.i64.wrap ((IntKind.u64.wrap (IntKind.i64.wrap ((IntKind.i64.wrap ((IntKind.u64.wrap ((IntKind.u64.wrap x).tdiv 13)).tmod 1073741824)).tdiv
 9))).tmod 3))), Instr.mk (21 : Int) (3 : Int) (0 : Int) (0 : Int) (0 : Int), Instr.mk (8 : Int) (2 : Int) (0 : Int) (0 : Int) (IntKind.i64.wrap (IntKind.i64.wrap ((3 : Int) * IntKind.i64.wrap ((IntKind.u64.wrap
 (IntKind.i64.wrap ((IntKind.u64.wrap ((IntKind.u64.wrap x).tdiv 13)).tmod 1073741824))).tmod 3)) + IntKind.i64.wrap ((IntKind.u64.wrap (IntKind.i64.wrap ((IntKind.i64.wrap ((IntKind.u64.wrap ((IntKind.u64.wrap x).tdiv
 13)).tmod 1073741824)).tdiv 3))).tmod 3))), Instr.mk (2 : Int) (2 : Int) (2 : Int) (1 : Int) (0 : Int), Instr.mk (9 : Int) (2 : Int) (0 : Int) (0 : Int) (IntKind.i64.wrap (IntKind.i64.wrap ((3 : Int) * IntKind.i64.wrap
 ((IntKind.u64.wrap (IntKind.i64.wrap ((IntKind.u64.wrap ((IntKind.u64.wrap x).tdiv 13)).tmod 1073741824))).tmod 3)) + IntKind.i64.wrap ((IntKind.u64.wrap (IntKind.i64.wrap ((IntKind.i64.wrap ((IntKind.u64.wrap
 ((IntKind.u64.wrap x).tdiv 13)).tmod 1073741824)).tdiv 3))).tmod 3))), Instr.mk (3 : Int) (3 : Int) (3 : Int) (1 : Int) (0 : Int), Instr.mk (22 : Int) (0 : Int) (0 : Int) (0 : Int) (0 : Int), Instr.mk (14 : Int) (0 :
 Int) (0 : Int) (0 : Int) (0 : Int)] = pieceL x ∧ True))))))))))))) := by kernel_rfl
theorem pr_e (l : List Int) : Go.Sy.Tree.holds (entryX F (lookC h1) 400 Tryd.f23 b23 ⟨[(3, pgC l)], .R 0, [.rows 2 (progL l) true 0]⟩ [.tl (T := T) 0 l]) = ( ∃ (s : Nat × List Instr), l = l ∧ [Instr.mk (1 : Int) (1 : Int)
 (0 : Int) (0 : Int) (1 : Int)] = s.snd ∧ (0 : Int) = (↑s.fst : Int) ∧ (s.fst ≤ l.length ∧ s.snd.length ≤ 100 ∧ progGo l (l.length - s.fst) s.fst s.snd = progL l) ∧ True) := by kernel_rfl
theorem pr_3 (l : List Int) (i : Nat) (p : List Instr) : Go.Sy.Tree.holds (cutVC F (lookC h1) 400 Tryd.f23 b23 ⟨[(3, pgC l)], .R 0, [.rows 2 (progL l) true 0]⟩ 3 (pgC l) (i, p)) = ( (decide ((↑i : Int) < (↑l.length :
 Int)) = true → (decide ((↑p.length : Int) < 34) = true → ((0 : Int) ≤ (↑i : Int) ∧ (↑i : Int) < (↑l.length : Int)) ∧ True ∧ (p.length + (pieceL (at0 l (↑i : Int))).length) * 40 ≤ 140737488355328 ∧ ∃ (s : Nat × List
 Instr), l = l ∧ p ++ pieceL (at0 l (↑i : Int)) = s.snd ∧ IntKind.i64.wrap ((↑i : Int) + 1) = (↑s.fst : Int) ∧ (s.fst ≤ l.length ∧ s.snd.length ≤ 100 ∧ progGo l (l.length - s.fst) s.fst s.snd = progL l) ∧ l.length - s.fst
 < l.length - i ∧ True) ∧ (decide ((↑p.length : Int) < 34) = false → p = progL l ∧ True)) ∧ (decide ((↑i : Int) < (↑l.length : Int)) = false → p = progL l ∧ True)) := by kernel_rfl
theorem fw_e (rows : List (List Int)) (n : Int) : Go.Sy.Tree.holds (entryX F (lookC []) 400 Tryd.f15 b15 ⟨[], .b (fewB rows n), []⟩ [.tl (T := T) 5 rows, .i .i64 n]) = ( (decide ((0 : Int) < (↑rows.length : Int)) = true →
 ((0 : Int) ≤ 0 ∧ (0 : Int) < (↑rows.length : Int)) ∧ (decide ((↑(at5 rows (0 : Int)).length : Int) > n) = true → false = fewB rows n ∧ True) ∧ (decide ((↑(at5 rows (0 : Int)).length : Int) > n) = false → (decide ((1 :
 Int) < (↑rows.length : Int)) = true → ((0 : Int) ≤ 1 ∧ (1 : Int) < (↑rows.length : Int)) ∧ (decide ((↑(at5 rows (1 : Int)).length : Int) > n) = true → false = fewB rows n ∧ True) ∧ (decide ((↑(at5 rows (1 : Int)).length
 : Int) > n) = false → (decide ((2 : Int) < (↑rows.length : Int)) = true → ((0 : Int) ≤ 2 ∧ (2 : Int) < (↑rows.length : Int)) ∧ (decide ((↑(at5 rows (2 : Int)).length : Int) > n) = true → false = fewB rows n ∧ True) ∧
 (decide ((↑(at5 rows (2 : Int)).length : Int) > n) = false → (decide ((3 : Int) < (↑rows.length : Int)) = true → ((0 : Int) ≤ 3 ∧ (3 : Int) < (↑rows.length : Int)) ∧ (decide ((↑(at5 rows (3 : Int)).length : Int) > n) =
 true → false = fewB rows n ∧ True) ∧ (decide ((↑(at5 rows (3 : Int)).length : Int) > n) = false → (decide ((4 : Int) < (↑rows.length : Int)) = true → ((0 : Int) ≤ 4 ∧ (4 : Int) < (↑rows.length : Int)) ∧ (decide ((↑(at5
 rows (4 : Int)).length : Int) > n) = true → false = fewB rows n ∧ True) ∧ (decide ((↑(at5 rows (4 : Int)).length : Int) > n) = false → (decide ((5 : Int) < (↑rows.length : Int)) = true → decide ((↑rows.length : Int) ≤ 4)
 = fewB rows n ∧ True) ∧ (decide ((5 : Int) < (↑rows.length : Int)) = false → decide ((↑rows.length : Int) ≤ 4) = fewB rows n ∧ True))) ∧ (decide ((4 : Int) < (↑rows.length : Int)) = false → decide ((↑rows.length : Int) ≤
 4) = fewB rows n ∧ True))) ∧ (decide ((3 : Int) < (↑rows.length : Int)) = false → decide ((↑rows.length : Int) ≤ 4) = fewB rows n ∧ True))) ∧ (decide ((2 : Int) < (↑rows.length : Int)) = false → decide ((↑rows.length :
 Int) ≤ 4) = fewB rows n ∧ True))) ∧ (decide ((1 : Int) < (↑rows.length : Int)) = false → decide ((↑rows.length : Int) ≤ 4) = fewB rows n ∧ True))) ∧ (decide ((0 : Int) < (↑rows.length : Int)) = false → decide
 ((↑rows.length : Int) ≤ 4) = fewB rows n ∧ True)) := by kernel_rfl

theorem u64_is (n : Int) : 0 ≤ IntKind.u64.wrap n ∧ IntKind.u64.wrap n < 18446744073709551616 := by
  have e : IntKind.u64.wrap n = n % 18446744073709551616 := rfl
  rw [e]
  omega
theorem pk_is (n m : Int) (hm : 0 < m) (hb : m ≤ 1000000) : 0 ≤ pk n m ∧ pk n m < m := by
  have hn := u64_is n
  have e : (IntKind.u64.wrap n).tmod m = IntKind.u64.wrap n % m := Int.tmod_eq_emod_of_nonneg hn.1
  have h1 := Int.emod_nonneg (IntKind.u64.wrap n) (show m ≠ 0 by omega)
  have h2 := Int.emod_lt_of_pos (IntKind.u64.wrap n) hm
  unfold pk
  rw [e, wrap64 (by omega) (by omega)]
  exact ⟨h1, h2⟩
theorem u64_id {n : Int} (h0 : 0 ≤ n) (h1 : n ≤ 9223372036854775807) : IntKind.u64.wrap n = n := by
  have e : IntKind.u64.wrap n = n % 18446744073709551616 := rfl
  rw [e]
  omega
theorem two_less (y : Int) : IntKind.u64.wrap (IntKind.i64.wrap (2 - pk y 2)) = 2 - pk y 2 := by
  have h := pk_is y 2 (by decide) (by decide)
  rw [wrap64 (by omega) (by omega), u64_id (by omega) (by omega)]
theorem pc_e_ok (x : Int) : Paid (entryX F (lookC []) 400 Tryd.f38 b38 ⟨[], .R 0, [.rows 2 (pieceL x) false 0]⟩ [.i .i64 x]) := by
  refine ⟨?_⟩
  rw [pc_e]
  have e : ∀ k : Int, (IntKind.i64.wrap ((IntKind.u64.wrap x).tmod 13) == k) = true → pk x 13 = k := fun k h => eq_of_beq h
  have n : ∀ k : Int, (IntKind.i64.wrap ((IntKind.u64.wrap x).tmod 13) == k) = false → ¬ pk x 13 = k := fun k h => ne_of_beq_false h
  have r4 : IntKind.u64.wrap (IntKind.i64.wrap (2 - pk (qv x) 2)) ≠ 0 := by
    have h := pk_is (qv x) 2 (by decide) (by decide)
    rw [two_less]
    omega
  exact ⟨fun h => ⟨by rw [pieceL, if_pos (e 0 h)]; rfl, trivial⟩, fun h => have n0 := n 0 h; ⟨fun h => ⟨by rw [pieceL, if_neg n0, if_pos (e 1 h)]; rfl, trivial⟩, fun h => have n1 := n 1 h; ⟨fun h => ⟨by rw [pieceL, if_neg n0, if_neg n1, if_pos (e 2 h)]; rfl, trivial⟩, fun h => have n2 := n 2 h; ⟨fun h => ⟨by rw [pieceL, if_neg n0, if_neg n1, if_neg n2, if_pos (e 3 h)]; rfl, trivial⟩, fun h => have n3 := n 3 h; ⟨fun h => ⟨r4, by rw [pieceL, if_neg n0, if_neg n1, if_neg n2, if_neg n3, if_pos (e 4 h)]; rfl, trivial⟩, fun h => have n4 := n 4 h; ⟨fun h => ⟨by rw [pieceL, if_neg n0, if_neg n1, if_neg n2, if_neg n3, if_neg n4, if_pos (e 5 h)]; rfl, trivial⟩, fun h => have n5 := n 5 h; ⟨fun h => ⟨by rw [pieceL, if_neg n0, if_neg n1, if_neg n2, if_neg n3, if_neg n4, if_neg n5, if_pos (e 6 h)]; rfl, trivial⟩, fun h => have n6 := n 6 h; ⟨fun h => ⟨by rw [pieceL, if_neg n0, if_neg n1, if_neg n2, if_neg n3, if_neg n4, if_neg n5, if_neg n6, if_pos (e 7 h)]; rfl, trivial⟩, fun h => have n7 := n 7 h; ⟨fun h => ⟨by rw [pieceL, if_neg n0, if_neg n1, if_neg n2, if_neg n3, if_neg n4, if_neg n5, if_neg n6, if_neg n7, if_pos (e 8 h)]; rfl, trivial⟩, fun h => have n8 := n 8 h; ⟨fun h => ⟨by rw [pieceL, if_neg n0, if_neg n1, if_neg n2, if_neg n3, if_neg n4, if_neg n5, if_neg n6, if_neg n7, if_neg n8, if_pos (e 9 h)]; rfl, trivial⟩, fun h => have n9 := n 9 h; ⟨fun h => ⟨by rw [pieceL, if_neg n0, if_neg n1, if_neg n2, if_neg n3, if_neg n4, if_neg n5, if_neg n6, if_neg n7, if_neg n8, if_neg n9, if_pos (e 10 h)]; rfl, trivial⟩, fun h => have n10 := n 10 h; ⟨fun h => ⟨by rw [pieceL, if_neg n0, if_neg n1, if_neg n2, if_neg n3, if_neg n4, if_neg n5, if_neg n6, if_neg n7, if_neg n8, if_neg n9, if_neg n10, if_pos (e 11 h)]; rfl, trivial⟩, fun h => have n11 := n 11 h; ⟨by rw [pieceL, if_neg n0, if_neg n1, if_neg n2, if_neg n3, if_neg n4, if_neg n5, if_neg n6, if_neg n7, if_neg n8, if_neg n9, if_neg n10, if_neg n11]; rfl, trivial⟩⟩⟩⟩⟩⟩⟩⟩⟩⟩⟩⟩⟩
theorem plain2 : ∀ y : cod.T 2, (cod.enc 2 y).all plainS = true := fun y => rfl
theorem pieceOk : CtrOk1 F.S 38 (mkCtrL (C := cod) [.int .i64] (fun _ => True) 2 (fun (x : Int × Unit) => pieceL x.1)) :=
  mkCtrL_paid (fn := Tryd.f38) (body := b38) (ctr := lookC []) codOk noExt hookLow noneOk Tryd.func38 rfl rfl rfl [.int .i64] (fun _ => True) 2 (fun (x : Int × Unit) => pieceL x.1) false 0 plain2 400 (fun _ => []) (show 1 ≤ Tryd.f38.ntmps by decide) (show Tryd.f38.ntmps ≤ 512 by decide) (by kernel_rfl)
    (fun (x : Int × Unit) hp => pc_e_ok x.1) (fun x hp p hm => by cases hm)
theorem h1Ok : CtrOk F.S (lookC h1) := lookC_ok fun p h => by
  have h : p ∈ [_] := h
  rw [List.mem_singleton] at h
  subst h
  exact pieceOk

/-! ### Programs -/
theorem ite_P {P : List Instr → Prop} {c : Prop} [Decidable c] {a b : List Instr} (ha : c → P a) (hb : ¬ c → P b) : P (if c then a else b) := by
  by_cases h : c
  · rw [if_pos h]; exact ha h
  · rw [if_neg h]; exact hb h
theorem piece_len (x : Int) : (pieceL x).length ≤ 10 := by
  unfold pieceL
  repeat' (refine ite_P (P := fun l => l.length ≤ 10) (fun _ => Nat.le_of_ble_eq_true rfl) (fun _ => ?_))
  exact Nat.le_of_ble_eq_true rfl
theorem progGo_step {l : List Int} {i : Nat} {p : List Instr} (h : i < l.length) : progGo l (l.length - i) i p = if (p.length : Int) < 34 then progGo l (l.length - (i + 1)) (i + 1) (p ++ pieceL (at0 l i)) else p := by
  rw [show l.length - i = (l.length - (i + 1)) + 1 by omega]
  rfl
theorem pr_e_ok (l : List Int) : Paid (entryX F (lookC h1) 400 Tryd.f23 b23 ⟨[(3, pgC l)], .R 0, [.rows 2 (progL l) true 0]⟩ [.tl (T := T) 0 l]) := by
  refine ⟨?_⟩
  rw [pr_e]
  exact ⟨(0, [⟨1, 1, 0, 0, 1⟩]), rfl, rfl, rfl, ⟨Nat.zero_le _, by decide, rfl⟩, trivial⟩
theorem pr_3_ok (l : List Int) (i : Nat) (p : List Instr) (hl : l.length ≤ 1000) (k1 : i ≤ l.length) (k2 : p.length ≤ 100) (k3 : progGo l (l.length - i) i p = progL l) : Paid (cutVC F (lookC h1) 400 Tryd.f23 b23 ⟨[(3, pgC l)], .R 0, [.rows 2 (progL l) true 0]⟩ 3 (pgC l) (i, p)) := by
  refine ⟨?_⟩
  rw [pr_3]
  have hm : l.length ≤ 1000 := hl
  have pl := piece_len (at0 l i)
  refine ⟨fun h => ?_, fun h => ?_⟩
  · have h : i < l.length := by have := of_decide_eq_true h; omega
    rw [progGo_step h] at k3
    refine ⟨fun g => ?_, fun g => ?_⟩
    · have g : (p.length : Int) < 34 := of_decide_eq_true g
      rw [if_pos g] at k3
      refine ⟨⟨by omega, by omega⟩, trivial, by omega, (i + 1, p ++ pieceL (at0 l i)), rfl, rfl, succ64 (by omega), ⟨h, ?_, k3⟩, by show l.length - (i + 1) < l.length - i; omega, trivial⟩
      show (p ++ pieceL (at0 l i)).length ≤ 100
      rw [List.length_append]
      omega
    · rw [if_neg (of_decide_eq_false g)] at k3
      exact ⟨k3, trivial⟩
  · have h : i = l.length := by have := of_decide_eq_false h; omega
    rw [h, Nat.sub_self] at k3
    exact ⟨k3, trivial⟩
theorem buildOk : CtrOk1 F.S 23 (mkCtrL (C := cod) pgP (fun (x : List Int × Unit) => lenOk x.1) 2 (fun (x : List Int × Unit) => progL x.1)) :=
  mkCtrL_paid (fn := Tryd.f23) (body := b23) (ctr := lookC h1) codOk noExt hookLow h1Ok Tryd.func23 rfl rfl rfl pgP (fun (x : List Int × Unit) => lenOk x.1) 2 (fun (x : List Int × Unit) => progL x.1) true 0 plain2 400 (fun (x : List Int × Unit) => [(3, pgC x.1)]) (show 1 ≤ Tryd.f23.ntmps by decide) (show Tryd.f23.ntmps ≤ 512 by decide) (by kernel_rfl)
    (fun (x : List Int × Unit) hp => pr_e_ok x.1) (fun (x : List Int × Unit) hp p hm s hI => by
      simp only [List.mem_singleton] at hm
      subst hm
      exact pr_3_ok x.1 s.1 s.2 hp hI.1 hI.2.1 hI.2.2)

/-! ### Few -/
theorem few_step {rows : List (List Int)} {n : Int} {r i : Nat} (h : (i : Int) < rows.length) : fewGo rows n (r + 1) i = (if ((at5 rows i).length : Int) > n then false else fewGo rows n r (i + 1)) := if_pos h
theorem few_stop {rows : List (List Int)} {n : Int} {r i : Nat} (h : ¬ (i : Int) < rows.length) : fewGo rows n (r + 1) i = decide ((rows.length : Int) ≤ 4) := if_neg h
theorem fw_e_ok (rows : List (List Int)) (n : Int) : Paid (entryX F (lookC []) 400 Tryd.f15 b15 ⟨[], .b (fewB rows n), []⟩ [.tl (T := T) 5 rows, .i .i64 n]) := by
  refine ⟨?_⟩
  rw [fw_e]
  have q0 : fewGo rows n 5 0 = fewB rows n := rfl
  refine ⟨fun h => ?_, fun h => ⟨?_, trivial⟩⟩
  rotate_left
  · rw [few_stop (i := 0) (of_decide_eq_false h)] at q0
    exact q0
  have c0 : ((0 : Nat) : Int) < rows.length := of_decide_eq_true h
  rw [few_step (i := 0) c0] at q0
  refine ⟨⟨by decide, c0⟩, fun g => ⟨?_, trivial⟩, fun g => ?_⟩
  · exact (if_pos (of_decide_eq_true g)).symm.trans q0
  have q1 := (if_neg (of_decide_eq_false g)).symm.trans q0
  clear h g
  refine ⟨fun h => ?_, fun h => ⟨?_, trivial⟩⟩
  rotate_left
  · rw [few_stop (i := 1) (of_decide_eq_false h)] at q1
    exact q1
  have c1 : ((1 : Nat) : Int) < rows.length := of_decide_eq_true h
  rw [few_step (i := 1) c1] at q1
  refine ⟨⟨by decide, c1⟩, fun g => ⟨?_, trivial⟩, fun g => ?_⟩
  · exact (if_pos (of_decide_eq_true g)).symm.trans q1
  have q2 := (if_neg (of_decide_eq_false g)).symm.trans q1
  clear h g
  refine ⟨fun h => ?_, fun h => ⟨?_, trivial⟩⟩
  rotate_left
  · rw [few_stop (i := 2) (of_decide_eq_false h)] at q2
    exact q2
  have c2 : ((2 : Nat) : Int) < rows.length := of_decide_eq_true h
  rw [few_step (i := 2) c2] at q2
  refine ⟨⟨by decide, c2⟩, fun g => ⟨?_, trivial⟩, fun g => ?_⟩
  · exact (if_pos (of_decide_eq_true g)).symm.trans q2
  have q3 := (if_neg (of_decide_eq_false g)).symm.trans q2
  clear h g
  refine ⟨fun h => ?_, fun h => ⟨?_, trivial⟩⟩
  rotate_left
  · rw [few_stop (i := 3) (of_decide_eq_false h)] at q3
    exact q3
  have c3 : ((3 : Nat) : Int) < rows.length := of_decide_eq_true h
  rw [few_step (i := 3) c3] at q3
  refine ⟨⟨by decide, c3⟩, fun g => ⟨?_, trivial⟩, fun g => ?_⟩
  · exact (if_pos (of_decide_eq_true g)).symm.trans q3
  have q4 := (if_neg (of_decide_eq_false g)).symm.trans q3
  clear h g
  refine ⟨fun h => ?_, fun h => ⟨?_, trivial⟩⟩
  rotate_left
  · rw [few_stop (i := 4) (of_decide_eq_false h)] at q4
    exact q4
  have c4 : ((4 : Nat) : Int) < rows.length := of_decide_eq_true h
  rw [few_step (i := 4) c4] at q4
  refine ⟨⟨by decide, c4⟩, fun g => ⟨?_, trivial⟩, fun g => ?_⟩
  · exact (if_pos (of_decide_eq_true g)).symm.trans q4
  have q5 := (if_neg (of_decide_eq_false g)).symm.trans q4
  clear h g
  exact ⟨fun _ => ⟨q5, trivial⟩, fun _ => ⟨q5, trivial⟩⟩
theorem fewOk : CtrOk1 F.S 15 (mkCtr fwD) :=
  mkCtr_paid (fn := Tryd.f15) (body := b15) (ctr := lookC []) codOk noExt hookLow noneOk Tryd.func15 rfl rfl rfl fwD 400 (fun _ => []) (show 2 ≤ Tryd.f15.ntmps by decide) (show Tryd.f15.ntmps ≤ 512 by decide) (by kernel_rfl) (fun _ _ => ⟨rfl, rfl⟩)
    (fun (x : List (List Int) × Int × Unit) hp => fw_e_ok x.1 x.2.1) (fun x hp p hm => by cases hm)
end Go.Proofs.YtjboohjicdmidaaDoor

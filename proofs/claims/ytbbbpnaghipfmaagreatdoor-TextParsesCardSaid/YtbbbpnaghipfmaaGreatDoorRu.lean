/- The document's own instructions of lines, and texts: the contracts are paid. -/
import Derived.Test.YtbbbpnaghipfmaaGreatDoorRt
namespace Go.Proofs.YtbbbpnaghipfmaaGreatDoor
open Go.RowKit Go.Am Go.Sy
set_option linter.unusedVariables false
set_option linter.unusedSimpArgs false

theorem ir_e (s : List UInt8) : Go.Sy.Tree.holds (entryX F (lookC l24) 600 Tryz.f24 b24 (irF s) [.s s]) = ( s.length ≤ 20000 ∧ (((↑(wordsR s).length : Int) == 0) = true → (0 : Int) = (insR (wordsR s)).fst.op ∧ (0 : Int) =
 (insR (wordsR s)).fst.a ∧ (0 : Int) = (insR (wordsR s)).fst.b ∧ (0 : Int) = (insR (wordsR s)).fst.c ∧ (0 : Int) = (insR (wordsR s)).fst.n ∧ false = (insR (wordsR s)).snd ∧ True) ∧ (((↑(wordsR s).length : Int) == 0) =
 false → ∃ (s_1 : Nat), wordsR s = wordsR s ∧ (0 : Int) = opGo (at3 (wordsR s) (0 : Int)) s_1 ∧ AVal.int IntKind.i64 (0 : Int) = AVal.int IntKind.i64 (0 : Int) ∧ AVal.int IntKind.i64 (0 : Int) = AVal.int IntKind.i64 (0 :
 Int) ∧ AVal.int IntKind.i64 (0 : Int) = AVal.int IntKind.i64 (0 : Int) ∧ AVal.int IntKind.i64 (0 : Int) = AVal.int IntKind.i64 (0 : Int) ∧ (1 : Int) = (↑s_1 : Int) ∧ ((1 : Nat) ≤ s_1 ∧ s_1 ≤ 23 ∧ wordsR s ≠ []) ∧ True))
 := by kernel_rfl
theorem ir_6 (s : List UInt8) (k : Nat) : Go.Sy.Tree.holds (cutVC F (lookC l24) 600 Tryz.f24 b24 (irF s) 6 (irC s) k) = ( (decide ((↑k : Int) < 23) = true → ((0 : Int) ≤ (↑k : Int) ∧ (↑k : Int) < 23) ∧ ((0 : Int) ≤ 0 ∧ (0
 : Int) < (↑(wordsR s).length : Int)) ∧ ((at3 wordsL (↑k : Int) == at3 (wordsR s) (0 : Int)) = true → ∃ (s_1 : Nat), wordsR s = wordsR s ∧ (↑k : Int) = opGo (at3 (wordsR s) (0 : Int)) s_1 ∧ AVal.int IntKind.i64 (0 : Int)
 = AVal.int IntKind.i64 (0 : Int) ∧ AVal.int IntKind.i64 (0 : Int) = AVal.int IntKind.i64 (0 : Int) ∧ AVal.int IntKind.i64 (0 : Int) = AVal.int IntKind.i64 (0 : Int) ∧ AVal.int IntKind.i64 (0 : Int) = AVal.int IntKind.i64
 (0 : Int) ∧ IntKind.i64.wrap ((↑k : Int) + 1) = (↑s_1 : Int) ∧ ((1 : Nat) ≤ s_1 ∧ s_1 ≤ 23 ∧ wordsR s ≠ []) ∧ (100 : Nat) - s_1 < 100 - k ∧ True) ∧ ((at3 wordsL (↑k : Int) == at3 (wordsR s) (0 : Int)) = false → ∃ (s_1 :
 Nat), wordsR s = wordsR s ∧ opGo (at3 (wordsR s) (0 : Int)) k = opGo (at3 (wordsR s) (0 : Int)) s_1 ∧ AVal.int IntKind.i64 (0 : Int) = AVal.int IntKind.i64 (0 : Int) ∧ AVal.int IntKind.i64 (0 : Int) = AVal.int
 IntKind.i64 (0 : Int) ∧ AVal.int IntKind.i64 (0 : Int) = AVal.int IntKind.i64 (0 : Int) ∧ AVal.int IntKind.i64 (0 : Int) = AVal.int IntKind.i64 (0 : Int) ∧ IntKind.i64.wrap ((↑k : Int) + 1) = (↑s_1 : Int) ∧ ((1 : Nat) ≤
 s_1 ∧ s_1 ≤ 23 ∧ wordsR s ≠ []) ∧ (100 : Nat) - s_1 < 100 - k ∧ True)) ∧ (decide ((↑k : Int) < 23) = false → ((0 : Int) ≤ 0 ∧ (0 : Int) < (↑(wordsR s).length : Int)) ∧ ((at3 (wordsR s) (0 : Int) == [(114 : UInt8), 101,
 97, 100]) = true → ∃ (s_1 : Unit), wordsR s = wordsR s ∧ (13 : Int) = opR (at3 (wordsR s) (0 : Int)) ∧ AVal.int IntKind.i64 (0 : Int) = AVal.int IntKind.i64 (0 : Int) ∧ ((1 : Int) = if at3 (wordsR s) (0 : Int) = readW
 then (1 : Int) else (0 : Int)) ∧ AVal.int IntKind.i64 (0 : Int) = AVal.int IntKind.i64 (0 : Int) ∧ AVal.int IntKind.i64 (0 : Int) = AVal.int IntKind.i64 (0 : Int) ∧ wordsR s ≠ [] ∧ (50 : Nat) < 100 - k ∧ True) ∧ ((at3
 (wordsR s) (0 : Int) == [(114 : UInt8), 101, 97, 100]) = false → ∃ (s_1 : Unit), wordsR s = wordsR s ∧ opGo (at3 (wordsR s) (0 : Int)) k = opR (at3 (wordsR s) (0 : Int)) ∧ AVal.int IntKind.i64 (0 : Int) = AVal.int
 IntKind.i64 (0 : Int) ∧ ((0 : Int) = if at3 (wordsR s) (0 : Int) = readW then (1 : Int) else (0 : Int)) ∧ AVal.int IntKind.i64 (0 : Int) = AVal.int IntKind.i64 (0 : Int) ∧ AVal.int IntKind.i64 (0 : Int) = AVal.int
 IntKind.i64 (0 : Int) ∧ wordsR s ≠ [] ∧ (50 : Nat) < 100 - k ∧ True))) := by kernel_rfl
theorem ir_12 (s : List UInt8) : Go.Sy.Tree.holds (cutVC F (lookC l24) 600 Tryz.f24 b24 (irF s) 12 (irC12 s) ()) = ( ((opR (at3 (wordsR s) (0 : Int)) == 0) = true → (0 : Int) = (insR (wordsR s)).fst.op ∧ (0 : Int) = (insR
 (wordsR s)).fst.a ∧ (0 : Int) = (insR (wordsR s)).fst.b ∧ (0 : Int) = (insR (wordsR s)).fst.c ∧ (0 : Int) = (insR (wordsR s)).fst.n ∧ false = (insR (wordsR s)).snd ∧ True) ∧ ((opR (at3 (wordsR s) (0 : Int)) == 0) = false
 → fdD.pre (opR (at3 (wordsR s) (0 : Int)), ()) ∧ ((opR (at3 (wordsR s) (0 : Int)) == 13) = true → ∃ (b : Bool), (b = true → ∃ (s_1 : IrS), wordsR s = wordsR s ∧ opR (at3 (wordsR s) (0 : Int)) = s_1.i.op ∧ (0 : Int) =
 s_1.i.a ∧ (if at3 (wordsR s) (0 : Int) = readW then (1 : Int) else (0 : Int)) = s_1.i.b ∧ (0 : Int) = s_1.i.c ∧ (0 : Int) = s_1.i.n ∧ shA (opR (at3 (wordsR s) (0 : Int))) = shA (opR (at3 (wordsR s) (0 : Int))) ∧ (0 :
 Int) = bS (opR (at3 (wordsR s) (0 : Int))) ∧ shC (opR (at3 (wordsR s) (0 : Int))) = shC (opR (at3 (wordsR s) (0 : Int))) ∧ (shN (opR (at3 (wordsR s) (0 : Int))) == 5) = (shN (opR (at3 (wordsR s) (0 : Int))) == 5) ∧ (1 :
 Int) = (↑s_1.t : Int) ∧ constA (Value.int IntKind.i64 (0 : Int)) = AVal.int IntKind.i64 (0 : Int) ∧ irI s (0 : Nat) s_1 ∧ (10 : Nat) < 50 ∧ True) ∧ (b = false → ∃ (b : Bool), (b = true → ∃ (s_1 : IrS), wordsR s = wordsR
 s ∧ opR (at3 (wordsR s) (0 : Int)) = s_1.i.op ∧ (0 : Int) = s_1.i.a ∧ (if at3 (wordsR s) (0 : Int) = readW then (1 : Int) else (0 : Int)) = s_1.i.b ∧ (0 : Int) = s_1.i.c ∧ (0 : Int) = s_1.i.n ∧ shA (opR (at3 (wordsR s)
 (0 : Int))) = shA (opR (at3 (wordsR s) (0 : Int))) ∧ (0 : Int) = bS (opR (at3 (wordsR s) (0 : Int))) ∧ shC (opR (at3 (wordsR s) (0 : Int))) = shC (opR (at3 (wordsR s) (0 : Int))) ∧ (shN (opR (at3 (wordsR s) (0 : Int)))
 == 5) = (shN (opR (at3 (wordsR s) (0 : Int))) == 5) ∧ (1 : Int) = (↑s_1.t : Int) ∧ constA (Value.int IntKind.i64 (0 : Int)) = AVal.int IntKind.i64 (1 : Int) ∧ irI s (1 : Nat) s_1 ∧ (9 : Nat) < 50 ∧ True) ∧ (b = false → ∃
 (b : Bool), (b = true → ∃ (s_1 : IrS), wordsR s = wordsR s ∧ opR (at3 (wordsR s) (0 : Int)) = s_1.i.op ∧ (0 : Int) = s_1.i.a ∧ (if at3 (wordsR s) (0 : Int) = readW then (1 : Int) else (0 : Int)) = s_1.i.b ∧ (0 : Int) =
 s_1.i.c ∧ (0 : Int) = s_1.i.n ∧ shA (opR (at3 (wordsR s) (0 : Int))) = shA (opR (at3 (wordsR s) (0 : Int))) ∧ (0 : Int) = bS (opR (at3 (wordsR s) (0 : Int))) ∧ shC (opR (at3 (wordsR s) (0 : Int))) = shC (opR (at3 (wordsR
 s) (0 : Int))) ∧ (shN (opR (at3 (wordsR s) (0 : Int))) == 5) = (shN (opR (at3 (wordsR s) (0 : Int))) == 5) ∧ (1 : Int) = (↑s_1.t : Int) ∧ constA (Value.int IntKind.i64 (0 : Int)) = AVal.int IntKind.i64 (2 : Int) ∧ irI s
 (2 : Nat) s_1 ∧ (8 : Nat) < 50 ∧ True) ∧ (b = false → ∃ (s_1 : IrS), wordsR s = wordsR s ∧ opR (at3 (wordsR s) (0 : Int)) = s_1.i.op ∧ (0 : Int) = s_1.i.a ∧ (if at3 (wordsR s) (0 : Int) = readW then (1 : Int) else (0 :
 Int)) = s_1.i.b ∧ (0 : Int) = s_1.i.c ∧ (0 : Int) = s_1.i.n ∧ shA (opR (at3 (wordsR s) (0 : Int))) = shA (opR (at3 (wordsR s) (0 : Int))) ∧ (0 : Int) = bS (opR (at3 (wordsR s) (0 : Int))) ∧ shC (opR (at3 (wordsR s) (0 :
 Int))) = shC (opR (at3 (wordsR s) (0 : Int))) ∧ (shN (opR (at3 (wordsR s) (0 : Int))) == 5) = (shN (opR (at3 (wordsR s) (0 : Int))) == 5) ∧ (1 : Int) = (↑s_1.t : Int) ∧ constA (Value.int IntKind.i64 (0 : Int)) = AVal.int
 IntKind.i64 (3 : Int) ∧ irI s (3 : Nat) s_1 ∧ (7 : Nat) < 50 ∧ True)))) ∧ ((opR (at3 (wordsR s) (0 : Int)) == 13) = false → ∃ (b : Bool), (b = true → ∃ (s_1 : IrS), wordsR s = wordsR s ∧ opR (at3 (wordsR s) (0 : Int)) =
 s_1.i.op ∧ (0 : Int) = s_1.i.a ∧ (if at3 (wordsR s) (0 : Int) = readW then (1 : Int) else (0 : Int)) = s_1.i.b ∧ (0 : Int) = s_1.i.c ∧ (0 : Int) = s_1.i.n ∧ shA (opR (at3 (wordsR s) (0 : Int))) = shA (opR (at3 (wordsR s)
 (0 : Int))) ∧ shB (opR (at3 (wordsR s) (0 : Int))) = bS (opR (at3 (wordsR s) (0 : Int))) ∧ shC (opR (at3 (wordsR s) (0 : Int))) = shC (opR (at3 (wordsR s) (0 : Int))) ∧ (shN (opR (at3 (wordsR s) (0 : Int))) == 5) = (shN
 (opR (at3 (wordsR s) (0 : Int))) == 5) ∧ (1 : Int) = (↑s_1.t : Int) ∧ constA (Value.int IntKind.i64 (0 : Int)) = AVal.int IntKind.i64 (0 : Int) ∧ irI s (0 : Nat) s_1 ∧ (10 : Nat) < 50 ∧ True) ∧ (b = false → ∃ (b : Bool),
 (b = true → ∃ (s_1 : IrS), wordsR s = wordsR s ∧ opR (at3 (wordsR s) (0 : Int)) = s_1.i.op ∧ (0 : Int) = s_1.i.a ∧ (if at3 (wordsR s) (0 : Int) = readW then (1 : Int) else (0 : Int)) = s_1.i.b ∧ (0 : Int) = s_1.i.c ∧ (0
 : Int) = s_1.i.n ∧ shA (opR (at3 (wordsR s) (0 : Int))) = shA (opR (at3 (wordsR s) (0 : Int))) ∧ shB (opR (at3 (wordsR s) (0 : Int))) = bS (opR (at3 (wordsR s) (0 : Int))) ∧ shC (opR (at3 (wordsR s) (0 : Int))) = shC
 (opR (at3 (wordsR s) (0 : Int))) ∧ (shN (opR (at3 (wordsR s) (0 : Int))) == 5) = (shN (opR (at3 (wordsR s) (0 : Int))) == 5) ∧ (1 : Int) = (↑s_1.t : Int) ∧ constA (Value.int IntKind.i64 (0 : Int)) = AVal.int IntKind.i64
 (1 : Int) ∧ irI s (1 : Nat) s_1 ∧ (9 : Nat) < 50 ∧ True) ∧ (b = false → ∃ (b : Bool), (b = true → ∃ (s_1 : IrS), wordsR s = wordsR s ∧ opR (at3 (wordsR s) (0 : Int)) = s_1.i.op ∧ (0 : Int) = s_1.i.a ∧ (if at3 (wordsR s)
 (0 : Int) = readW then (1 : Int) else (0 : Int)) = s_1.i.b ∧ (0 : Int) = s_1.i.c ∧ (0 : Int) = s_1.i.n ∧ shA (opR (at3 (wordsR s) (0 : Int))) = shA (opR (at3 (wordsR s) (0 : Int))) ∧ shB (opR (at3 (wordsR s) (0 : Int)))
 = bS (opR (at3 (wordsR s) (0 : Int))) ∧ shC (opR (at3 (wordsR s) (0 : Int))) = shC (opR (at3 (wordsR s) (0 : Int))) ∧ (shN (opR (at3 (wordsR s) (0 : Int))) == 5) = (shN (opR (at3 (wordsR s) (0 : Int))) == 5) ∧ (1 : Int)
 = (↑s_1.t : Int) ∧ constA (Value.int IntKind.i64 (0 : Int)) = AVal.int IntKind.i64 (2 : Int) ∧ irI s (2 : Nat) s_1 ∧ (8 : Nat) < 50 ∧ True) ∧ (b = false → ∃ (s_1 : IrS), wordsR s = wordsR s ∧ opR (at3 (wordsR s) (0 :
 Int)) = s_1.i.op ∧ (0 : Int) = s_1.i.a ∧ (if at3 (wordsR s) (0 : Int) = readW then (1 : Int) else (0 : Int)) = s_1.i.b ∧ (0 : Int) = s_1.i.c ∧ (0 : Int) = s_1.i.n ∧ shA (opR (at3 (wordsR s) (0 : Int))) = shA (opR (at3
 (wordsR s) (0 : Int))) ∧ shB (opR (at3 (wordsR s) (0 : Int))) = bS (opR (at3 (wordsR s) (0 : Int))) ∧ shC (opR (at3 (wordsR s) (0 : Int))) = shC (opR (at3 (wordsR s) (0 : Int))) ∧ (shN (opR (at3 (wordsR s) (0 : Int))) ==
 5) = (shN (opR (at3 (wordsR s) (0 : Int))) == 5) ∧ (1 : Int) = (↑s_1.t : Int) ∧ constA (Value.int IntKind.i64 (0 : Int)) = AVal.int IntKind.i64 (3 : Int) ∧ irI s (3 : Nat) s_1 ∧ (7 : Nat) < 50 ∧ True)))))) := by
 kernel_rfl
theorem ir_190 (s : List UInt8) (t : Nat) (i : Ins) : Go.Sy.Tree.holds (cutVC F (lookC l24) 600 Tryz.f24 b24 (irF s) 19 (irK s 0) ⟨t, i⟩) = ( ((shA (opR (at3 (wordsR s) (0 : Int))) == 0) = true → ∃ (b : Bool), (b = true →
 ∃ (s_1 : IrS), wordsR s = wordsR s ∧ i.op = s_1.i.op ∧ i.a = s_1.i.a ∧ i.b = s_1.i.b ∧ i.c = s_1.i.c ∧ i.n = s_1.i.n ∧ shA (opR (at3 (wordsR s) (0 : Int))) = shA (opR (at3 (wordsR s) (0 : Int))) ∧ bS (opR (at3 (wordsR s)
 (0 : Int))) = bS (opR (at3 (wordsR s) (0 : Int))) ∧ shC (opR (at3 (wordsR s) (0 : Int))) = shC (opR (at3 (wordsR s) (0 : Int))) ∧ (shN (opR (at3 (wordsR s) (0 : Int))) == 5) = (shN (opR (at3 (wordsR s) (0 : Int))) == 5)
 ∧ (↑t : Int) = (↑s_1.t : Int) ∧ AVal.int IntKind.i64 (1 : Int) = AVal.int IntKind.i64 (0 : Int) ∧ irI s (0 : Nat) s_1 ∧ (10 : Nat) < 10 ∧ True) ∧ (b = false → ∃ (b : Bool), (b = true → ∃ (s_1 : IrS), wordsR s = wordsR s
 ∧ i.op = s_1.i.op ∧ i.a = s_1.i.a ∧ i.b = s_1.i.b ∧ i.c = s_1.i.c ∧ i.n = s_1.i.n ∧ shA (opR (at3 (wordsR s) (0 : Int))) = shA (opR (at3 (wordsR s) (0 : Int))) ∧ bS (opR (at3 (wordsR s) (0 : Int))) = bS (opR (at3 (wordsR
 s) (0 : Int))) ∧ shC (opR (at3 (wordsR s) (0 : Int))) = shC (opR (at3 (wordsR s) (0 : Int))) ∧ (shN (opR (at3 (wordsR s) (0 : Int))) == 5) = (shN (opR (at3 (wordsR s) (0 : Int))) == 5) ∧ (↑t : Int) = (↑s_1.t : Int) ∧
 AVal.int IntKind.i64 (1 : Int) = AVal.int IntKind.i64 (1 : Int) ∧ irI s (1 : Nat) s_1 ∧ (9 : Nat) < 10 ∧ True) ∧ (b = false → ∃ (b : Bool), (b = true → ∃ (s_1 : IrS), wordsR s = wordsR s ∧ i.op = s_1.i.op ∧ i.a = s_1.i.a
 ∧ i.b = s_1.i.b ∧ i.c = s_1.i.c ∧ i.n = s_1.i.n ∧ shA (opR (at3 (wordsR s) (0 : Int))) = shA (opR (at3 (wordsR s) (0 : Int))) ∧ bS (opR (at3 (wordsR s) (0 : Int))) = bS (opR (at3 (wordsR s) (0 : Int))) ∧ shC (opR (at3
 (wordsR s) (0 : Int))) = shC (opR (at3 (wordsR s) (0 : Int))) ∧ (shN (opR (at3 (wordsR s) (0 : Int))) == 5) = (shN (opR (at3 (wordsR s) (0 : Int))) == 5) ∧ (↑t : Int) = (↑s_1.t : Int) ∧ AVal.int IntKind.i64 (1 : Int) =
 AVal.int IntKind.i64 (2 : Int) ∧ irI s (2 : Nat) s_1 ∧ (8 : Nat) < 10 ∧ True) ∧ (b = false → ∃ (s_1 : IrS), wordsR s = wordsR s ∧ i.op = s_1.i.op ∧ i.a = s_1.i.a ∧ i.b = s_1.i.b ∧ i.c = s_1.i.c ∧ i.n = s_1.i.n ∧ shA (opR
 (at3 (wordsR s) (0 : Int))) = shA (opR (at3 (wordsR s) (0 : Int))) ∧ bS (opR (at3 (wordsR s) (0 : Int))) = bS (opR (at3 (wordsR s) (0 : Int))) ∧ shC (opR (at3 (wordsR s) (0 : Int))) = shC (opR (at3 (wordsR s) (0 : Int)))
 ∧ (shN (opR (at3 (wordsR s) (0 : Int))) == 5) = (shN (opR (at3 (wordsR s) (0 : Int))) == 5) ∧ (↑t : Int) = (↑s_1.t : Int) ∧ AVal.int IntKind.i64 (1 : Int) = AVal.int IntKind.i64 (3 : Int) ∧ irI s (3 : Nat) s_1 ∧ (7 :
 Nat) < 10 ∧ True)))) ∧ ((shA (opR (at3 (wordsR s) (0 : Int))) == 0) = false → (decide ((↑t : Int) ≥ (↑(wordsR s).length : Int)) = true → (0 : Int) = (insR (wordsR s)).fst.op ∧ (0 : Int) = (insR (wordsR s)).fst.a ∧ (0 :
 Int) = (insR (wordsR s)).fst.b ∧ (0 : Int) = (insR (wordsR s)).fst.c ∧ (0 : Int) = (insR (wordsR s)).fst.n ∧ false = (insR (wordsR s)).snd ∧ True) ∧ (decide ((↑t : Int) ≥ (↑(wordsR s).length : Int)) = false → ((0 : Int)
 ≤ (↑t : Int) ∧ (↑t : Int) < (↑(wordsR s).length : Int)) ∧ (((↑(at3 (wordsR s) (↑t : Int)).length : Int) != 1) = true → (0 : Int) = (insR (wordsR s)).fst.op ∧ (0 : Int) = (insR (wordsR s)).fst.a ∧ (0 : Int) = (insR
 (wordsR s)).fst.b ∧ (0 : Int) = (insR (wordsR s)).fst.c ∧ (0 : Int) = (insR (wordsR s)).fst.n ∧ false = (insR (wordsR s)).snd ∧ True) ∧ (((↑(at3 (wordsR s) (↑t : Int)).length : Int) != 1) = false → ((0 : Int) ≤ (↑t :
 Int) ∧ (↑t : Int) < (↑(wordsR s).length : Int)) ∧ ((0 : Int) ≤ 0 ∧ (0 : Int) < (↑(at3 (wordsR s) (↑t : Int)).length : Int)) ∧ (decide ((↑((at3 (wordsR s) (↑t : Int)).getD (0 : Nat) (0 : UInt8)).toNat : Int) < 48) = true
 → (0 : Int) = (insR (wordsR s)).fst.op ∧ (0 : Int) = (insR (wordsR s)).fst.a ∧ (0 : Int) = (insR (wordsR s)).fst.b ∧ (0 : Int) = (insR (wordsR s)).fst.c ∧ (0 : Int) = (insR (wordsR s)).fst.n ∧ false = (insR (wordsR
 s)).snd ∧ True) ∧ (decide ((↑((at3 (wordsR s) (↑t : Int)).getD (0 : Nat) (0 : UInt8)).toNat : Int) < 48) = false → ((0 : Int) ≤ (↑t : Int) ∧ (↑t : Int) < (↑(wordsR s).length : Int)) ∧ ((0 : Int) ≤ 0 ∧ (0 : Int) < (↑(at3
 (wordsR s) (↑t : Int)).length : Int)) ∧ (decide ((↑((at3 (wordsR s) (↑t : Int)).getD (0 : Nat) (0 : UInt8)).toNat : Int) > 57) = true → (0 : Int) = (insR (wordsR s)).fst.op ∧ (0 : Int) = (insR (wordsR s)).fst.a ∧ (0 :
 Int) = (insR (wordsR s)).fst.b ∧ (0 : Int) = (insR (wordsR s)).fst.c ∧ (0 : Int) = (insR (wordsR s)).fst.n ∧ false = (insR (wordsR s)).snd ∧ True) ∧ (decide ((↑((at3 (wordsR s) (↑t : Int)).getD (0 : Nat) (0 :
 UInt8)).toNat : Int) > 57) = false → ((0 : Int) ≤ (↑t : Int) ∧ (↑t : Int) < (↑(wordsR s).length : Int)) ∧ ((0 : Int) ≤ 0 ∧ (0 : Int) < (↑(at3 (wordsR s) (↑t : Int)).length : Int)) ∧ ∃ (b : Bool), (b = true → ∃ (s_1 :
 IrS), wordsR s = wordsR s ∧ i.op = s_1.i.op ∧ IntKind.i64.wrap (IntKind.u8.wrap ((↑((at3 (wordsR s) (↑t : Int)).getD (0 : Nat) (0 : UInt8)).toNat : Int) - 48)) = s_1.i.a ∧ i.b = s_1.i.b ∧ i.c = s_1.i.c ∧ i.n = s_1.i.n ∧
 shA (opR (at3 (wordsR s) (0 : Int))) = shA (opR (at3 (wordsR s) (0 : Int))) ∧ bS (opR (at3 (wordsR s) (0 : Int))) = bS (opR (at3 (wordsR s) (0 : Int))) ∧ shC (opR (at3 (wordsR s) (0 : Int))) = shC (opR (at3 (wordsR s) (0
 : Int))) ∧ (shN (opR (at3 (wordsR s) (0 : Int))) == 5) = (shN (opR (at3 (wordsR s) (0 : Int))) == 5) ∧ IntKind.i64.wrap ((↑t : Int) + 1) = (↑s_1.t : Int) ∧ AVal.int IntKind.i64 (1 : Int) = AVal.int IntKind.i64 (0 : Int)
 ∧ irI s (0 : Nat) s_1 ∧ (10 : Nat) < 10 ∧ True) ∧ (b = false → ∃ (b : Bool), (b = true → ∃ (s_1 : IrS), wordsR s = wordsR s ∧ i.op = s_1.i.op ∧ IntKind.i64.wrap (IntKind.u8.wrap ((↑((at3 (wordsR s) (↑t : Int)).getD (0 :
 Nat) (0 : UInt8)).toNat : Int) - 48)) = s_1.i.a ∧ i.b = s_1.i.b ∧ i.c = s_1.i.c ∧ i.n = s_1.i.n ∧ shA (opR (at3 (wordsR s) (0 : Int))) = shA (opR (at3 (wordsR s) (0 : Int))) ∧ bS (opR (at3 (wordsR s) (0 : Int))) = bS
 (opR (at3 (wordsR s) (0 : Int))) ∧ shC (opR (at3 (wordsR s) (0 : Int))) = shC (opR (at3 (wordsR s) (0 : Int))) ∧ (shN (opR (at3 (wordsR s) (0 : Int))) == 5) = (shN (opR (at3 (wordsR s) (0 : Int))) == 5) ∧
 IntKind.i64.wrap ((↑t : Int) + 1) = (↑s_1.t : Int) ∧ AVal.int IntKind.i64 (1 : Int) = AVal.int IntKind.i64 (1 : Int) ∧ irI s (1 : Nat) s_1 ∧ (9 : Nat) < 10 ∧ True) ∧ (b = false → ∃ (b : Bool), (b = true → ∃ (s_1 : IrS),
 wordsR s = wordsR s ∧ i.op = s_1.i.op ∧ IntKind.i64.wrap (IntKind.u8.wrap ((↑((at3 (wordsR s) (↑t : Int)).getD (0 : Nat) (0 : UInt8)).toNat : Int) - 48)) = s_1.i.a ∧ i.b = s_1.i.b ∧ i.c = s_1.i.c ∧ i.n = s_1.i.n ∧ shA
 (opR (at3 (wordsR s) (0 : Int))) = shA (opR (at3 (wordsR s) (0 : Int))) ∧ bS (opR (at3 (wordsR s) (0 : Int))) = bS (opR (at3 (wordsR s) (0 : Int))) ∧ shC (opR (at3 (wordsR s) (0 : Int))) = shC (opR (at3 (wordsR s) (0 :
 Int))) ∧ (shN (opR (at3 (wordsR s) (0 : Int))) == 5) = (shN (opR (at3 (wordsR s) (0 : Int))) == 5) ∧ IntKind.i64.wrap ((↑t : Int) + 1) = (↑s_1.t : Int) ∧ AVal.int IntKind.i64 (1 : Int) = AVal.int IntKind.i64 (2 : Int) ∧
 irI s (2 : Nat) s_1 ∧ (8 : Nat) < 10 ∧ True) ∧ (b = false → ∃ (s_1 : IrS), wordsR s = wordsR s ∧ i.op = s_1.i.op ∧ IntKind.i64.wrap (IntKind.u8.wrap ((↑((at3 (wordsR s) (↑t : Int)).getD (0 : Nat) (0 : UInt8)).toNat :
 Int) - 48)) = s_1.i.a ∧ i.b = s_1.i.b ∧ i.c = s_1.i.c ∧ i.n = s_1.i.n ∧ shA (opR (at3 (wordsR s) (0 : Int))) = shA (opR (at3 (wordsR s) (0 : Int))) ∧ bS (opR (at3 (wordsR s) (0 : Int))) = bS (opR (at3 (wordsR s) (0 :
 Int))) ∧ shC (opR (at3 (wordsR s) (0 : Int))) = shC (opR (at3 (wordsR s) (0 : Int))) ∧ (shN (opR (at3 (wordsR s) (0 : Int))) == 5) = (shN (opR (at3 (wordsR s) (0 : Int))) == 5) ∧ IntKind.i64.wrap ((↑t : Int) + 1) =
 (↑s_1.t : Int) ∧ AVal.int IntKind.i64 (1 : Int) = AVal.int IntKind.i64 (3 : Int) ∧ irI s (3 : Nat) s_1 ∧ (7 : Nat) < 10 ∧ True))))))))) := by kernel_rfl
theorem ir_191 (s : List UInt8) (t : Nat) (i : Ins) : Go.Sy.Tree.holds (cutVC F (lookC l24) 600 Tryz.f24 b24 (irF s) 19 (irK s 1) ⟨t, i⟩) = ( ((bS (opR (at3 (wordsR s) (0 : Int))) == 0) = true → ∃ (b : Bool), (b = true →
 ∃ (s_1 : IrS), wordsR s = wordsR s ∧ i.op = s_1.i.op ∧ i.a = s_1.i.a ∧ i.b = s_1.i.b ∧ i.c = s_1.i.c ∧ i.n = s_1.i.n ∧ shA (opR (at3 (wordsR s) (0 : Int))) = shA (opR (at3 (wordsR s) (0 : Int))) ∧ bS (opR (at3 (wordsR s)
 (0 : Int))) = bS (opR (at3 (wordsR s) (0 : Int))) ∧ shC (opR (at3 (wordsR s) (0 : Int))) = shC (opR (at3 (wordsR s) (0 : Int))) ∧ (shN (opR (at3 (wordsR s) (0 : Int))) == 5) = (shN (opR (at3 (wordsR s) (0 : Int))) == 5)
 ∧ (↑t : Int) = (↑s_1.t : Int) ∧ AVal.int IntKind.i64 (2 : Int) = AVal.int IntKind.i64 (0 : Int) ∧ irI s (0 : Nat) s_1 ∧ (10 : Nat) < 9 ∧ True) ∧ (b = false → ∃ (b : Bool), (b = true → ∃ (s_1 : IrS), wordsR s = wordsR s ∧
 i.op = s_1.i.op ∧ i.a = s_1.i.a ∧ i.b = s_1.i.b ∧ i.c = s_1.i.c ∧ i.n = s_1.i.n ∧ shA (opR (at3 (wordsR s) (0 : Int))) = shA (opR (at3 (wordsR s) (0 : Int))) ∧ bS (opR (at3 (wordsR s) (0 : Int))) = bS (opR (at3 (wordsR
 s) (0 : Int))) ∧ shC (opR (at3 (wordsR s) (0 : Int))) = shC (opR (at3 (wordsR s) (0 : Int))) ∧ (shN (opR (at3 (wordsR s) (0 : Int))) == 5) = (shN (opR (at3 (wordsR s) (0 : Int))) == 5) ∧ (↑t : Int) = (↑s_1.t : Int) ∧
 AVal.int IntKind.i64 (2 : Int) = AVal.int IntKind.i64 (1 : Int) ∧ irI s (1 : Nat) s_1 ∧ (9 : Nat) < 9 ∧ True) ∧ (b = false → ∃ (b : Bool), (b = true → ∃ (s_1 : IrS), wordsR s = wordsR s ∧ i.op = s_1.i.op ∧ i.a = s_1.i.a
 ∧ i.b = s_1.i.b ∧ i.c = s_1.i.c ∧ i.n = s_1.i.n ∧ shA (opR (at3 (wordsR s) (0 : Int))) = shA (opR (at3 (wordsR s) (0 : Int))) ∧ bS (opR (at3 (wordsR s) (0 : Int))) = bS (opR (at3 (wordsR s) (0 : Int))) ∧ shC (opR (at3
 (wordsR s) (0 : Int))) = shC (opR (at3 (wordsR s) (0 : Int))) ∧ (shN (opR (at3 (wordsR s) (0 : Int))) == 5) = (shN (opR (at3 (wordsR s) (0 : Int))) == 5) ∧ (↑t : Int) = (↑s_1.t : Int) ∧ AVal.int IntKind.i64 (2 : Int) =
 AVal.int IntKind.i64 (2 : Int) ∧ irI s (2 : Nat) s_1 ∧ (8 : Nat) < 9 ∧ True) ∧ (b = false → ∃ (s_1 : IrS), wordsR s = wordsR s ∧ i.op = s_1.i.op ∧ i.a = s_1.i.a ∧ i.b = s_1.i.b ∧ i.c = s_1.i.c ∧ i.n = s_1.i.n ∧ shA (opR
 (at3 (wordsR s) (0 : Int))) = shA (opR (at3 (wordsR s) (0 : Int))) ∧ bS (opR (at3 (wordsR s) (0 : Int))) = bS (opR (at3 (wordsR s) (0 : Int))) ∧ shC (opR (at3 (wordsR s) (0 : Int))) = shC (opR (at3 (wordsR s) (0 : Int)))
 ∧ (shN (opR (at3 (wordsR s) (0 : Int))) == 5) = (shN (opR (at3 (wordsR s) (0 : Int))) == 5) ∧ (↑t : Int) = (↑s_1.t : Int) ∧ AVal.int IntKind.i64 (2 : Int) = AVal.int IntKind.i64 (3 : Int) ∧ irI s (3 : Nat) s_1 ∧ (7 :
 Nat) < 9 ∧ True)))) ∧ ((bS (opR (at3 (wordsR s) (0 : Int))) == 0) = false → (decide ((↑t : Int) ≥ (↑(wordsR s).length : Int)) = true → (0 : Int) = (insR (wordsR s)).fst.op ∧ (0 : Int) = (insR (wordsR s)).fst.a ∧ (0 :
 Int) = (insR (wordsR s)).fst.b ∧ (0 : Int) = (insR (wordsR s)).fst.c ∧ (0 : Int) = (insR (wordsR s)).fst.n ∧ false = (insR (wordsR s)).snd ∧ True) ∧ (decide ((↑t : Int) ≥ (↑(wordsR s).length : Int)) = false → ((0 : Int)
 ≤ (↑t : Int) ∧ (↑t : Int) < (↑(wordsR s).length : Int)) ∧ (((↑(at3 (wordsR s) (↑t : Int)).length : Int) != 1) = true → (0 : Int) = (insR (wordsR s)).fst.op ∧ (0 : Int) = (insR (wordsR s)).fst.a ∧ (0 : Int) = (insR
 (wordsR s)).fst.b ∧ (0 : Int) = (insR (wordsR s)).fst.c ∧ (0 : Int) = (insR (wordsR s)).fst.n ∧ false = (insR (wordsR s)).snd ∧ True) ∧ (((↑(at3 (wordsR s) (↑t : Int)).length : Int) != 1) = false → ((0 : Int) ≤ (↑t :
 Int) ∧ (↑t : Int) < (↑(wordsR s).length : Int)) ∧ ((0 : Int) ≤ 0 ∧ (0 : Int) < (↑(at3 (wordsR s) (↑t : Int)).length : Int)) ∧ (decide ((↑((at3 (wordsR s) (↑t : Int)).getD (0 : Nat) (0 : UInt8)).toNat : Int) < 48) = true
 → (0 : Int) = (insR (wordsR s)).fst.op ∧ (0 : Int) = (insR (wordsR s)).fst.a ∧ (0 : Int) = (insR (wordsR s)).fst.b ∧ (0 : Int) = (insR (wordsR s)).fst.c ∧ (0 : Int) = (insR (wordsR s)).fst.n ∧ false = (insR (wordsR
 s)).snd ∧ True) ∧ (decide ((↑((at3 (wordsR s) (↑t : Int)).getD (0 : Nat) (0 : UInt8)).toNat : Int) < 48) = false → ((0 : Int) ≤ (↑t : Int) ∧ (↑t : Int) < (↑(wordsR s).length : Int)) ∧ ((0 : Int) ≤ 0 ∧ (0 : Int) < (↑(at3
 (wordsR s) (↑t : Int)).length : Int)) ∧ (decide ((↑((at3 (wordsR s) (↑t : Int)).getD (0 : Nat) (0 : UInt8)).toNat : Int) > 57) = true → (0 : Int) = (insR (wordsR s)).fst.op ∧ (0 : Int) = (insR (wordsR s)).fst.a ∧ (0 :
 Int) = (insR (wordsR s)).fst.b ∧ (0 : Int) = (insR (wordsR s)).fst.c ∧ (0 : Int) = (insR (wordsR s)).fst.n ∧ false = (insR (wordsR s)).snd ∧ True) ∧ (decide ((↑((at3 (wordsR s) (↑t : Int)).getD (0 : Nat) (0 :
 UInt8)).toNat : Int) > 57) = false → ((0 : Int) ≤ (↑t : Int) ∧ (↑t : Int) < (↑(wordsR s).length : Int)) ∧ ((0 : Int) ≤ 0 ∧ (0 : Int) < (↑(at3 (wordsR s) (↑t : Int)).length : Int)) ∧ ∃ (b : Bool), (b = true → ∃ (s_1 :
 IrS), wordsR s = wordsR s ∧ i.op = s_1.i.op ∧ i.a = s_1.i.a ∧ IntKind.i64.wrap (IntKind.u8.wrap ((↑((at3 (wordsR s) (↑t : Int)).getD (0 : Nat) (0 : UInt8)).toNat : Int) - 48)) = s_1.i.b ∧ i.c = s_1.i.c ∧ i.n = s_1.i.n ∧
 shA (opR (at3 (wordsR s) (0 : Int))) = shA (opR (at3 (wordsR s) (0 : Int))) ∧ bS (opR (at3 (wordsR s) (0 : Int))) = bS (opR (at3 (wordsR s) (0 : Int))) ∧ shC (opR (at3 (wordsR s) (0 : Int))) = shC (opR (at3 (wordsR s) (0
 : Int))) ∧ (shN (opR (at3 (wordsR s) (0 : Int))) == 5) = (shN (opR (at3 (wordsR s) (0 : Int))) == 5) ∧ IntKind.i64.wrap ((↑t : Int) + 1) = (↑s_1.t : Int) ∧ AVal.int IntKind.i64 (2 : Int) = AVal.int IntKind.i64 (0 : Int)
 ∧ irI s (0 : Nat) s_1 ∧ (10 : Nat) < 9 ∧ True) ∧ (b = false → ∃ (b : Bool), (b = true → ∃ (s_1 : IrS), wordsR s = wordsR s ∧ i.op = s_1.i.op ∧ i.a = s_1.i.a ∧ IntKind.i64.wrap (IntKind.u8.wrap ((↑((at3 (wordsR s) (↑t :
 Int)).getD (0 : Nat) (0 : UInt8)).toNat : Int) - 48)) = s_1.i.b ∧ i.c = s_1.i.c ∧ i.n = s_1.i.n ∧ shA (opR (at3 (wordsR s) (0 : Int))) = shA (opR (at3 (wordsR s) (0 : Int))) ∧ bS (opR (at3 (wordsR s) (0 : Int))) = bS
 (opR (at3 (wordsR s) (0 : Int))) ∧ shC (opR (at3 (wordsR s) (0 : Int))) = shC (opR (at3 (wordsR s) (0 : Int))) ∧ (shN (opR (at3 (wordsR s) (0 : Int))) == 5) = (shN (opR (at3 (wordsR s) (0 : Int))) == 5) ∧
 IntKind.i64.wrap ((↑t : Int) + 1) = (↑s_1.t : Int) ∧ AVal.int IntKind.i64 (2 : Int) = AVal.int IntKind.i64 (1 : Int) ∧ irI s (1 : Nat) s_1 ∧ (9 : Nat) < 9 ∧ True) ∧ (b = false → ∃ (b : Bool), (b = true → ∃ (s_1 : IrS),
 wordsR s = wordsR s ∧ i.op = s_1.i.op ∧ i.a = s_1.i.a ∧ IntKind.i64.wrap (IntKind.u8.wrap ((↑((at3 (wordsR s) (↑t : Int)).getD (0 : Nat) (0 : UInt8)).toNat : Int) - 48)) = s_1.i.b ∧ i.c = s_1.i.c ∧ i.n = s_1.i.n ∧ shA
 (opR (at3 (wordsR s) (0 : Int))) = shA (opR (at3 (wordsR s) (0 : Int))) ∧ bS (opR (at3 (wordsR s) (0 : Int))) = bS (opR (at3 (wordsR s) (0 : Int))) ∧ shC (opR (at3 (wordsR s) (0 : Int))) = shC (opR (at3 (wordsR s) (0 :
 Int))) ∧ (shN (opR (at3 (wordsR s) (0 : Int))) == 5) = (shN (opR (at3 (wordsR s) (0 : Int))) == 5) ∧ IntKind.i64.wrap ((↑t : Int) + 1) = (↑s_1.t : Int) ∧ AVal.int IntKind.i64 (2 : Int) = AVal.int IntKind.i64 (2 : Int) ∧
 irI s (2 : Nat) s_1 ∧ (8 : Nat) < 9 ∧ True) ∧ (b = false → ∃ (s_1 : IrS), wordsR s = wordsR s ∧ i.op = s_1.i.op ∧ i.a = s_1.i.a ∧ IntKind.i64.wrap (IntKind.u8.wrap ((↑((at3 (wordsR s) (↑t : Int)).getD (0 : Nat) (0 :
 UInt8)).toNat : Int) - 48)) = s_1.i.b ∧ i.c = s_1.i.c ∧ i.n = s_1.i.n ∧ shA (opR (at3 (wordsR s) (0 : Int))) = shA (opR (at3 (wordsR s) (0 : Int))) ∧ bS (opR (at3 (wordsR s) (0 : Int))) = bS (opR (at3 (wordsR s) (0 :
 Int))) ∧ shC (opR (at3 (wordsR s) (0 : Int))) = shC (opR (at3 (wordsR s) (0 : Int))) ∧ (shN (opR (at3 (wordsR s) (0 : Int))) == 5) = (shN (opR (at3 (wordsR s) (0 : Int))) == 5) ∧ IntKind.i64.wrap ((↑t : Int) + 1) =
 (↑s_1.t : Int) ∧ AVal.int IntKind.i64 (2 : Int) = AVal.int IntKind.i64 (3 : Int) ∧ irI s (3 : Nat) s_1 ∧ (7 : Nat) < 9 ∧ True))))))))) := by kernel_rfl
theorem ir_192 (s : List UInt8) (t : Nat) (i : Ins) : Go.Sy.Tree.holds (cutVC F (lookC l24) 600 Tryz.f24 b24 (irF s) 19 (irK s 2) ⟨t, i⟩) = ( ((shC (opR (at3 (wordsR s) (0 : Int))) == 0) = true → ∃ (b : Bool), (b = true →
 ∃ (s_1 : IrS), wordsR s = wordsR s ∧ i.op = s_1.i.op ∧ i.a = s_1.i.a ∧ i.b = s_1.i.b ∧ i.c = s_1.i.c ∧ i.n = s_1.i.n ∧ shA (opR (at3 (wordsR s) (0 : Int))) = shA (opR (at3 (wordsR s) (0 : Int))) ∧ bS (opR (at3 (wordsR s)
 (0 : Int))) = bS (opR (at3 (wordsR s) (0 : Int))) ∧ shC (opR (at3 (wordsR s) (0 : Int))) = shC (opR (at3 (wordsR s) (0 : Int))) ∧ (shN (opR (at3 (wordsR s) (0 : Int))) == 5) = (shN (opR (at3 (wordsR s) (0 : Int))) == 5)
 ∧ (↑t : Int) = (↑s_1.t : Int) ∧ AVal.int IntKind.i64 (3 : Int) = AVal.int IntKind.i64 (0 : Int) ∧ irI s (0 : Nat) s_1 ∧ (10 : Nat) < 8 ∧ True) ∧ (b = false → ∃ (b : Bool), (b = true → ∃ (s_1 : IrS), wordsR s = wordsR s ∧
 i.op = s_1.i.op ∧ i.a = s_1.i.a ∧ i.b = s_1.i.b ∧ i.c = s_1.i.c ∧ i.n = s_1.i.n ∧ shA (opR (at3 (wordsR s) (0 : Int))) = shA (opR (at3 (wordsR s) (0 : Int))) ∧ bS (opR (at3 (wordsR s) (0 : Int))) = bS (opR (at3 (wordsR
 s) (0 : Int))) ∧ shC (opR (at3 (wordsR s) (0 : Int))) = shC (opR (at3 (wordsR s) (0 : Int))) ∧ (shN (opR (at3 (wordsR s) (0 : Int))) == 5) = (shN (opR (at3 (wordsR s) (0 : Int))) == 5) ∧ (↑t : Int) = (↑s_1.t : Int) ∧
 AVal.int IntKind.i64 (3 : Int) = AVal.int IntKind.i64 (1 : Int) ∧ irI s (1 : Nat) s_1 ∧ (9 : Nat) < 8 ∧ True) ∧ (b = false → ∃ (b : Bool), (b = true → ∃ (s_1 : IrS), wordsR s = wordsR s ∧ i.op = s_1.i.op ∧ i.a = s_1.i.a
 ∧ i.b = s_1.i.b ∧ i.c = s_1.i.c ∧ i.n = s_1.i.n ∧ shA (opR (at3 (wordsR s) (0 : Int))) = shA (opR (at3 (wordsR s) (0 : Int))) ∧ bS (opR (at3 (wordsR s) (0 : Int))) = bS (opR (at3 (wordsR s) (0 : Int))) ∧ shC (opR (at3
 (wordsR s) (0 : Int))) = shC (opR (at3 (wordsR s) (0 : Int))) ∧ (shN (opR (at3 (wordsR s) (0 : Int))) == 5) = (shN (opR (at3 (wordsR s) (0 : Int))) == 5) ∧ (↑t : Int) = (↑s_1.t : Int) ∧ AVal.int IntKind.i64 (3 : Int) =
 AVal.int IntKind.i64 (2 : Int) ∧ irI s (2 : Nat) s_1 ∧ (8 : Nat) < 8 ∧ True) ∧ (b = false → ∃ (s_1 : IrS), wordsR s = wordsR s ∧ i.op = s_1.i.op ∧ i.a = s_1.i.a ∧ i.b = s_1.i.b ∧ i.c = s_1.i.c ∧ i.n = s_1.i.n ∧ shA (opR
 (at3 (wordsR s) (0 : Int))) = shA (opR (at3 (wordsR s) (0 : Int))) ∧ bS (opR (at3 (wordsR s) (0 : Int))) = bS (opR (at3 (wordsR s) (0 : Int))) ∧ shC (opR (at3 (wordsR s) (0 : Int))) = shC (opR (at3 (wordsR s) (0 : Int)))
 ∧ (shN (opR (at3 (wordsR s) (0 : Int))) == 5) = (shN (opR (at3 (wordsR s) (0 : Int))) == 5) ∧ (↑t : Int) = (↑s_1.t : Int) ∧ AVal.int IntKind.i64 (3 : Int) = AVal.int IntKind.i64 (3 : Int) ∧ irI s (3 : Nat) s_1 ∧ (7 :
 Nat) < 8 ∧ True)))) ∧ ((shC (opR (at3 (wordsR s) (0 : Int))) == 0) = false → (decide ((↑t : Int) ≥ (↑(wordsR s).length : Int)) = true → (0 : Int) = (insR (wordsR s)).fst.op ∧ (0 : Int) = (insR (wordsR s)).fst.a ∧ (0 :
 Int) = (insR (wordsR s)).fst.b ∧ (0 : Int) = (insR (wordsR s)).fst.c ∧ (0 : Int) = (insR (wordsR s)).fst.n ∧ false = (insR (wordsR s)).snd ∧ True) ∧ (decide ((↑t : Int) ≥ (↑(wordsR s).length : Int)) = false → ((0 : Int)
 ≤ (↑t : Int) ∧ (↑t : Int) < (↑(wordsR s).length : Int)) ∧ (((↑(at3 (wordsR s) (↑t : Int)).length : Int) != 1) = true → (0 : Int) = (insR (wordsR s)).fst.op ∧ (0 : Int) = (insR (wordsR s)).fst.a ∧ (0 : Int) = (insR
 (wordsR s)).fst.b ∧ (0 : Int) = (insR (wordsR s)).fst.c ∧ (0 : Int) = (insR (wordsR s)).fst.n ∧ false = (insR (wordsR s)).snd ∧ True) ∧ (((↑(at3 (wordsR s) (↑t : Int)).length : Int) != 1) = false → ((0 : Int) ≤ (↑t :
 Int) ∧ (↑t : Int) < (↑(wordsR s).length : Int)) ∧ ((0 : Int) ≤ 0 ∧ (0 : Int) < (↑(at3 (wordsR s) (↑t : Int)).length : Int)) ∧ (decide ((↑((at3 (wordsR s) (↑t : Int)).getD (0 : Nat) (0 : UInt8)).toNat : Int) < 48) = true
 → (0 : Int) = (insR (wordsR s)).fst.op ∧ (0 : Int) = (insR (wordsR s)).fst.a ∧ (0 : Int) = (insR (wordsR s)).fst.b ∧ (0 : Int) = (insR (wordsR s)).fst.c ∧ (0 : Int) = (insR (wordsR s)).fst.n ∧ false = (insR (wordsR
 s)).snd ∧ True) ∧ (decide ((↑((at3 (wordsR s) (↑t : Int)).getD (0 : Nat) (0 : UInt8)).toNat : Int) < 48) = false → ((0 : Int) ≤ (↑t : Int) ∧ (↑t : Int) < (↑(wordsR s).length : Int)) ∧ ((0 : Int) ≤ 0 ∧ (0 : Int) < (↑(at3
 (wordsR s) (↑t : Int)).length : Int)) ∧ (decide ((↑((at3 (wordsR s) (↑t : Int)).getD (0 : Nat) (0 : UInt8)).toNat : Int) > 57) = true → (0 : Int) = (insR (wordsR s)).fst.op ∧ (0 : Int) = (insR (wordsR s)).fst.a ∧ (0 :
 Int) = (insR (wordsR s)).fst.b ∧ (0 : Int) = (insR (wordsR s)).fst.c ∧ (0 : Int) = (insR (wordsR s)).fst.n ∧ false = (insR (wordsR s)).snd ∧ True) ∧ (decide ((↑((at3 (wordsR s) (↑t : Int)).getD (0 : Nat) (0 :
 UInt8)).toNat : Int) > 57) = false → ((0 : Int) ≤ (↑t : Int) ∧ (↑t : Int) < (↑(wordsR s).length : Int)) ∧ ((0 : Int) ≤ 0 ∧ (0 : Int) < (↑(at3 (wordsR s) (↑t : Int)).length : Int)) ∧ ∃ (b : Bool), (b = true → ∃ (s_1 :
 IrS), wordsR s = wordsR s ∧ i.op = s_1.i.op ∧ i.a = s_1.i.a ∧ i.b = s_1.i.b ∧ IntKind.i64.wrap (IntKind.u8.wrap ((↑((at3 (wordsR s) (↑t : Int)).getD (0 : Nat) (0 : UInt8)).toNat : Int) - 48)) = s_1.i.c ∧ i.n = s_1.i.n ∧
 shA (opR (at3 (wordsR s) (0 : Int))) = shA (opR (at3 (wordsR s) (0 : Int))) ∧ bS (opR (at3 (wordsR s) (0 : Int))) = bS (opR (at3 (wordsR s) (0 : Int))) ∧ shC (opR (at3 (wordsR s) (0 : Int))) = shC (opR (at3 (wordsR s) (0
 : Int))) ∧ (shN (opR (at3 (wordsR s) (0 : Int))) == 5) = (shN (opR (at3 (wordsR s) (0 : Int))) == 5) ∧ IntKind.i64.wrap ((↑t : Int) + 1) = (↑s_1.t : Int) ∧ AVal.int IntKind.i64 (3 : Int) = AVal.int IntKind.i64 (0 : Int)
 ∧ irI s (0 : Nat) s_1 ∧ (10 : Nat) < 8 ∧ True) ∧ (b = false → ∃ (b : Bool), (b = true → ∃ (s_1 : IrS), wordsR s = wordsR s ∧ i.op = s_1.i.op ∧ i.a = s_1.i.a ∧ i.b = s_1.i.b ∧ IntKind.i64.wrap (IntKind.u8.wrap ((↑((at3
 (wordsR s) (↑t : Int)).getD (0 : Nat) (0 : UInt8)).toNat : Int) - 48)) = s_1.i.c ∧ i.n = s_1.i.n ∧ shA (opR (at3 (wordsR s) (0 : Int))) = shA (opR (at3 (wordsR s) (0 : Int))) ∧ bS (opR (at3 (wordsR s) (0 : Int))) = bS
 (opR (at3 (wordsR s) (0 : Int))) ∧ shC (opR (at3 (wordsR s) (0 : Int))) = shC (opR (at3 (wordsR s) (0 : Int))) ∧ (shN (opR (at3 (wordsR s) (0 : Int))) == 5) = (shN (opR (at3 (wordsR s) (0 : Int))) == 5) ∧
 IntKind.i64.wrap ((↑t : Int) + 1) = (↑s_1.t : Int) ∧ AVal.int IntKind.i64 (3 : Int) = AVal.int IntKind.i64 (1 : Int) ∧ irI s (1 : Nat) s_1 ∧ (9 : Nat) < 8 ∧ True) ∧ (b = false → ∃ (b : Bool), (b = true → ∃ (s_1 : IrS),
 wordsR s = wordsR s ∧ i.op = s_1.i.op ∧ i.a = s_1.i.a ∧ i.b = s_1.i.b ∧ IntKind.i64.wrap (IntKind.u8.wrap ((↑((at3 (wordsR s) (↑t : Int)).getD (0 : Nat) (0 : UInt8)).toNat : Int) - 48)) = s_1.i.c ∧ i.n = s_1.i.n ∧ shA
 (opR (at3 (wordsR s) (0 : Int))) = shA (opR (at3 (wordsR s) (0 : Int))) ∧ bS (opR (at3 (wordsR s) (0 : Int))) = bS (opR (at3 (wordsR s) (0 : Int))) ∧ shC (opR (at3 (wordsR s) (0 : Int))) = shC (opR (at3 (wordsR s) (0 :
 Int))) ∧ (shN (opR (at3 (wordsR s) (0 : Int))) == 5) = (shN (opR (at3 (wordsR s) (0 : Int))) == 5) ∧ IntKind.i64.wrap ((↑t : Int) + 1) = (↑s_1.t : Int) ∧ AVal.int IntKind.i64 (3 : Int) = AVal.int IntKind.i64 (2 : Int) ∧
 irI s (2 : Nat) s_1 ∧ (8 : Nat) < 8 ∧ True) ∧ (b = false → ∃ (s_1 : IrS), wordsR s = wordsR s ∧ i.op = s_1.i.op ∧ i.a = s_1.i.a ∧ i.b = s_1.i.b ∧ IntKind.i64.wrap (IntKind.u8.wrap ((↑((at3 (wordsR s) (↑t : Int)).getD (0
 : Nat) (0 : UInt8)).toNat : Int) - 48)) = s_1.i.c ∧ i.n = s_1.i.n ∧ shA (opR (at3 (wordsR s) (0 : Int))) = shA (opR (at3 (wordsR s) (0 : Int))) ∧ bS (opR (at3 (wordsR s) (0 : Int))) = bS (opR (at3 (wordsR s) (0 : Int)))
 ∧ shC (opR (at3 (wordsR s) (0 : Int))) = shC (opR (at3 (wordsR s) (0 : Int))) ∧ (shN (opR (at3 (wordsR s) (0 : Int))) == 5) = (shN (opR (at3 (wordsR s) (0 : Int))) == 5) ∧ IntKind.i64.wrap ((↑t : Int) + 1) = (↑s_1.t :
 Int) ∧ AVal.int IntKind.i64 (3 : Int) = AVal.int IntKind.i64 (3 : Int) ∧ irI s (3 : Nat) s_1 ∧ (7 : Nat) < 8 ∧ True))))))))) := by kernel_rfl
theorem ir_193 (s : List UInt8) (t : Nat) (i : Ins) : Go.Sy.Tree.holds (cutVC F (lookC l24) 600 Tryz.f24 b24 (irF s) 19 (irK s 3) ⟨t, i⟩) = ( ((shN (opR (at3 (wordsR s) (0 : Int))) == 5) = true → (decide ((↑t : Int) ≥
 (↑(wordsR s).length : Int)) = true → (0 : Int) = (insR (wordsR s)).fst.op ∧ (0 : Int) = (insR (wordsR s)).fst.a ∧ (0 : Int) = (insR (wordsR s)).fst.b ∧ (0 : Int) = (insR (wordsR s)).fst.c ∧ (0 : Int) = (insR (wordsR
 s)).fst.n ∧ false = (insR (wordsR s)).snd ∧ True) ∧ (decide ((↑t : Int) ≥ (↑(wordsR s).length : Int)) = false → ((0 : Int) ≤ (↑t : Int) ∧ (↑t : Int) < (↑(wordsR s).length : Int)) ∧ nrD.pre (at3 (wordsR s) (↑t : Int), ())
 ∧ ((!(numR (at3 (wordsR s) (↑t : Int))).snd) = true → (0 : Int) = (insR (wordsR s)).fst.op ∧ (0 : Int) = (insR (wordsR s)).fst.a ∧ (0 : Int) = (insR (wordsR s)).fst.b ∧ (0 : Int) = (insR (wordsR s)).fst.c ∧ (0 : Int) =
 (insR (wordsR s)).fst.n ∧ false = (insR (wordsR s)).snd ∧ True) ∧ ((!(numR (at3 (wordsR s) (↑t : Int))).snd) = false → ((IntKind.i64.wrap ((↑t : Int) + 1) == (↑(wordsR s).length : Int)) = true → mayD.pre (Ins.mk i.op i.a
 i.b i.c (numR (at3 (wordsR s) (↑t : Int))).fst, ()) ∧ i.op = (insR (wordsR s)).fst.op ∧ i.a = (insR (wordsR s)).fst.a ∧ i.b = (insR (wordsR s)).fst.b ∧ i.c = (insR (wordsR s)).fst.c ∧ (numR (at3 (wordsR s) (↑t :
 Int))).fst = (insR (wordsR s)).fst.n ∧ mayB (Ins.mk i.op i.a i.b i.c (numR (at3 (wordsR s) (↑t : Int))).fst) = (insR (wordsR s)).snd ∧ True) ∧ ((IntKind.i64.wrap ((↑t : Int) + 1) == (↑(wordsR s).length : Int)) = false →
 i.op = (insR (wordsR s)).fst.op ∧ i.a = (insR (wordsR s)).fst.a ∧ i.b = (insR (wordsR s)).fst.b ∧ i.c = (insR (wordsR s)).fst.c ∧ (numR (at3 (wordsR s) (↑t : Int))).fst = (insR (wordsR s)).fst.n ∧ false = (insR (wordsR
 s)).snd ∧ True)))) ∧ ((shN (opR (at3 (wordsR s) (0 : Int))) == 5) = false → (((↑t : Int) == (↑(wordsR s).length : Int)) = true → mayD.pre (Ins.mk i.op i.a i.b i.c i.n, ()) ∧ i.op = (insR (wordsR s)).fst.op ∧ i.a = (insR
 (wordsR s)).fst.a ∧ i.b = (insR (wordsR s)).fst.b ∧ i.c = (insR (wordsR s)).fst.c ∧ i.n = (insR (wordsR s)).fst.n ∧ mayB (Ins.mk i.op i.a i.b i.c i.n) = (insR (wordsR s)).snd ∧ True) ∧ (((↑t : Int) == (↑(wordsR s).length
 : Int)) = false → i.op = (insR (wordsR s)).fst.op ∧ i.a = (insR (wordsR s)).fst.a ∧ i.b = (insR (wordsR s)).fst.b ∧ i.c = (insR (wordsR s)).fst.c ∧ i.n = (insR (wordsR s)).fst.n ∧ false = (insR (wordsR s)).snd ∧ True)))
 := by kernel_rfl
theorem pr_e (s : List UInt8) (c t : Int) (q : List Ins) : Go.Sy.Tree.holds (entryX F (lookC l13) 600 Tryz.f13 b13 (prF s c t q) [.s s]) = ( (decide ((↑s.length : Int) > 20000) = true → [] = q ∧ (4 : Int) = c ∧ (0 : Int)
 = t ∧ True) ∧ (decide ((↑s.length : Int) > 20000) = false → ∃ (s_1 : PrS), s = s ∧ [] = s_1.q ∧ (0 : Int) = (↑s_1.f : Int) ∧ (1 : Int) = (↑s_1.n : Int) + 1 ∧ (0 : Int) = (↑s_1.k : Int) ∧ prI s s_1 ∧ True)) := by
 kernel_rfl
theorem pr_6 (s : List UInt8) (c t : Int) (q : List Ins) (k f n : Nat) (p : List Ins) : Go.Sy.Tree.holds (cutVC F (lookC l13) 600 Tryz.f13 b13 (prF s c t q) 6 (prC s) ⟨k, f, n, p⟩) = ( (decide ((↑k : Int) ≤ (↑s.length :
 Int)) = true → (decide ((↑k : Int) < (↑s.length : Int)) = true → ((0 : Int) ≤ (↑k : Int) ∧ (↑k : Int) < (↑s.length : Int)) ∧ (((↑(s.getD (↑k : Int).toNat (0 : UInt8)).toNat : Int) != 10) = true → ∃ (s_1 : PrS), s = s ∧ p
 = s_1.q ∧ (↑f : Int) = (↑s_1.f : Int) ∧ (↑n : Int) + 1 = (↑s_1.n : Int) + 1 ∧ IntKind.i64.wrap ((↑k : Int) + 1) = (↑s_1.k : Int) ∧ prI s s_1 ∧ s.length + 1 - s_1.k < s.length + 1 - k ∧ True) ∧ (((↑(s.getD (↑k :
 Int).toNat (0 : UInt8)).toNat : Int) != 10) = false → ((0 : Int) ≤ (↑f : Int) ∧ (↑f : Int) ≤ (↑k : Int) ∧ (↑k : Int) ≤ (↑s.length : Int)) ∧ ((!List.take ((↑k : Int).toNat - (↑f : Int).toNat) (List.drop (↑f : Int).toNat
 s) == []) = true → (((↑p.length : Int) == 48) = true → [] = q ∧ (4 : Int) = c ∧ (↑n : Int) + 1 = t ∧ True) ∧ (((↑p.length : Int) == 48) = false → irD.pre (List.take ((↑k : Int).toNat - (↑f : Int).toNat) (List.drop (↑f :
 Int).toNat s), ()) ∧ ((!(insR (wordsR (List.take ((↑k : Int).toNat - (↑f : Int).toNat) (List.drop (↑f : Int).toNat s)))).snd) = true → [] = q ∧ (3 : Int) = c ∧ (↑n : Int) + 1 = t ∧ True) ∧ ((!(insR (wordsR (List.take
 ((↑k : Int).toNat - (↑f : Int).toNat) (List.drop (↑f : Int).toNat s)))).snd) = false → (p.length + [Ins.mk (insR (wordsR (List.take ((↑k : Int).toNat - (↑f : Int).toNat) (List.drop (↑f : Int).toNat s)))).fst.op (insR
 (wordsR (List.take ((↑k : Int).toNat - (↑f : Int).toNat) (List.drop (↑f : Int).toNat s)))).fst.a (insR (wordsR (List.take ((↑k : Int).toNat - (↑f : Int).toNat) (List.drop (↑f : Int).toNat s)))).fst.b (insR (wordsR
 (List.take ((↑k : Int).toNat - (↑f : Int).toNat) (List.drop (↑f : Int).toNat s)))).fst.c (insR (wordsR (List.take ((↑k : Int).toNat - (↑f : Int).toNat) (List.drop (↑f : Int).toNat s)))).fst.n].length) * 40 ≤
 140737488355328 ∧ ∃ (s_1 : PrS), s = s ∧ p ++ [Ins.mk (insR (wordsR (List.take ((↑k : Int).toNat - (↑f : Int).toNat) (List.drop (↑f : Int).toNat s)))).fst.op (insR (wordsR (List.take ((↑k : Int).toNat - (↑f : Int).toNat)
 (List.drop (↑f : Int).toNat s)))).fst.a (insR (wordsR (List.take ((↑k : Int).toNat - (↑f : Int).toNat) (List.drop (↑f : Int).toNat s)))).fst.b (insR (wordsR (List.take ((↑k : Int).toNat - (↑f : Int).toNat) (List.drop (↑f
 : Int).toNat s)))).fst.c (insR (wordsR (List.take ((↑k : Int).toNat - (↑f : Int).toNat) (List.drop (↑f : Int).toNat s)))).fst.n] = s_1.q ∧ IntKind.i64.wrap ((↑k : Int) + 1) = (↑s_1.f : Int) ∧ IntKind.i64.wrap ((↑n : Int)
 + 1 + 1) = (↑s_1.n : Int) + 1 ∧ IntKind.i64.wrap ((↑k : Int) + 1) = (↑s_1.k : Int) ∧ prI s s_1 ∧ s.length + 1 - s_1.k < s.length + 1 - k ∧ True))) ∧ ((!List.take ((↑k : Int).toNat - (↑f : Int).toNat) (List.drop (↑f :
 Int).toNat s) == []) = false → ∃ (s_1 : PrS), s = s ∧ p = s_1.q ∧ IntKind.i64.wrap ((↑k : Int) + 1) = (↑s_1.f : Int) ∧ IntKind.i64.wrap ((↑n : Int) + 1 + 1) = (↑s_1.n : Int) + 1 ∧ IntKind.i64.wrap ((↑k : Int) + 1) =
 (↑s_1.k : Int) ∧ prI s s_1 ∧ s.length + 1 - s_1.k < s.length + 1 - k ∧ True))) ∧ (decide ((↑k : Int) < (↑s.length : Int)) = false → ((0 : Int) ≤ (↑f : Int) ∧ (↑f : Int) ≤ (↑k : Int) ∧ (↑k : Int) ≤ (↑s.length : Int)) ∧
 ((!List.take ((↑k : Int).toNat - (↑f : Int).toNat) (List.drop (↑f : Int).toNat s) == []) = true → (((↑p.length : Int) == 48) = true → [] = q ∧ (4 : Int) = c ∧ (↑n : Int) + 1 = t ∧ True) ∧ (((↑p.length : Int) == 48) =
 false → irD.pre (List.take ((↑k : Int).toNat - (↑f : Int).toNat) (List.drop (↑f : Int).toNat s), ()) ∧ ((!(insR (wordsR (List.take ((↑k : Int).toNat - (↑f : Int).toNat) (List.drop (↑f : Int).toNat s)))).snd) = true → []
 = q ∧ (3 : Int) = c ∧ (↑n : Int) + 1 = t ∧ True) ∧ ((!(insR (wordsR (List.take ((↑k : Int).toNat - (↑f : Int).toNat) (List.drop (↑f : Int).toNat s)))).snd) = false → (p.length + [Ins.mk (insR (wordsR (List.take ((↑k :
 Int).toNat - (↑f : Int).toNat) (List.drop (↑f : Int).toNat s)))).fst.op (insR (wordsR (List.take ((↑k : Int).toNat - (↑f : Int).toNat) (List.drop (↑f : Int).toNat s)))).fst.a (insR (wordsR (List.take ((↑k : Int).toNat -
 (↑f : Int).toNat) (List.drop (↑f : Int).toNat s)))).fst.b (insR (wordsR (List.take ((↑k : Int).toNat - (↑f : Int).toNat) (List.drop (↑f : Int).toNat s)))).fst.c (insR (wordsR (List.take ((↑k : Int).toNat - (↑f :
 Int).toNat) (List.drop (↑f : Int).toNat s)))).fst.n].length) * 40 ≤ 140737488355328 ∧ ∃ (s_1 : PrS), s = s ∧ p ++ [Ins.mk (insR (wordsR (List.take ((↑k : Int).toNat - (↑f : Int).toNat) (List.drop (↑f : Int).toNat
 s)))).fst.op (insR (wordsR (List.take ((↑k : Int).toNat - (↑f : Int).toNat) (List.drop (↑f : Int).toNat s)))).fst.a (insR (wordsR (List.take ((↑k : Int).toNat - (↑f : Int).toNat) (List.drop (↑f : Int).toNat s)))).fst.b
 (insR (wordsR (List.take ((↑k : Int).toNat - (↑f : Int).toNat) (List.drop (↑f : Int).toNat s)))).fst.c (insR (wordsR (List.take ((↑k : Int).toNat - (↑f : Int).toNat) (List.drop (↑f : Int).toNat s)))).fst.n] = s_1.q ∧
 IntKind.i64.wrap ((↑k : Int) + 1) = (↑s_1.f : Int) ∧ IntKind.i64.wrap ((↑n : Int) + 1 + 1) = (↑s_1.n : Int) + 1 ∧ IntKind.i64.wrap ((↑k : Int) + 1) = (↑s_1.k : Int) ∧ prI s s_1 ∧ s.length + 1 - s_1.k < s.length + 1 - k ∧
 True))) ∧ ((!List.take ((↑k : Int).toNat - (↑f : Int).toNat) (List.drop (↑f : Int).toNat s) == []) = false → ∃ (s_1 : PrS), s = s ∧ p = s_1.q ∧ IntKind.i64.wrap ((↑k : Int) + 1) = (↑s_1.f : Int) ∧ IntKind.i64.wrap ((↑n :
 Int) + 1 + 1) = (↑s_1.n : Int) + 1 ∧ IntKind.i64.wrap ((↑k : Int) + 1) = (↑s_1.k : Int) ∧ prI s s_1 ∧ s.length + 1 - s_1.k < s.length + 1 - k ∧ True))) ∧ (decide ((↑k : Int) ≤ (↑s.length : Int)) = false → p = q ∧ (0 :
 Int) = c ∧ (0 : Int) = t ∧ True)) := by kernel_rfl

/-! ### instr -/
theorem ins_z {ws : List (List UInt8)} (h : insR ws = (zIns, false)) : (0 : Int) = (insR ws).1.op ∧ (0 : Int) = (insR ws).1.a ∧ (0 : Int) = (insR ws).1.b ∧ (0 : Int) = (insR ws).1.c ∧ (0 : Int) = (insR ws).1.n ∧ false = (insR ws).2 ∧ True := by
  rw [h]
  exact ⟨rfl, rfl, rfl, rfl, rfl, rfl, trivial⟩
theorem ir_e_ok (s : List UInt8) (hs : s.length ≤ 20000) : Paid (entryX F (lookC l24) 600 Tryz.f24 b24 (irF s) [.s s]) := by
  refine ⟨?_⟩
  rw [ir_e]
  refine ⟨hs, fun h => ins_z ?_, fun h => ⟨1, rfl, rfl, rfl, rfl, rfl, rfl, rfl, ⟨Nat.le_refl _, by omega, ?_⟩, trivial⟩⟩
  · have : wordsR s = [] := List.length_eq_zero_iff.1 (by have := eq_of_beq h; omega)
    unfold insR
    rw [if_pos this]
  · intro e
    rw [e] at h
    simp at h
theorem opGo_hit {w : List UInt8} {k : Nat} (h1 : 1 ≤ k) (h : at3 wordsL k = w) : opGo w (k + 1) = k := by
  rw [opGo, if_pos ⟨h1, h⟩]
theorem opGo_miss {w : List UInt8} {k : Nat} (h : at3 wordsL k ≠ w) : opGo w (k + 1) = opGo w k := by
  rw [opGo, if_neg (fun e => h e.2)]
theorem ir_6_ok (s : List UInt8) (hs : s.length ≤ 20000) (k : Nat) (h1 : 1 ≤ k) (h2 : k ≤ 23) (hw : wordsR s ≠ []) : Paid (cutVC F (lookC l24) 600 Tryz.f24 b24 (irF s) 6 (irC s) k) := by
  refine ⟨?_⟩
  rw [ir_6]
  have hp : 0 < (wordsR s).length := List.length_pos_iff.2 hw
  refine ⟨fun h => ⟨⟨by omega, ?_⟩, ⟨Int.le_refl _, by omega⟩, fun g => ⟨k + 1, rfl, ?_, rfl, rfl, rfl, rfl, ?_, ⟨by omega, ?_, hw⟩, by omega, trivial⟩, fun g => ⟨k + 1, rfl, ?_, rfl, rfl, rfl, rfl, ?_, ⟨by omega, ?_, hw⟩, by omega, trivial⟩⟩,
    fun h => ⟨⟨Int.le_refl _, by omega⟩, fun g => ⟨(), rfl, ?_, rfl, ?_, rfl, rfl, hw, by omega, trivial⟩, fun g => ⟨(), rfl, ?_, rfl, ?_, rfl, rfl, hw, by omega, trivial⟩⟩⟩
  · simpa using h
  · exact (opGo_hit h1 (eq_of_beq g)).symm
  · rw [wrap64 (by omega) (by omega)]; rfl
  · simp only [decide_eq_true_eq] at h; omega
  · exact (opGo_miss (ne_of_beq_false g)).symm
  · rw [wrap64 (by omega) (by omega)]; rfl
  · simp only [decide_eq_true_eq] at h; omega
  · unfold opR
    rw [if_pos (show at3 (wordsR s) 0 = readW from eq_of_beq g)]
  · rw [if_pos (show at3 (wordsR s) 0 = readW from eq_of_beq g)]
  · have hk : k = 23 := by simp only [decide_eq_false_iff_not] at h; omega
    subst hk
    unfold opR
    rw [if_neg (show ¬ at3 (wordsR s) 0 = readW from ne_of_beq_false g)]
  · rw [if_neg (show ¬ at3 (wordsR s) 0 = readW from ne_of_beq_false g)]
theorem ir_12_ok (s : List UInt8) (hw : wordsR s ≠ []) : Paid (cutVC F (lookC l24) 600 Tryz.f24 b24 (irF s) 12 (irC12 s) ()) := by
  refine ⟨?_⟩
  rw [ir_12]
  have hp : 0 < (wordsR s).length := List.length_pos_iff.2 hw
  have fin : opR (at3 (wordsR s) 0) ≠ 0 → irI s 0 ⟨1, i0R (at3 (wordsR s) 0)⟩ := by
    intro h
    refine ⟨Nat.le_refl _, hp, rfl, ?_⟩
    unfold insR
    rw [if_neg hw, if_neg h]
  refine ⟨fun h => ins_z ?_, fun h => ⟨trivial, fun g => ⟨true, fun _ => ⟨⟨1, i0R (at3 (wordsR s) 0)⟩, rfl, rfl, rfl, rfl, rfl, rfl, rfl, ?_, rfl, rfl, rfl, rfl, fin (ne_of_beq_false h), by omega, trivial⟩, nofun⟩, fun g => ⟨true, fun _ => ⟨⟨1, i0R (at3 (wordsR s) 0)⟩, rfl, rfl, rfl, rfl, rfl, rfl, rfl, ?_, rfl, rfl, rfl, rfl, fin (ne_of_beq_false h), by omega, trivial⟩, nofun⟩⟩⟩
  · unfold insR
    rw [if_neg hw, if_pos (eq_of_beq h)]
  · unfold bS
    rw [if_pos (eq_of_beq g)]
  · unfold bS
    rw [if_neg (ne_of_beq_false g)]
theorem drop_at {l : List (List UInt8)} {t : Nat} (h : t < l.length) : l.drop t = at3 l (t : Int) :: l.drop (t + 1) := by
  rw [at3_get h, List.drop_eq_getElem_cons h]
theorem fill_none {f : UInt8} {fs : List UInt8} {i : Ins} : refFill (f :: fs) [] i = none := rfl
theorem fill_bad {f : UInt8} (hf : f ≠ 110) {fs : List UInt8} {w : List UInt8} {l : List (List UInt8)} {i : Ins} (h : digV w = none) : refFill (f :: fs) (w :: l) i = none := by
  rw [refFill, if_neg hf, h]
theorem fill_ok {f : UInt8} (hf : f ≠ 110) {fs : List UInt8} {w : List UInt8} {l : List (List UInt8)} {i : Ins} {v : Int} (h : digV w = some v) : refFill (f :: fs) (w :: l) i = refFill fs l (setF f v i) := by
  rw [refFill, if_neg hf, h]
theorem dig_len {w : List UInt8} (h : ((w.length : Int) != 1) = true) : digV w = none := by
  rcases w with _ | ⟨c, _ | ⟨d, w⟩⟩
  · rfl
  · simp at h
  · rfl
theorem dig_one {w : List UInt8} (h : ((w.length : Int) != 1) = false) : ∃ c, w = [c] := by
  rcases w with _ | ⟨c, _ | ⟨d, w⟩⟩
  · simp at h
  · exact ⟨c, rfl⟩
  · simp at h
    omega
theorem w8 (x : Int) (h1 : 0 ≤ x) (h2 : x ≤ 255) : IntKind.u8.wrap x = x := by
  simp only [IntKind.wrap, IntKind.signed, IntKind.bits]
  simp
  omega
/-- What a field's part of the loop comes to. -/
theorem ir_field (s : List UInt8) (hs : (wordsR s).length ≤ 100000) (k k' : Nat) (f : UInt8) (hf : f ≠ 110) (t : Nat) (i : Ins) (hI : irI s k ⟨t, i⟩) (hfl : fl (opR (at3 (wordsR s) 0)) k = f :: fl (opR (at3 (wordsR s) 0)) k') {R1 R2 : Prop}
    (h1 : insR (wordsR s) = (zIns, false) → R1) (h2 : ∀ v, IntKind.i64.wrap (IntKind.u8.wrap ((((at3 (wordsR s) (t : Int)).getD 0 0).toNat : Int) - 48)) = v → IntKind.i64.wrap ((t : Int) + 1) = ((t + 1 : Nat) : Int) → irI s k' ⟨t + 1, setF f v i⟩ → R2) :
    (decide ((t : Int) ≥ ((wordsR s).length : Int)) = true → R1) ∧ (decide ((t : Int) ≥ ((wordsR s).length : Int)) = false →
      (0 ≤ (t : Int) ∧ (t : Int) < ((wordsR s).length : Int)) ∧ ((((at3 (wordsR s) (t : Int)).length : Int) != 1) = true → R1) ∧ ((((at3 (wordsR s) (t : Int)).length : Int) != 1) = false →
        (0 ≤ (t : Int) ∧ (t : Int) < ((wordsR s).length : Int)) ∧ ((0 : Int) ≤ 0 ∧ (0 : Int) < ((at3 (wordsR s) (t : Int)).length : Int)) ∧
        (decide ((((at3 (wordsR s) (t : Int)).getD 0 0).toNat : Int) < 48) = true → R1) ∧ (decide ((((at3 (wordsR s) (t : Int)).getD 0 0).toNat : Int) < 48) = false →
          (0 ≤ (t : Int) ∧ (t : Int) < ((wordsR s).length : Int)) ∧ ((0 : Int) ≤ 0 ∧ (0 : Int) < ((at3 (wordsR s) (t : Int)).length : Int)) ∧
          (decide ((((at3 (wordsR s) (t : Int)).getD 0 0).toNat : Int) > 57) = true → R1) ∧ (decide ((((at3 (wordsR s) (t : Int)).getD 0 0).toNat : Int) > 57) = false →
            (0 ≤ (t : Int) ∧ (t : Int) < ((wordsR s).length : Int)) ∧ ((0 : Int) ≤ 0 ∧ (0 : Int) < ((at3 (wordsR s) (t : Int)).length : Int)) ∧
            R2)))) := by
  obtain ⟨g1, g2, g3, g4⟩ := hI
  have g1 : 1 ≤ t := g1
  have g2 : t ≤ (wordsR s).length := g2
  have g4 : insR (wordsR s) = endR (refFill (fl (opR (at3 (wordsR s) 0)) k) ((wordsR s).drop t) i) := g4
  rw [hfl] at g4
  refine ⟨fun h => h1 ?_, fun h => ?_⟩
  · simp only [ge_iff_le, decide_eq_true_eq] at h
    rw [g4, List.drop_eq_nil_of_le (by omega)]
    rfl
  · simp only [ge_iff_le, decide_eq_false_iff_not] at h
    have hlt : t < (wordsR s).length := by omega
    rw [drop_at hlt] at g4
    have hb : (0 : Int) ≤ (t : Int) ∧ (t : Int) < ((wordsR s).length : Int) := ⟨by omega, by omega⟩
    refine ⟨hb, fun g => h1 ?_, fun g => ?_⟩
    · rw [g4, fill_bad hf (dig_len g)]
      rfl
    · obtain ⟨c, hc⟩ := dig_one g
      rw [hc] at g4 h2 ⊢
      have e0 : ([c] : List UInt8).getD 0 0 = c := rfl
      have z : (0 : Int) ≤ 0 ∧ (0 : Int) < (([c] : List UInt8).length : Int) := ⟨by omega, by simp⟩
      rw [e0] at h2 ⊢
      refine ⟨hb, z, fun q => h1 ?_, fun q => ⟨hb, z, fun q2 => h1 ?_, fun q2 => ⟨hb, z, ?_⟩⟩⟩
      · simp only [decide_eq_true_eq] at q
        have hd : digV [c] = none := by
          unfold digV digitB
          simp only
          rw [decide_eq_false (by omega)]
          rfl
        rw [g4, fill_bad hf hd]
        rfl
      · simp only [gt_iff_lt, decide_eq_true_eq] at q2
        have hd : digV [c] = none := by
          unfold digV digitB
          simp only
          rw [decide_eq_false (p := c.toNat ≤ 57) (by omega), Bool.and_false]
          rfl
        rw [g4, fill_bad hf hd]
        rfl
      · simp only [gt_iff_lt, decide_eq_false_iff_not] at q q2
        have hd : digV [c] = some ((c.toNat : Int) - 48) := by
          unfold digV digitB
          simp only
          rw [decide_eq_true (show 48 ≤ c.toNat by omega), decide_eq_true (show c.toNat ≤ 57 by omega)]
          rfl
        have ew : IntKind.i64.wrap (IntKind.u8.wrap ((c.toNat : Int) - 48)) = (c.toNat : Int) - 48 := by
          rw [w8 _ (by omega) (by omega), wrap64 (by omega) (by omega)]
        have hop : ∀ v, (setF f v i).op = i.op := by
          intro v
          unfold setF
          repeat' split
          all_goals rfl
        refine h2 _ ew ?_ ⟨?_, hlt, ?_, ?_⟩
        · rw [wrap64 (by omega) (by omega)]; rfl
        · show 1 ≤ t + 1
          omega
        · show (setF f _ i).op = _
          rw [hop]
          exact g3
        · show insR (wordsR s) = endR (refFill _ ((wordsR s).drop (t + 1)) _)
          rw [g4, fill_ok hf hd]
theorem fl0 {op : Int} : fl op 0 = if shA op = 0 then fl op 1 else 97 :: fl op 1 := by
  unfold fl
  by_cases h : shA op = 0
  · simp [h]
  · simp [h]
theorem fl1 {op : Int} : fl op 1 = if bS op = 0 then fl op 2 else 98 :: fl op 2 := by
  unfold fl
  by_cases h : bS op = 0
  · simp [h]
  · simp [h]
theorem fl2 {op : Int} : fl op 2 = if shC op = 0 then fl op 3 else 99 :: fl op 3 := by
  unfold fl
  by_cases h : shC op = 0
  · simp [h]
  · simp [h]
theorem ir_skip {s : List UInt8} {k k' : Nat} {x : IrS} (hI : irI s k x) (h : fl (opR (at3 (wordsR s) 0)) k = fl (opR (at3 (wordsR s) 0)) k') : irI s k' x := by
  obtain ⟨g1, g2, g3, g4⟩ := hI
  rw [h] at g4
  exact ⟨g1, g2, g3, g4⟩
theorem ir_190_ok (s : List UInt8) (hs : (wordsR s).length ≤ 100000) (t : Nat) (i : Ins) (hI : irI s 0 ⟨t, i⟩) : Paid (cutVC F (lookC l24) 600 Tryz.f24 b24 (irF s) 19 (irK s 0) ⟨t, i⟩) := by
  refine ⟨?_⟩
  rw [ir_190]
  refine ⟨fun h => ⟨false, nofun, fun _ => ⟨true, fun _ => ⟨⟨t, i⟩, rfl, rfl, rfl, rfl, rfl, rfl, rfl, rfl, rfl, rfl, rfl, rfl, ir_skip hI ?_, by omega, trivial⟩, nofun⟩⟩, fun h => ?_⟩
  · rw [fl0, if_pos (eq_of_beq h)]
  · refine ir_field s hs 0 1 97 (by decide) t i hI (by rw [fl0, if_neg (ne_of_beq_false h)]) ins_z fun v hv hw hn => ⟨false, nofun, fun _ => ⟨true, fun _ => ⟨⟨t + 1, setF 97 v i⟩, rfl, rfl, hv, rfl, rfl, rfl, rfl, rfl, rfl, rfl, hw, rfl, hn, by omega, trivial⟩, nofun⟩⟩
theorem ir_191_ok (s : List UInt8) (hs : (wordsR s).length ≤ 100000) (t : Nat) (i : Ins) (hI : irI s 1 ⟨t, i⟩) : Paid (cutVC F (lookC l24) 600 Tryz.f24 b24 (irF s) 19 (irK s 1) ⟨t, i⟩) := by
  refine ⟨?_⟩
  rw [ir_191]
  refine ⟨fun h => ⟨false, nofun, fun _ => ⟨false, nofun, fun _ => ⟨true, fun _ => ⟨⟨t, i⟩, rfl, rfl, rfl, rfl, rfl, rfl, rfl, rfl, rfl, rfl, rfl, rfl, ir_skip hI ?_, by omega, trivial⟩, nofun⟩⟩⟩, fun h => ?_⟩
  · rw [fl1, if_pos (eq_of_beq h)]
  · refine ir_field s hs 1 2 98 (by decide) t i hI (by rw [fl1, if_neg (ne_of_beq_false h)]) ins_z fun v hv hw hn => ⟨false, nofun, fun _ => ⟨false, nofun, fun _ => ⟨true, fun _ => ⟨⟨t + 1, setF 98 v i⟩, rfl, rfl, rfl, hv, rfl, rfl, rfl, rfl, rfl, rfl, hw, rfl, hn, by omega, trivial⟩, nofun⟩⟩⟩
theorem ir_192_ok (s : List UInt8) (hs : (wordsR s).length ≤ 100000) (t : Nat) (i : Ins) (hI : irI s 2 ⟨t, i⟩) : Paid (cutVC F (lookC l24) 600 Tryz.f24 b24 (irF s) 19 (irK s 2) ⟨t, i⟩) := by
  refine ⟨?_⟩
  rw [ir_192]
  refine ⟨fun h => ⟨false, nofun, fun _ => ⟨false, nofun, fun _ => ⟨false, nofun, fun _ => ⟨⟨t, i⟩, rfl, rfl, rfl, rfl, rfl, rfl, rfl, rfl, rfl, rfl, rfl, rfl, ir_skip hI ?_, by omega, trivial⟩⟩⟩⟩, fun h => ?_⟩
  · rw [fl2, if_pos (eq_of_beq h)]
  · refine ir_field s hs 2 3 99 (by decide) t i hI (by rw [fl2, if_neg (ne_of_beq_false h)]) ins_z fun v hv hw hn => ⟨false, nofun, fun _ => ⟨false, nofun, fun _ => ⟨false, nofun, fun _ => ⟨⟨t + 1, setF 99 v i⟩, rfl, rfl, rfl, rfl, hv, rfl, rfl, rfl, rfl, rfl, hw, rfl, hn, by omega, trivial⟩⟩⟩⟩
theorem end_ok (i : Ins) : endR (some (i, [])) = (i, mayB i) := rfl
theorem end_no (i : Ins) {l : List (List UInt8)} (h : l ≠ []) : endR (some (i, l)) = (i, false) := by
  cases l with
  | nil => exact absurd rfl h
  | cons => rfl
theorem ir_193_ok (s : List UInt8) (hs : (wordsR s).length ≤ 100000) (hw : ∀ w ∈ wordsR s, w.length ≤ 100000) (t : Nat) (i : Ins) (hI : irI s 3 ⟨t, i⟩) : Paid (cutVC F (lookC l24) 600 Tryz.f24 b24 (irF s) 19 (irK s 3) ⟨t, i⟩) := by
  refine ⟨?_⟩
  rw [ir_193]
  obtain ⟨g1, g2, g3, g4⟩ := hI
  have g1 : 1 ≤ t := g1
  have g2 : t ≤ (wordsR s).length := g2
  have g4 : insR (wordsR s) = endR (refFill (fl (opR (at3 (wordsR s) 0)) 3) ((wordsR s).drop t) i) := g4
  have hf3 : fl (opR (at3 (wordsR s) 0)) 3 = if shN (opR (at3 (wordsR s) 0)) = 5 then [110] else [] := by
    unfold fl
    simp
  rw [hf3] at g4
  refine ⟨fun h => ?_, fun h => ?_⟩
  · rw [if_pos (eq_of_beq h)] at g4
    refine ⟨fun q => ins_z ?_, fun q => ?_⟩
    · simp only [ge_iff_le, decide_eq_true_eq] at q
      rw [g4, List.drop_eq_nil_of_le (by omega)]
      rfl
    · simp only [ge_iff_le, decide_eq_false_iff_not] at q
      have hlt : t < (wordsR s).length := by omega
      rw [drop_at hlt, refFill, if_pos rfl] at g4
      have ht : IntKind.i64.wrap ((t : Int) + 1) = ((t + 1 : Nat) : Int) := by rw [wrap64 (by omega) (by omega)]; rfl
      rw [ht]
      refine ⟨⟨by omega, by omega⟩, ?_, fun q2 => ins_z ?_, fun q2 => ?_⟩
      · show (at3 (wordsR s) (t : Int)).length ≤ 100000
        rw [at3_get hlt]
        exact hw _ (List.getElem_mem hlt)
      · have e : (numR (at3 (wordsR s) (t : Int))).2 = false := by simpa using q2
        rw [g4, if_neg (by rw [e]; exact Bool.false_ne_true)]
        rfl
      · have e : (numR (at3 (wordsR s) (t : Int))).2 = true := by simpa using q2
        rw [if_pos e, refFill] at g4
        refine ⟨fun q3 => ?_, fun q3 => ?_⟩
        · have : (wordsR s).drop (t + 1) = [] := List.drop_eq_nil_of_le (by have := eq_of_beq q3; omega)
          rw [this, end_ok] at g4
          rw [g4]
          exact ⟨trivial, rfl, rfl, rfl, rfl, rfl, rfl, trivial⟩
        · have : (wordsR s).drop (t + 1) ≠ [] := by
            intro e2
            have := List.drop_eq_nil_iff.1 e2
            have := ne_of_beq_false q3
            omega
          rw [end_no _ this] at g4
          rw [g4]
          exact ⟨rfl, rfl, rfl, rfl, rfl, rfl, trivial⟩
  · rw [if_neg (ne_of_beq_false h), refFill] at g4
    refine ⟨fun q3 => ?_, fun q3 => ?_⟩
    · have : (wordsR s).drop t = [] := List.drop_eq_nil_of_le (by have := eq_of_beq q3; omega)
      rw [this, end_ok] at g4
      rw [g4]
      exact ⟨trivial, rfl, rfl, rfl, rfl, rfl, rfl, trivial⟩
    · have : (wordsR s).drop t ≠ [] := by
        intro e2
        have := List.drop_eq_nil_iff.1 e2
        have := ne_of_beq_false q3
        omega
      rw [end_no _ this] at g4
      rw [g4]
      exact ⟨rfl, rfl, rfl, rfl, rfl, rfl, trivial⟩
theorem l24Ok : CtrOk F.S (lookC l24) := lookC_ok fun p h => by
  simp only [l24, List.mem_cons, List.not_mem_nil, or_false] at h
  rcases h with rfl | rfl | rfl | rfl | rfl
  · exact miOk
  · exact fdOk
  · exact wordsOk
  · exact splitROk
  · exact nrOk
theorem wordsR_len (s : List UInt8) : (wordsR s).length ≤ s.length + 1 := by
  unfold wordsR
  split
  · exact Nat.zero_le _
  · exact split_len 32 s
theorem wordsR_le (s : List UInt8) : ∀ w ∈ wordsR s, w.length ≤ s.length := by
  unfold wordsR
  split
  · intro w h
    simp at h
  · exact splitL_le 32 s
theorem irOk : CtrOk1 F.S 24 (mkCtr irD) :=
  mkCtr_paid (fn := Tryz.f24) (body := b24) (ctr := lookC l24) codOk noExt hookLow l24Ok Tryz.func24 rfl rfl (by kernel_rfl) irD 600 (fun (x : List UInt8 × Unit) => (irF x.1).cuts) (show 1 ≤ Tryz.f24.ntmps by decide) (show Tryz.f24.ntmps ≤ 512 by decide) (by kernel_rfl) (fun _ _ => ⟨rfl, rfl⟩)
    (fun (x : List UInt8 × Unit) h => ir_e_ok x.1 h) (fun (x : List UInt8 × Unit) h q hm y hI => by
      have h : x.1.length ≤ 20000 := h
      have hl := wordsR_len x.1
      have hw : ∀ w ∈ wordsR x.1, w.length ≤ 100000 := fun w hw => by have := wordsR_le x.1 w hw; omega
      simp only [irF, List.mem_cons, List.not_mem_nil, or_false] at hm
      rcases hm with rfl | rfl | rfl | rfl | rfl | rfl
      · exact ir_6_ok x.1 h y hI.1 hI.2.1 hI.2.2
      · exact ir_12_ok x.1 hI
      · exact ir_190_ok x.1 (by omega) y.t y.i hI
      · exact ir_191_ok x.1 (by omega) y.t y.i hI
      · exact ir_192_ok x.1 (by omega) y.t y.i hI
      · exact ir_193_ok x.1 (by omega) hw y.t y.i hI)
end Go.Proofs.YtbbbpnaghipfmaaGreatDoor

/- eval.May and MayInstr, and an instruction out of a row: their contracts are paid. -/
import Derived.Test.YtbbbpnaghipfmaaGreatDoorMa
namespace Go.Proofs.YtbbbpnaghipfmaaGreatDoor
open Go.RowKit Go.Am Go.Sy
set_option linter.unusedVariables false
set_option linter.unusedSimpArgs false

theorem sh_e (op : Int) : Go.Sy.Tree.holds (entryX F (lookC []) 200 Tryz.f40 b40 ⟨[], .tup [.i .i64 (shA op), .i .i64 (shB op), .i .i64 (shC op), .i .i64 (shN op)], []⟩ [.i .i64 op]) = ( ((op == 1) = true → (1 : Int) =
 shA op ∧ (0 : Int) = shB op ∧ (0 : Int) = shC op ∧ (5 : Int) = shN op ∧ True) ∧ ((op == 1) = false → ((op == 2) = true → (1 : Int) = shA op ∧ (1 : Int) = shB op ∧ (1 : Int) = shC op ∧ (0 : Int) = shN op ∧ True) ∧ ((op ==
 2) = false → ((op == 3) = true → (1 : Int) = shA op ∧ (1 : Int) = shB op ∧ (1 : Int) = shC op ∧ (0 : Int) = shN op ∧ True) ∧ ((op == 3) = false → ((op == 4) = true → (1 : Int) = shA op ∧ (1 : Int) = shB op ∧ (1 : Int) =
 shC op ∧ (0 : Int) = shN op ∧ True) ∧ ((op == 4) = false → ((op == 5) = true → (1 : Int) = shA op ∧ (1 : Int) = shB op ∧ (1 : Int) = shC op ∧ (0 : Int) = shN op ∧ True) ∧ ((op == 5) = false → ((op == 6) = true → (1 :
 Int) = shA op ∧ (1 : Int) = shB op ∧ (1 : Int) = shC op ∧ (0 : Int) = shN op ∧ True) ∧ ((op == 6) = false → ((op == 7) = true → (1 : Int) = shA op ∧ (1 : Int) = shB op ∧ (1 : Int) = shC op ∧ (0 : Int) = shN op ∧ True) ∧
 ((op == 7) = false → ((op == 8) = true → (1 : Int) = shA op ∧ (1 : Int) = shB op ∧ (0 : Int) = shC op ∧ (5 : Int) = shN op ∧ True) ∧ ((op == 8) = false → ((op == 9) = true → (1 : Int) = shA op ∧ (1 : Int) = shB op ∧ (0 :
 Int) = shC op ∧ (5 : Int) = shN op ∧ True) ∧ ((op == 9) = false → ((op == 10) = true → (0 : Int) = shA op ∧ (1 : Int) = shB op ∧ (0 : Int) = shC op ∧ (5 : Int) = shN op ∧ True) ∧ ((op == 10) = false → ((op == 11) = true
 → (0 : Int) = shA op ∧ (1 : Int) = shB op ∧ (0 : Int) = shC op ∧ (5 : Int) = shN op ∧ True) ∧ ((op == 11) = false → ((op == 12) = true → (1 : Int) = shA op ∧ (0 : Int) = shB op ∧ (0 : Int) = shC op ∧ (0 : Int) = shN op ∧
 True) ∧ ((op == 12) = false → ((op == 18) = true → (1 : Int) = shA op ∧ (0 : Int) = shB op ∧ (0 : Int) = shC op ∧ (0 : Int) = shN op ∧ True) ∧ ((op == 18) = false → ((op == 21) = true → (1 : Int) = shA op ∧ (0 : Int) =
 shB op ∧ (0 : Int) = shC op ∧ (0 : Int) = shN op ∧ True) ∧ ((op == 21) = false → ((op == 13) = true → (2 : Int) = shA op ∧ (4 : Int) = shB op ∧ (0 : Int) = shC op ∧ (0 : Int) = shN op ∧ True) ∧ ((op == 13) = false → ((op
 == 15) = true → (3 : Int) = shA op ∧ (0 : Int) = shB op ∧ (0 : Int) = shC op ∧ (0 : Int) = shN op ∧ True) ∧ ((op == 15) = false → ((op == 16) = true → (3 : Int) = shA op ∧ (0 : Int) = shB op ∧ (0 : Int) = shC op ∧ (0 :
 Int) = shN op ∧ True) ∧ ((op == 16) = false → ((op == 17) = true → (3 : Int) = shA op ∧ (0 : Int) = shB op ∧ (0 : Int) = shC op ∧ (0 : Int) = shN op ∧ True) ∧ ((op == 17) = false → (0 : Int) = shA op ∧ (0 : Int) = shB op
 ∧ (0 : Int) = shC op ∧ (0 : Int) = shN op ∧ True))))))))))))))))))) := by kernel_rfl
theorem ft_e (k v : Int) : Go.Sy.Tree.holds (entryX F (lookC []) 200 Tryz.f41 b41 ⟨[], .b (fitB k v), []⟩ [.i .i64 k, .i .i64 v]) = ( ((k == 1) = true → (decide (v ≥ (0 : Int)) = true → decide (v ≤ 3) = fitB k v ∧ True) ∧
 (decide (v ≥ (0 : Int)) = false → false = fitB k v ∧ True)) ∧ ((k == 1) = false → ((k == 2) = true → (decide (v ≥ (0 : Int)) = true → decide (v ≤ 3) = fitB k v ∧ True) ∧ (decide (v ≥ (0 : Int)) = false → false = fitB k v
 ∧ True)) ∧ ((k == 2) = false → ((k == 3) = true → (decide (v ≥ (0 : Int)) = true → decide (v ≤ 3) = fitB k v ∧ True) ∧ (decide (v ≥ (0 : Int)) = false → false = fitB k v ∧ True)) ∧ ((k == 3) = false → ((k == 4) = true →
 (decide (v ≥ (0 : Int)) = true → decide (v ≤ 1) = fitB k v ∧ True) ∧ (decide (v ≥ (0 : Int)) = false → false = fitB k v ∧ True)) ∧ ((k == 4) = false → (decide (v ≥ (0 : Int)) = true → decide (v ≤ 0) = fitB k v ∧ True) ∧
 (decide (v ≥ (0 : Int)) = false → false = fitB k v ∧ True)))))) := by kernel_rfl
theorem my_e (x : Ins) : Go.Sy.Tree.holds (entryX F (lookC e1) 200 Tryz.f29 b29 ⟨[], .b (mayB x), []⟩ [.agg (enc2 x)]) = ( shD.pre (x.op, ()) ∧ (decide (x.op ≥ (1 : Int)) = true → (decide (x.op ≤ 22) = true → fitD.pre
 (shA x.op, x.a, ()) ∧ (fitB (shA x.op) x.a = true → fitD.pre (shB x.op, x.b, ()) ∧ (fitB (shB x.op) x.b = true → fitD.pre (shC x.op, x.c, ()) ∧ (fitB (shC x.op) x.c = true → ((shN x.op == 5) = true → true = mayB x ∧
 True) ∧ ((shN x.op == 5) = false → (x.n == 0) = mayB x ∧ True)) ∧ (fitB (shC x.op) x.c = false → false = mayB x ∧ True)) ∧ (fitB (shB x.op) x.b = false → false = mayB x ∧ True)) ∧ (fitB (shA x.op) x.a = false → false =
 mayB x ∧ True)) ∧ (decide (x.op ≤ 22) = false → false = mayB x ∧ True)) ∧ (decide (x.op ≥ (1 : Int)) = false → false = mayB x ∧ True)) := by kernel_rfl
theorem fd_e (op : Int) : Go.Sy.Tree.holds (entryX F (lookC []) 300 Tryz.f10 b10 ⟨[], .tup [.i .i64 (shA op), .i .i64 (shB op), .i .i64 (shC op), .b (shN op == 5)], []⟩ [.i .i64 op]) = ( ((op == 1) = true → (1 : Int) =
 shA op ∧ (0 : Int) = shB op ∧ (0 : Int) = shC op ∧ true = (shN op == 5) ∧ True) ∧ ((op == 1) = false → ((op == 2) = true → (1 : Int) = shA op ∧ (1 : Int) = shB op ∧ (1 : Int) = shC op ∧ false = (shN op == 5) ∧ True) ∧
 ((op == 2) = false → ((op == 3) = true → (1 : Int) = shA op ∧ (1 : Int) = shB op ∧ (1 : Int) = shC op ∧ false = (shN op == 5) ∧ True) ∧ ((op == 3) = false → ((op == 4) = true → (1 : Int) = shA op ∧ (1 : Int) = shB op ∧
 (1 : Int) = shC op ∧ false = (shN op == 5) ∧ True) ∧ ((op == 4) = false → ((op == 5) = true → (1 : Int) = shA op ∧ (1 : Int) = shB op ∧ (1 : Int) = shC op ∧ false = (shN op == 5) ∧ True) ∧ ((op == 5) = false → ((op == 6)
 = true → (1 : Int) = shA op ∧ (1 : Int) = shB op ∧ (1 : Int) = shC op ∧ false = (shN op == 5) ∧ True) ∧ ((op == 6) = false → ((op == 7) = true → (1 : Int) = shA op ∧ (1 : Int) = shB op ∧ (1 : Int) = shC op ∧ false = (shN
 op == 5) ∧ True) ∧ ((op == 7) = false → ((op == 8) = true → (1 : Int) = shA op ∧ (1 : Int) = shB op ∧ (0 : Int) = shC op ∧ true = (shN op == 5) ∧ True) ∧ ((op == 8) = false → ((op == 9) = true → (1 : Int) = shA op ∧ (1 :
 Int) = shB op ∧ (0 : Int) = shC op ∧ true = (shN op == 5) ∧ True) ∧ ((op == 9) = false → ((op == 10) = true → (0 : Int) = shA op ∧ (1 : Int) = shB op ∧ (0 : Int) = shC op ∧ true = (shN op == 5) ∧ True) ∧ ((op == 10) =
 false → ((op == 11) = true → (0 : Int) = shA op ∧ (1 : Int) = shB op ∧ (0 : Int) = shC op ∧ true = (shN op == 5) ∧ True) ∧ ((op == 11) = false → ((op == 12) = true → (1 : Int) = shA op ∧ (0 : Int) = shB op ∧ (0 : Int) =
 shC op ∧ false = (shN op == 5) ∧ True) ∧ ((op == 12) = false → ((op == 18) = true → (1 : Int) = shA op ∧ (0 : Int) = shB op ∧ (0 : Int) = shC op ∧ false = (shN op == 5) ∧ True) ∧ ((op == 18) = false → ((op == 21) = true
 → (1 : Int) = shA op ∧ (0 : Int) = shB op ∧ (0 : Int) = shC op ∧ false = (shN op == 5) ∧ True) ∧ ((op == 21) = false → ((op == 13) = true → (2 : Int) = shA op ∧ (4 : Int) = shB op ∧ (0 : Int) = shC op ∧ false = (shN op
 == 5) ∧ True) ∧ ((op == 13) = false → ((op == 15) = true → (3 : Int) = shA op ∧ (0 : Int) = shB op ∧ (0 : Int) = shC op ∧ false = (shN op == 5) ∧ True) ∧ ((op == 15) = false → ((op == 16) = true → (3 : Int) = shA op ∧ (0
 : Int) = shB op ∧ (0 : Int) = shC op ∧ false = (shN op == 5) ∧ True) ∧ ((op == 16) = false → ((op == 17) = true → (3 : Int) = shA op ∧ (0 : Int) = shB op ∧ (0 : Int) = shC op ∧ false = (shN op == 5) ∧ True) ∧ ((op == 17)
 = false → (0 : Int) = shA op ∧ (0 : Int) = shB op ∧ (0 : Int) = shC op ∧ false = (shN op == 5) ∧ True))))))))))))))))))) := by kernel_rfl
theorem fi_0 (v : Int) : Go.Sy.Tree.holds (entryX F (lookC []) 300 Tryz.f23 b23 ⟨[], .b (fitB 0 v), []⟩ [.i .i64 0, .i .i64 v]) = ( (decide (v ≥ (0 : Int)) = true → ((0 : Int) ≤ 0 ∧ (0 : Int) < 5) ∧ (false = true → decide
 (v ≤ 1) = fitB (0 : Int) v ∧ True) ∧ (false = false → (false = true → decide (v ≤ 3) = fitB (0 : Int) v ∧ True) ∧ (false = false → (false = true → decide (v ≤ 3) = fitB (0 : Int) v ∧ True) ∧ (false = false → (false =
 true → decide (v ≤ 3) = fitB (0 : Int) v ∧ True) ∧ (false = false → decide (v ≤ 0) = fitB (0 : Int) v ∧ True))))) ∧ (decide (v ≥ (0 : Int)) = false → false = fitB (0 : Int) v ∧ True)) := by kernel_rfl
theorem fi_1 (v : Int) : Go.Sy.Tree.holds (entryX F (lookC []) 300 Tryz.f23 b23 ⟨[], .b (fitB 1 v), []⟩ [.i .i64 1, .i .i64 v]) = ( (decide (v ≥ (0 : Int)) = true → ((0 : Int) ≤ 1 ∧ (1 : Int) < 5) ∧ (false = true → decide
 (v ≤ 1) = fitB (1 : Int) v ∧ True) ∧ (false = false → (false = true → decide (v ≤ 3) = fitB (1 : Int) v ∧ True) ∧ (false = false → (false = true → decide (v ≤ 3) = fitB (1 : Int) v ∧ True) ∧ (false = false → (true = true
 → decide (v ≤ 3) = fitB (1 : Int) v ∧ True) ∧ (true = false → decide (v ≤ 0) = fitB (1 : Int) v ∧ True))))) ∧ (decide (v ≥ (0 : Int)) = false → false = fitB (1 : Int) v ∧ True)) := by kernel_rfl
theorem fi_2 (v : Int) : Go.Sy.Tree.holds (entryX F (lookC []) 300 Tryz.f23 b23 ⟨[], .b (fitB 2 v), []⟩ [.i .i64 2, .i .i64 v]) = ( (decide (v ≥ (0 : Int)) = true → ((0 : Int) ≤ 2 ∧ (2 : Int) < 5) ∧ (false = true → decide
 (v ≤ 1) = fitB (2 : Int) v ∧ True) ∧ (false = false → (false = true → decide (v ≤ 3) = fitB (2 : Int) v ∧ True) ∧ (false = false → (true = true → decide (v ≤ 3) = fitB (2 : Int) v ∧ True) ∧ (true = false → (false = true
 → decide (v ≤ 3) = fitB (2 : Int) v ∧ True) ∧ (false = false → decide (v ≤ 0) = fitB (2 : Int) v ∧ True))))) ∧ (decide (v ≥ (0 : Int)) = false → false = fitB (2 : Int) v ∧ True)) := by kernel_rfl
theorem fi_3 (v : Int) : Go.Sy.Tree.holds (entryX F (lookC []) 300 Tryz.f23 b23 ⟨[], .b (fitB 3 v), []⟩ [.i .i64 3, .i .i64 v]) = ( (decide (v ≥ (0 : Int)) = true → ((0 : Int) ≤ 3 ∧ (3 : Int) < 5) ∧ (false = true → decide
 (v ≤ 1) = fitB (3 : Int) v ∧ True) ∧ (false = false → (true = true → decide (v ≤ 3) = fitB (3 : Int) v ∧ True) ∧ (true = false → (false = true → decide (v ≤ 3) = fitB (3 : Int) v ∧ True) ∧ (false = false → (false = true
 → decide (v ≤ 3) = fitB (3 : Int) v ∧ True) ∧ (false = false → decide (v ≤ 0) = fitB (3 : Int) v ∧ True))))) ∧ (decide (v ≥ (0 : Int)) = false → false = fitB (3 : Int) v ∧ True)) := by kernel_rfl
theorem fi_4 (v : Int) : Go.Sy.Tree.holds (entryX F (lookC []) 300 Tryz.f23 b23 ⟨[], .b (fitB 4 v), []⟩ [.i .i64 4, .i .i64 v]) = ( (decide (v ≥ (0 : Int)) = true → ((0 : Int) ≤ 4 ∧ (4 : Int) < 5) ∧ (true = true → decide
 (v ≤ 1) = fitB (4 : Int) v ∧ True) ∧ (true = false → (false = true → decide (v ≤ 3) = fitB (4 : Int) v ∧ True) ∧ (false = false → (false = true → decide (v ≤ 3) = fitB (4 : Int) v ∧ True) ∧ (false = false → (false = true
 → decide (v ≤ 3) = fitB (4 : Int) v ∧ True) ∧ (false = false → decide (v ≤ 0) = fitB (4 : Int) v ∧ True))))) ∧ (decide (v ≥ (0 : Int)) = false → false = fitB (4 : Int) v ∧ True)) := by kernel_rfl
theorem mi_e (x : Ins) : Go.Sy.Tree.holds (entryX F (lookC r1) 300 Tryz.f9 b9 ⟨[], .b (mayB x), []⟩ [.agg (enc2 x)]) = ( fdD.pre (x.op, ()) ∧ (decide (x.op ≥ (1 : Int)) = true → (decide (x.op ≤ 22) = true → fiD.pre (shA
 x.op, x.a, ()) ∧ (fitB (shA x.op) x.a = true → fiD.pre (shB x.op, x.b, ()) ∧ (fitB (shB x.op) x.b = true → fiD.pre (shC x.op, x.c, ()) ∧ (fitB (shC x.op) x.c = true → ((shN x.op == 5) = true → true = mayB x ∧ True) ∧
 ((shN x.op == 5) = false → (x.n == 0) = mayB x ∧ True)) ∧ (fitB (shC x.op) x.c = false → false = mayB x ∧ True)) ∧ (fitB (shB x.op) x.b = false → false = mayB x ∧ True)) ∧ (fitB (shA x.op) x.a = false → false = mayB x ∧
 True)) ∧ (decide (x.op ≤ 22) = false → false = mayB x ∧ True)) ∧ (decide (x.op ≥ (1 : Int)) = false → false = mayB x ∧ True)) := by kernel_rfl
theorem in_e (k : K4) (n : Int) (raw : Bool) : Go.Sy.Tree.holds (entryX F (lookC []) 300 Tryz.f6 b6 ⟨[], .agg (enc2 (insF k n raw)), []⟩ [.agg (enc6 k), .i .i64 n, .b raw]) = ( (raw = true → k.a = (insF k n raw).op ∧ k.b
 = (insF k n raw).a ∧ k.c = (insF k n raw).b ∧ k.d = (insF k n raw).c ∧ n = (insF k n raw).n ∧ True) ∧ (raw = false → ((IntKind.i64.wrap ((1 : Int) + IntKind.i64.wrap ((IntKind.u64.wrap k.a).tmod 22)) == 1) = true →
 IntKind.i64.wrap ((1 : Int) + IntKind.i64.wrap ((IntKind.u64.wrap k.a).tmod 22)) = (insF k n raw).op ∧ IntKind.i64.wrap ((IntKind.u64.wrap k.b).tmod 4) = (insF k n raw).a ∧ (0 : Int) = (insF k n raw).b ∧ (0 : Int) =
 (insF k n raw).c ∧ n = (insF k n raw).n ∧ True) ∧ ((IntKind.i64.wrap ((1 : Int) + IntKind.i64.wrap ((IntKind.u64.wrap k.a).tmod 22)) == 1) = false → (decide (IntKind.i64.wrap ((1 : Int) + IntKind.i64.wrap
 ((IntKind.u64.wrap k.a).tmod 22)) ≤ 7) = true → IntKind.i64.wrap ((1 : Int) + IntKind.i64.wrap ((IntKind.u64.wrap k.a).tmod 22)) = (insF k n raw).op ∧ IntKind.i64.wrap ((IntKind.u64.wrap k.b).tmod 4) = (insF k n raw).a ∧
 IntKind.i64.wrap ((IntKind.u64.wrap k.c).tmod 4) = (insF k n raw).b ∧ IntKind.i64.wrap ((IntKind.u64.wrap k.d).tmod 4) = (insF k n raw).c ∧ (0 : Int) = (insF k n raw).n ∧ True) ∧ (decide (IntKind.i64.wrap ((1 : Int) +
 IntKind.i64.wrap ((IntKind.u64.wrap k.a).tmod 22)) ≤ 7) = false → (decide (IntKind.i64.wrap ((1 : Int) + IntKind.i64.wrap ((IntKind.u64.wrap k.a).tmod 22)) ≤ 9) = true → IntKind.i64.wrap ((1 : Int) + IntKind.i64.wrap
 ((IntKind.u64.wrap k.a).tmod 22)) = (insF k n raw).op ∧ IntKind.i64.wrap ((IntKind.u64.wrap k.b).tmod 4) = (insF k n raw).a ∧ IntKind.i64.wrap ((IntKind.u64.wrap k.c).tmod 4) = (insF k n raw).b ∧ (0 : Int) = (insF k n
 raw).c ∧ n = (insF k n raw).n ∧ True) ∧ (decide (IntKind.i64.wrap ((1 : Int) + IntKind.i64.wrap ((IntKind.u64.wrap k.a).tmod 22)) ≤ 9) = false → (decide (IntKind.i64.wrap ((1 : Int) + IntKind.i64.wrap ((IntKind.u64.wrap
 k.a).tmod 22)) ≤ 11) = true → IntKind.i64.wrap ((1 : Int) + IntKind.i64.wrap ((IntKind.u64.wrap k.a).tmod 22)) = (insF k n raw).op ∧ (0 : Int) = (insF k n raw).a ∧ IntKind.i64.wrap ((IntKind.u64.wrap k.c).tmod 4) = (insF
 k n raw).b ∧ (0 : Int) = (insF k n raw).c ∧ n = (insF k n raw).n ∧ True) ∧ (decide (IntKind.i64.wrap ((1 : Int) + IntKind.i64.wrap ((IntKind.u64.wrap k.a).tmod 22)) ≤ 11) = false → ((IntKind.i64.wrap ((1 : Int) +
 IntKind.i64.wrap ((IntKind.u64.wrap k.a).tmod 22)) == 13) = true → IntKind.i64.wrap ((1 : Int) + IntKind.i64.wrap ((IntKind.u64.wrap k.a).tmod 22)) = (insF k n raw).op ∧ IntKind.i64.wrap ((IntKind.u64.wrap k.b).tmod 4) =
 (insF k n raw).a ∧ (IntKind.i64.wrap ((IntKind.u64.wrap k.c).tmod 4)).tmod 2 = (insF k n raw).b ∧ (0 : Int) = (insF k n raw).c ∧ (0 : Int) = (insF k n raw).n ∧ True) ∧ ((IntKind.i64.wrap ((1 : Int) + IntKind.i64.wrap
 ((IntKind.u64.wrap k.a).tmod 22)) == 13) = false → ((IntKind.i64.wrap ((1 : Int) + IntKind.i64.wrap ((IntKind.u64.wrap k.a).tmod 22)) == 14) = true → IntKind.i64.wrap ((1 : Int) + IntKind.i64.wrap ((IntKind.u64.wrap
 k.a).tmod 22)) = (insF k n raw).op ∧ (0 : Int) = (insF k n raw).a ∧ (0 : Int) = (insF k n raw).b ∧ (0 : Int) = (insF k n raw).c ∧ (0 : Int) = (insF k n raw).n ∧ True) ∧ ((IntKind.i64.wrap ((1 : Int) + IntKind.i64.wrap
 ((IntKind.u64.wrap k.a).tmod 22)) == 14) = false → ((IntKind.i64.wrap ((1 : Int) + IntKind.i64.wrap ((IntKind.u64.wrap k.a).tmod 22)) == 19) = true → IntKind.i64.wrap ((1 : Int) + IntKind.i64.wrap ((IntKind.u64.wrap
 k.a).tmod 22)) = (insF k n raw).op ∧ (0 : Int) = (insF k n raw).a ∧ (0 : Int) = (insF k n raw).b ∧ (0 : Int) = (insF k n raw).c ∧ (0 : Int) = (insF k n raw).n ∧ True) ∧ ((IntKind.i64.wrap ((1 : Int) + IntKind.i64.wrap
 ((IntKind.u64.wrap k.a).tmod 22)) == 19) = false → ((IntKind.i64.wrap ((1 : Int) + IntKind.i64.wrap ((IntKind.u64.wrap k.a).tmod 22)) == 20) = true → IntKind.i64.wrap ((1 : Int) + IntKind.i64.wrap ((IntKind.u64.wrap
 k.a).tmod 22)) = (insF k n raw).op ∧ (0 : Int) = (insF k n raw).a ∧ (0 : Int) = (insF k n raw).b ∧ (0 : Int) = (insF k n raw).c ∧ (0 : Int) = (insF k n raw).n ∧ True) ∧ ((IntKind.i64.wrap ((1 : Int) + IntKind.i64.wrap
 ((IntKind.u64.wrap k.a).tmod 22)) == 20) = false → ((IntKind.i64.wrap ((1 : Int) + IntKind.i64.wrap ((IntKind.u64.wrap k.a).tmod 22)) == 22) = true → IntKind.i64.wrap ((1 : Int) + IntKind.i64.wrap ((IntKind.u64.wrap
 k.a).tmod 22)) = (insF k n raw).op ∧ (0 : Int) = (insF k n raw).a ∧ (0 : Int) = (insF k n raw).b ∧ (0 : Int) = (insF k n raw).c ∧ (0 : Int) = (insF k n raw).n ∧ True) ∧ ((IntKind.i64.wrap ((1 : Int) + IntKind.i64.wrap
 ((IntKind.u64.wrap k.a).tmod 22)) == 22) = false → IntKind.i64.wrap ((1 : Int) + IntKind.i64.wrap ((IntKind.u64.wrap k.a).tmod 22)) = (insF k n raw).op ∧ IntKind.i64.wrap ((IntKind.u64.wrap k.b).tmod 4) = (insF k n
 raw).a ∧ (0 : Int) = (insF k n raw).b ∧ (0 : Int) = (insF k n raw).c ∧ (0 : Int) = (insF k n raw).n ∧ True))))))))))) := by kernel_rfl

theorem ft_e_ok (k v : Int) : Paid (entryX F (lookC []) 200 Tryz.f41 b41 ⟨[], .b (fitB k v), []⟩ [.i .i64 k, .i .i64 v]) := by
  refine ⟨?_⟩
  rw [ft_e]
  have key : ∀ m : Int, mostK k = m → (decide (v ≥ 0) = true → decide (v ≤ m) = fitB k v ∧ True) ∧ (decide (v ≥ 0) = false → false = fitB k v ∧ True) := fun m hm =>
    ⟨fun h => ⟨by rw [fitB, h, hm, Bool.true_and], trivial⟩, fun h => ⟨by rw [fitB, h, Bool.false_and], trivial⟩⟩
  refine ⟨fun h => key 3 ?_, fun h1 => ⟨fun h => key 3 ?_, fun h2 => ⟨fun h => key 3 ?_, fun h3 => ⟨fun h => key 1 ?_, fun h4 => key 0 ?_⟩⟩⟩⟩
  · rw [eq_of_beq h]; rfl
  · rw [eq_of_beq h]; rfl
  · rw [eq_of_beq h]; rfl
  · rw [eq_of_beq h]; rfl
  · have h1 := ne_of_beq_false h1
    have h2 := ne_of_beq_false h2
    have h3 := ne_of_beq_false h3
    have h4 := ne_of_beq_false h4
    rw [mostK, if_neg (by omega), if_neg h4]
theorem fitOk : CtrOk1 F.S 41 (mkCtr fitD) :=
  mkCtr_paid (fn := Tryz.f41) (body := b41) (ctr := lookC []) codOk noExt hookLow noneOk Tryz.func41 rfl rfl rfl fitD 200 (fun _ => []) (show 2 ≤ 22 by decide) (show 22 ≤ 512 by decide) (by kernel_rfl) (fun _ _ => ⟨rfl, rfl⟩)
    (fun (x : Int × Int × Unit) hp => ft_e_ok x.1 x.2.1) (fun x hp p hm => by cases hm)
theorem sh_e_ok (op : Int) : Paid (entryX F (lookC []) 200 Tryz.f40 b40 ⟨[], .tup [.i .i64 (shA op), .i .i64 (shB op), .i .i64 (shC op), .i .i64 (shN op)], []⟩ [.i .i64 op]) := by
  refine ⟨?_⟩
  rw [sh_e]
  by_cases hr : 1 ≤ op ∧ op ≤ 21
  · obtain ⟨n, rfl⟩ := Int.eq_ofNat_of_zero_le (show 0 ≤ op by omega)
    have hn : n ≤ 21 := by omega
    have hn0 : 1 ≤ n := by omega
    have : ∀ n : Nat, n ≤ 21 → n = 0 ∨ n = 1 ∨ n = 2 ∨ n = 3 ∨ n = 4 ∨ n = 5 ∨ n = 6 ∨ n = 7 ∨ n = 8 ∨ n = 9 ∨ n = 10 ∨ n = 11 ∨ n = 12 ∨ n = 13 ∨ n = 14 ∨ n = 15 ∨ n = 16 ∨ n = 17 ∨ n = 18 ∨ n = 19 ∨ n = 20 ∨ n = 21 := by omega
    rcases this n hn with rfl | rfl | rfl | rfl | rfl | rfl | rfl | rfl | rfl | rfl | rfl | rfl | rfl | rfl | rfl | rfl | rfl | rfl | rfl | rfl | rfl | rfl
    · omega
    all_goals simp [shA, shB, shC, shN]
  · have hA : shA op = 0 := by rw [shA, if_neg (by omega), if_neg (by omega), if_neg (by omega)]
    have hB : shB op = 0 := by rw [shB, if_neg (by omega), if_neg (by omega)]
    have hC : shC op = 0 := by rw [shC, if_neg (by omega)]
    have hN : shN op = 0 := by rw [shN, if_neg (by omega)]
    have ne : ∀ k : Int, 1 ≤ k → k ≤ 21 → (op == k) = false := fun k h1 h2 => by
      have : op ≠ k := by rintro rfl; exact hr ⟨h1, h2⟩
      simpa using this
    rw [hA, hB, hC, hN]
    simp [ne]
theorem shOk : CtrOk1 F.S 40 (mkCtr shD) :=
  mkCtr_paid (fn := Tryz.f40) (body := b40) (ctr := lookC []) codOk noExt hookLow noneOk Tryz.func40 rfl rfl rfl shD 200 (fun _ => []) (show 1 ≤ 33 by decide) (show 33 ≤ 512 by decide) (by kernel_rfl) (fun _ _ => ⟨rfl, rfl⟩)
    (fun (x : Int × Unit) hp => sh_e_ok x.1) (fun x hp p hm => by cases hm)
theorem e1Ok : CtrOk F.S (lookC e1) := lookC_ok fun p h => by
  simp only [e1, List.mem_cons, List.not_mem_nil, or_false] at h
  rcases h with rfl | rfl
  · exact shOk
  · exact fitOk
theorem my_e_ok (x : Ins) : Paid (entryX F (lookC e1) 200 Tryz.f29 b29 ⟨[], .b (mayB x), []⟩ [.agg (enc2 x)]) := by
  refine ⟨?_⟩
  rw [my_e]
  exact ⟨trivial, fun h1 => ⟨fun h2 => ⟨trivial, fun h3 => ⟨trivial, fun h4 => ⟨trivial, fun h5 => ⟨fun h6 => ⟨by rw [mayB, h1, h2, h3, h4, h5, h6]; rfl, trivial⟩, fun h6 => ⟨by rw [mayB, h1, h2, h3, h4, h5, h6]; rfl, trivial⟩⟩,
    fun h5 => ⟨by rw [mayB, h1, h2, h3, h4, h5]; rfl, trivial⟩⟩, fun h4 => ⟨by rw [mayB, h1, h2, h3, h4]; rfl, trivial⟩⟩, fun h3 => ⟨by rw [mayB, h1, h2, h3]; rfl, trivial⟩⟩, fun h2 => ⟨by rw [mayB, h1, h2]; rfl, trivial⟩⟩, fun h1 => ⟨by rw [mayB, h1]; rfl, trivial⟩⟩
theorem mayOk : CtrOk1 F.S 29 (mkCtr mayD) :=
  mkCtr_paid (fn := Tryz.f29) (body := b29) (ctr := lookC e1) codOk noExt hookLow e1Ok Tryz.func29 rfl rfl rfl mayD 200 (fun _ => []) (show 1 ≤ 50 by decide) (show 50 ≤ 512 by decide) (by kernel_rfl) (fun _ _ => ⟨rfl, rfl⟩)
    (fun (x : Ins × Unit) hp => my_e_ok x.1) (fun x hp p hm => by cases hm)

theorem fd_e_ok (op : Int) : Paid (entryX F (lookC []) 300 Tryz.f10 b10 ⟨[], .tup [.i .i64 (shA op), .i .i64 (shB op), .i .i64 (shC op), .b (shN op == 5)], []⟩ [.i .i64 op]) := by
  refine ⟨?_⟩
  rw [fd_e]
  by_cases hr : 1 ≤ op ∧ op ≤ 21
  · obtain ⟨n, rfl⟩ := Int.eq_ofNat_of_zero_le (show 0 ≤ op by omega)
    have hn : n ≤ 21 := by omega
    have hn0 : 1 ≤ n := by omega
    have : ∀ n : Nat, n ≤ 21 → n = 0 ∨ n = 1 ∨ n = 2 ∨ n = 3 ∨ n = 4 ∨ n = 5 ∨ n = 6 ∨ n = 7 ∨ n = 8 ∨ n = 9 ∨ n = 10 ∨ n = 11 ∨ n = 12 ∨ n = 13 ∨ n = 14 ∨ n = 15 ∨ n = 16 ∨ n = 17 ∨ n = 18 ∨ n = 19 ∨ n = 20 ∨ n = 21 := by omega
    rcases this n hn with rfl | rfl | rfl | rfl | rfl | rfl | rfl | rfl | rfl | rfl | rfl | rfl | rfl | rfl | rfl | rfl | rfl | rfl | rfl | rfl | rfl | rfl
    · omega
    all_goals simp [shA, shB, shC, shN]
  · have hA : shA op = 0 := by rw [shA, if_neg (by omega), if_neg (by omega), if_neg (by omega)]
    have hB : shB op = 0 := by rw [shB, if_neg (by omega), if_neg (by omega)]
    have hC : shC op = 0 := by rw [shC, if_neg (by omega)]
    have hN : shN op = 0 := by rw [shN, if_neg (by omega)]
    have ne : ∀ k : Int, 1 ≤ k → k ≤ 21 → (op == k) = false := fun k h1 h2 => by
      have : op ≠ k := by rintro rfl; exact hr ⟨h1, h2⟩
      simpa using this
    rw [hA, hB, hC, hN]
    simp [ne]
theorem fdOk : CtrOk1 F.S 10 (mkCtr fdD) :=
  mkCtr_paid (fn := Tryz.f10) (body := b10) (ctr := lookC []) codOk noExt hookLow noneOk Tryz.func10 rfl rfl rfl fdD 300 (fun _ => []) (show 1 ≤ Tryz.f10.ntmps by decide) (show Tryz.f10.ntmps ≤ 512 by decide) (by kernel_rfl) (fun _ _ => ⟨rfl, rfl⟩)
    (fun (x : Int × Unit) hp => fd_e_ok x.1) (fun x hp p hm => by cases hm)
theorem fi_e_ok (k v : Int) (h0 : 0 ≤ k) (h1 : k ≤ 4) : Paid (entryX F (lookC []) 300 Tryz.f23 b23 ⟨[], .b (fitB k v), []⟩ [.i .i64 k, .i .i64 v]) := by
  have : k = 0 ∨ k = 1 ∨ k = 2 ∨ k = 3 ∨ k = 4 := by omega
  rcases this with rfl | rfl | rfl | rfl | rfl <;> refine ⟨?_⟩
  · rw [fi_0]
    simp [fitB, mostK]
    omega
  · rw [fi_1]
    simp [fitB, mostK]
    omega
  · rw [fi_2]
    simp [fitB, mostK]
    omega
  · rw [fi_3]
    simp [fitB, mostK]
    omega
  · rw [fi_4]
    simp [fitB, mostK]
    omega
theorem fiOk : CtrOk1 F.S 23 (mkCtr fiD) :=
  mkCtr_paid (fn := Tryz.f23) (body := b23) (ctr := lookC []) codOk noExt hookLow noneOk Tryz.func23 rfl rfl rfl fiD 300 (fun _ => []) (show 2 ≤ Tryz.f23.ntmps by decide) (show Tryz.f23.ntmps ≤ 512 by decide) (by kernel_rfl) (fun _ _ => ⟨rfl, rfl⟩)
    (fun (x : Int × Int × Unit) hp => fi_e_ok x.1 x.2.1 hp.1 hp.2) (fun x hp p hm => by cases hm)
theorem r1Ok : CtrOk F.S (lookC r1) := lookC_ok fun p h => by
  simp only [r1, List.mem_cons, List.not_mem_nil, or_false] at h
  rcases h with rfl | rfl
  · exact fdOk
  · exact fiOk
theorem shA_is (op : Int) : 0 ≤ shA op ∧ shA op ≤ 4 := by
  unfold shA
  repeat' split
  all_goals decide
theorem shB_is (op : Int) : 0 ≤ shB op ∧ shB op ≤ 4 := by
  unfold shB
  repeat' split
  all_goals decide
theorem shC_is (op : Int) : 0 ≤ shC op ∧ shC op ≤ 4 := by
  unfold shC
  repeat' split
  all_goals decide
theorem mi_e_ok (x : Ins) : Paid (entryX F (lookC r1) 300 Tryz.f9 b9 ⟨[], .b (mayB x), []⟩ [.agg (enc2 x)]) := by
  refine ⟨?_⟩
  rw [mi_e]
  exact ⟨trivial, fun h1 => ⟨fun h2 => ⟨shA_is _, fun h3 => ⟨shB_is _, fun h4 => ⟨shC_is _, fun h5 => ⟨fun h6 => ⟨by rw [mayB, h1, h2, h3, h4, h5, h6]; rfl, trivial⟩, fun h6 => ⟨by rw [mayB, h1, h2, h3, h4, h5, h6]; rfl, trivial⟩⟩,
    fun h5 => ⟨by rw [mayB, h1, h2, h3, h4, h5]; rfl, trivial⟩⟩, fun h4 => ⟨by rw [mayB, h1, h2, h3, h4]; rfl, trivial⟩⟩, fun h3 => ⟨by rw [mayB, h1, h2, h3]; rfl, trivial⟩⟩, fun h2 => ⟨by rw [mayB, h1, h2]; rfl, trivial⟩⟩, fun h1 => ⟨by rw [mayB, h1]; rfl, trivial⟩⟩
theorem miOk : CtrOk1 F.S 9 (mkCtr mayD) :=
  mkCtr_paid (fn := Tryz.f9) (body := b9) (ctr := lookC r1) codOk noExt hookLow r1Ok Tryz.func9 rfl rfl rfl mayD 300 (fun _ => []) (show 1 ≤ Tryz.f9.ntmps by decide) (show Tryz.f9.ntmps ≤ 512 by decide) (by kernel_rfl) (fun _ _ => ⟨rfl, rfl⟩)
    (fun (x : Ins × Unit) hp => mi_e_ok x.1) (fun x hp p hm => by cases hm)

theorem in_e_ok (k : K4) (n : Int) (raw : Bool) : Paid (entryX F (lookC []) 300 Tryz.f6 b6 ⟨[], .agg (enc2 (insF k n raw)), []⟩ [.agg (enc6 k), .i .i64 n, .b raw]) := by
  refine ⟨?_⟩
  rw [in_e]
  cases raw with
  | true => exact ⟨fun _ => ⟨rfl, rfl, rfl, rfl, rfl, trivial⟩, fun h => nomatch h⟩
  | false =>
    refine ⟨fun h => (nomatch h), fun _ => ?_⟩
    have five : ∀ {x y : Ins}, x = y → x.op = y.op ∧ x.a = y.a ∧ x.b = y.b ∧ x.c = y.c ∧ x.n = y.n ∧ True := fun h => by subst h; exact ⟨rfl, rfl, rfl, rfl, rfl, trivial⟩
    have e : insF k n false = (if IntKind.i64.wrap (1 + pk k.a 22) = 1 then ⟨IntKind.i64.wrap (1 + pk k.a 22), pk k.b 4, 0, 0, n⟩
      else if IntKind.i64.wrap (1 + pk k.a 22) ≤ 7 then ⟨IntKind.i64.wrap (1 + pk k.a 22), pk k.b 4, pk k.c 4, pk k.d 4, 0⟩
      else if IntKind.i64.wrap (1 + pk k.a 22) ≤ 9 then ⟨IntKind.i64.wrap (1 + pk k.a 22), pk k.b 4, pk k.c 4, 0, n⟩
      else if IntKind.i64.wrap (1 + pk k.a 22) ≤ 11 then ⟨IntKind.i64.wrap (1 + pk k.a 22), 0, pk k.c 4, 0, n⟩
      else if IntKind.i64.wrap (1 + pk k.a 22) = 13 then ⟨IntKind.i64.wrap (1 + pk k.a 22), pk k.b 4, (pk k.c 4).tmod 2, 0, 0⟩
      else if IntKind.i64.wrap (1 + pk k.a 22) = 14 ∨ IntKind.i64.wrap (1 + pk k.a 22) = 19 ∨ IntKind.i64.wrap (1 + pk k.a 22) = 20 ∨ IntKind.i64.wrap (1 + pk k.a 22) = 22 then ⟨IntKind.i64.wrap (1 + pk k.a 22), 0, 0, 0, 0⟩
      else ⟨IntKind.i64.wrap (1 + pk k.a 22), pk k.b 4, 0, 0, 0⟩) := by rw [insF, if_neg (by decide)]
    generalize insF k n false = z at e ⊢
    refine ⟨fun h1 => ?_, fun n1 => ⟨fun h2 => ?_, fun n2 => ⟨fun h3 => ?_, fun n3 => ⟨fun h4 => ?_, fun n4 => ⟨fun h5 => ?_, fun n5 => ?_⟩⟩⟩⟩⟩
    · rw [if_pos (show IntKind.i64.wrap (1 + pk k.a 22) = 1 from eq_of_beq h1)] at e
      rw [e]; exact ⟨rfl, rfl, rfl, rfl, rfl, trivial⟩
    all_goals rw [if_neg (show ¬ IntKind.i64.wrap (1 + pk k.a 22) = 1 from ne_of_beq_false n1)] at e
    · rw [if_pos (show IntKind.i64.wrap (1 + pk k.a 22) ≤ 7 from of_decide_eq_true h2)] at e
      rw [e]; exact ⟨rfl, rfl, rfl, rfl, rfl, trivial⟩
    all_goals rw [if_neg (show ¬ IntKind.i64.wrap (1 + pk k.a 22) ≤ 7 from of_decide_eq_false n2)] at e
    · rw [if_pos (show IntKind.i64.wrap (1 + pk k.a 22) ≤ 9 from of_decide_eq_true h3)] at e
      rw [e]; exact ⟨rfl, rfl, rfl, rfl, rfl, trivial⟩
    all_goals rw [if_neg (show ¬ IntKind.i64.wrap (1 + pk k.a 22) ≤ 9 from of_decide_eq_false n3)] at e
    · rw [if_pos (show IntKind.i64.wrap (1 + pk k.a 22) ≤ 11 from of_decide_eq_true h4)] at e
      rw [e]; exact ⟨rfl, rfl, rfl, rfl, rfl, trivial⟩
    all_goals rw [if_neg (show ¬ IntKind.i64.wrap (1 + pk k.a 22) ≤ 11 from of_decide_eq_false n4)] at e
    · rw [if_pos (show IntKind.i64.wrap (1 + pk k.a 22) = 13 from eq_of_beq h5)] at e
      rw [e]; exact ⟨rfl, rfl, rfl, rfl, rfl, trivial⟩
    rw [if_neg (show ¬ IntKind.i64.wrap (1 + pk k.a 22) = 13 from ne_of_beq_false n5)] at e
    have yes : IntKind.i64.wrap (1 + pk k.a 22) = 14 ∨ IntKind.i64.wrap (1 + pk k.a 22) = 19 ∨ IntKind.i64.wrap (1 + pk k.a 22) = 20 ∨ IntKind.i64.wrap (1 + pk k.a 22) = 22 → z = ⟨IntKind.i64.wrap (1 + pk k.a 22), 0, 0, 0, 0⟩ := fun h => by rw [if_pos h] at e; exact e
    have no : ¬ (IntKind.i64.wrap (1 + pk k.a 22) = 14 ∨ IntKind.i64.wrap (1 + pk k.a 22) = 19 ∨ IntKind.i64.wrap (1 + pk k.a 22) = 20 ∨ IntKind.i64.wrap (1 + pk k.a 22) = 22) → z = ⟨IntKind.i64.wrap (1 + pk k.a 22), pk k.b 4, 0, 0, 0⟩ := fun h => by rw [if_neg h] at e; exact e
    clear e
    have done : ∀ {y : Ins}, z = y → y.op = z.op ∧ y.a = z.a ∧ y.b = z.b ∧ y.c = z.c ∧ y.n = z.n ∧ True := fun h => by rw [h]; exact ⟨rfl, rfl, rfl, rfl, rfl, trivial⟩
    exact ⟨fun g => done (yes (.inl (eq_of_beq g))), fun g => ⟨fun g2 => done (yes (.inr (.inl (eq_of_beq g2)))), fun g2 => ⟨fun g3 => done (yes (.inr (.inr (.inl (eq_of_beq g3))))), fun g3 => ⟨fun g4 => done (yes (.inr (.inr (.inr (eq_of_beq g4))))), fun g4 => done (no (by rintro (h | h | h | h); exact ne_of_beq_false g h; exact ne_of_beq_false g2 h; exact ne_of_beq_false g3 h; exact ne_of_beq_false g4 h))⟩⟩⟩⟩
theorem inOk : CtrOk1 F.S 6 (mkCtr inD) :=
  mkCtr_paid (fn := Tryz.f6) (body := b6) (ctr := lookC []) codOk noExt hookLow noneOk Tryz.func6 rfl rfl rfl inD 300 (fun _ => []) (show 3 ≤ Tryz.f6.ntmps by decide) (show Tryz.f6.ntmps ≤ 512 by decide) (by kernel_rfl) (fun _ _ => ⟨rfl, rfl⟩)
    (fun (x : K4 × Int × Bool × Unit) hp => in_e_ok x.1 x.2.1 x.2.2.1) (fun x hp p hm => by cases hm)
end Go.Proofs.YtbbbpnaghipfmaaGreatDoor

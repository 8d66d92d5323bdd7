/- The document's own MayInstr and Mates: their contracts are paid. -/
import Derived.Test.YtjboohjicdmidaaDoorRx
namespace Go.Proofs.YtjboohjicdmidaaDoor
open Go.RowKit Go.Am Go.Sy
set_option linter.unusedVariables false
set_option linter.unusedSimpArgs false

theorem fd_e (op : Int) : Go.Sy.Tree.holds (entryX F (lookC []) 300 Tryd.f62 b62 ⟨[], .tup [.i .i64 (shA op), .i .i64 (shB op), .i .i64 (shC op), .b (shN op == 5)], []⟩ [.i .i64 op]) = ( ((op == 1) = true → (1 : Int) =
 shA op ∧ (0 : Int) = shB op ∧ (0 : Int) = shC op ∧ true = (shN op == 5) ∧ True) ∧ ((op == 1) = false → ((op == 2) = true → (1 : Int) = shA op ∧ (1 : Int) = shB op ∧ (1 : Int) = shC op ∧ false = (shN op == 5) ∧ True) ∧
 ((op == 2) = false → ((op == 3) = true → (1 : Int) = shA op ∧ (1 : Int) = shB op ∧ (1 : Int) = shC op ∧ false = (shN op == 5) ∧ True) ∧ ((op == 3) = false → ((op == 4) = true → (1 : Int) = shA op ∧ (1 : Int) = shB op ∧
 (1 : Int) = shC op ∧ false = (shN op == 5) ∧ True) ∧ ((op == 4) = false → ((op == 5) = true → (1 : Int) = shA op ∧ (1 : Int) = shB op ∧ (1 : Int) = shC op ∧ false = (shN op == 5) ∧ True) ∧ ((op == 5) = false → ((op == 6)
 = true → (1 : Int) = shA op ∧ (1 : Int) = shB op ∧ (1 : Int) = shC op ∧ false = (shN op == 5) ∧ True) ∧ ((op == 6) = false → ((op == 7) = true → (1 : Int) = shA op ∧ (1 : Int) = shB op ∧ (1 : Int) = shC op ∧ false = (shN
 op == 5) ∧ True) ∧ ((op == 7) = false → ((op == 8) = true → (1 : Int) = shA op ∧ (1 : Int) = shB op ∧ (0 : Int) = shC op ∧ true = (shN op == 5) ∧ True) ∧ ((op == 8) = false → ((op == 9) = true → (1 : Int) = shA op ∧ (1 :
 Int) = shB op ∧ (0 : Int) = shC op ∧ true = (shN op == 5) ∧ True) ∧ ((op == 9) = false → ((op == 10) = true → (0 : Int) = shA op ∧ (1 : Int) = shB op ∧ (0 : Int) = shC op ∧ true = (shN op == 5) ∧ True) ∧ ((op == 10) =
 false → ((op == 11) = true → (0 : Int) = shA op ∧ (1 : Int) = shB op ∧ (0 : Int) = shC op ∧ true = (shN op == 5) ∧ True) ∧ ((op == 11) = false → ((op == 12) = true → (1 : Int) = shA op ∧ (0 : Int) = shB op ∧ (0 : Int) =
 shC op ∧ false = (shN op == 5) ∧ True) ∧ ((op == 12) = false → ((op == 18) = true → (1 : Int) = shA op ∧ (0 : Int) = shB op ∧ (0 : Int) = shC op ∧ false = (shN op == 5) ∧ True) ∧ ((op == 18) = false → ((op == 21) = true
 → (1 : Int) = shA op ∧ (0 : Int) = shB op ∧ (0 : Int) = shC op ∧ false = (shN op == 5) ∧ True) ∧ ((op == 21) = false → ((op == 13) = true → (2 : Int) = shA op ∧ (4 : Int) = shB op ∧ (0 : Int) = shC op ∧ false = (shN op
 == 5) ∧ True) ∧ ((op == 13) = false → ((op == 15) = true → (3 : Int) = shA op ∧ (0 : Int) = shB op ∧ (0 : Int) = shC op ∧ false = (shN op == 5) ∧ True) ∧ ((op == 15) = false → ((op == 16) = true → (3 : Int) = shA op ∧ (0
 : Int) = shB op ∧ (0 : Int) = shC op ∧ false = (shN op == 5) ∧ True) ∧ ((op == 16) = false → ((op == 17) = true → (3 : Int) = shA op ∧ (0 : Int) = shB op ∧ (0 : Int) = shC op ∧ false = (shN op == 5) ∧ True) ∧ ((op == 17)
 = false → (0 : Int) = shA op ∧ (0 : Int) = shB op ∧ (0 : Int) = shC op ∧ false = (shN op == 5) ∧ True))))))))))))))))))) := by kernel_rfl
theorem fi_0 (v : Int) : Go.Sy.Tree.holds (entryX F (lookC []) 300 Tryd.f63 b63 ⟨[], .b (fitB 0 v), []⟩ [.i .i64 0, .i .i64 v]) = ( (decide (v ≥ (0 : Int)) = true → ((0 : Int) ≤ 0 ∧ (0 : Int) < 5) ∧ (false = true → decide
 (v ≤ 1) = fitB (0 : Int) v ∧ True) ∧ (false = false → (false = true → decide (v ≤ 3) = fitB (0 : Int) v ∧ True) ∧ (false = false → (false = true → decide (v ≤ 3) = fitB (0 : Int) v ∧ True) ∧ (false = false → (false =
 true → decide (v ≤ 3) = fitB (0 : Int) v ∧ True) ∧ (false = false → decide (v ≤ 0) = fitB (0 : Int) v ∧ True))))) ∧ (decide (v ≥ (0 : Int)) = false → false = fitB (0 : Int) v ∧ True)) := by kernel_rfl
theorem fi_1 (v : Int) : Go.Sy.Tree.holds (entryX F (lookC []) 300 Tryd.f63 b63 ⟨[], .b (fitB 1 v), []⟩ [.i .i64 1, .i .i64 v]) = ( (decide (v ≥ (0 : Int)) = true → ((0 : Int) ≤ 1 ∧ (1 : Int) < 5) ∧ (false = true → decide
 (v ≤ 1) = fitB (1 : Int) v ∧ True) ∧ (false = false → (false = true → decide (v ≤ 3) = fitB (1 : Int) v ∧ True) ∧ (false = false → (false = true → decide (v ≤ 3) = fitB (1 : Int) v ∧ True) ∧ (false = false → (true = true
 → decide (v ≤ 3) = fitB (1 : Int) v ∧ True) ∧ (true = false → decide (v ≤ 0) = fitB (1 : Int) v ∧ True))))) ∧ (decide (v ≥ (0 : Int)) = false → false = fitB (1 : Int) v ∧ True)) := by kernel_rfl
theorem fi_2 (v : Int) : Go.Sy.Tree.holds (entryX F (lookC []) 300 Tryd.f63 b63 ⟨[], .b (fitB 2 v), []⟩ [.i .i64 2, .i .i64 v]) = ( (decide (v ≥ (0 : Int)) = true → ((0 : Int) ≤ 2 ∧ (2 : Int) < 5) ∧ (false = true → decide
 (v ≤ 1) = fitB (2 : Int) v ∧ True) ∧ (false = false → (false = true → decide (v ≤ 3) = fitB (2 : Int) v ∧ True) ∧ (false = false → (true = true → decide (v ≤ 3) = fitB (2 : Int) v ∧ True) ∧ (true = false → (false = true
 → decide (v ≤ 3) = fitB (2 : Int) v ∧ True) ∧ (false = false → decide (v ≤ 0) = fitB (2 : Int) v ∧ True))))) ∧ (decide (v ≥ (0 : Int)) = false → false = fitB (2 : Int) v ∧ True)) := by kernel_rfl
theorem fi_3 (v : Int) : Go.Sy.Tree.holds (entryX F (lookC []) 300 Tryd.f63 b63 ⟨[], .b (fitB 3 v), []⟩ [.i .i64 3, .i .i64 v]) = ( (decide (v ≥ (0 : Int)) = true → ((0 : Int) ≤ 3 ∧ (3 : Int) < 5) ∧ (false = true → decide
 (v ≤ 1) = fitB (3 : Int) v ∧ True) ∧ (false = false → (true = true → decide (v ≤ 3) = fitB (3 : Int) v ∧ True) ∧ (true = false → (false = true → decide (v ≤ 3) = fitB (3 : Int) v ∧ True) ∧ (false = false → (false = true
 → decide (v ≤ 3) = fitB (3 : Int) v ∧ True) ∧ (false = false → decide (v ≤ 0) = fitB (3 : Int) v ∧ True))))) ∧ (decide (v ≥ (0 : Int)) = false → false = fitB (3 : Int) v ∧ True)) := by kernel_rfl
theorem fi_4 (v : Int) : Go.Sy.Tree.holds (entryX F (lookC []) 300 Tryd.f63 b63 ⟨[], .b (fitB 4 v), []⟩ [.i .i64 4, .i .i64 v]) = ( (decide (v ≥ (0 : Int)) = true → ((0 : Int) ≤ 4 ∧ (4 : Int) < 5) ∧ (true = true → decide
 (v ≤ 1) = fitB (4 : Int) v ∧ True) ∧ (true = false → (false = true → decide (v ≤ 3) = fitB (4 : Int) v ∧ True) ∧ (false = false → (false = true → decide (v ≤ 3) = fitB (4 : Int) v ∧ True) ∧ (false = false → (false = true
 → decide (v ≤ 3) = fitB (4 : Int) v ∧ True) ∧ (false = false → decide (v ≤ 0) = fitB (4 : Int) v ∧ True))))) ∧ (decide (v ≥ (0 : Int)) = false → false = fitB (4 : Int) v ∧ True)) := by kernel_rfl
theorem mi_e (x : Instr) : Go.Sy.Tree.holds (entryX F (lookC r1) 300 Tryd.f58 b58 ⟨[], .b (mayB x), []⟩ [.agg (enc2 x)]) = ( fdD.pre (x.op, ()) ∧ (decide (x.op ≥ (1 : Int)) = true → (decide (x.op ≤ 22) = true → fiD.pre
 (shA x.op, x.a, ()) ∧ (fitB (shA x.op) x.a = true → fiD.pre (shB x.op, x.b, ()) ∧ (fitB (shB x.op) x.b = true → fiD.pre (shC x.op, x.c, ()) ∧ (fitB (shC x.op) x.c = true → ((shN x.op == 5) = true → true = mayB x ∧ True)
 ∧ ((shN x.op == 5) = false → (x.n == 0) = mayB x ∧ True)) ∧ (fitB (shC x.op) x.c = false → false = mayB x ∧ True)) ∧ (fitB (shB x.op) x.b = false → false = mayB x ∧ True)) ∧ (fitB (shA x.op) x.a = false → false = mayB x
 ∧ True)) ∧ (decide (x.op ≤ 22) = false → false = mayB x ∧ True)) ∧ (decide (x.op ≥ (1 : Int)) = false → false = mayB x ∧ True)) := by kernel_rfl
theorem rm_e (p : List Instr) : Go.Sy.Tree.holds (entryX F (lookC []) 300 Tryd.f59 b59 (rmF p) [.tl (T := T) 2 p]) = ( ((0 : Int) ≤ (↑p.length : Int) ∧ (↑p.length : Int) = (↑p.length : Int) ∧ (↑p.length : Int) * 8 ≤
 281474976710656 ∧ (↑p.length : Int) ≤ 9223372036854775807) ∧ ∃ (s : MtS), p = p ∧ List.replicate (↑p.length : Int).toNat (0 : Int) = s.q.m ∧ [] = opens s.q.s ∧ (0 : Int) = (↑s.i : Int) ∧ jOk p s ∧ True) := by kernel_rfl
theorem rm_4 (p : List Instr) (m : List Int) (s : List Blk) (i : Nat) : Go.Sy.Tree.holds (cutVC F (lookC []) 300 Tryd.f59 b59 (rmF p) 4 (rmC4 p) ⟨⟨m, s⟩, i⟩) = ( (decide ((↑i : Int) < (↑p.length : Int)) = true → ((0 :
 Int) ≤ (↑i : Int) ∧ (↑i : Int) < (↑(MS.mk m s).m.length : Int)) ∧ ((0 : Int) ≤ (↑i : Int) ∧ (↑i : Int) < (↑(MS.mk m s).m.length : Int)) ∧ (decide ((↑(opens (MS.mk m s).s).length : Int) > 0) = true → ((0 : Int) ≤
 IntKind.i64.wrap ((↑(opens (MS.mk m s).s).length : Int) - 1) ∧ IntKind.i64.wrap ((↑(opens (MS.mk m s).s).length : Int) - 1) < (↑(opens (MS.mk m s).s).length : Int)) ∧ ((0 : Int) ≤ IntKind.i64.wrap ((↑(opens (MS.mk m
 s).s).length : Int) - 1) ∧ IntKind.i64.wrap ((↑(opens (MS.mk m s).s).length : Int) - 1) < (↑(opens (MS.mk m s).s).length : Int)) ∧ (decide (at0 (opens (MS.mk m s).s) (IntKind.i64.wrap ((↑(opens (MS.mk m s).s).length :
 Int) - 1)) ≥ (0 : Int)) = true → ((0 : Int) ≤ at0 (opens (MS.mk m s).s) (IntKind.i64.wrap ((↑(opens (MS.mk m s).s).length : Int) - 1)) ∧ at0 (opens (MS.mk m s).s) (IntKind.i64.wrap ((↑(opens (MS.mk m s).s).length : Int)
 - 1)) < (↑p.length : Int)) ∧ ∃ (s_1 : MtS), p = p ∧ (MS.mk m s).m.set (↑i : Int).toNat (-1 : Int) = s_1.q.m.set s_1.i (-1 : Int) ∧ opens (MS.mk m s).s = opens s_1.q.s ∧ (↑i : Int) = (↑s_1.i : Int) ∧ at0 (opens (MS.mk m
 s).s) (IntKind.i64.wrap ((↑(opens (MS.mk m s).s).length : Int) - 1)) = topO s_1.q.s ∧ (at2 p (at0 (opens (MS.mk m s).s) (IntKind.i64.wrap ((↑(opens (MS.mk m s).s).length : Int) - 1)))).op = isO p s_1.q.s ∧ true = true ∧
 (s_1.i < p.length ∧ jOk p s_1) ∧ p.length + ((3 : Nat) + 3 * (p.length - s_1.i)) < p.length + ((4 : Nat) + 3 * (p.length - i)) ∧ True) ∧ (decide (at0 (opens (MS.mk m s).s) (IntKind.i64.wrap ((↑(opens (MS.mk m
 s).s).length : Int) - 1)) ≥ (0 : Int)) = false → ∃ (s_1 : MtS), p = p ∧ (MS.mk m s).m.set (↑i : Int).toNat (-1 : Int) = s_1.q.m.set s_1.i (-1 : Int) ∧ opens (MS.mk m s).s = opens s_1.q.s ∧ (↑i : Int) = (↑s_1.i : Int) ∧
 at0 (opens (MS.mk m s).s) (IntKind.i64.wrap ((↑(opens (MS.mk m s).s).length : Int) - 1)) = topO s_1.q.s ∧ (0 : Int) = isO p s_1.q.s ∧ true = true ∧ (s_1.i < p.length ∧ jOk p s_1) ∧ p.length + ((3 : Nat) + 3 * (p.length -
 s_1.i)) < p.length + ((4 : Nat) + 3 * (p.length - i)) ∧ True)) ∧ (decide ((↑(opens (MS.mk m s).s).length : Int) > 0) = false → ∃ (s_1 : MtS), p = p ∧ (MS.mk m s).m.set (↑i : Int).toNat (-1 : Int) = s_1.q.m.set s_1.i (-1
 : Int) ∧ opens (MS.mk m s).s = opens s_1.q.s ∧ (↑i : Int) = (↑s_1.i : Int) ∧ (-1 : Int) = topO s_1.q.s ∧ (0 : Int) = isO p s_1.q.s ∧ true = true ∧ (s_1.i < p.length ∧ jOk p s_1) ∧ p.length + ((3 : Nat) + 3 * (p.length -
 s_1.i)) < p.length + ((4 : Nat) + 3 * (p.length - i)) ∧ True)) ∧ (decide ((↑i : Int) < (↑p.length : Int)) = false → (((↑(opens (MS.mk m s).s).length : Int) == 0) = true → (MS.mk m s).m = rmL p ∧ (-1 : Int) = (matesR
 p).snd ∧ True) ∧ (((↑(opens (MS.mk m s).s).length : Int) == 0) = false → ((0 : Int) ≤ IntKind.i64.wrap ((↑(opens (MS.mk m s).s).length : Int) - 1) ∧ IntKind.i64.wrap ((↑(opens (MS.mk m s).s).length : Int) - 1) < (↑(opens
 (MS.mk m s).s).length : Int)) ∧ ((0 : Int) ≤ IntKind.i64.wrap ((↑(opens (MS.mk m s).s).length : Int) - 1) ∧ IntKind.i64.wrap ((↑(opens (MS.mk m s).s).length : Int) - 1) < (↑(opens (MS.mk m s).s).length : Int)) ∧ ((0 :
 Int) ≤ at0 (opens (MS.mk m s).s) (IntKind.i64.wrap ((↑(opens (MS.mk m s).s).length : Int) - 1)) ∧ at0 (opens (MS.mk m s).s) (IntKind.i64.wrap ((↑(opens (MS.mk m s).s).length : Int) - 1)) < (↑p.length : Int)) ∧ (((at2 p
 (at0 (opens (MS.mk m s).s) (IntKind.i64.wrap ((↑(opens (MS.mk m s).s).length : Int) - 1)))).op == 19) = true → ∃ (s_1 : RmS), (MS.mk m s).m = s_1.m ∧ at0 (opens (MS.mk m s).s) (IntKind.i64.wrap ((↑(opens (MS.mk m
 s).s).length : Int) - 1)) = s_1.b.l ∧ (0 : Int) = (↑s_1.j : Int) ∧ (s_1.m.length = p.length ∧ BOk p p.length s_1.m s_1.b ∧ s_1.b.l ≠ s_1.b.a ∧ s_1.b.l < (↑p.length : Int) ∧ (↑s_1.j : Int) ≤ s_1.b.a ∧ (matesR p).snd =
 s_1.b.a) ∧ p.length - s_1.j < p.length + ((4 : Nat) + 3 * (p.length - i)) ∧ True) ∧ (((at2 p (at0 (opens (MS.mk m s).s) (IntKind.i64.wrap ((↑(opens (MS.mk m s).s).length : Int) - 1)))).op == 19) = false → [] = rmL p ∧
 at0 (opens (MS.mk m s).s) (IntKind.i64.wrap ((↑(opens (MS.mk m s).s).length : Int) - 1)) = (matesR p).snd ∧ True)))) := by kernel_rfl
theorem rm_14 (p : List Instr) (m : List Int) (s : List Blk) (i : Nat) : Go.Sy.Tree.holds (cutVC F (lookC []) 300 Tryd.f59 b59 (rmF p) 14 (rmC14 p) ⟨⟨m, s⟩, i⟩) = ( ((0 : Int) ≤ (↑i : Int) ∧ (↑i : Int) < (↑p.length :
 Int)) ∧ (((at2 p (↑i : Int)).op == 18) = true → ((opens (MS.mk m s).s).length + [(↑i : Int)].length) * 8 ≤ 140737488355328 ∧ (false = true → [] = rmL p ∧ (↑i : Int) = (matesR p).snd ∧ True) ∧ (false = false → ∃ (s_1 :
 MtS), p = p ∧ (MS.mk m s).m.set i (-1 : Int) = s_1.q.m ∧ opens (MS.mk m s).s ++ [(↑i : Int)] = opens s_1.q.s ∧ IntKind.i64.wrap ((↑i : Int) + 1) = (↑s_1.i : Int) ∧ jOk p s_1 ∧ p.length + ((4 : Nat) + 3 * (p.length -
 s_1.i)) < p.length + ((3 : Nat) + 3 * (p.length - i)) ∧ True)) ∧ (((at2 p (↑i : Int)).op == 18) = false → (((at2 p (↑i : Int)).op == 21) = true → ((opens (MS.mk m s).s).length + [(↑i : Int)].length) * 8 ≤ 140737488355328
 ∧ (false = true → [] = rmL p ∧ (↑i : Int) = (matesR p).snd ∧ True) ∧ (false = false → ∃ (s_1 : MtS), p = p ∧ (MS.mk m s).m.set i (-1 : Int) = s_1.q.m ∧ opens (MS.mk m s).s ++ [(↑i : Int)] = opens s_1.q.s ∧
 IntKind.i64.wrap ((↑i : Int) + 1) = (↑s_1.i : Int) ∧ jOk p s_1 ∧ p.length + ((4 : Nat) + 3 * (p.length - s_1.i)) < p.length + ((3 : Nat) + 3 * (p.length - i)) ∧ True)) ∧ (((at2 p (↑i : Int)).op == 21) = false → (((at2 p
 (↑i : Int)).op == 13) = true → ((opens (MS.mk m s).s).length + [(↑i : Int)].length) * 8 ≤ 140737488355328 ∧ (false = true → [] = rmL p ∧ (↑i : Int) = (matesR p).snd ∧ True) ∧ (false = false → ∃ (s_1 : MtS), p = p ∧
 (MS.mk m s).m.set i (-1 : Int) = s_1.q.m ∧ opens (MS.mk m s).s ++ [(↑i : Int)] = opens s_1.q.s ∧ IntKind.i64.wrap ((↑i : Int) + 1) = (↑s_1.i : Int) ∧ jOk p s_1 ∧ p.length + ((4 : Nat) + 3 * (p.length - s_1.i)) < p.length
 + ((3 : Nat) + 3 * (p.length - i)) ∧ True)) ∧ (((at2 p (↑i : Int)).op == 13) = false → (((at2 p (↑i : Int)).op == 19) = true → ((isO p (MS.mk m s).s == 18) = true → ((0 : Int) ≤ topO (MS.mk m s).s ∧ topO (MS.mk m s).s <
 (↑((MS.mk m s).m.set i (-1 : Int)).length : Int)) ∧ ((0 : Int) ≤ topO (MS.mk m s).s ∧ topO (MS.mk m s).s < (↑((MS.mk m s).m.set i (-1 : Int)).length : Int)) ∧ ((0 : Int) ≤ IntKind.i64.wrap ((↑(opens (MS.mk m s).s).length
 : Int) - 1) ∧ IntKind.i64.wrap ((↑(opens (MS.mk m s).s).length : Int) - 1) < (↑(opens (MS.mk m s).s).length : Int)) ∧ ((0 : Int) ≤ IntKind.i64.wrap ((↑(opens (MS.mk m s).s).length : Int) - 1) ∧ IntKind.i64.wrap ((↑(opens
 (MS.mk m s).s).length : Int) - 1) < (↑(opens (MS.mk m s).s).length : Int)) ∧ ((!isO p (MS.mk m s).s == 18) = true → [] = rmL p ∧ (↑i : Int) = (matesR p).snd ∧ True) ∧ ((!isO p (MS.mk m s).s == 18) = false → ∃ (s_1 :
 MtS), p = p ∧ ((MS.mk m s).m.set i (-1 : Int)).set (topO (MS.mk m s).s).toNat (↑i : Int) = s_1.q.m ∧ (opens (MS.mk m s).s).set (IntKind.i64.wrap ((↑(opens (MS.mk m s).s).length : Int) - 1)).toNat (↑i : Int) = opens
 s_1.q.s ∧ IntKind.i64.wrap ((↑i : Int) + 1) = (↑s_1.i : Int) ∧ jOk p s_1 ∧ p.length + ((4 : Nat) + 3 * (p.length - s_1.i)) < p.length + ((3 : Nat) + 3 * (p.length - i)) ∧ True)) ∧ ((isO p (MS.mk m s).s == 18) = false →
 ((!isO p (MS.mk m s).s == 18) = true → [] = rmL p ∧ (↑i : Int) = (matesR p).snd ∧ True) ∧ ((!isO p (MS.mk m s).s == 18) = false → ∃ (s_1 : MtS), p = p ∧ (MS.mk m s).m.set i (-1 : Int) = s_1.q.m ∧ opens (MS.mk m s).s =
 opens s_1.q.s ∧ IntKind.i64.wrap ((↑i : Int) + 1) = (↑s_1.i : Int) ∧ jOk p s_1 ∧ p.length + ((4 : Nat) + 3 * (p.length - s_1.i)) < p.length + ((3 : Nat) + 3 * (p.length - i)) ∧ True))) ∧ (((at2 p (↑i : Int)).op == 19) =
 false → (((at2 p (↑i : Int)).op == 20) = true → ((isO p (MS.mk m s).s == 18) = true → ((0 : Int) ≤ topO (MS.mk m s).s ∧ topO (MS.mk m s).s < (↑((MS.mk m s).m.set i (-1 : Int)).length : Int)) ∧ ((0 : Int) ≤ topO (MS.mk m
 s).s ∧ topO (MS.mk m s).s < (↑((MS.mk m s).m.set i (-1 : Int)).length : Int)) ∧ ((0 : Int) ≤ 0 ∧ (0 : Int) ≤ IntKind.i64.wrap ((↑(opens (MS.mk m s).s).length : Int) - 1) ∧ IntKind.i64.wrap ((↑(opens (MS.mk m s).s).length
 : Int) - 1) ≤ (↑(opens (MS.mk m s).s).length : Int)) ∧ ∃ (s_1 : MtS), p = p ∧ ((MS.mk m s).m.set i (-1 : Int)).set (topO (MS.mk m s).s).toNat (↑i : Int) = s_1.q.m ∧ List.take ((IntKind.i64.wrap ((↑(opens (MS.mk m
 s).s).length : Int) - 1)).toNat - 0) (List.drop (0 : Nat) (opens (MS.mk m s).s)) = opens s_1.q.s ∧ IntKind.i64.wrap ((↑i : Int) + 1) = (↑s_1.i : Int) ∧ jOk p s_1 ∧ p.length + ((4 : Nat) + 3 * (p.length - s_1.i)) <
 p.length + ((3 : Nat) + 3 * (p.length - i)) ∧ True) ∧ ((isO p (MS.mk m s).s == 18) = false → ((isO p (MS.mk m s).s == 19) = true → ((0 : Int) ≤ topO (MS.mk m s).s ∧ topO (MS.mk m s).s < (↑((MS.mk m s).m.set i (-1 :
 Int)).length : Int)) ∧ ((0 : Int) ≤ topO (MS.mk m s).s ∧ topO (MS.mk m s).s < (↑((MS.mk m s).m.set i (-1 : Int)).length : Int)) ∧ ((0 : Int) ≤ 0 ∧ (0 : Int) ≤ IntKind.i64.wrap ((↑(opens (MS.mk m s).s).length : Int) - 1)
 ∧ IntKind.i64.wrap ((↑(opens (MS.mk m s).s).length : Int) - 1) ≤ (↑(opens (MS.mk m s).s).length : Int)) ∧ ((!isO p (MS.mk m s).s == 19) = true → [] = rmL p ∧ (↑i : Int) = (matesR p).snd ∧ True) ∧ ((!isO p (MS.mk m s).s
 == 19) = false → ∃ (s_1 : MtS), p = p ∧ ((MS.mk m s).m.set i (-1 : Int)).set (topO (MS.mk m s).s).toNat (↑i : Int) = s_1.q.m ∧ List.take ((IntKind.i64.wrap ((↑(opens (MS.mk m s).s).length : Int) - 1)).toNat - 0)
 (List.drop (0 : Nat) (opens (MS.mk m s).s)) = opens s_1.q.s ∧ IntKind.i64.wrap ((↑i : Int) + 1) = (↑s_1.i : Int) ∧ jOk p s_1 ∧ p.length + ((4 : Nat) + 3 * (p.length - s_1.i)) < p.length + ((3 : Nat) + 3 * (p.length - i))
 ∧ True)) ∧ ((isO p (MS.mk m s).s == 19) = false → ((!isO p (MS.mk m s).s == 19) = true → [] = rmL p ∧ (↑i : Int) = (matesR p).snd ∧ True) ∧ ((!isO p (MS.mk m s).s == 19) = false → ∃ (s_1 : MtS), p = p ∧ (MS.mk m s).m.set
 i (-1 : Int) = s_1.q.m ∧ opens (MS.mk m s).s = opens s_1.q.s ∧ IntKind.i64.wrap ((↑i : Int) + 1) = (↑s_1.i : Int) ∧ jOk p s_1 ∧ p.length + ((4 : Nat) + 3 * (p.length - s_1.i)) < p.length + ((3 : Nat) + 3 * (p.length -
 i)) ∧ True)))) ∧ (((at2 p (↑i : Int)).op == 20) = false → (((at2 p (↑i : Int)).op == 22) = true → ((isO p (MS.mk m s).s == 21) = true → ((0 : Int) ≤ (↑i : Int) ∧ (↑i : Int) < (↑p.length : Int)) ∧ (((at2 p (↑i : Int)).op
 == 22) = true → ((0 : Int) ≤ topO (MS.mk m s).s ∧ topO (MS.mk m s).s < (↑((MS.mk m s).m.set i (-1 : Int)).length : Int)) ∧ ((0 : Int) ≤ topO (MS.mk m s).s ∧ topO (MS.mk m s).s < (↑((MS.mk m s).m.set i (-1 : Int)).length
 : Int)) ∧ ((0 : Int) ≤ (↑i : Int) ∧ (↑i : Int) < (↑(((MS.mk m s).m.set i (-1 : Int)).set (topO (MS.mk m s).s).toNat (↑i : Int)).length : Int)) ∧ ((0 : Int) ≤ (↑i : Int) ∧ (↑i : Int) < (↑(((MS.mk m s).m.set i (-1 :
 Int)).set (topO (MS.mk m s).s).toNat (↑i : Int)).length : Int)) ∧ ((0 : Int) ≤ 0 ∧ (0 : Int) ≤ IntKind.i64.wrap ((↑(opens (MS.mk m s).s).length : Int) - 1) ∧ IntKind.i64.wrap ((↑(opens (MS.mk m s).s).length : Int) - 1) ≤
 (↑(opens (MS.mk m s).s).length : Int)) ∧ ∃ (s_1 : MtS), p = p ∧ (((MS.mk m s).m.set i (-1 : Int)).set (topO (MS.mk m s).s).toNat (↑i : Int)).set (↑i : Int).toNat (topO (MS.mk m s).s) = s_1.q.m ∧ List.take
 ((IntKind.i64.wrap ((↑(opens (MS.mk m s).s).length : Int) - 1)).toNat - 0) (List.drop (0 : Nat) (opens (MS.mk m s).s)) = opens s_1.q.s ∧ IntKind.i64.wrap ((↑i : Int) + 1) = (↑s_1.i : Int) ∧ jOk p s_1 ∧ p.length + ((4 :
 Nat) + 3 * (p.length - s_1.i)) < p.length + ((3 : Nat) + 3 * (p.length - i)) ∧ True) ∧ (((at2 p (↑i : Int)).op == 22) = false → ((isO p (MS.mk m s).s == 13) = true → ((0 : Int) ≤ (↑i : Int) ∧ (↑i : Int) < (↑p.length :
 Int)) ∧ (((at2 p (↑i : Int)).op == 14) = true → ((0 : Int) ≤ topO (MS.mk m s).s ∧ topO (MS.mk m s).s < (↑((MS.mk m s).m.set i (-1 : Int)).length : Int)) ∧ ((0 : Int) ≤ topO (MS.mk m s).s ∧ topO (MS.mk m s).s < (↑((MS.mk
 m s).m.set i (-1 : Int)).length : Int)) ∧ ((0 : Int) ≤ (↑i : Int) ∧ (↑i : Int) < (↑(((MS.mk m s).m.set i (-1 : Int)).set (topO (MS.mk m s).s).toNat (↑i : Int)).length : Int)) ∧ ((0 : Int) ≤ (↑i : Int) ∧ (↑i : Int) <
 (↑(((MS.mk m s).m.set i (-1 : Int)).set (topO (MS.mk m s).s).toNat (↑i : Int)).length : Int)) ∧ ((0 : Int) ≤ 0 ∧ (0 : Int) ≤ IntKind.i64.wrap ((↑(opens (MS.mk m s).s).length : Int) - 1) ∧ IntKind.i64.wrap ((↑(opens
 (MS.mk m s).s).length : Int) - 1) ≤ (↑(opens (MS.mk m s).s).length : Int)) ∧ ((!(at2 p (↑i : Int)).op == 14) = true → [] = rmL p ∧ (↑i : Int) = (matesR p).snd ∧ True) ∧ ((!(at2 p (↑i : Int)).op == 14) = false → ∃ (s_1 :
 MtS), p = p ∧ (((MS.mk m s).m.set i (-1 : Int)).set (topO (MS.mk m s).s).toNat (↑i : Int)).set (↑i : Int).toNat (topO (MS.mk m s).s) = s_1.q.m ∧ List.take ((IntKind.i64.wrap ((↑(opens (MS.mk m s).s).length : Int) -
 1)).toNat - 0) (List.drop (0 : Nat) (opens (MS.mk m s).s)) = opens s_1.q.s ∧ IntKind.i64.wrap ((↑i : Int) + 1) = (↑s_1.i : Int) ∧ jOk p s_1 ∧ p.length + ((4 : Nat) + 3 * (p.length - s_1.i)) < p.length + ((3 : Nat) + 3 *
 (p.length - i)) ∧ True)) ∧ (((at2 p (↑i : Int)).op == 14) = false → ((!(at2 p (↑i : Int)).op == 14) = true → [] = rmL p ∧ (↑i : Int) = (matesR p).snd ∧ True) ∧ ((!(at2 p (↑i : Int)).op == 14) = false → ∃ (s_1 : MtS), p =
 p ∧ (MS.mk m s).m.set i (-1 : Int) = s_1.q.m ∧ opens (MS.mk m s).s = opens s_1.q.s ∧ IntKind.i64.wrap ((↑i : Int) + 1) = (↑s_1.i : Int) ∧ jOk p s_1 ∧ p.length + ((4 : Nat) + 3 * (p.length - s_1.i)) < p.length + ((3 :
 Nat) + 3 * (p.length - i)) ∧ True))) ∧ ((isO p (MS.mk m s).s == 13) = false → [] = rmL p ∧ (↑i : Int) = (matesR p).snd ∧ True))) ∧ ((isO p (MS.mk m s).s == 21) = false → ((isO p (MS.mk m s).s == 13) = true → ((0 : Int) ≤
 (↑i : Int) ∧ (↑i : Int) < (↑p.length : Int)) ∧ (((at2 p (↑i : Int)).op == 14) = true → ((0 : Int) ≤ topO (MS.mk m s).s ∧ topO (MS.mk m s).s < (↑((MS.mk m s).m.set i (-1 : Int)).length : Int)) ∧ ((0 : Int) ≤ topO (MS.mk m
 s).s ∧ topO (MS.mk m s).s < (↑((MS.mk m s).m.set i (-1 : Int)).length : Int)) ∧ ((0 : Int) ≤ (↑i : Int) ∧ (↑i : Int) < (↑(((MS.mk m s).m.set i (-1 : Int)).set (topO (MS.mk m s).s).toNat (↑i : Int)).length : Int)) ∧ ((0 :
 Int) ≤ (↑i : Int) ∧ (↑i : Int) < (↑(((MS.mk m s).m.set i (-1 : Int)).set (topO (MS.mk m s).s).toNat (↑i : Int)).length : Int)) ∧ ((0 : Int) ≤ 0 ∧ (0 : Int) ≤ IntKind.i64.wrap ((↑(opens (MS.mk m s).s).length : Int) - 1) ∧
 IntKind.i64.wrap ((↑(opens (MS.mk m s).s).length : Int) - 1) ≤ (↑(opens (MS.mk m s).s).length : Int)) ∧ ((!(at2 p (↑i : Int)).op == 14) = true → [] = rmL p ∧ (↑i : Int) = (matesR p).snd ∧ True) ∧ ((!(at2 p (↑i : Int)).op
 == 14) = false → ∃ (s_1 : MtS), p = p ∧ (((MS.mk m s).m.set i (-1 : Int)).set (topO (MS.mk m s).s).toNat (↑i : Int)).set (↑i : Int).toNat (topO (MS.mk m s).s) = s_1.q.m ∧ List.take ((IntKind.i64.wrap ((↑(opens (MS.mk m
 s).s).length : Int) - 1)).toNat - 0) (List.drop (0 : Nat) (opens (MS.mk m s).s)) = opens s_1.q.s ∧ IntKind.i64.wrap ((↑i : Int) + 1) = (↑s_1.i : Int) ∧ jOk p s_1 ∧ p.length + ((4 : Nat) + 3 * (p.length - s_1.i)) <
 p.length + ((3 : Nat) + 3 * (p.length - i)) ∧ True)) ∧ (((at2 p (↑i : Int)).op == 14) = false → ((!(at2 p (↑i : Int)).op == 14) = true → [] = rmL p ∧ (↑i : Int) = (matesR p).snd ∧ True) ∧ ((!(at2 p (↑i : Int)).op == 14)
 = false → ∃ (s_1 : MtS), p = p ∧ (MS.mk m s).m.set i (-1 : Int) = s_1.q.m ∧ opens (MS.mk m s).s = opens s_1.q.s ∧ IntKind.i64.wrap ((↑i : Int) + 1) = (↑s_1.i : Int) ∧ jOk p s_1 ∧ p.length + ((4 : Nat) + 3 * (p.length -
 s_1.i)) < p.length + ((3 : Nat) + 3 * (p.length - i)) ∧ True))) ∧ ((isO p (MS.mk m s).s == 13) = false → [] = rmL p ∧ (↑i : Int) = (matesR p).snd ∧ True))) ∧ (((at2 p (↑i : Int)).op == 22) = false → (((at2 p (↑i :
 Int)).op == 14) = true → ((isO p (MS.mk m s).s == 21) = true → ((0 : Int) ≤ (↑i : Int) ∧ (↑i : Int) < (↑p.length : Int)) ∧ (((at2 p (↑i : Int)).op == 22) = true → ((0 : Int) ≤ topO (MS.mk m s).s ∧ topO (MS.mk m s).s <
 (↑((MS.mk m s).m.set i (-1 : Int)).length : Int)) ∧ ((0 : Int) ≤ topO (MS.mk m s).s ∧ topO (MS.mk m s).s < (↑((MS.mk m s).m.set i (-1 : Int)).length : Int)) ∧ ((0 : Int) ≤ (↑i : Int) ∧ (↑i : Int) < (↑(((MS.mk m s).m.set
 i (-1 : Int)).set (topO (MS.mk m s).s).toNat (↑i : Int)).length : Int)) ∧ ((0 : Int) ≤ (↑i : Int) ∧ (↑i : Int) < (↑(((MS.mk m s).m.set i (-1 : Int)).set (topO (MS.mk m s).s).toNat (↑i : Int)).length : Int)) ∧ ((0 : Int)
 ≤ 0 ∧ (0 : Int) ≤ IntKind.i64.wrap ((↑(opens (MS.mk m s).s).length : Int) - 1) ∧ IntKind.i64.wrap ((↑(opens (MS.mk m s).s).length : Int) - 1) ≤ (↑(opens (MS.mk m s).s).length : Int)) ∧ ∃ (s_1 : MtS), p = p ∧ (((MS.mk m
 s).m.set i (-1 : Int)).set (topO (MS.mk m s).s).toNat (↑i : Int)).set (↑i : Int).toNat (topO (MS.mk m s).s) = s_1.q.m ∧ List.take ((IntKind.i64.wrap ((↑(opens (MS.mk m s).s).length : Int) - 1)).toNat - 0) (List.drop (0 :
 Nat) (opens (MS.mk m s).s)) = opens s_1.q.s ∧ IntKind.i64.wrap ((↑i : Int) + 1) = (↑s_1.i : Int) ∧ jOk p s_1 ∧ p.length + ((4 : Nat) + 3 * (p.length - s_1.i)) < p.length + ((3 : Nat) + 3 * (p.length - i)) ∧ True) ∧
 (((at2 p (↑i : Int)).op == 22) = false → ((isO p (MS.mk m s).s == 13) = true → ((0 : Int) ≤ (↑i : Int) ∧ (↑i : Int) < (↑p.length : Int)) ∧ (((at2 p (↑i : Int)).op == 14) = true → ((0 : Int) ≤ topO (MS.mk m s).s ∧ topO
 (MS.mk m s).s < (↑((MS.mk m s).m.set i (-1 : Int)).length : Int)) ∧ ((0 : Int) ≤ topO (MS.mk m s).s ∧ topO (MS.mk m s).s < (↑((MS.mk m s).m.set i (-1 : Int)).length : Int)) ∧ ((0 : Int) ≤ (↑i : Int) ∧ (↑i : Int) <
 (↑(((MS.mk m s).m.set i (-1 : Int)).set (topO (MS.mk m s).s).toNat (↑i : Int)).length : Int)) ∧ ((0 : Int) ≤ (↑i : Int) ∧ (↑i : Int) < (↑(((MS.mk m s).m.set i (-1 : Int)).set (topO (MS.mk m s).s).toNat (↑i : Int)).length
 : Int)) ∧ ((0 : Int) ≤ 0 ∧ (0 : Int) ≤ IntKind.i64.wrap ((↑(opens (MS.mk m s).s).length : Int) - 1) ∧ IntKind.i64.wrap ((↑(opens (MS.mk m s).s).length : Int) - 1) ≤ (↑(opens (MS.mk m s).s).length : Int)) ∧ ((!(at2 p (↑i
 : Int)).op == 14) = true → [] = rmL p ∧ (↑i : Int) = (matesR p).snd ∧ True) ∧ ((!(at2 p (↑i : Int)).op == 14) = false → ∃ (s_1 : MtS), p = p ∧ (((MS.mk m s).m.set i (-1 : Int)).set (topO (MS.mk m s).s).toNat (↑i :
 Int)).set (↑i : Int).toNat (topO (MS.mk m s).s) = s_1.q.m ∧ List.take ((IntKind.i64.wrap ((↑(opens (MS.mk m s).s).length : Int) - 1)).toNat - 0) (List.drop (0 : Nat) (opens (MS.mk m s).s)) = opens s_1.q.s ∧
 IntKind.i64.wrap ((↑i : Int) + 1) = (↑s_1.i : Int) ∧ jOk p s_1 ∧ p.length + ((4 : Nat) + 3 * (p.length - s_1.i)) < p.length + ((3 : Nat) + 3 * (p.length - i)) ∧ True)) ∧ (((at2 p (↑i : Int)).op == 14) = false → ((!(at2 p
 (↑i : Int)).op == 14) = true → [] = rmL p ∧ (↑i : Int) = (matesR p).snd ∧ True) ∧ ((!(at2 p (↑i : Int)).op == 14) = false → ∃ (s_1 : MtS), p = p ∧ (MS.mk m s).m.set i (-1 : Int) = s_1.q.m ∧ opens (MS.mk m s).s = opens
 s_1.q.s ∧ IntKind.i64.wrap ((↑i : Int) + 1) = (↑s_1.i : Int) ∧ jOk p s_1 ∧ p.length + ((4 : Nat) + 3 * (p.length - s_1.i)) < p.length + ((3 : Nat) + 3 * (p.length - i)) ∧ True))) ∧ ((isO p (MS.mk m s).s == 13) = false →
 [] = rmL p ∧ (↑i : Int) = (matesR p).snd ∧ True))) ∧ ((isO p (MS.mk m s).s == 21) = false → ((isO p (MS.mk m s).s == 13) = true → ((0 : Int) ≤ (↑i : Int) ∧ (↑i : Int) < (↑p.length : Int)) ∧ (((at2 p (↑i : Int)).op == 14)
 = true → ((0 : Int) ≤ topO (MS.mk m s).s ∧ topO (MS.mk m s).s < (↑((MS.mk m s).m.set i (-1 : Int)).length : Int)) ∧ ((0 : Int) ≤ topO (MS.mk m s).s ∧ topO (MS.mk m s).s < (↑((MS.mk m s).m.set i (-1 : Int)).length : Int))
 ∧ ((0 : Int) ≤ (↑i : Int) ∧ (↑i : Int) < (↑(((MS.mk m s).m.set i (-1 : Int)).set (topO (MS.mk m s).s).toNat (↑i : Int)).length : Int)) ∧ ((0 : Int) ≤ (↑i : Int) ∧ (↑i : Int) < (↑(((MS.mk m s).m.set i (-1 : Int)).set
 (topO (MS.mk m s).s).toNat (↑i : Int)).length : Int)) ∧ ((0 : Int) ≤ 0 ∧ (0 : Int) ≤ IntKind.i64.wrap ((↑(opens (MS.mk m s).s).length : Int) - 1) ∧ IntKind.i64.wrap ((↑(opens (MS.mk m s).s).length : Int) - 1) ≤ (↑(opens
 (MS.mk m s).s).length : Int)) ∧ ((!(at2 p (↑i : Int)).op == 14) = true → [] = rmL p ∧ (↑i : Int) = (matesR p).snd ∧ True) ∧ ((!(at2 p (↑i : Int)).op == 14) = false → ∃ (s_1 : MtS), p = p ∧ (((MS.mk m s).m.set i (-1 :
 Int)).set (topO (MS.mk m s).s).toNat (↑i : Int)).set (↑i : Int).toNat (topO (MS.mk m s).s) = s_1.q.m ∧ List.take ((IntKind.i64.wrap ((↑(opens (MS.mk m s).s).length : Int) - 1)).toNat - 0) (List.drop (0 : Nat) (opens
 (MS.mk m s).s)) = opens s_1.q.s ∧ IntKind.i64.wrap ((↑i : Int) + 1) = (↑s_1.i : Int) ∧ jOk p s_1 ∧ p.length + ((4 : Nat) + 3 * (p.length - s_1.i)) < p.length + ((3 : Nat) + 3 * (p.length - i)) ∧ True)) ∧ (((at2 p (↑i :
 Int)).op == 14) = false → ((!(at2 p (↑i : Int)).op == 14) = true → [] = rmL p ∧ (↑i : Int) = (matesR p).snd ∧ True) ∧ ((!(at2 p (↑i : Int)).op == 14) = false → ∃ (s_1 : MtS), p = p ∧ (MS.mk m s).m.set i (-1 : Int) =
 s_1.q.m ∧ opens (MS.mk m s).s = opens s_1.q.s ∧ IntKind.i64.wrap ((↑i : Int) + 1) = (↑s_1.i : Int) ∧ jOk p s_1 ∧ p.length + ((4 : Nat) + 3 * (p.length - s_1.i)) < p.length + ((3 : Nat) + 3 * (p.length - i)) ∧ True))) ∧
 ((isO p (MS.mk m s).s == 13) = false → [] = rmL p ∧ (↑i : Int) = (matesR p).snd ∧ True))) ∧ (((at2 p (↑i : Int)).op == 14) = false → (false = true → [] = rmL p ∧ (↑i : Int) = (matesR p).snd ∧ True) ∧ (false = false → ∃
 (s_1 : MtS), p = p ∧ (MS.mk m s).m.set i (-1 : Int) = s_1.q.m ∧ opens (MS.mk m s).s = opens s_1.q.s ∧ IntKind.i64.wrap ((↑i : Int) + 1) = (↑s_1.i : Int) ∧ jOk p s_1 ∧ p.length + ((4 : Nat) + 3 * (p.length - s_1.i)) <
 p.length + ((3 : Nat) + 3 * (p.length - i)) ∧ True))))))))) := by kernel_rfl
theorem rm_42 (p : List Instr) (m : List Int) (b : Blk) (j : Nat) : Go.Sy.Tree.holds (cutVC F (lookC []) 300 Tryd.f59 b59 (rmF p) 42 (rmC42 p) ⟨m, b, j⟩) = ( (decide ((↑j : Int) < b.l) = true → ((0 : Int) ≤ (↑j : Int) ∧
 (↑j : Int) < (↑m.length : Int)) ∧ ((0 : Int) ≤ (↑j : Int) ∧ (↑j : Int) < (↑m.length : Int)) ∧ ((at0 m (↑j : Int) == b.l) = true → [] = rmL p ∧ (↑j : Int) = (matesR p).snd ∧ True) ∧ ((at0 m (↑j : Int) == b.l) = false → ∃
 (s : RmS), m = s.m ∧ b.l = s.b.l ∧ IntKind.i64.wrap ((↑j : Int) + 1) = (↑s.j : Int) ∧ (s.m.length = p.length ∧ BOk p p.length s.m s.b ∧ s.b.l ≠ s.b.a ∧ s.b.l < (↑p.length : Int) ∧ (↑s.j : Int) ≤ s.b.a ∧ (matesR p).snd =
 s.b.a) ∧ p.length - s.j < p.length - j ∧ True)) ∧ (decide ((↑j : Int) < b.l) = false → [] = rmL p ∧ b.l = (matesR p).snd ∧ True)) := by kernel_rfl

theorem fd_e_ok (op : Int) : Paid (entryX F (lookC []) 300 Tryd.f62 b62 ⟨[], .tup [.i .i64 (shA op), .i .i64 (shB op), .i .i64 (shC op), .b (shN op == 5)], []⟩ [.i .i64 op]) := by
  refine ⟨?_⟩
  rw [fd_e]
  by_cases hr : 1 ≤ op ∧ op ≤ 21
  · obtain ⟨n, rfl⟩ := Int.eq_ofNat_of_zero_le (show 0 ≤ op by omega)
    have hn : n ≤ 21 := by omega
    have hn0 : 1 ≤ n := by omega
    have : ∀ n : Nat, n ≤ 21 → n = 0 ∨ n = 1 ∨ n = 2 ∨ n = 3 ∨ n = 4 ∨ n = 5 ∨ n = 6 ∨ n = 7 ∨ n = 8 ∨ n = 9 ∨ n = 10 ∨ n = 11 ∨ n = 12 ∨ n = 13 ∨ n = 14 ∨ n = 15 ∨ n = 16 ∨ n = 17 ∨ n = 18 ∨ n = 19 ∨ n = 20 ∨ n = 21 := by omega
    rcases this n hn with rfl | rfl | rfl | rfl | rfl | rfl | rfl | rfl | rfl | rfl | rfl | rfl | rfl | rfl | rfl | rfl | rfl | rfl | rfl | rfl | rfl | rfl
    · omega
    all_goals simp [shA, shB, shC, shN]
  · have hA : shA op = 0 := by rw [shA, if_neg (by omega), if_neg (by omega), if_neg (by omega)]
    have hB : shB op = 0 := by rw [shB, if_neg (by omega), if_neg (by omega)]
    have hC : shC op = 0 := by rw [shC, if_neg (by omega)]
    have hN : shN op = 0 := by rw [shN, if_neg (by omega)]
    have ne : ∀ k : Int, 1 ≤ k → k ≤ 21 → (op == k) = false := fun k h1 h2 => by
      have : op ≠ k := by rintro rfl; exact hr ⟨h1, h2⟩
      simpa using this
    rw [hA, hB, hC, hN]
    simp [ne]
theorem fdOk : CtrOk1 F.S 62 (mkCtr fdD) :=
  mkCtr_paid (fn := Tryd.f62) (body := b62) (ctr := lookC []) codOk noExt hookLow noneOk Tryd.func62 rfl rfl rfl fdD 300 (fun _ => []) (show 1 ≤ Tryd.f62.ntmps by decide) (show Tryd.f62.ntmps ≤ 512 by decide) (by kernel_rfl) (fun _ _ => ⟨rfl, rfl⟩)
    (fun (x : Int × Unit) hp => fd_e_ok x.1) (fun x hp p hm => by cases hm)
theorem fi_e_ok (k v : Int) (h0 : 0 ≤ k) (h1 : k ≤ 4) : Paid (entryX F (lookC []) 300 Tryd.f63 b63 ⟨[], .b (fitB k v), []⟩ [.i .i64 k, .i .i64 v]) := by
  have : k = 0 ∨ k = 1 ∨ k = 2 ∨ k = 3 ∨ k = 4 := by omega
  rcases this with rfl | rfl | rfl | rfl | rfl <;> refine ⟨?_⟩
  · rw [fi_0]
    simp [fitB, mostK]
    omega
  · rw [fi_1]
    simp [fitB, mostK]
    omega
  · rw [fi_2]
    simp [fitB, mostK]
    omega
  · rw [fi_3]
    simp [fitB, mostK]
    omega
  · rw [fi_4]
    simp [fitB, mostK]
    omega
theorem fiOk : CtrOk1 F.S 63 (mkCtr fiD) :=
  mkCtr_paid (fn := Tryd.f63) (body := b63) (ctr := lookC []) codOk noExt hookLow noneOk Tryd.func63 rfl rfl rfl fiD 300 (fun _ => []) (show 2 ≤ Tryd.f63.ntmps by decide) (show Tryd.f63.ntmps ≤ 512 by decide) (by kernel_rfl) (fun _ _ => ⟨rfl, rfl⟩)
    (fun (x : Int × Int × Unit) hp => fi_e_ok x.1 x.2.1 hp.1 hp.2) (fun x hp p hm => by cases hm)
theorem r1Ok : CtrOk F.S (lookC r1) := lookC_ok fun p h => by
  simp only [r1, List.mem_cons, List.not_mem_nil, or_false] at h
  rcases h with rfl | rfl
  · exact fdOk
  · exact fiOk
theorem shA_is (op : Int) : 0 ≤ shA op ∧ shA op ≤ 4 := by
  unfold shA
  repeat' split
  all_goals decide
theorem shB_is (op : Int) : 0 ≤ shB op ∧ shB op ≤ 4 := by
  unfold shB
  repeat' split
  all_goals decide
theorem shC_is (op : Int) : 0 ≤ shC op ∧ shC op ≤ 4 := by
  unfold shC
  repeat' split
  all_goals decide
theorem mi_e_ok (x : Instr) : Paid (entryX F (lookC r1) 300 Tryd.f58 b58 ⟨[], .b (mayB x), []⟩ [.agg (enc2 x)]) := by
  refine ⟨?_⟩
  rw [mi_e]
  exact ⟨trivial, fun h1 => ⟨fun h2 => ⟨shA_is _, fun h3 => ⟨shB_is _, fun h4 => ⟨shC_is _, fun h5 => ⟨fun h6 => ⟨by rw [mayB, h1, h2, h3, h4, h5, h6]; rfl, trivial⟩, fun h6 => ⟨by rw [mayB, h1, h2, h3, h4, h5, h6]; rfl, trivial⟩⟩,
    fun h5 => ⟨by rw [mayB, h1, h2, h3, h4, h5]; rfl, trivial⟩⟩, fun h4 => ⟨by rw [mayB, h1, h2, h3, h4]; rfl, trivial⟩⟩, fun h3 => ⟨by rw [mayB, h1, h2, h3]; rfl, trivial⟩⟩, fun h2 => ⟨by rw [mayB, h1, h2]; rfl, trivial⟩⟩, fun h1 => ⟨by rw [mayB, h1]; rfl, trivial⟩⟩
theorem miOk : CtrOk1 F.S 58 (mkCtr mayD) :=
  mkCtr_paid (fn := Tryd.f58) (body := b58) (ctr := lookC r1) codOk noExt hookLow r1Ok Tryd.func58 rfl rfl rfl mayD 300 (fun _ => []) (show 1 ≤ Tryd.f58.ntmps by decide) (show Tryd.f58.ntmps ≤ 512 by decide) (by kernel_rfl) (fun _ _ => ⟨rfl, rfl⟩)
    (fun (x : Instr × Unit) hp => mi_e_ok x.1) (fun x hp p hm => by cases hm)

/-! ### Mates -/
theorem at0_set (m : List Int) (k : Nat) (v : Int) (j : Nat) : at0 (m.set k v) (j : Int) = if k = j ∧ k < m.length then v else at0 m (j : Int) := by
  have e : ∀ l : List Int, at0 l (j : Int) = (l[j]?).getD (cod.dflt 0) := fun l => by
    exact List.getD_eq_getElem?_getD
  rw [e, e, List.getElem?_set]
  by_cases h : k = j
  · subst h
    rw [if_pos rfl]
    by_cases h2 : k < m.length
    · rw [if_pos h2, if_pos ⟨rfl, h2⟩]; rfl
    · rw [if_neg h2, if_neg (fun x => h2 x.2), List.getElem?_eq_none (by omega)]
  · rw [if_neg h, if_neg (fun x => h x.1)]
section
variable {p : List Instr} {i : Nat} {m m' : List Int} {s : List Blk}
theorem BOk.keep {b : Blk} (hb : BOk p i m b) (hx : ∀ j : Nat, j < i + 1 → (j < i ∧ at0 m' j = at0 m j) ∨ (at0 m' j ≠ b.l ∧ (j : Int) ≠ b.a)) : BOk p (i + 1) m' b := by
  obtain ⟨n, hn⟩ := Int.eq_ofNat_of_zero_le hb.a0
  have hni : n < i := by have := hb.al; have := hb.li; omega
  refine ⟨hb.a0, hb.al, by have := hb.li; omega, hb.op, fun h => ?_⟩
  obtain ⟨h1, h2, h3, h4⟩ := hb.els h
  refine ⟨h1, h2, ?_, fun j hj e => ?_⟩
  · rcases hx n (by omega) with h5 | h5
    · rw [hn] at h3 ⊢
      rw [h5.2]; exact h3
    · exact (h5.2 hn.symm).elim
  · rcases hx j hj with h5 | h5
    · exact h4 j h5.1 (h5.2.symm.trans e)
    · exact (h5.1 e).elim
theorem opens_len (s : List Blk) : (opens s).length = s.length := List.length_map _
theorem opens_lst (h : s ≠ []) : at0 (opens s) ((s.length : Int) - 1) = (lst s).l := by
  have hl : s.length - 1 < s.length := by
    have := List.length_pos_iff.2 h
    omega
  have e : ((s.length : Int) - 1) = ((s.length - 1 : Nat) : Int) := by omega
  unfold lst
  rw [e, at8_get hl, at0_get (by rw [opens_len]; exact hl)]
  simp [opens]
theorem split_last (h : s ≠ []) : s = s.take (s.length - 1) ++ [lst s] := by
  have hl : s.length - 1 < s.length := by
    have := List.length_pos_iff.2 h
    omega
  have e : lst s = s[s.length - 1] := by
    unfold lst
    rw [show ((s.length : Int) - 1) = ((s.length - 1 : Nat) : Int) by omega]
    exact at8_get hl
  have h2 : s.take (s.length - 1 + 1) = s.take (s.length - 1) ++ [s[s.length - 1]] := List.take_succ_eq_append_getElem hl
  rw [show s.length - 1 + 1 = s.length by omega, List.take_length] at h2
  rw [e]
  exact h2
/-- What stands ahead of the last one. -/
theorem ahead (hP : s.Pairwise fun x y => x.l < y.a) (h : s ≠ []) : (s.take (s.length - 1)).Pairwise (fun x y => x.l < y.a) ∧ ∀ b ∈ s.take (s.length - 1), b ∈ s ∧ b.l < (lst s).a := by
  rw [split_last h, List.pairwise_append] at hP
  exact ⟨hP.1, fun b hb => ⟨List.mem_of_mem_take hb, hP.2.2 b hb _ (List.mem_singleton.2 rfl)⟩⟩
theorem j_open (hJ : jOk p ⟨⟨m, s⟩, i⟩) (hi : i < p.length) (ho : (at2 p i).op = 18 ∨ (at2 p i).op = 21 ∨ (at2 p i).op = 13) : jOk p ⟨⟨m.set i (-1), s ++ [⟨i, i⟩]⟩, i + 1⟩ := by
  obtain ⟨h1, h2, h3, h4⟩ := hJ
  have hml : m.length = p.length := h1.2.1.1
  have hset : ∀ j : Nat, at0 (m.set i (-1)) j = if i = j then -1 else at0 m j := fun j => by rw [at0_set, hml]; by_cases e : i = j <;> simp [e, hi]; omega
  refine ⟨mt_next hi h1 (ms_open ho) (by rw [List.length_set]) (fun b hb => ?_) (by simp), ?_, fun b hb => ?_, fun j => ?_⟩
  · rw [List.mem_append, List.mem_singleton] at hb
    rcases hb with hb | rfl
    · exact .inl hb
    · exact .inr (.inl ⟨rfl, rfl⟩)
  · refine List.pairwise_append.2 ⟨h2, List.pairwise_singleton _ _, fun x hx y hy => ?_⟩
    rw [List.mem_singleton] at hy
    subst hy
    exact (h3 x hx).li
  · rcases List.mem_append.1 hb with hb | hb
    · have k := h3 b hb
      replace k : BOk p i m b := k
      refine k.keep fun j hj => ?_
      show (j < i ∧ at0 (m.set i (-1)) j = at0 m j) ∨ _
      rw [hset]
      have := k.a0; have := k.al; have := k.li
      by_cases e : i = j
      · rw [if_pos e]; right; constructor <;> omega
      · rw [if_neg e]; left; exact ⟨by omega, rfl⟩
    · rw [List.mem_singleton] at hb
      subst hb
      exact ⟨by show (0 : Int) ≤ (i : Int); omega, Int.le_refl _, by show (i : Int) < ((i + 1 : Nat) : Int); omega, ho, fun h => (h rfl).elim⟩
  · show at0 (m.set i (-1)) j ≤ 0 ∨ at0 (m.set i (-1)) j < ((i + 1 : Nat) : Int)
    have := h4 j
    rw [hset]
    split
    · left; decide
    · rcases this with h | h
      · exact .inl h
      · have h : at0 m j < (i : Int) := h
        right; omega
theorem j_other (hJ : jOk p ⟨⟨m, s⟩, i⟩) (hi : i < p.length) (ho : ¬ ((at2 p i).op = 18 ∨ (at2 p i).op = 21 ∨ (at2 p i).op = 13)) (hk : opener (at2 p i).op = 0) : jOk p ⟨⟨m.set i (-1), s⟩, i + 1⟩ := by
  obtain ⟨h1, h2, h3, h4⟩ := hJ
  have hml : m.length = p.length := h1.2.1.1
  have hset : ∀ j : Nat, at0 (m.set i (-1)) j = if i = j then -1 else at0 m j := fun j => by rw [at0_set, hml]; by_cases e : i = j <;> simp [e, hi]; omega
  refine ⟨mt_next hi h1 (ms_other ho hk) (by rw [List.length_set]) (fun b hb => .inl hb) (by omega), h2, fun b hb => ?_, fun j => ?_⟩
  · have k := h3 b hb
    replace k : BOk p i m b := k
    refine k.keep fun j hj => ?_
    show (j < i ∧ at0 (m.set i (-1)) j = at0 m j) ∨ _
    rw [hset]
    have := k.a0; have := k.al; have := k.li
    by_cases e : i = j
    · rw [if_pos e]; right; constructor <;> omega
    · rw [if_neg e]; left; exact ⟨by omega, rfl⟩
  · show at0 (m.set i (-1)) j ≤ 0 ∨ at0 (m.set i (-1)) j < ((i + 1 : Nat) : Int)
    have := h4 j
    rw [hset]
    split
    · left; decide
    · rcases this with h | h
      · exact .inl h
      · have h : at0 m j < (i : Int) := h
        right; omega
/-- A block is gone, or goes on; v: what is told of the place itself. -/
theorem j_close (hJ : jOk p ⟨⟨m, s⟩, i⟩) (hi : i < p.length) (hne : s ≠ []) {s' : List Blk} {v : Int} (hm : m'.length = m.length) (hset : ∀ j : Nat, at0 m' j = if i = j then v else if (lst s).l = (j : Int) then (i : Int) else at0 m j) (hv : v = -1 ∨ v = (lst s).a)
    (hst : mstep p i ⟨m, s⟩ = some ⟨m', s'⟩) (hs : s' = s.take (s.length - 1) ∨ (s' = s.take (s.length - 1) ++ [⟨(lst s).a, i⟩] ∧ v = -1 ∧ (at2 p i).op = 19 ∧ (lst s).l = (lst s).a ∧ (at2 p (lst s).a).op = 18)) : jOk p ⟨⟨m', s'⟩, i + 1⟩ := by
  obtain ⟨h1, h2, h3, h4⟩ := hJ
  have hml : m.length = p.length := h1.2.1.1
  have kl := h3 _ (lst_in hne)
  replace kl : BOk p i m (lst s) := kl
  obtain ⟨a1, a2⟩ := ahead h2 hne
  have l0 := kl.a0; have l1 := kl.al; have l2 := kl.li
  have hlen : (s.take (s.length - 1)).length ≤ s.length := by rw [List.length_take]; omega
  have old : ∀ b ∈ s.take (s.length - 1), BOk p (i + 1) m' b := by
    intro b hb
    have k := h3 b (a2 b hb).1
    replace k : BOk p i m b := k
    have hlt : b.l < (lst s).a := (a2 b hb).2
    refine k.keep fun j hj => ?_
    rw [hset]
    have := k.a0; have := k.al; have := k.li
    by_cases e : i = j
    · rw [if_pos e]; right; constructor <;> omega
    · rw [if_neg e]
      by_cases e2 : (lst s).l = (j : Int)
      · rw [if_pos e2]; right; constructor <;> omega
      · rw [if_neg e2]; left; exact ⟨by omega, rfl⟩
  refine ⟨mt_next hi h1 hst hm (fun b hb => ?_) ?_, ?_, fun b hb => ?_, fun j => ?_⟩
  · rcases hs with rfl | ⟨rfl, _⟩
    · exact .inl (List.mem_of_mem_take hb)
    · rcases List.mem_append.1 hb with hb | hb
      · exact .inl (List.mem_of_mem_take hb)
      · rw [List.mem_singleton] at hb
        subst hb
        exact .inr (.inr ⟨_, lst_in hne, rfl, rfl⟩)
  · rcases hs with rfl | ⟨rfl, _⟩
    · omega
    · rw [List.length_append]; simp
  · rcases hs with rfl | ⟨rfl, _⟩
    · exact a1
    · refine List.pairwise_append.2 ⟨a1, List.pairwise_singleton _ _, fun x hx y hy => ?_⟩
      rw [List.mem_singleton] at hy
      subst hy
      exact (a2 x hx).2
  · rcases hs with rfl | ⟨rfl, rfl, g1, g2, g3⟩
    · exact old b hb
    · rcases List.mem_append.1 hb with hb | hb
      · exact old b hb
      · rw [List.mem_singleton] at hb
        subst hb
        obtain ⟨n, hn⟩ := Int.eq_ofNat_of_zero_le l0
        refine ⟨l0, by show (lst s).a ≤ (i : Int); omega, by show (i : Int) < ((i + 1 : Nat) : Int); omega, .inl g3, fun _ => ⟨g3, g1, ?_, fun j hj e => ?_⟩⟩
        · show at0 m' (lst s).a = (i : Int)
          rw [hn, hset, if_neg (by omega), if_pos (by omega)]
        · have e : at0 m' j = (i : Int) := e
          rw [hset] at e
          by_cases e1 : i = j
          · rw [if_pos e1] at e; omega
          · rw [if_neg e1] at e
            by_cases e2 : (lst s).l = (j : Int)
            · show (j : Int) = (lst s).a; omega
            · rw [if_neg e2] at e
              have := h4 j
              replace this : at0 m j ≤ 0 ∨ at0 m j < (i : Int) := this
              omega
  · show at0 m' j ≤ 0 ∨ at0 m' j < ((i + 1 : Nat) : Int)
    have := h4 j
    replace this : at0 m j ≤ 0 ∨ at0 m j < (i : Int) := this
    rw [hset]
    split
    · omega
    · split <;> omega
end
end Go.Proofs.YtjboohjicdmidaaDoor

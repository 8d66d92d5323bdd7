/- syncopelaw6.CheckProg: what its own text owes is paid. Printed by a program (gen_xv.py). -/
import Derived.Test.YtjboohjicdmidaaDoorXd
namespace Go.Proofs.YtjboohjicdmidaaDoor
open Go.RowKit Go.Am Go.Sy
set_option linter.unusedVariables false
set_option linter.unusedSimpArgs false

theorem in_e (k : K4) (n : Int) (raw : Bool) : Go.Sy.Tree.holds (entryX F (lookC []) 300 Tryd.f37 b37 ⟨[], .agg (enc2 (insF k n raw)), []⟩ [.agg (enc11 k), .i .i64 n, .b raw]) = ( (raw = true → k.a = (insF k n raw).op ∧
 k.b = (insF k n raw).a ∧ k.c = (insF k n raw).b ∧ k.d = (insF k n raw).c ∧ n = (insF k n raw).n ∧ True) ∧ (raw = false → ((IntKind.i64.wrap ((1 : Int) + IntKind.i64.wrap ((IntKind.u64.wrap k.a).tmod 22)) == 1) = true →
 IntKind.i64.wrap ((1 : Int) + IntKind.i64.wrap ((IntKind.u64.wrap k.a).tmod 22)) = (insF k n raw).op ∧ IntKind.i64.wrap ((IntKind.u64.wrap k.b).tmod 4) = (insF k n raw).a ∧ (0 : Int) = (insF k n raw).b ∧ (0 : Int) =
 (insF k n raw).c ∧ n = (insF k n raw).n ∧ True) ∧ ((IntKind.i64.wrap ((1 : Int) + IntKind.i64.wrap ((IntKind.u64.wrap k.a).tmod 22)) == 1) = false → (decide (IntKind.i64.wrap ((1 : Int) + IntKind.i64.wrap
 ((IntKind.u64.wrap k.a).tmod 22)) ≤ 7) = true → IntKind.i64.wrap ((1 : Int) + IntKind.i64.wrap ((IntKind.u64.wrap k.a).tmod 22)) = (insF k n raw).op ∧ IntKind.i64.wrap ((IntKind.u64.wrap k.b).tmod 4) = (insF k n raw).a ∧
 IntKind.i64.wrap ((IntKind.u64.wrap k.c).tmod 4) = (insF k n raw).b ∧ IntKind.i64.wrap ((IntKind.u64.wrap k.d).tmod 4) = (insF k n raw).c ∧ (0 : Int) = (insF k n raw).n ∧ True) ∧ (decide (IntKind.i64.wrap ((1 : Int) +
 IntKind.i64.wrap ((IntKind.u64.wrap k.a).tmod 22)) ≤ 7) = false → (decide (IntKind.i64.wrap ((1 : Int) + IntKind.i64.wrap ((IntKind.u64.wrap k.a).tmod 22)) ≤ 9) = true → IntKind.i64.wrap ((1 : Int) + IntKind.i64.wrap
 ((IntKind.u64.wrap k.a).tmod 22)) = (insF k n raw).op ∧ IntKind.i64.wrap ((IntKind.u64.wrap k.b).tmod 4) = (insF k n raw).a ∧ IntKind.i64.wrap ((IntKind.u64.wrap k.c).tmod 4) = (insF k n raw).b ∧ (0 : Int) = (insF k n
 raw).c ∧ n = (insF k n raw).n ∧ True) ∧ (decide (IntKind.i64.wrap ((1 : Int) + IntKind.i64.wrap ((IntKind.u64.wrap k.a).tmod 22)) ≤ 9) = false → (decide (IntKind.i64.wrap ((1 : Int) + IntKind.i64.wrap ((IntKind.u64.wrap
 k.a).tmod 22)) ≤ 11) = true → IntKind.i64.wrap ((1 : Int) + IntKind.i64.wrap ((IntKind.u64.wrap k.a).tmod 22)) = (insF k n raw).op ∧ (0 : Int) = (insF k n raw).a ∧ IntKind.i64.wrap ((IntKind.u64.wrap k.c).tmod 4) = (insF
 k n raw).b ∧ (0 : Int) = (insF k n raw).c ∧ n = (insF k n raw).n ∧ True) ∧ (decide (IntKind.i64.wrap ((1 : Int) + IntKind.i64.wrap ((IntKind.u64.wrap k.a).tmod 22)) ≤ 11) = false → ((IntKind.i64.wrap ((1 : Int) +
 IntKind.i64.wrap ((IntKind.u64.wrap k.a).tmod 22)) == 13) = true → IntKind.i64.wrap ((1 : Int) + IntKind.i64.wrap ((IntKind.u64.wrap k.a).tmod 22)) = (insF k n raw).op ∧ IntKind.i64.wrap ((IntKind.u64.wrap k.b).tmod 4) =
 (insF k n raw).a ∧ (IntKind.i64.wrap ((IntKind.u64.wrap k.c).tmod 4)).tmod 2 = (insF k n raw).b ∧ (0 : Int) = (insF k n raw).c ∧ (0 : Int) = (insF k n raw).n ∧ True) ∧ ((IntKind.i64.wrap ((1 : Int) + IntKind.i64.wrap
 ((IntKind.u64.wrap k.a).tmod 22)) == 13) = false → ((IntKind.i64.wrap ((1 : Int) + IntKind.i64.wrap ((IntKind.u64.wrap k.a).tmod 22)) == 14) = true → IntKind.i64.wrap ((1 : Int) + IntKind.i64.wrap ((IntKind.u64.wrap
 k.a).tmod 22)) = (insF k n raw).op ∧ (0 : Int) = (insF k n raw).a ∧ (0 : Int) = (insF k n raw).b ∧ (0 : Int) = (insF k n raw).c ∧ (0 : Int) = (insF k n raw).n ∧ True) ∧ ((IntKind.i64.wrap ((1 : Int) + IntKind.i64.wrap
 ((IntKind.u64.wrap k.a).tmod 22)) == 14) = false → ((IntKind.i64.wrap ((1 : Int) + IntKind.i64.wrap ((IntKind.u64.wrap k.a).tmod 22)) == 19) = true → IntKind.i64.wrap ((1 : Int) + IntKind.i64.wrap ((IntKind.u64.wrap
 k.a).tmod 22)) = (insF k n raw).op ∧ (0 : Int) = (insF k n raw).a ∧ (0 : Int) = (insF k n raw).b ∧ (0 : Int) = (insF k n raw).c ∧ (0 : Int) = (insF k n raw).n ∧ True) ∧ ((IntKind.i64.wrap ((1 : Int) + IntKind.i64.wrap
 ((IntKind.u64.wrap k.a).tmod 22)) == 19) = false → ((IntKind.i64.wrap ((1 : Int) + IntKind.i64.wrap ((IntKind.u64.wrap k.a).tmod 22)) == 20) = true → IntKind.i64.wrap ((1 : Int) + IntKind.i64.wrap ((IntKind.u64.wrap
 k.a).tmod 22)) = (insF k n raw).op ∧ (0 : Int) = (insF k n raw).a ∧ (0 : Int) = (insF k n raw).b ∧ (0 : Int) = (insF k n raw).c ∧ (0 : Int) = (insF k n raw).n ∧ True) ∧ ((IntKind.i64.wrap ((1 : Int) + IntKind.i64.wrap
 ((IntKind.u64.wrap k.a).tmod 22)) == 20) = false → ((IntKind.i64.wrap ((1 : Int) + IntKind.i64.wrap ((IntKind.u64.wrap k.a).tmod 22)) == 22) = true → IntKind.i64.wrap ((1 : Int) + IntKind.i64.wrap ((IntKind.u64.wrap
 k.a).tmod 22)) = (insF k n raw).op ∧ (0 : Int) = (insF k n raw).a ∧ (0 : Int) = (insF k n raw).b ∧ (0 : Int) = (insF k n raw).c ∧ (0 : Int) = (insF k n raw).n ∧ True) ∧ ((IntKind.i64.wrap ((1 : Int) + IntKind.i64.wrap
 ((IntKind.u64.wrap k.a).tmod 22)) == 22) = false → IntKind.i64.wrap ((1 : Int) + IntKind.i64.wrap ((IntKind.u64.wrap k.a).tmod 22)) = (insF k n raw).op ∧ IntKind.i64.wrap ((IntKind.u64.wrap k.b).tmod 4) = (insF k n
 raw).a ∧ (0 : Int) = (insF k n raw).b ∧ (0 : Int) = (insF k n raw).c ∧ (0 : Int) = (insF k n raw).n ∧ True))))))))))) := by kernel_rfl
theorem xp_e (k : K8) (rows : List (List Int)) (a : Int) (x : Rw) (out : Bool) : Go.Sy.Tree.holds (entryX F (lookC q7) 600 Tryd.f7 b7 (xpF a out x) [.agg (enc7 k), .tl (T := T) 5 rows, .i .i64 a, .agg (enc6 x), .b out]) =
 ( fwD.pre (rows, (12 : Int), ()) ∧ ((!fewB rows (12 : Int)) = true → true = true ∧ True) ∧ ((!fewB rows (12 : Int)) = false → ((IntKind.i64.wrap ((IntKind.u64.wrap k.h).tmod 4) == 1) = true → (decide (IntKind.i64.wrap
 ((IntKind.u64.wrap k.e).tmod 5) > 0) = true → (decide ((0 : Int) < (↑rows.length : Int)) = true → ((0 : Int) ≤ 0 ∧ (0 : Int) < (↑rows.length : Int)) ∧ lenOk (at5 rows (0 : Int)) ∧ (decide ((1 : Int) < (↑rows.length :
 Int)) = true → ((0 : Int) ≤ 1 ∧ (1 : Int) < (↑rows.length : Int)) ∧ lenOk (at5 rows (1 : Int)) ∧ (decide ((2 : Int) < (↑rows.length : Int)) = true → ((0 : Int) ≤ 2 ∧ (2 : Int) < (↑rows.length : Int)) ∧ lenOk (at5 rows (2
 : Int)) ∧ (decide ((3 : Int) < (↑rows.length : Int)) = true → (((↑rows.length : Int) == 0) = true → xpG1 k x a out ((32 : Int)) (IntKind.i64.wrap ((IntKind.u64.wrap (IntKind.i64.wrap (k.h.tdiv 4))).tmod 12)) ([])) ∧
 (((↑rows.length : Int) == 0) = false → xpG3 k x a out ((32 : Int)) (IntKind.i64.wrap ((IntKind.u64.wrap (IntKind.i64.wrap (k.h.tdiv 4))).tmod 12)) (progL (at5 rows (0 : Int))) (progL (at5 rows (1 : Int))) (progL (at5
 rows (2 : Int))))) ∧ (decide ((3 : Int) < (↑rows.length : Int)) = false → (((↑rows.length : Int) == 0) = true → xpG1 k x a out ((32 : Int)) (IntKind.i64.wrap ((IntKind.u64.wrap (IntKind.i64.wrap (k.h.tdiv 4))).tmod 12))
 ([])) ∧ (((↑rows.length : Int) == 0) = false → xpG3 k x a out ((32 : Int)) (IntKind.i64.wrap ((IntKind.u64.wrap (IntKind.i64.wrap (k.h.tdiv 4))).tmod 12)) (progL (at5 rows (0 : Int))) (progL (at5 rows (1 : Int))) (progL
 (at5 rows (2 : Int)))))) ∧ (decide ((2 : Int) < (↑rows.length : Int)) = false → (((↑rows.length : Int) == 0) = true → xpG1 k x a out ((32 : Int)) (IntKind.i64.wrap ((IntKind.u64.wrap (IntKind.i64.wrap (k.h.tdiv 4))).tmod
 12)) ([])) ∧ (((↑rows.length : Int) == 0) = false → xpG2 k x a out ((32 : Int)) (IntKind.i64.wrap ((IntKind.u64.wrap (IntKind.i64.wrap (k.h.tdiv 4))).tmod 12)) (progL (at5 rows (0 : Int))) (progL (at5 rows (1 : Int))))))
 ∧ (decide ((1 : Int) < (↑rows.length : Int)) = false → (((↑rows.length : Int) == 0) = true → xpG1 k x a out ((32 : Int)) (IntKind.i64.wrap ((IntKind.u64.wrap (IntKind.i64.wrap (k.h.tdiv 4))).tmod 12)) ([])) ∧
 (((↑rows.length : Int) == 0) = false → xpG1 k x a out ((32 : Int)) (IntKind.i64.wrap ((IntKind.u64.wrap (IntKind.i64.wrap (k.h.tdiv 4))).tmod 12)) (progL (at5 rows (0 : Int)))))) ∧ (decide ((0 : Int) < (↑rows.length :
 Int)) = false → (((↑rows.length : Int) == 0) = true → xpG1 k x a out ((32 : Int)) (IntKind.i64.wrap ((IntKind.u64.wrap (IntKind.i64.wrap (k.h.tdiv 4))).tmod 12)) ([])) ∧ (((↑rows.length : Int) == 0) = false → xpG0 k x a
 out ((32 : Int)) (IntKind.i64.wrap ((IntKind.u64.wrap (IntKind.i64.wrap (k.h.tdiv 4))).tmod 12))))) ∧ (decide (IntKind.i64.wrap ((IntKind.u64.wrap k.e).tmod 5) > 0) = false → (decide ((0 : Int) < (↑rows.length : Int)) =
 true → ((0 : Int) ≤ 0 ∧ (0 : Int) < (↑rows.length : Int)) ∧ lenOk (at5 rows (0 : Int)) ∧ (decide ((1 : Int) < (↑rows.length : Int)) = true → ((0 : Int) ≤ 1 ∧ (1 : Int) < (↑rows.length : Int)) ∧ lenOk (at5 rows (1 : Int))
 ∧ (decide ((2 : Int) < (↑rows.length : Int)) = true → ((0 : Int) ≤ 2 ∧ (2 : Int) < (↑rows.length : Int)) ∧ lenOk (at5 rows (2 : Int)) ∧ (decide ((3 : Int) < (↑rows.length : Int)) = true → (((↑rows.length : Int) == 0) =
 true → xpG1 k x a out (IntKind.i64.wrap ((1 : Int) + IntKind.i64.wrap ((IntKind.u64.wrap k.e).tmod 12))) (IntKind.i64.wrap ((IntKind.u64.wrap (IntKind.i64.wrap (k.h.tdiv 4))).tmod 12)) ([])) ∧ (((↑rows.length : Int) ==
 0) = false → xpG3 k x a out (IntKind.i64.wrap ((1 : Int) + IntKind.i64.wrap ((IntKind.u64.wrap k.e).tmod 12))) (IntKind.i64.wrap ((IntKind.u64.wrap (IntKind.i64.wrap (k.h.tdiv 4))).tmod 12)) (progL (at5 rows (0 : Int)))
 (progL (at5 rows (1 : Int))) (progL (at5 rows (2 : Int))))) ∧ (decide ((3 : Int) < (↑rows.length : Int)) = false → (((↑rows.length : Int) == 0) = true → xpG1 k x a out (IntKind.i64.wrap ((1 : Int) + IntKind.i64.wrap
 ((IntKind.u64.wrap k.e).tmod 12))) (IntKind.i64.wrap ((IntKind.u64.wrap (IntKind.i64.wrap (k.h.tdiv 4))).tmod 12)) ([])) ∧ (((↑rows.length : Int) == 0) = false → xpG3 k x a out (IntKind.i64.wrap ((1 : Int) +
 IntKind.i64.wrap ((IntKind.u64.wrap k.e).tmod 12))) (IntKind.i64.wrap ((IntKind.u64.wrap (IntKind.i64.wrap (k.h.tdiv 4))).tmod 12)) (progL (at5 rows (0 : Int))) (progL (at5 rows (1 : Int))) (progL (at5 rows (2 :
 Int)))))) ∧ (decide ((2 : Int) < (↑rows.length : Int)) = false → (((↑rows.length : Int) == 0) = true → xpG1 k x a out (IntKind.i64.wrap ((1 : Int) + IntKind.i64.wrap ((IntKind.u64.wrap k.e).tmod 12))) (IntKind.i64.wrap
 ((IntKind.u64.wrap (IntKind.i64.wrap (k.h.tdiv 4))).tmod 12)) ([])) ∧ (((↑rows.length : Int) == 0) = false → xpG2 k x a out (IntKind.i64.wrap ((1 : Int) + IntKind.i64.wrap ((IntKind.u64.wrap k.e).tmod 12)))
 (IntKind.i64.wrap ((IntKind.u64.wrap (IntKind.i64.wrap (k.h.tdiv 4))).tmod 12)) (progL (at5 rows (0 : Int))) (progL (at5 rows (1 : Int)))))) ∧ (decide ((1 : Int) < (↑rows.length : Int)) = false → (((↑rows.length : Int)
 == 0) = true → xpG1 k x a out (IntKind.i64.wrap ((1 : Int) + IntKind.i64.wrap ((IntKind.u64.wrap k.e).tmod 12))) (IntKind.i64.wrap ((IntKind.u64.wrap (IntKind.i64.wrap (k.h.tdiv 4))).tmod 12)) ([])) ∧ (((↑rows.length :
 Int) == 0) = false → xpG1 k x a out (IntKind.i64.wrap ((1 : Int) + IntKind.i64.wrap ((IntKind.u64.wrap k.e).tmod 12))) (IntKind.i64.wrap ((IntKind.u64.wrap (IntKind.i64.wrap (k.h.tdiv 4))).tmod 12)) (progL (at5 rows (0 :
 Int)))))) ∧ (decide ((0 : Int) < (↑rows.length : Int)) = false → (((↑rows.length : Int) == 0) = true → xpG1 k x a out (IntKind.i64.wrap ((1 : Int) + IntKind.i64.wrap ((IntKind.u64.wrap k.e).tmod 12))) (IntKind.i64.wrap
 ((IntKind.u64.wrap (IntKind.i64.wrap (k.h.tdiv 4))).tmod 12)) ([])) ∧ (((↑rows.length : Int) == 0) = false → xpG0 k x a out (IntKind.i64.wrap ((1 : Int) + IntKind.i64.wrap ((IntKind.u64.wrap k.e).tmod 12)))
 (IntKind.i64.wrap ((IntKind.u64.wrap (IntKind.i64.wrap (k.h.tdiv 4))).tmod 12)))))) ∧ ((IntKind.i64.wrap ((IntKind.u64.wrap k.h).tmod 4) == 1) = false → (decide (IntKind.i64.wrap ((IntKind.u64.wrap k.e).tmod 5) > 0) =
 true → (decide ((0 : Int) < (↑rows.length : Int)) = true → ((0 : Int) ≤ 0 ∧ (0 : Int) < (↑rows.length : Int)) ∧ lenOk (at5 rows (0 : Int)) ∧ (decide ((1 : Int) < (↑rows.length : Int)) = true → ((0 : Int) ≤ 1 ∧ (1 : Int)
 < (↑rows.length : Int)) ∧ lenOk (at5 rows (1 : Int)) ∧ (decide ((2 : Int) < (↑rows.length : Int)) = true → ((0 : Int) ≤ 2 ∧ (2 : Int) < (↑rows.length : Int)) ∧ lenOk (at5 rows (2 : Int)) ∧ (decide ((3 : Int) <
 (↑rows.length : Int)) = true → (((↑rows.length : Int) == 0) = true → xpG1 k x a out ((32 : Int)) ((1073741824 : Int)) ([])) ∧ (((↑rows.length : Int) == 0) = false → xpG3 k x a out ((32 : Int)) ((1073741824 : Int)) (progL
 (at5 rows (0 : Int))) (progL (at5 rows (1 : Int))) (progL (at5 rows (2 : Int))))) ∧ (decide ((3 : Int) < (↑rows.length : Int)) = false → (((↑rows.length : Int) == 0) = true → xpG1 k x a out ((32 : Int)) ((1073741824 :
 Int)) ([])) ∧ (((↑rows.length : Int) == 0) = false → xpG3 k x a out ((32 : Int)) ((1073741824 : Int)) (progL (at5 rows (0 : Int))) (progL (at5 rows (1 : Int))) (progL (at5 rows (2 : Int)))))) ∧ (decide ((2 : Int) <
 (↑rows.length : Int)) = false → (((↑rows.length : Int) == 0) = true → xpG1 k x a out ((32 : Int)) ((1073741824 : Int)) ([])) ∧ (((↑rows.length : Int) == 0) = false → xpG2 k x a out ((32 : Int)) ((1073741824 : Int))
 (progL (at5 rows (0 : Int))) (progL (at5 rows (1 : Int)))))) ∧ (decide ((1 : Int) < (↑rows.length : Int)) = false → (((↑rows.length : Int) == 0) = true → xpG1 k x a out ((32 : Int)) ((1073741824 : Int)) ([])) ∧
 (((↑rows.length : Int) == 0) = false → xpG1 k x a out ((32 : Int)) ((1073741824 : Int)) (progL (at5 rows (0 : Int)))))) ∧ (decide ((0 : Int) < (↑rows.length : Int)) = false → (((↑rows.length : Int) == 0) = true → xpG1 k
 x a out ((32 : Int)) ((1073741824 : Int)) ([])) ∧ (((↑rows.length : Int) == 0) = false → xpG0 k x a out ((32 : Int)) ((1073741824 : Int))))) ∧ (decide (IntKind.i64.wrap ((IntKind.u64.wrap k.e).tmod 5) > 0) = false →
 (decide ((0 : Int) < (↑rows.length : Int)) = true → ((0 : Int) ≤ 0 ∧ (0 : Int) < (↑rows.length : Int)) ∧ lenOk (at5 rows (0 : Int)) ∧ (decide ((1 : Int) < (↑rows.length : Int)) = true → ((0 : Int) ≤ 1 ∧ (1 : Int) <
 (↑rows.length : Int)) ∧ lenOk (at5 rows (1 : Int)) ∧ (decide ((2 : Int) < (↑rows.length : Int)) = true → ((0 : Int) ≤ 2 ∧ (2 : Int) < (↑rows.length : Int)) ∧ lenOk (at5 rows (2 : Int)) ∧ (decide ((3 : Int) <
 (↑rows.length : Int)) = true → (((↑rows.length : Int) == 0) = true → xpG1 k x a out (IntKind.i64.wrap ((1 : Int) + IntKind.i64.wrap ((IntKind.u64.wrap k.e).tmod 12))) ((1073741824 : Int)) ([])) ∧ (((↑rows.length : Int)
 == 0) = false → xpG3 k x a out (IntKind.i64.wrap ((1 : Int) + IntKind.i64.wrap ((IntKind.u64.wrap k.e).tmod 12))) ((1073741824 : Int)) (progL (at5 rows (0 : Int))) (progL (at5 rows (1 : Int))) (progL (at5 rows (2 :
 Int))))) ∧ (decide ((3 : Int) < (↑rows.length : Int)) = false → (((↑rows.length : Int) == 0) = true → xpG1 k x a out (IntKind.i64.wrap ((1 : Int) + IntKind.i64.wrap ((IntKind.u64.wrap k.e).tmod 12))) ((1073741824 : Int))
 ([])) ∧ (((↑rows.length : Int) == 0) = false → xpG3 k x a out (IntKind.i64.wrap ((1 : Int) + IntKind.i64.wrap ((IntKind.u64.wrap k.e).tmod 12))) ((1073741824 : Int)) (progL (at5 rows (0 : Int))) (progL (at5 rows (1 :
 Int))) (progL (at5 rows (2 : Int)))))) ∧ (decide ((2 : Int) < (↑rows.length : Int)) = false → (((↑rows.length : Int) == 0) = true → xpG1 k x a out (IntKind.i64.wrap ((1 : Int) + IntKind.i64.wrap ((IntKind.u64.wrap
 k.e).tmod 12))) ((1073741824 : Int)) ([])) ∧ (((↑rows.length : Int) == 0) = false → xpG2 k x a out (IntKind.i64.wrap ((1 : Int) + IntKind.i64.wrap ((IntKind.u64.wrap k.e).tmod 12))) ((1073741824 : Int)) (progL (at5 rows
 (0 : Int))) (progL (at5 rows (1 : Int)))))) ∧ (decide ((1 : Int) < (↑rows.length : Int)) = false → (((↑rows.length : Int) == 0) = true → xpG1 k x a out (IntKind.i64.wrap ((1 : Int) + IntKind.i64.wrap ((IntKind.u64.wrap
 k.e).tmod 12))) ((1073741824 : Int)) ([])) ∧ (((↑rows.length : Int) == 0) = false → xpG1 k x a out (IntKind.i64.wrap ((1 : Int) + IntKind.i64.wrap ((IntKind.u64.wrap k.e).tmod 12))) ((1073741824 : Int)) (progL (at5 rows
 (0 : Int)))))) ∧ (decide ((0 : Int) < (↑rows.length : Int)) = false → (((↑rows.length : Int) == 0) = true → xpG1 k x a out (IntKind.i64.wrap ((1 : Int) + IntKind.i64.wrap ((IntKind.u64.wrap k.e).tmod 12))) ((1073741824 :
 Int)) ([])) ∧ (((↑rows.length : Int) == 0) = false → xpG0 k x a out (IntKind.i64.wrap ((1 : Int) + IntKind.i64.wrap ((IntKind.u64.wrap k.e).tmod 12))) ((1073741824 : Int)))))))) := by kernel_rfl
theorem xp_41 (a : Int) (out : Bool) (x : Rw) (c : Config) (p q r : List Instr) : Go.Sy.Tree.holds (cutVC F (lookC q7) 600 Tryd.f7 b7 (xpF a out x) 4 (xp4 a out x 1) ⟨c, p, q, r⟩) = ( (akD small).pre (Config.mk c.engine
 c.clock c.stripes c.reads c.writes c.retry c.fuel c.most c.init c.locks c.conds [p], ()) ∧ (false = true → false = true ∧ True) ∧ (false = false → ∃ (b : Bool), (b = true → ∃ (s : XpS), xpC a out x c s (p = s.p ∧
 IntKind.i64.wrap ((IntKind.u64.wrap a).tmod (IntKind.u64.wrap (↑(xpL (1 : Nat) (XpS.mk c p q r)).length : Int))) = 0 ∧ xpI s ∧ (1 : Nat) < 2 ∧ True)) ∧ (b = false → ∃ (b : Bool), (b = true → ∃ (s : XpS), xpC a out x c s
 (Stuck "le: sl")) ∧ (b = false → ∃ (b : Bool), (b = true → ∃ (s : XpS), xpC a out x c s (Stuck "le: sl")) ∧ (b = false → ∃ (b : Bool), (b = true → ∃ (s : XpS), xpC a out x c s (Stuck "le: sl")) ∧ (b = false → ∃ (b :
 Bool), (b = true → ∃ (s : XpS), xpC a out x c s (Stuck "le: sl")) ∧ (b = false → ∃ (s : XpS), xpC a out x c s (Stuck "le: sl")))))))) := by kernel_rfl
theorem xp_42 (a : Int) (out : Bool) (x : Rw) (c : Config) (p q r : List Instr) : Go.Sy.Tree.holds (cutVC F (lookC q7) 600 Tryd.f7 b7 (xpF a out x) 4 (xp4 a out x 2) ⟨c, p, q, r⟩) = ( (akD small).pre (Config.mk c.engine
 c.clock c.stripes c.reads c.writes c.retry c.fuel c.most c.init c.locks c.conds [p, q], ()) ∧ (false = true → false = true ∧ True) ∧ (false = false → ∃ (b : Bool), (b = true → ∃ (s : XpS), xpC a out x c s (Stuck "le:
 sl")) ∧ (b = false → ∃ (b : Bool), (b = true → ∃ (s : XpS), xpC a out x c s (p = s.p ∧ q = s.q ∧ IntKind.i64.wrap ((IntKind.u64.wrap a).tmod (IntKind.u64.wrap (↑(xpL (2 : Nat) (XpS.mk c p q r)).length : Int))) = 0 ∧ xpI
 s ∧ (1 : Nat) < 2 ∧ True)) ∧ (b = false → ∃ (b : Bool), (b = true → ∃ (s : XpS), xpC a out x c s (p = s.p ∧ q = s.q ∧ IntKind.i64.wrap ((IntKind.u64.wrap a).tmod (IntKind.u64.wrap (↑(xpL (2 : Nat) (XpS.mk c p q
 r)).length : Int))) = 1 ∧ xpI s ∧ (1 : Nat) < 2 ∧ True)) ∧ (b = false → ∃ (b : Bool), (b = true → ∃ (s : XpS), xpC a out x c s (Stuck "le: sl")) ∧ (b = false → ∃ (b : Bool), (b = true → ∃ (s : XpS), xpC a out x c s
 (Stuck "le: sl")) ∧ (b = false → ∃ (s : XpS), xpC a out x c s (Stuck "le: sl")))))))) := by kernel_rfl
theorem xp_43 (a : Int) (out : Bool) (x : Rw) (c : Config) (p q r : List Instr) : Go.Sy.Tree.holds (cutVC F (lookC q7) 600 Tryd.f7 b7 (xpF a out x) 4 (xp4 a out x 3) ⟨c, p, q, r⟩) = ( (akD small).pre (Config.mk c.engine
 c.clock c.stripes c.reads c.writes c.retry c.fuel c.most c.init c.locks c.conds [p, q, r], ()) ∧ (false = true → false = true ∧ True) ∧ (false = false → ∃ (b : Bool), (b = true → ∃ (s : XpS), xpC a out x c s (Stuck "le:
 sl")) ∧ (b = false → ∃ (b : Bool), (b = true → ∃ (s : XpS), xpC a out x c s (Stuck "le: sl")) ∧ (b = false → ∃ (b : Bool), (b = true → ∃ (s : XpS), xpC a out x c s (Stuck "le: sl")) ∧ (b = false → ∃ (b : Bool), (b = true
 → ∃ (s : XpS), xpC a out x c s (p = s.p ∧ q = s.q ∧ r = s.r ∧ IntKind.i64.wrap ((IntKind.u64.wrap a).tmod (IntKind.u64.wrap (↑(xpL (3 : Nat) (XpS.mk c p q r)).length : Int))) = 0 ∧ xpI s ∧ (1 : Nat) < 2 ∧ True)) ∧ (b =
 false → ∃ (b : Bool), (b = true → ∃ (s : XpS), xpC a out x c s (p = s.p ∧ q = s.q ∧ r = s.r ∧ IntKind.i64.wrap ((IntKind.u64.wrap a).tmod (IntKind.u64.wrap (↑(xpL (3 : Nat) (XpS.mk c p q r)).length : Int))) = 1 ∧ xpI s ∧
 (1 : Nat) < 2 ∧ True)) ∧ (b = false → ∃ (s : XpS), xpC a out x c s (p = s.p ∧ q = s.q ∧ r = s.r ∧ IntKind.i64.wrap ((IntKind.u64.wrap a).tmod (IntKind.u64.wrap (↑(xpL (3 : Nat) (XpS.mk c p q r)).length : Int))) = 2 ∧ xpI
 s ∧ (1 : Nat) < 2 ∧ True)))))))) := by kernel_rfl
theorem xp_710 (a : Int) (out : Bool) (x : Rw) (c : Config) (p q r : List Instr) : Go.Sy.Tree.holds (cutVC F (lookC q7) 600 Tryd.f7 b7 (xpF a out x) 7 (xp7 a out x 1 0) ⟨c, p, q, r⟩) = (((0 : Int) ≤ 0 ∧ (0 : Int) < (↑(xpL
 (1 : Nat) (XpS.mk c p q r)).length : Int)) ∧ (([] : List Instr).length + p.length) * 40 ≤ 140737488355328 ∧ (decide ((↑([] ++ p).length : Int) > 0) = true → IntKind.u64.wrap (↑([] ++ p).length : Int) ≠ (0 : Int) ∧
 inD.pre (K4.mk x.k0 x.k1 x.k2 x.k3, x.n, x.raw, ()) ∧ inX a p ∧ inX a p ∧ (out = true → ((0 : Int) ≤ ixF a ([] ++ p) ∧ ixF a ([] ++ p) < (↑(([] ++ p).set (ixF a ([] ++ p)).toNat (insX x)).length : Int) ∧ (↑(([] ++ p).set
 (ixF a ([] ++ p)).toNat (insX x)).length : Int) ≤ 1000000000) ∧ ((0 : Int) ≤ 0 ∧ (0 : Int) < (↑(xpL (1 : Nat) (XpS.mk c p q r)).length : Int)) ∧ preX c ([List.take (ixF a ([] ++ p)).toNat (([] ++ p).set (ixF a ([] ++
 p)).toNat (insX x)) ++ List.drop ((ixF a ([] ++ p)).toNat + 1) (([] ++ p).set (ixF a ([] ++ p)).toNat (insX x))]) ∧ true = true ∧ True) ∧ (out = false → ((0 : Int) ≤ 0 ∧ (0 : Int) < (↑(xpL (1 : Nat) (XpS.mk c p q
 r)).length : Int)) ∧ preX c ([([] ++ p).set (ixF a ([] ++ p)).toNat (insX x)]) ∧ true = true ∧ True)) ∧ (decide ((↑([] ++ p).length : Int) > 0) = false → ((0 : Int) ≤ 0 ∧ (0 : Int) < (↑(xpL (1 : Nat) (XpS.mk c p q
 r)).length : Int)) ∧ preX c ([[] ++ p]) ∧ true = true ∧ True)) := by kernel_rfl
theorem xp_720 (a : Int) (out : Bool) (x : Rw) (c : Config) (p q r : List Instr) : Go.Sy.Tree.holds (cutVC F (lookC q7) 600 Tryd.f7 b7 (xpF a out x) 7 (xp7 a out x 2 0) ⟨c, p, q, r⟩) = (((0 : Int) ≤ 0 ∧ (0 : Int) < (↑(xpL
 (2 : Nat) (XpS.mk c p q r)).length : Int)) ∧ (false = true → (([] : List Instr).length + q.length) * 40 ≤ 140737488355328 ∧ (decide ((↑([] ++ q).length : Int) > 0) = true → IntKind.u64.wrap (↑([] ++ q).length : Int) ≠ (0
 : Int) ∧ inD.pre (K4.mk x.k0 x.k1 x.k2 x.k3, x.n, x.raw, ()) ∧ inX a q ∧ inX a q ∧ (out = true → ((0 : Int) ≤ ixF a ([] ++ q) ∧ ixF a ([] ++ q) < (↑(([] ++ q).set (ixF a ([] ++ q)).toNat (insX x)).length : Int) ∧ (↑(([]
 ++ q).set (ixF a ([] ++ q)).toNat (insX x)).length : Int) ≤ 1000000000) ∧ ((0 : Int) ≤ 0 ∧ (0 : Int) < (↑(xpL (2 : Nat) (XpS.mk c p q r)).length : Int)) ∧ (false = true → preX c ([p, List.take (ixF a ([] ++ q)).toNat
 (([] ++ q).set (ixF a ([] ++ q)).toNat (insX x)) ++ List.drop ((ixF a ([] ++ q)).toNat + 1) (([] ++ q).set (ixF a ([] ++ q)).toNat (insX x))]) ∧ true = true ∧ True) ∧ (false = false → preX c ([List.take (ixF a ([] ++
 q)).toNat (([] ++ q).set (ixF a ([] ++ q)).toNat (insX x)) ++ List.drop ((ixF a ([] ++ q)).toNat + 1) (([] ++ q).set (ixF a ([] ++ q)).toNat (insX x)), q]) ∧ true = true ∧ True)) ∧ (out = false → ((0 : Int) ≤ 0 ∧ (0 :
 Int) < (↑(xpL (2 : Nat) (XpS.mk c p q r)).length : Int)) ∧ (false = true → preX c ([p, ([] ++ q).set (ixF a ([] ++ q)).toNat (insX x)]) ∧ true = true ∧ True) ∧ (false = false → preX c ([([] ++ q).set (ixF a ([] ++
 q)).toNat (insX x), q]) ∧ true = true ∧ True))) ∧ (decide ((↑([] ++ q).length : Int) > 0) = false → ((0 : Int) ≤ 0 ∧ (0 : Int) < (↑(xpL (2 : Nat) (XpS.mk c p q r)).length : Int)) ∧ (false = true → preX c ([p, [] ++ q]) ∧
 true = true ∧ True) ∧ (false = false → preX c ([[] ++ q, q]) ∧ true = true ∧ True))) ∧ (false = false → (([] : List Instr).length + p.length) * 40 ≤ 140737488355328 ∧ (decide ((↑([] ++ p).length : Int) > 0) = true →
 IntKind.u64.wrap (↑([] ++ p).length : Int) ≠ (0 : Int) ∧ inD.pre (K4.mk x.k0 x.k1 x.k2 x.k3, x.n, x.raw, ()) ∧ inX a p ∧ inX a p ∧ (out = true → ((0 : Int) ≤ ixF a ([] ++ p) ∧ ixF a ([] ++ p) < (↑(([] ++ p).set (ixF a
 ([] ++ p)).toNat (insX x)).length : Int) ∧ (↑(([] ++ p).set (ixF a ([] ++ p)).toNat (insX x)).length : Int) ≤ 1000000000) ∧ ((0 : Int) ≤ 0 ∧ (0 : Int) < (↑(xpL (2 : Nat) (XpS.mk c p q r)).length : Int)) ∧ (false = true →
 preX c ([p, List.take (ixF a ([] ++ p)).toNat (([] ++ p).set (ixF a ([] ++ p)).toNat (insX x)) ++ List.drop ((ixF a ([] ++ p)).toNat + 1) (([] ++ p).set (ixF a ([] ++ p)).toNat (insX x))]) ∧ true = true ∧ True) ∧ (false
 = false → preX c ([List.take (ixF a ([] ++ p)).toNat (([] ++ p).set (ixF a ([] ++ p)).toNat (insX x)) ++ List.drop ((ixF a ([] ++ p)).toNat + 1) (([] ++ p).set (ixF a ([] ++ p)).toNat (insX x)), q]) ∧ true = true ∧
 True)) ∧ (out = false → ((0 : Int) ≤ 0 ∧ (0 : Int) < (↑(xpL (2 : Nat) (XpS.mk c p q r)).length : Int)) ∧ (false = true → preX c ([p, ([] ++ p).set (ixF a ([] ++ p)).toNat (insX x)]) ∧ true = true ∧ True) ∧ (false = false
 → preX c ([([] ++ p).set (ixF a ([] ++ p)).toNat (insX x), q]) ∧ true = true ∧ True))) ∧ (decide ((↑([] ++ p).length : Int) > 0) = false → ((0 : Int) ≤ 0 ∧ (0 : Int) < (↑(xpL (2 : Nat) (XpS.mk c p q r)).length : Int)) ∧
 (false = true → preX c ([p, [] ++ p]) ∧ true = true ∧ True) ∧ (false = false → preX c ([[] ++ p, q]) ∧ true = true ∧ True)))) := by kernel_rfl
theorem xp_721 (a : Int) (out : Bool) (x : Rw) (c : Config) (p q r : List Instr) : Go.Sy.Tree.holds (cutVC F (lookC q7) 600 Tryd.f7 b7 (xpF a out x) 7 (xp7 a out x 2 1) ⟨c, p, q, r⟩) = (((0 : Int) ≤ 1 ∧ (1 : Int) < (↑(xpL
 (2 : Nat) (XpS.mk c p q r)).length : Int)) ∧ (true = true → (([] : List Instr).length + q.length) * 40 ≤ 140737488355328 ∧ (decide ((↑([] ++ q).length : Int) > 0) = true → IntKind.u64.wrap (↑([] ++ q).length : Int) ≠ (0
 : Int) ∧ inD.pre (K4.mk x.k0 x.k1 x.k2 x.k3, x.n, x.raw, ()) ∧ inX a q ∧ inX a q ∧ (out = true → ((0 : Int) ≤ ixF a ([] ++ q) ∧ ixF a ([] ++ q) < (↑(([] ++ q).set (ixF a ([] ++ q)).toNat (insX x)).length : Int) ∧ (↑(([]
 ++ q).set (ixF a ([] ++ q)).toNat (insX x)).length : Int) ≤ 1000000000) ∧ ((0 : Int) ≤ 1 ∧ (1 : Int) < (↑(xpL (2 : Nat) (XpS.mk c p q r)).length : Int)) ∧ (true = true → preX c ([p, List.take (ixF a ([] ++ q)).toNat (([]
 ++ q).set (ixF a ([] ++ q)).toNat (insX x)) ++ List.drop ((ixF a ([] ++ q)).toNat + 1) (([] ++ q).set (ixF a ([] ++ q)).toNat (insX x))]) ∧ true = true ∧ True) ∧ (true = false → preX c ([List.take (ixF a ([] ++ q)).toNat
 (([] ++ q).set (ixF a ([] ++ q)).toNat (insX x)) ++ List.drop ((ixF a ([] ++ q)).toNat + 1) (([] ++ q).set (ixF a ([] ++ q)).toNat (insX x)), q]) ∧ true = true ∧ True)) ∧ (out = false → ((0 : Int) ≤ 1 ∧ (1 : Int) <
 (↑(xpL (2 : Nat) (XpS.mk c p q r)).length : Int)) ∧ (true = true → preX c ([p, ([] ++ q).set (ixF a ([] ++ q)).toNat (insX x)]) ∧ true = true ∧ True) ∧ (true = false → preX c ([([] ++ q).set (ixF a ([] ++ q)).toNat (insX
 x), q]) ∧ true = true ∧ True))) ∧ (decide ((↑([] ++ q).length : Int) > 0) = false → ((0 : Int) ≤ 1 ∧ (1 : Int) < (↑(xpL (2 : Nat) (XpS.mk c p q r)).length : Int)) ∧ (true = true → preX c ([p, [] ++ q]) ∧ true = true ∧
 True) ∧ (true = false → preX c ([[] ++ q, q]) ∧ true = true ∧ True))) ∧ (true = false → (([] : List Instr).length + p.length) * 40 ≤ 140737488355328 ∧ (decide ((↑([] ++ p).length : Int) > 0) = true → IntKind.u64.wrap
 (↑([] ++ p).length : Int) ≠ (0 : Int) ∧ inD.pre (K4.mk x.k0 x.k1 x.k2 x.k3, x.n, x.raw, ()) ∧ inX a p ∧ inX a p ∧ (out = true → ((0 : Int) ≤ ixF a ([] ++ p) ∧ ixF a ([] ++ p) < (↑(([] ++ p).set (ixF a ([] ++ p)).toNat
 (insX x)).length : Int) ∧ (↑(([] ++ p).set (ixF a ([] ++ p)).toNat (insX x)).length : Int) ≤ 1000000000) ∧ ((0 : Int) ≤ 1 ∧ (1 : Int) < (↑(xpL (2 : Nat) (XpS.mk c p q r)).length : Int)) ∧ (true = true → preX c ([p,
 List.take (ixF a ([] ++ p)).toNat (([] ++ p).set (ixF a ([] ++ p)).toNat (insX x)) ++ List.drop ((ixF a ([] ++ p)).toNat + 1) (([] ++ p).set (ixF a ([] ++ p)).toNat (insX x))]) ∧ true = true ∧ True) ∧ (true = false →
 preX c ([List.take (ixF a ([] ++ p)).toNat (([] ++ p).set (ixF a ([] ++ p)).toNat (insX x)) ++ List.drop ((ixF a ([] ++ p)).toNat + 1) (([] ++ p).set (ixF a ([] ++ p)).toNat (insX x)), q]) ∧ true = true ∧ True)) ∧ (out =
 false → ((0 : Int) ≤ 1 ∧ (1 : Int) < (↑(xpL (2 : Nat) (XpS.mk c p q r)).length : Int)) ∧ (true = true → preX c ([p, ([] ++ p).set (ixF a ([] ++ p)).toNat (insX x)]) ∧ true = true ∧ True) ∧ (true = false → preX c ([([] ++
 p).set (ixF a ([] ++ p)).toNat (insX x), q]) ∧ true = true ∧ True))) ∧ (decide ((↑([] ++ p).length : Int) > 0) = false → ((0 : Int) ≤ 1 ∧ (1 : Int) < (↑(xpL (2 : Nat) (XpS.mk c p q r)).length : Int)) ∧ (true = true →
 preX c ([p, [] ++ p]) ∧ true = true ∧ True) ∧ (true = false → preX c ([[] ++ p, q]) ∧ true = true ∧ True)))) := by kernel_rfl
theorem xp_730 (a : Int) (out : Bool) (x : Rw) (c : Config) (p q r : List Instr) : Go.Sy.Tree.holds (cutVC F (lookC q7) 600 Tryd.f7 b7 (xpF a out x) 7 (xp7 a out x 3 0) ⟨c, p, q, r⟩) = (((0 : Int) ≤ 0 ∧ (0 : Int) < (↑(xpL
 (3 : Nat) (XpS.mk c p q r)).length : Int)) ∧ (false = true → (([] : List Instr).length + r.length) * 40 ≤ 140737488355328 ∧ (decide ((↑([] ++ r).length : Int) > 0) = true → IntKind.u64.wrap (↑([] ++ r).length : Int) ≠ (0
 : Int) ∧ inD.pre (K4.mk x.k0 x.k1 x.k2 x.k3, x.n, x.raw, ()) ∧ inX a r ∧ inX a r ∧ (out = true → ((0 : Int) ≤ ixF a ([] ++ r) ∧ ixF a ([] ++ r) < (↑(([] ++ r).set (ixF a ([] ++ r)).toNat (insX x)).length : Int) ∧ (↑(([]
 ++ r).set (ixF a ([] ++ r)).toNat (insX x)).length : Int) ≤ 1000000000) ∧ ((0 : Int) ≤ 0 ∧ (0 : Int) < (↑(xpL (3 : Nat) (XpS.mk c p q r)).length : Int)) ∧ (false = true → preX c ([p, q, List.take (ixF a ([] ++ r)).toNat
 (([] ++ r).set (ixF a ([] ++ r)).toNat (insX x)) ++ List.drop ((ixF a ([] ++ r)).toNat + 1) (([] ++ r).set (ixF a ([] ++ r)).toNat (insX x))]) ∧ true = true ∧ True) ∧ (false = false → (false = true → preX c ([p,
 List.take (ixF a ([] ++ r)).toNat (([] ++ r).set (ixF a ([] ++ r)).toNat (insX x)) ++ List.drop ((ixF a ([] ++ r)).toNat + 1) (([] ++ r).set (ixF a ([] ++ r)).toNat (insX x)), r]) ∧ true = true ∧ True) ∧ (false = false →
 preX c ([List.take (ixF a ([] ++ r)).toNat (([] ++ r).set (ixF a ([] ++ r)).toNat (insX x)) ++ List.drop ((ixF a ([] ++ r)).toNat + 1) (([] ++ r).set (ixF a ([] ++ r)).toNat (insX x)), q, r]) ∧ true = true ∧ True))) ∧
 (out = false → ((0 : Int) ≤ 0 ∧ (0 : Int) < (↑(xpL (3 : Nat) (XpS.mk c p q r)).length : Int)) ∧ (false = true → preX c ([p, q, ([] ++ r).set (ixF a ([] ++ r)).toNat (insX x)]) ∧ true = true ∧ True) ∧ (false = false →
 (false = true → preX c ([p, ([] ++ r).set (ixF a ([] ++ r)).toNat (insX x), r]) ∧ true = true ∧ True) ∧ (false = false → preX c ([([] ++ r).set (ixF a ([] ++ r)).toNat (insX x), q, r]) ∧ true = true ∧ True)))) ∧ (decide
 ((↑([] ++ r).length : Int) > 0) = false → ((0 : Int) ≤ 0 ∧ (0 : Int) < (↑(xpL (3 : Nat) (XpS.mk c p q r)).length : Int)) ∧ (false = true → preX c ([p, q, [] ++ r]) ∧ true = true ∧ True) ∧ (false = false → (false = true →
 preX c ([p, [] ++ r, r]) ∧ true = true ∧ True) ∧ (false = false → preX c ([[] ++ r, q, r]) ∧ true = true ∧ True)))) ∧ (false = false → (false = true → (([] : List Instr).length + q.length) * 40 ≤ 140737488355328 ∧
 (decide ((↑([] ++ q).length : Int) > 0) = true → IntKind.u64.wrap (↑([] ++ q).length : Int) ≠ (0 : Int) ∧ inD.pre (K4.mk x.k0 x.k1 x.k2 x.k3, x.n, x.raw, ()) ∧ inX a q ∧ inX a q ∧ (out = true → ((0 : Int) ≤ ixF a ([] ++
 q) ∧ ixF a ([] ++ q) < (↑(([] ++ q).set (ixF a ([] ++ q)).toNat (insX x)).length : Int) ∧ (↑(([] ++ q).set (ixF a ([] ++ q)).toNat (insX x)).length : Int) ≤ 1000000000) ∧ ((0 : Int) ≤ 0 ∧ (0 : Int) < (↑(xpL (3 : Nat)
 (XpS.mk c p q r)).length : Int)) ∧ (false = true → preX c ([p, q, List.take (ixF a ([] ++ q)).toNat (([] ++ q).set (ixF a ([] ++ q)).toNat (insX x)) ++ List.drop ((ixF a ([] ++ q)).toNat + 1) (([] ++ q).set (ixF a ([] ++
 q)).toNat (insX x))]) ∧ true = true ∧ True) ∧ (false = false → (false = true → preX c ([p, List.take (ixF a ([] ++ q)).toNat (([] ++ q).set (ixF a ([] ++ q)).toNat (insX x)) ++ List.drop ((ixF a ([] ++ q)).toNat + 1)
 (([] ++ q).set (ixF a ([] ++ q)).toNat (insX x)), r]) ∧ true = true ∧ True) ∧ (false = false → preX c ([List.take (ixF a ([] ++ q)).toNat (([] ++ q).set (ixF a ([] ++ q)).toNat (insX x)) ++ List.drop ((ixF a ([] ++
 q)).toNat + 1) (([] ++ q).set (ixF a ([] ++ q)).toNat (insX x)), q, r]) ∧ true = true ∧ True))) ∧ (out = false → ((0 : Int) ≤ 0 ∧ (0 : Int) < (↑(xpL (3 : Nat) (XpS.mk c p q r)).length : Int)) ∧ (false = true → preX c
 ([p, q, ([] ++ q).set (ixF a ([] ++ q)).toNat (insX x)]) ∧ true = true ∧ True) ∧ (false = false → (false = true → preX c ([p, ([] ++ q).set (ixF a ([] ++ q)).toNat (insX x), r]) ∧ true = true ∧ True) ∧ (false = false →
 preX c ([([] ++ q).set (ixF a ([] ++ q)).toNat (insX x), q, r]) ∧ true = true ∧ True)))) ∧ (decide ((↑([] ++ q).length : Int) > 0) = false → ((0 : Int) ≤ 0 ∧ (0 : Int) < (↑(xpL (3 : Nat) (XpS.mk c p q r)).length : Int))
 ∧ (false = true → preX c ([p, q, [] ++ q]) ∧ true = true ∧ True) ∧ (false = false → (false = true → preX c ([p, [] ++ q, r]) ∧ true = true ∧ True) ∧ (false = false → preX c ([[] ++ q, q, r]) ∧ true = true ∧ True)))) ∧
 (false = false → (([] : List Instr).length + p.length) * 40 ≤ 140737488355328 ∧ (decide ((↑([] ++ p).length : Int) > 0) = true → IntKind.u64.wrap (↑([] ++ p).length : Int) ≠ (0 : Int) ∧ inD.pre (K4.mk x.k0 x.k1 x.k2
 x.k3, x.n, x.raw, ()) ∧ inX a p ∧ inX a p ∧ (out = true → ((0 : Int) ≤ ixF a ([] ++ p) ∧ ixF a ([] ++ p) < (↑(([] ++ p).set (ixF a ([] ++ p)).toNat (insX x)).length : Int) ∧ (↑(([] ++ p).set (ixF a ([] ++ p)).toNat (insX
 x)).length : Int) ≤ 1000000000) ∧ ((0 : Int) ≤ 0 ∧ (0 : Int) < (↑(xpL (3 : Nat) (XpS.mk c p q r)).length : Int)) ∧ (false = true → preX c ([p, q, List.take (ixF a ([] ++ p)).toNat (([] ++ p).set (ixF a ([] ++ p)).toNat
 (insX x)) ++ List.drop ((ixF a ([] ++ p)).toNat + 1) (([] ++ p).set (ixF a ([] ++ p)).toNat (insX x))]) ∧ true = true ∧ True) ∧ (false = false → (false = true → preX c ([p, List.take (ixF a ([] ++ p)).toNat (([] ++
 p).set (ixF a ([] ++ p)).toNat (insX x)) ++ List.drop ((ixF a ([] ++ p)).toNat + 1) (([] ++ p).set (ixF a ([] ++ p)).toNat (insX x)), r]) ∧ true = true ∧ True) ∧ (false = false → preX c ([List.take (ixF a ([] ++
 p)).toNat (([] ++ p).set (ixF a ([] ++ p)).toNat (insX x)) ++ List.drop ((ixF a ([] ++ p)).toNat + 1) (([] ++ p).set (ixF a ([] ++ p)).toNat (insX x)), q, r]) ∧ true = true ∧ True))) ∧ (out = false → ((0 : Int) ≤ 0 ∧ (0
 : Int) < (↑(xpL (3 : Nat) (XpS.mk c p q r)).length : Int)) ∧ (false = true → preX c ([p, q, ([] ++ p).set (ixF a ([] ++ p)).toNat (insX x)]) ∧ true = true ∧ True) ∧ (false = false → (false = true → preX c ([p, ([] ++
 p).set (ixF a ([] ++ p)).toNat (insX x), r]) ∧ true = true ∧ True) ∧ (false = false → preX c ([([] ++ p).set (ixF a ([] ++ p)).toNat (insX x), q, r]) ∧ true = true ∧ True)))) ∧ (decide ((↑([] ++ p).length : Int) > 0) =
 false → ((0 : Int) ≤ 0 ∧ (0 : Int) < (↑(xpL (3 : Nat) (XpS.mk c p q r)).length : Int)) ∧ (false = true → preX c ([p, q, [] ++ p]) ∧ true = true ∧ True) ∧ (false = false → (false = true → preX c ([p, [] ++ p, r]) ∧ true =
 true ∧ True) ∧ (false = false → preX c ([[] ++ p, q, r]) ∧ true = true ∧ True)))))) := by kernel_rfl
theorem xp_731 (a : Int) (out : Bool) (x : Rw) (c : Config) (p q r : List Instr) : Go.Sy.Tree.holds (cutVC F (lookC q7) 600 Tryd.f7 b7 (xpF a out x) 7 (xp7 a out x 3 1) ⟨c, p, q, r⟩) = (((0 : Int) ≤ 1 ∧ (1 : Int) < (↑(xpL
 (3 : Nat) (XpS.mk c p q r)).length : Int)) ∧ (false = true → (([] : List Instr).length + r.length) * 40 ≤ 140737488355328 ∧ (decide ((↑([] ++ r).length : Int) > 0) = true → IntKind.u64.wrap (↑([] ++ r).length : Int) ≠ (0
 : Int) ∧ inD.pre (K4.mk x.k0 x.k1 x.k2 x.k3, x.n, x.raw, ()) ∧ inX a r ∧ inX a r ∧ (out = true → ((0 : Int) ≤ ixF a ([] ++ r) ∧ ixF a ([] ++ r) < (↑(([] ++ r).set (ixF a ([] ++ r)).toNat (insX x)).length : Int) ∧ (↑(([]
 ++ r).set (ixF a ([] ++ r)).toNat (insX x)).length : Int) ≤ 1000000000) ∧ ((0 : Int) ≤ 1 ∧ (1 : Int) < (↑(xpL (3 : Nat) (XpS.mk c p q r)).length : Int)) ∧ (false = true → preX c ([p, q, List.take (ixF a ([] ++ r)).toNat
 (([] ++ r).set (ixF a ([] ++ r)).toNat (insX x)) ++ List.drop ((ixF a ([] ++ r)).toNat + 1) (([] ++ r).set (ixF a ([] ++ r)).toNat (insX x))]) ∧ true = true ∧ True) ∧ (false = false → (true = true → preX c ([p, List.take
 (ixF a ([] ++ r)).toNat (([] ++ r).set (ixF a ([] ++ r)).toNat (insX x)) ++ List.drop ((ixF a ([] ++ r)).toNat + 1) (([] ++ r).set (ixF a ([] ++ r)).toNat (insX x)), r]) ∧ true = true ∧ True) ∧ (true = false → preX c
 ([List.take (ixF a ([] ++ r)).toNat (([] ++ r).set (ixF a ([] ++ r)).toNat (insX x)) ++ List.drop ((ixF a ([] ++ r)).toNat + 1) (([] ++ r).set (ixF a ([] ++ r)).toNat (insX x)), q, r]) ∧ true = true ∧ True))) ∧ (out =
 false → ((0 : Int) ≤ 1 ∧ (1 : Int) < (↑(xpL (3 : Nat) (XpS.mk c p q r)).length : Int)) ∧ (false = true → preX c ([p, q, ([] ++ r).set (ixF a ([] ++ r)).toNat (insX x)]) ∧ true = true ∧ True) ∧ (false = false → (true =
 true → preX c ([p, ([] ++ r).set (ixF a ([] ++ r)).toNat (insX x), r]) ∧ true = true ∧ True) ∧ (true = false → preX c ([([] ++ r).set (ixF a ([] ++ r)).toNat (insX x), q, r]) ∧ true = true ∧ True)))) ∧ (decide ((↑([] ++
 r).length : Int) > 0) = false → ((0 : Int) ≤ 1 ∧ (1 : Int) < (↑(xpL (3 : Nat) (XpS.mk c p q r)).length : Int)) ∧ (false = true → preX c ([p, q, [] ++ r]) ∧ true = true ∧ True) ∧ (false = false → (true = true → preX c
 ([p, [] ++ r, r]) ∧ true = true ∧ True) ∧ (true = false → preX c ([[] ++ r, q, r]) ∧ true = true ∧ True)))) ∧ (false = false → (true = true → (([] : List Instr).length + q.length) * 40 ≤ 140737488355328 ∧ (decide ((↑([]
 ++ q).length : Int) > 0) = true → IntKind.u64.wrap (↑([] ++ q).length : Int) ≠ (0 : Int) ∧ inD.pre (K4.mk x.k0 x.k1 x.k2 x.k3, x.n, x.raw, ()) ∧ inX a q ∧ inX a q ∧ (out = true → ((0 : Int) ≤ ixF a ([] ++ q) ∧ ixF a ([]
 ++ q) < (↑(([] ++ q).set (ixF a ([] ++ q)).toNat (insX x)).length : Int) ∧ (↑(([] ++ q).set (ixF a ([] ++ q)).toNat (insX x)).length : Int) ≤ 1000000000) ∧ ((0 : Int) ≤ 1 ∧ (1 : Int) < (↑(xpL (3 : Nat) (XpS.mk c p q
 r)).length : Int)) ∧ (false = true → preX c ([p, q, List.take (ixF a ([] ++ q)).toNat (([] ++ q).set (ixF a ([] ++ q)).toNat (insX x)) ++ List.drop ((ixF a ([] ++ q)).toNat + 1) (([] ++ q).set (ixF a ([] ++ q)).toNat
 (insX x))]) ∧ true = true ∧ True) ∧ (false = false → (true = true → preX c ([p, List.take (ixF a ([] ++ q)).toNat (([] ++ q).set (ixF a ([] ++ q)).toNat (insX x)) ++ List.drop ((ixF a ([] ++ q)).toNat + 1) (([] ++ q).set
 (ixF a ([] ++ q)).toNat (insX x)), r]) ∧ true = true ∧ True) ∧ (true = false → preX c ([List.take (ixF a ([] ++ q)).toNat (([] ++ q).set (ixF a ([] ++ q)).toNat (insX x)) ++ List.drop ((ixF a ([] ++ q)).toNat + 1) (([]
 ++ q).set (ixF a ([] ++ q)).toNat (insX x)), q, r]) ∧ true = true ∧ True))) ∧ (out = false → ((0 : Int) ≤ 1 ∧ (1 : Int) < (↑(xpL (3 : Nat) (XpS.mk c p q r)).length : Int)) ∧ (false = true → preX c ([p, q, ([] ++ q).set
 (ixF a ([] ++ q)).toNat (insX x)]) ∧ true = true ∧ True) ∧ (false = false → (true = true → preX c ([p, ([] ++ q).set (ixF a ([] ++ q)).toNat (insX x), r]) ∧ true = true ∧ True) ∧ (true = false → preX c ([([] ++ q).set
 (ixF a ([] ++ q)).toNat (insX x), q, r]) ∧ true = true ∧ True)))) ∧ (decide ((↑([] ++ q).length : Int) > 0) = false → ((0 : Int) ≤ 1 ∧ (1 : Int) < (↑(xpL (3 : Nat) (XpS.mk c p q r)).length : Int)) ∧ (false = true → preX
 c ([p, q, [] ++ q]) ∧ true = true ∧ True) ∧ (false = false → (true = true → preX c ([p, [] ++ q, r]) ∧ true = true ∧ True) ∧ (true = false → preX c ([[] ++ q, q, r]) ∧ true = true ∧ True)))) ∧ (true = false → (([] : List
 Instr).length + p.length) * 40 ≤ 140737488355328 ∧ (decide ((↑([] ++ p).length : Int) > 0) = true → IntKind.u64.wrap (↑([] ++ p).length : Int) ≠ (0 : Int) ∧ inD.pre (K4.mk x.k0 x.k1 x.k2 x.k3, x.n, x.raw, ()) ∧ inX a p ∧
 inX a p ∧ (out = true → ((0 : Int) ≤ ixF a ([] ++ p) ∧ ixF a ([] ++ p) < (↑(([] ++ p).set (ixF a ([] ++ p)).toNat (insX x)).length : Int) ∧ (↑(([] ++ p).set (ixF a ([] ++ p)).toNat (insX x)).length : Int) ≤ 1000000000) ∧
 ((0 : Int) ≤ 1 ∧ (1 : Int) < (↑(xpL (3 : Nat) (XpS.mk c p q r)).length : Int)) ∧ (false = true → preX c ([p, q, List.take (ixF a ([] ++ p)).toNat (([] ++ p).set (ixF a ([] ++ p)).toNat (insX x)) ++ List.drop ((ixF a ([]
 ++ p)).toNat + 1) (([] ++ p).set (ixF a ([] ++ p)).toNat (insX x))]) ∧ true = true ∧ True) ∧ (false = false → (true = true → preX c ([p, List.take (ixF a ([] ++ p)).toNat (([] ++ p).set (ixF a ([] ++ p)).toNat (insX x))
 ++ List.drop ((ixF a ([] ++ p)).toNat + 1) (([] ++ p).set (ixF a ([] ++ p)).toNat (insX x)), r]) ∧ true = true ∧ True) ∧ (true = false → preX c ([List.take (ixF a ([] ++ p)).toNat (([] ++ p).set (ixF a ([] ++ p)).toNat
 (insX x)) ++ List.drop ((ixF a ([] ++ p)).toNat + 1) (([] ++ p).set (ixF a ([] ++ p)).toNat (insX x)), q, r]) ∧ true = true ∧ True))) ∧ (out = false → ((0 : Int) ≤ 1 ∧ (1 : Int) < (↑(xpL (3 : Nat) (XpS.mk c p q
 r)).length : Int)) ∧ (false = true → preX c ([p, q, ([] ++ p).set (ixF a ([] ++ p)).toNat (insX x)]) ∧ true = true ∧ True) ∧ (false = false → (true = true → preX c ([p, ([] ++ p).set (ixF a ([] ++ p)).toNat (insX x), r])
 ∧ true = true ∧ True) ∧ (true = false → preX c ([([] ++ p).set (ixF a ([] ++ p)).toNat (insX x), q, r]) ∧ true = true ∧ True)))) ∧ (decide ((↑([] ++ p).length : Int) > 0) = false → ((0 : Int) ≤ 1 ∧ (1 : Int) < (↑(xpL (3
 : Nat) (XpS.mk c p q r)).length : Int)) ∧ (false = true → preX c ([p, q, [] ++ p]) ∧ true = true ∧ True) ∧ (false = false → (true = true → preX c ([p, [] ++ p, r]) ∧ true = true ∧ True) ∧ (true = false → preX c ([[] ++
 p, q, r]) ∧ true = true ∧ True)))))) := by kernel_rfl
theorem xp_732 (a : Int) (out : Bool) (x : Rw) (c : Config) (p q r : List Instr) : Go.Sy.Tree.holds (cutVC F (lookC q7) 600 Tryd.f7 b7 (xpF a out x) 7 (xp7 a out x 3 2) ⟨c, p, q, r⟩) = (((0 : Int) ≤ 2 ∧ (2 : Int) < (↑(xpL
 (3 : Nat) (XpS.mk c p q r)).length : Int)) ∧ (true = true → (([] : List Instr).length + r.length) * 40 ≤ 140737488355328 ∧ (decide ((↑([] ++ r).length : Int) > 0) = true → IntKind.u64.wrap (↑([] ++ r).length : Int) ≠ (0
 : Int) ∧ inD.pre (K4.mk x.k0 x.k1 x.k2 x.k3, x.n, x.raw, ()) ∧ inX a r ∧ inX a r ∧ (out = true → ((0 : Int) ≤ ixF a ([] ++ r) ∧ ixF a ([] ++ r) < (↑(([] ++ r).set (ixF a ([] ++ r)).toNat (insX x)).length : Int) ∧ (↑(([]
 ++ r).set (ixF a ([] ++ r)).toNat (insX x)).length : Int) ≤ 1000000000) ∧ ((0 : Int) ≤ 2 ∧ (2 : Int) < (↑(xpL (3 : Nat) (XpS.mk c p q r)).length : Int)) ∧ (true = true → preX c ([p, q, List.take (ixF a ([] ++ r)).toNat
 (([] ++ r).set (ixF a ([] ++ r)).toNat (insX x)) ++ List.drop ((ixF a ([] ++ r)).toNat + 1) (([] ++ r).set (ixF a ([] ++ r)).toNat (insX x))]) ∧ true = true ∧ True) ∧ (true = false → (false = true → preX c ([p, List.take
 (ixF a ([] ++ r)).toNat (([] ++ r).set (ixF a ([] ++ r)).toNat (insX x)) ++ List.drop ((ixF a ([] ++ r)).toNat + 1) (([] ++ r).set (ixF a ([] ++ r)).toNat (insX x)), r]) ∧ true = true ∧ True) ∧ (false = false → preX c
 ([List.take (ixF a ([] ++ r)).toNat (([] ++ r).set (ixF a ([] ++ r)).toNat (insX x)) ++ List.drop ((ixF a ([] ++ r)).toNat + 1) (([] ++ r).set (ixF a ([] ++ r)).toNat (insX x)), q, r]) ∧ true = true ∧ True))) ∧ (out =
 false → ((0 : Int) ≤ 2 ∧ (2 : Int) < (↑(xpL (3 : Nat) (XpS.mk c p q r)).length : Int)) ∧ (true = true → preX c ([p, q, ([] ++ r).set (ixF a ([] ++ r)).toNat (insX x)]) ∧ true = true ∧ True) ∧ (true = false → (false =
 true → preX c ([p, ([] ++ r).set (ixF a ([] ++ r)).toNat (insX x), r]) ∧ true = true ∧ True) ∧ (false = false → preX c ([([] ++ r).set (ixF a ([] ++ r)).toNat (insX x), q, r]) ∧ true = true ∧ True)))) ∧ (decide ((↑([] ++
 r).length : Int) > 0) = false → ((0 : Int) ≤ 2 ∧ (2 : Int) < (↑(xpL (3 : Nat) (XpS.mk c p q r)).length : Int)) ∧ (true = true → preX c ([p, q, [] ++ r]) ∧ true = true ∧ True) ∧ (true = false → (false = true → preX c ([p,
 [] ++ r, r]) ∧ true = true ∧ True) ∧ (false = false → preX c ([[] ++ r, q, r]) ∧ true = true ∧ True)))) ∧ (true = false → (false = true → (([] : List Instr).length + q.length) * 40 ≤ 140737488355328 ∧ (decide ((↑([] ++
 q).length : Int) > 0) = true → IntKind.u64.wrap (↑([] ++ q).length : Int) ≠ (0 : Int) ∧ inD.pre (K4.mk x.k0 x.k1 x.k2 x.k3, x.n, x.raw, ()) ∧ inX a q ∧ inX a q ∧ (out = true → ((0 : Int) ≤ ixF a ([] ++ q) ∧ ixF a ([] ++
 q) < (↑(([] ++ q).set (ixF a ([] ++ q)).toNat (insX x)).length : Int) ∧ (↑(([] ++ q).set (ixF a ([] ++ q)).toNat (insX x)).length : Int) ≤ 1000000000) ∧ ((0 : Int) ≤ 2 ∧ (2 : Int) < (↑(xpL (3 : Nat) (XpS.mk c p q
 r)).length : Int)) ∧ (true = true → preX c ([p, q, List.take (ixF a ([] ++ q)).toNat (([] ++ q).set (ixF a ([] ++ q)).toNat (insX x)) ++ List.drop ((ixF a ([] ++ q)).toNat + 1) (([] ++ q).set (ixF a ([] ++ q)).toNat
 (insX x))]) ∧ true = true ∧ True) ∧ (true = false → (false = true → preX c ([p, List.take (ixF a ([] ++ q)).toNat (([] ++ q).set (ixF a ([] ++ q)).toNat (insX x)) ++ List.drop ((ixF a ([] ++ q)).toNat + 1) (([] ++ q).set
 (ixF a ([] ++ q)).toNat (insX x)), r]) ∧ true = true ∧ True) ∧ (false = false → preX c ([List.take (ixF a ([] ++ q)).toNat (([] ++ q).set (ixF a ([] ++ q)).toNat (insX x)) ++ List.drop ((ixF a ([] ++ q)).toNat + 1) (([]
 ++ q).set (ixF a ([] ++ q)).toNat (insX x)), q, r]) ∧ true = true ∧ True))) ∧ (out = false → ((0 : Int) ≤ 2 ∧ (2 : Int) < (↑(xpL (3 : Nat) (XpS.mk c p q r)).length : Int)) ∧ (true = true → preX c ([p, q, ([] ++ q).set
 (ixF a ([] ++ q)).toNat (insX x)]) ∧ true = true ∧ True) ∧ (true = false → (false = true → preX c ([p, ([] ++ q).set (ixF a ([] ++ q)).toNat (insX x), r]) ∧ true = true ∧ True) ∧ (false = false → preX c ([([] ++ q).set
 (ixF a ([] ++ q)).toNat (insX x), q, r]) ∧ true = true ∧ True)))) ∧ (decide ((↑([] ++ q).length : Int) > 0) = false → ((0 : Int) ≤ 2 ∧ (2 : Int) < (↑(xpL (3 : Nat) (XpS.mk c p q r)).length : Int)) ∧ (true = true → preX c
 ([p, q, [] ++ q]) ∧ true = true ∧ True) ∧ (true = false → (false = true → preX c ([p, [] ++ q, r]) ∧ true = true ∧ True) ∧ (false = false → preX c ([[] ++ q, q, r]) ∧ true = true ∧ True)))) ∧ (false = false → (([] : List
 Instr).length + p.length) * 40 ≤ 140737488355328 ∧ (decide ((↑([] ++ p).length : Int) > 0) = true → IntKind.u64.wrap (↑([] ++ p).length : Int) ≠ (0 : Int) ∧ inD.pre (K4.mk x.k0 x.k1 x.k2 x.k3, x.n, x.raw, ()) ∧ inX a p ∧
 inX a p ∧ (out = true → ((0 : Int) ≤ ixF a ([] ++ p) ∧ ixF a ([] ++ p) < (↑(([] ++ p).set (ixF a ([] ++ p)).toNat (insX x)).length : Int) ∧ (↑(([] ++ p).set (ixF a ([] ++ p)).toNat (insX x)).length : Int) ≤ 1000000000) ∧
 ((0 : Int) ≤ 2 ∧ (2 : Int) < (↑(xpL (3 : Nat) (XpS.mk c p q r)).length : Int)) ∧ (true = true → preX c ([p, q, List.take (ixF a ([] ++ p)).toNat (([] ++ p).set (ixF a ([] ++ p)).toNat (insX x)) ++ List.drop ((ixF a ([]
 ++ p)).toNat + 1) (([] ++ p).set (ixF a ([] ++ p)).toNat (insX x))]) ∧ true = true ∧ True) ∧ (true = false → (false = true → preX c ([p, List.take (ixF a ([] ++ p)).toNat (([] ++ p).set (ixF a ([] ++ p)).toNat (insX x))
 ++ List.drop ((ixF a ([] ++ p)).toNat + 1) (([] ++ p).set (ixF a ([] ++ p)).toNat (insX x)), r]) ∧ true = true ∧ True) ∧ (false = false → preX c ([List.take (ixF a ([] ++ p)).toNat (([] ++ p).set (ixF a ([] ++ p)).toNat
 (insX x)) ++ List.drop ((ixF a ([] ++ p)).toNat + 1) (([] ++ p).set (ixF a ([] ++ p)).toNat (insX x)), q, r]) ∧ true = true ∧ True))) ∧ (out = false → ((0 : Int) ≤ 2 ∧ (2 : Int) < (↑(xpL (3 : Nat) (XpS.mk c p q
 r)).length : Int)) ∧ (true = true → preX c ([p, q, ([] ++ p).set (ixF a ([] ++ p)).toNat (insX x)]) ∧ true = true ∧ True) ∧ (true = false → (false = true → preX c ([p, ([] ++ p).set (ixF a ([] ++ p)).toNat (insX x), r])
 ∧ true = true ∧ True) ∧ (false = false → preX c ([([] ++ p).set (ixF a ([] ++ p)).toNat (insX x), q, r]) ∧ true = true ∧ True)))) ∧ (decide ((↑([] ++ p).length : Int) > 0) = false → ((0 : Int) ≤ 2 ∧ (2 : Int) < (↑(xpL (3
 : Nat) (XpS.mk c p q r)).length : Int)) ∧ (true = true → preX c ([p, q, [] ++ p]) ∧ true = true ∧ True) ∧ (true = false → (false = true → preX c ([p, [] ++ p, r]) ∧ true = true ∧ True) ∧ (false = false → preX c ([[] ++
 p, q, r]) ∧ true = true ∧ True)))))) := by kernel_rfl

theorem in_e_ok (k : K4) (n : Int) (raw : Bool) : Paid (entryX F (lookC []) 300 Tryd.f37 b37 ⟨[], .agg (enc2 (insF k n raw)), []⟩ [.agg (enc11 k), .i .i64 n, .b raw]) := by
  refine ⟨?_⟩
  rw [in_e]
  cases raw with
  | true => exact ⟨fun _ => ⟨rfl, rfl, rfl, rfl, rfl, trivial⟩, fun h => nomatch h⟩
  | false =>
    refine ⟨fun h => (nomatch h), fun _ => ?_⟩
    have five : ∀ {x y : Instr}, x = y → x.op = y.op ∧ x.a = y.a ∧ x.b = y.b ∧ x.c = y.c ∧ x.n = y.n ∧ True := fun h => by subst h; exact ⟨rfl, rfl, rfl, rfl, rfl, trivial⟩
    have e : insF k n false = (if IntKind.i64.wrap (1 + pk k.a 22) = 1 then ⟨IntKind.i64.wrap (1 + pk k.a 22), pk k.b 4, 0, 0, n⟩
      else if IntKind.i64.wrap (1 + pk k.a 22) ≤ 7 then ⟨IntKind.i64.wrap (1 + pk k.a 22), pk k.b 4, pk k.c 4, pk k.d 4, 0⟩
      else if IntKind.i64.wrap (1 + pk k.a 22) ≤ 9 then ⟨IntKind.i64.wrap (1 + pk k.a 22), pk k.b 4, pk k.c 4, 0, n⟩
      else if IntKind.i64.wrap (1 + pk k.a 22) ≤ 11 then ⟨IntKind.i64.wrap (1 + pk k.a 22), 0, pk k.c 4, 0, n⟩
      else if IntKind.i64.wrap (1 + pk k.a 22) = 13 then ⟨IntKind.i64.wrap (1 + pk k.a 22), pk k.b 4, (pk k.c 4).tmod 2, 0, 0⟩
      else if IntKind.i64.wrap (1 + pk k.a 22) = 14 ∨ IntKind.i64.wrap (1 + pk k.a 22) = 19 ∨ IntKind.i64.wrap (1 + pk k.a 22) = 20 ∨ IntKind.i64.wrap (1 + pk k.a 22) = 22 then ⟨IntKind.i64.wrap (1 + pk k.a 22), 0, 0, 0, 0⟩
      else ⟨IntKind.i64.wrap (1 + pk k.a 22), pk k.b 4, 0, 0, 0⟩) := by rw [insF, if_neg (by decide)]
    generalize insF k n false = z at e ⊢
    refine ⟨fun h1 => ?_, fun n1 => ⟨fun h2 => ?_, fun n2 => ⟨fun h3 => ?_, fun n3 => ⟨fun h4 => ?_, fun n4 => ⟨fun h5 => ?_, fun n5 => ?_⟩⟩⟩⟩⟩
    · rw [if_pos (show IntKind.i64.wrap (1 + pk k.a 22) = 1 from eq_of_beq h1)] at e
      rw [e]; exact ⟨rfl, rfl, rfl, rfl, rfl, trivial⟩
    all_goals rw [if_neg (show ¬ IntKind.i64.wrap (1 + pk k.a 22) = 1 from ne_of_beq_false n1)] at e
    · rw [if_pos (show IntKind.i64.wrap (1 + pk k.a 22) ≤ 7 from of_decide_eq_true h2)] at e
      rw [e]; exact ⟨rfl, rfl, rfl, rfl, rfl, trivial⟩
    all_goals rw [if_neg (show ¬ IntKind.i64.wrap (1 + pk k.a 22) ≤ 7 from of_decide_eq_false n2)] at e
    · rw [if_pos (show IntKind.i64.wrap (1 + pk k.a 22) ≤ 9 from of_decide_eq_true h3)] at e
      rw [e]; exact ⟨rfl, rfl, rfl, rfl, rfl, trivial⟩
    all_goals rw [if_neg (show ¬ IntKind.i64.wrap (1 + pk k.a 22) ≤ 9 from of_decide_eq_false n3)] at e
    · rw [if_pos (show IntKind.i64.wrap (1 + pk k.a 22) ≤ 11 from of_decide_eq_true h4)] at e
      rw [e]; exact ⟨rfl, rfl, rfl, rfl, rfl, trivial⟩
    all_goals rw [if_neg (show ¬ IntKind.i64.wrap (1 + pk k.a 22) ≤ 11 from of_decide_eq_false n4)] at e
    · rw [if_pos (show IntKind.i64.wrap (1 + pk k.a 22) = 13 from eq_of_beq h5)] at e
      rw [e]; exact ⟨rfl, rfl, rfl, rfl, rfl, trivial⟩
    rw [if_neg (show ¬ IntKind.i64.wrap (1 + pk k.a 22) = 13 from ne_of_beq_false n5)] at e
    have yes : IntKind.i64.wrap (1 + pk k.a 22) = 14 ∨ IntKind.i64.wrap (1 + pk k.a 22) = 19 ∨ IntKind.i64.wrap (1 + pk k.a 22) = 20 ∨ IntKind.i64.wrap (1 + pk k.a 22) = 22 → z = ⟨IntKind.i64.wrap (1 + pk k.a 22), 0, 0, 0, 0⟩ := fun h => by rw [if_pos h] at e; exact e
    have no : ¬ (IntKind.i64.wrap (1 + pk k.a 22) = 14 ∨ IntKind.i64.wrap (1 + pk k.a 22) = 19 ∨ IntKind.i64.wrap (1 + pk k.a 22) = 20 ∨ IntKind.i64.wrap (1 + pk k.a 22) = 22) → z = ⟨IntKind.i64.wrap (1 + pk k.a 22), pk k.b 4, 0, 0, 0⟩ := fun h => by rw [if_neg h] at e; exact e
    clear e
    have done : ∀ {y : Instr}, z = y → y.op = z.op ∧ y.a = z.a ∧ y.b = z.b ∧ y.c = z.c ∧ y.n = z.n ∧ True := fun h => by rw [h]; exact ⟨rfl, rfl, rfl, rfl, rfl, trivial⟩
    exact ⟨fun g => done (yes (.inl (eq_of_beq g))), fun g => ⟨fun g2 => done (yes (.inr (.inl (eq_of_beq g2)))), fun g2 => ⟨fun g3 => done (yes (.inr (.inr (.inl (eq_of_beq g3))))), fun g3 => ⟨fun g4 => done (yes (.inr (.inr (.inr (eq_of_beq g4))))), fun g4 => done (no (by rintro (h | h | h | h); exact ne_of_beq_false g h; exact ne_of_beq_false g2 h; exact ne_of_beq_false g3 h; exact ne_of_beq_false g4 h))⟩⟩⟩⟩
theorem inOk : CtrOk1 F.S 37 (mkCtr inD) :=
  mkCtr_paid (fn := Tryd.f37) (body := b37) (ctr := lookC []) codOk noExt hookLow noneOk Tryd.func37 rfl rfl rfl inD 300 (fun _ => []) (show 3 ≤ Tryd.f37.ntmps by decide) (show Tryd.f37.ntmps ≤ 512 by decide) (by kernel_rfl) (fun _ _ => ⟨rfl, rfl⟩)
    (fun (x : K4 × Int × Bool × Unit) hp => in_e_ok x.1 x.2.1 x.2.2.1) (fun x hp p hm => by cases hm)
theorem progL_len (l : List Int) : (progL l).length ≤ 48 := (progGo_good (k := default) (ps := []) l l.length 0 [⟨1, 1, 0, 0, 1⟩] ⟨by kernel_rfl, fun σ => by kernel_rfl, fun tp lp => by kernel_rfl⟩ (by decide)).2
theorem ix_is (y : Int) {n : Nat} (h0 : 0 < n) (h1 : n ≤ 48) : IntKind.u64.wrap (n : Int) ≠ 0 ∧ 0 ≤ IntKind.i64.wrap ((IntKind.u64.wrap y).tmod (IntKind.u64.wrap (n : Int))) ∧ IntKind.i64.wrap ((IntKind.u64.wrap y).tmod (IntKind.u64.wrap (n : Int))) < (n : Int) := by
  rw [u64_id (by omega) (by omega)]
  have := pk_is y n (by omega) (by omega)
  exact ⟨by omega, this⟩
theorem pk1 (x : Int) : pk x 1 = 0 := by
  have := pk_is x 1 (by decide) (by decide)
  omega
section
variable (a : Int) (out : Bool) (x : Rw) (c : Config) (p q r : List Instr)
theorem xp_pre (hI : xpI ⟨c, p, q, r⟩) : ∀ ps : List (List Instr), ps.length ≤ 1000 → (akD small).pre (Config.mk c.engine c.clock c.stripes c.reads c.writes c.retry c.fuel c.most c.init c.locks c.conds ps, ()) := fun ps h => ⟨⟨hI.1.1, hI.1.2.1, hI.1.2.2, h⟩, hI.1.1, hI.1.2.1, hI.1.2.2, h⟩
theorem xp_710_ok (hI : xpI ⟨c, p, q, r⟩) : Paid (cutVC F (lookC q7) 600 Tryd.f7 b7 (xpF a out x) 7 (xp7 a out x 1 0) ⟨c, p, q, r⟩) := by
  refine ⟨?_⟩
  rw [xp_710]
  simp only [true_implies, Bool.true_eq_false, Bool.false_eq_true, false_implies, and_true]
  have ht : (0 : Int) ≤ 0 ∧ (0 : Int) < ((xpL 1 (XpS.mk c p q r)).length : Int) := ⟨by decide, by show (0 : Int) < ((1 : Nat) : Int); decide⟩
  have hlp : p.length ≤ 48 := hI.2.1
  have szp : (([] : List Instr).length + p.length) * 40 ≤ 140737488355328 := by rw [List.length_nil]; omega
  have bgp : (p.length : Int) ≤ 1000000000 := by omega
  have keyp : decide (((p.length : Nat) : Int) > 0) = true → _ := fun h => ix_is (IntKind.i64.wrap (a.tdiv 3)) (n := p.length) (by have := of_decide_eq_true h; omega) hlp
  have pre := xp_pre c p q r hI
  repeat' (first
    | exact trivial
    | exact ht.1
    | exact ht.2
    | exact pre _ (Nat.le_of_ble_eq_true rfl)
    | exact szp
    | exact (keyp (by assumption)).1
    | exact (keyp (by assumption)).2.1
    | exact (keyp (by assumption)).2.2
    | (rw [List.length_set]; exact (keyp (by assumption)).2.2)
    | (rw [List.length_set]; exact bgp)
    | apply And.intro
    | intro _)
theorem xp_720_ok (hI : xpI ⟨c, p, q, r⟩) : Paid (cutVC F (lookC q7) 600 Tryd.f7 b7 (xpF a out x) 7 (xp7 a out x 2 0) ⟨c, p, q, r⟩) := by
  refine ⟨?_⟩
  rw [xp_720]
  simp only [true_implies, Bool.true_eq_false, Bool.false_eq_true, false_implies, and_true]
  have ht : (0 : Int) ≤ 0 ∧ (0 : Int) < ((xpL 2 (XpS.mk c p q r)).length : Int) := ⟨by decide, by show (0 : Int) < ((2 : Nat) : Int); decide⟩
  have hlp : p.length ≤ 48 := hI.2.1
  have szp : (([] : List Instr).length + p.length) * 40 ≤ 140737488355328 := by rw [List.length_nil]; omega
  have bgp : (p.length : Int) ≤ 1000000000 := by omega
  have keyp : decide (((p.length : Nat) : Int) > 0) = true → _ := fun h => ix_is (IntKind.i64.wrap (a.tdiv 3)) (n := p.length) (by have := of_decide_eq_true h; omega) hlp
  have hlq : q.length ≤ 48 := hI.2.2.1
  have szq : (([] : List Instr).length + q.length) * 40 ≤ 140737488355328 := by rw [List.length_nil]; omega
  have bgq : (q.length : Int) ≤ 1000000000 := by omega
  have keyq : decide (((q.length : Nat) : Int) > 0) = true → _ := fun h => ix_is (IntKind.i64.wrap (a.tdiv 3)) (n := q.length) (by have := of_decide_eq_true h; omega) hlq
  have pre := xp_pre c p q r hI
  repeat' (first
    | exact trivial
    | exact ht.1
    | exact ht.2
    | exact pre _ (Nat.le_of_ble_eq_true rfl)
    | exact szp
    | exact (keyp (by assumption)).1
    | exact (keyp (by assumption)).2.1
    | exact (keyp (by assumption)).2.2
    | (rw [List.length_set]; exact (keyp (by assumption)).2.2)
    | (rw [List.length_set]; exact bgp)
    | apply And.intro
    | intro _)
theorem xp_721_ok (hI : xpI ⟨c, p, q, r⟩) : Paid (cutVC F (lookC q7) 600 Tryd.f7 b7 (xpF a out x) 7 (xp7 a out x 2 1) ⟨c, p, q, r⟩) := by
  refine ⟨?_⟩
  rw [xp_721]
  simp only [true_implies, Bool.true_eq_false, Bool.false_eq_true, false_implies, and_true]
  have ht : (0 : Int) ≤ 1 ∧ (1 : Int) < ((xpL 2 (XpS.mk c p q r)).length : Int) := ⟨by decide, by show (1 : Int) < ((2 : Nat) : Int); decide⟩
  have hlp : p.length ≤ 48 := hI.2.1
  have szp : (([] : List Instr).length + p.length) * 40 ≤ 140737488355328 := by rw [List.length_nil]; omega
  have bgp : (p.length : Int) ≤ 1000000000 := by omega
  have keyp : decide (((p.length : Nat) : Int) > 0) = true → _ := fun h => ix_is (IntKind.i64.wrap (a.tdiv 3)) (n := p.length) (by have := of_decide_eq_true h; omega) hlp
  have hlq : q.length ≤ 48 := hI.2.2.1
  have szq : (([] : List Instr).length + q.length) * 40 ≤ 140737488355328 := by rw [List.length_nil]; omega
  have bgq : (q.length : Int) ≤ 1000000000 := by omega
  have keyq : decide (((q.length : Nat) : Int) > 0) = true → _ := fun h => ix_is (IntKind.i64.wrap (a.tdiv 3)) (n := q.length) (by have := of_decide_eq_true h; omega) hlq
  have pre := xp_pre c p q r hI
  repeat' (first
    | exact trivial
    | exact ht.1
    | exact ht.2
    | exact pre _ (Nat.le_of_ble_eq_true rfl)
    | exact szq
    | exact (keyq (by assumption)).1
    | exact (keyq (by assumption)).2.1
    | exact (keyq (by assumption)).2.2
    | (rw [List.length_set]; exact (keyq (by assumption)).2.2)
    | (rw [List.length_set]; exact bgq)
    | apply And.intro
    | intro _)
theorem xp_730_ok (hI : xpI ⟨c, p, q, r⟩) : Paid (cutVC F (lookC q7) 600 Tryd.f7 b7 (xpF a out x) 7 (xp7 a out x 3 0) ⟨c, p, q, r⟩) := by
  refine ⟨?_⟩
  rw [xp_730]
  simp only [true_implies, Bool.true_eq_false, Bool.false_eq_true, false_implies, and_true]
  have ht : (0 : Int) ≤ 0 ∧ (0 : Int) < ((xpL 3 (XpS.mk c p q r)).length : Int) := ⟨by decide, by show (0 : Int) < ((3 : Nat) : Int); decide⟩
  have hlp : p.length ≤ 48 := hI.2.1
  have szp : (([] : List Instr).length + p.length) * 40 ≤ 140737488355328 := by rw [List.length_nil]; omega
  have bgp : (p.length : Int) ≤ 1000000000 := by omega
  have keyp : decide (((p.length : Nat) : Int) > 0) = true → _ := fun h => ix_is (IntKind.i64.wrap (a.tdiv 3)) (n := p.length) (by have := of_decide_eq_true h; omega) hlp
  have hlq : q.length ≤ 48 := hI.2.2.1
  have szq : (([] : List Instr).length + q.length) * 40 ≤ 140737488355328 := by rw [List.length_nil]; omega
  have bgq : (q.length : Int) ≤ 1000000000 := by omega
  have keyq : decide (((q.length : Nat) : Int) > 0) = true → _ := fun h => ix_is (IntKind.i64.wrap (a.tdiv 3)) (n := q.length) (by have := of_decide_eq_true h; omega) hlq
  have hlr : r.length ≤ 48 := hI.2.2.2
  have szr : (([] : List Instr).length + r.length) * 40 ≤ 140737488355328 := by rw [List.length_nil]; omega
  have bgr : (r.length : Int) ≤ 1000000000 := by omega
  have keyr : decide (((r.length : Nat) : Int) > 0) = true → _ := fun h => ix_is (IntKind.i64.wrap (a.tdiv 3)) (n := r.length) (by have := of_decide_eq_true h; omega) hlr
  have pre := xp_pre c p q r hI
  repeat' (first
    | exact trivial
    | exact ht.1
    | exact ht.2
    | exact pre _ (Nat.le_of_ble_eq_true rfl)
    | exact szp
    | exact (keyp (by assumption)).1
    | exact (keyp (by assumption)).2.1
    | exact (keyp (by assumption)).2.2
    | (rw [List.length_set]; exact (keyp (by assumption)).2.2)
    | (rw [List.length_set]; exact bgp)
    | apply And.intro
    | intro _)
theorem xp_731_ok (hI : xpI ⟨c, p, q, r⟩) : Paid (cutVC F (lookC q7) 600 Tryd.f7 b7 (xpF a out x) 7 (xp7 a out x 3 1) ⟨c, p, q, r⟩) := by
  refine ⟨?_⟩
  rw [xp_731]
  simp only [true_implies, Bool.true_eq_false, Bool.false_eq_true, false_implies, and_true]
  have ht : (0 : Int) ≤ 1 ∧ (1 : Int) < ((xpL 3 (XpS.mk c p q r)).length : Int) := ⟨by decide, by show (1 : Int) < ((3 : Nat) : Int); decide⟩
  have hlp : p.length ≤ 48 := hI.2.1
  have szp : (([] : List Instr).length + p.length) * 40 ≤ 140737488355328 := by rw [List.length_nil]; omega
  have bgp : (p.length : Int) ≤ 1000000000 := by omega
  have keyp : decide (((p.length : Nat) : Int) > 0) = true → _ := fun h => ix_is (IntKind.i64.wrap (a.tdiv 3)) (n := p.length) (by have := of_decide_eq_true h; omega) hlp
  have hlq : q.length ≤ 48 := hI.2.2.1
  have szq : (([] : List Instr).length + q.length) * 40 ≤ 140737488355328 := by rw [List.length_nil]; omega
  have bgq : (q.length : Int) ≤ 1000000000 := by omega
  have keyq : decide (((q.length : Nat) : Int) > 0) = true → _ := fun h => ix_is (IntKind.i64.wrap (a.tdiv 3)) (n := q.length) (by have := of_decide_eq_true h; omega) hlq
  have hlr : r.length ≤ 48 := hI.2.2.2
  have szr : (([] : List Instr).length + r.length) * 40 ≤ 140737488355328 := by rw [List.length_nil]; omega
  have bgr : (r.length : Int) ≤ 1000000000 := by omega
  have keyr : decide (((r.length : Nat) : Int) > 0) = true → _ := fun h => ix_is (IntKind.i64.wrap (a.tdiv 3)) (n := r.length) (by have := of_decide_eq_true h; omega) hlr
  have pre := xp_pre c p q r hI
  repeat' (first
    | exact trivial
    | exact ht.1
    | exact ht.2
    | exact pre _ (Nat.le_of_ble_eq_true rfl)
    | exact szq
    | exact (keyq (by assumption)).1
    | exact (keyq (by assumption)).2.1
    | exact (keyq (by assumption)).2.2
    | (rw [List.length_set]; exact (keyq (by assumption)).2.2)
    | (rw [List.length_set]; exact bgq)
    | apply And.intro
    | intro _)
theorem xp_732_ok (hI : xpI ⟨c, p, q, r⟩) : Paid (cutVC F (lookC q7) 600 Tryd.f7 b7 (xpF a out x) 7 (xp7 a out x 3 2) ⟨c, p, q, r⟩) := by
  refine ⟨?_⟩
  rw [xp_732]
  simp only [true_implies, Bool.true_eq_false, Bool.false_eq_true, false_implies, and_true]
  have ht : (0 : Int) ≤ 2 ∧ (2 : Int) < ((xpL 3 (XpS.mk c p q r)).length : Int) := ⟨by decide, by show (2 : Int) < ((3 : Nat) : Int); decide⟩
  have hlp : p.length ≤ 48 := hI.2.1
  have szp : (([] : List Instr).length + p.length) * 40 ≤ 140737488355328 := by rw [List.length_nil]; omega
  have bgp : (p.length : Int) ≤ 1000000000 := by omega
  have keyp : decide (((p.length : Nat) : Int) > 0) = true → _ := fun h => ix_is (IntKind.i64.wrap (a.tdiv 3)) (n := p.length) (by have := of_decide_eq_true h; omega) hlp
  have hlq : q.length ≤ 48 := hI.2.2.1
  have szq : (([] : List Instr).length + q.length) * 40 ≤ 140737488355328 := by rw [List.length_nil]; omega
  have bgq : (q.length : Int) ≤ 1000000000 := by omega
  have keyq : decide (((q.length : Nat) : Int) > 0) = true → _ := fun h => ix_is (IntKind.i64.wrap (a.tdiv 3)) (n := q.length) (by have := of_decide_eq_true h; omega) hlq
  have hlr : r.length ≤ 48 := hI.2.2.2
  have szr : (([] : List Instr).length + r.length) * 40 ≤ 140737488355328 := by rw [List.length_nil]; omega
  have bgr : (r.length : Int) ≤ 1000000000 := by omega
  have keyr : decide (((r.length : Nat) : Int) > 0) = true → _ := fun h => ix_is (IntKind.i64.wrap (a.tdiv 3)) (n := r.length) (by have := of_decide_eq_true h; omega) hlr
  have pre := xp_pre c p q r hI
  repeat' (first
    | exact trivial
    | exact ht.1
    | exact ht.2
    | exact pre _ (Nat.le_of_ble_eq_true rfl)
    | exact szr
    | exact (keyr (by assumption)).1
    | exact (keyr (by assumption)).2.1
    | exact (keyr (by assumption)).2.2
    | (rw [List.length_set]; exact (keyr (by assumption)).2.2)
    | (rw [List.length_set]; exact bgr)
    | apply And.intro
    | intro _)
theorem xp_41_ok (hI : xpI ⟨c, p, q, r⟩) : Paid (cutVC F (lookC q7) 600 Tryd.f7 b7 (xpF a out x) 4 (xp4 a out x 1) ⟨c, p, q, r⟩) := by
  refine ⟨?_⟩
  rw [xp_41]
  refine ⟨xp_pre c p q r hI _ (Nat.le_of_ble_eq_true rfl), fun h => (nomatch h), fun _ => ?_⟩
  exact ⟨true, fun _ => ⟨⟨c, p, q, r⟩, rfl, rfl, rfl, rfl, rfl, rfl, rfl, rfl, rfl, rfl, rfl, rfl, rfl, rfl, rfl, rfl, rfl, rfl, rfl, rfl, pk1 a, hI, by decide, trivial⟩, fun h => (nomatch h)⟩
theorem xp_42_ok (hI : xpI ⟨c, p, q, r⟩) : Paid (cutVC F (lookC q7) 600 Tryd.f7 b7 (xpF a out x) 4 (xp4 a out x 2) ⟨c, p, q, r⟩) := by
  refine ⟨?_⟩
  rw [xp_42]
  refine ⟨xp_pre c p q r hI _ (Nat.le_of_ble_eq_true rfl), fun h => (nomatch h), fun _ => ?_⟩
  rcases pk2 a with h | h
  · exact ⟨false, fun h => (nomatch h), fun _ => ⟨true, fun _ => ⟨⟨c, p, q, r⟩, rfl, rfl, rfl, rfl, rfl, rfl, rfl, rfl, rfl, rfl, rfl, rfl, rfl, rfl, rfl, rfl, rfl, rfl, rfl, rfl, rfl, h, hI, by decide, trivial⟩, fun h => (nomatch h)⟩⟩
  · exact ⟨false, fun h => (nomatch h), fun _ => ⟨false, fun h => (nomatch h), fun _ => ⟨true, fun _ => ⟨⟨c, p, q, r⟩, rfl, rfl, rfl, rfl, rfl, rfl, rfl, rfl, rfl, rfl, rfl, rfl, rfl, rfl, rfl, rfl, rfl, rfl, rfl, rfl, rfl, h, hI, by decide, trivial⟩, fun h => (nomatch h)⟩⟩⟩
theorem xp_43_ok (hI : xpI ⟨c, p, q, r⟩) : Paid (cutVC F (lookC q7) 600 Tryd.f7 b7 (xpF a out x) 4 (xp4 a out x 3) ⟨c, p, q, r⟩) := by
  refine ⟨?_⟩
  rw [xp_43]
  refine ⟨xp_pre c p q r hI _ (Nat.le_of_ble_eq_true rfl), fun h => (nomatch h), fun _ => ?_⟩
  rcases pk3 a with h | h | h
  · exact ⟨false, fun h => (nomatch h), fun _ => ⟨false, fun h => (nomatch h), fun _ => ⟨false, fun h => (nomatch h), fun _ => ⟨true, fun _ => ⟨⟨c, p, q, r⟩, rfl, rfl, rfl, rfl, rfl, rfl, rfl, rfl, rfl, rfl, rfl, rfl, rfl, rfl, rfl, rfl, rfl, rfl, rfl, rfl, rfl, rfl, h, hI, by decide, trivial⟩, fun h => (nomatch h)⟩⟩⟩⟩
  · exact ⟨false, fun h => (nomatch h), fun _ => ⟨false, fun h => (nomatch h), fun _ => ⟨false, fun h => (nomatch h), fun _ => ⟨false, fun h => (nomatch h), fun _ => ⟨true, fun _ => ⟨⟨c, p, q, r⟩, rfl, rfl, rfl, rfl, rfl, rfl, rfl, rfl, rfl, rfl, rfl, rfl, rfl, rfl, rfl, rfl, rfl, rfl, rfl, rfl, rfl, rfl, h, hI, by decide, trivial⟩, fun h => (nomatch h)⟩⟩⟩⟩⟩
  · exact ⟨false, fun h => (nomatch h), fun _ => ⟨false, fun h => (nomatch h), fun _ => ⟨false, fun h => (nomatch h), fun _ => ⟨false, fun h => (nomatch h), fun _ => ⟨false, fun h => (nomatch h), fun _ => ⟨⟨c, p, q, r⟩, rfl, rfl, rfl, rfl, rfl, rfl, rfl, rfl, rfl, rfl, rfl, rfl, rfl, rfl, rfl, rfl, rfl, rfl, rfl, rfl, rfl, rfl, h, hI, by decide, trivial⟩⟩⟩⟩⟩⟩
end
theorem q7Ok : CtrOk F.S (lookC q7) := lookC_ok fun p h => by
  simp only [q7, List.mem_cons, List.not_mem_nil, or_false] at h
  rcases h with rfl | rfl | rfl | rfl | rfl
  · exact toldCtr_ok rfl
  · exact fewOk
  · exact saysOk
  · exact inOk
  · exact buildOk
theorem xp_e_ok (k : K8) (rows : List (List Int)) (a : Int) (x : Rw) (out : Bool) : Paid (entryX F (lookC q7) 600 Tryd.f7 b7 (xpF a out x) [.agg (enc7 k), .tl (T := T) 5 rows, .i .i64 a, .agg (enc6 x), .b out]) := by
  refine ⟨?_⟩
  rw [xp_e]
  refine ⟨trivial, fun _ => ⟨rfl, trivial⟩, fun hf => ?_⟩
  have hf : fewB rows 12 = true := by
    cases h : fewB rows 12 with
    | true => rfl
    | false => rw [h] at hf; cases hf
  have lens : ∀ i : Nat, i < 3 → (i : Int) < rows.length → lenOk (at5 rows i) := fun i h3 hi => by
    have := few_len hf i h3 (by omega)
    show (at5 rows i).length ≤ 1000
    omega
  have base : ((bldC k []).init.length ≤ 1000 ∧ (bldC k []).locks.length ≤ 1000 ∧ (bldC k []).conds.length ≤ 1000) := ⟨Nat.le_of_ble_eq_true rfl, Nat.le_of_ble_eq_true rfl, Nat.le_of_ble_eq_true rfl⟩
  have nil48 : ([] : List Instr).length ≤ 48 := Nat.le_of_ble_eq_true rfl
  have go1 : ∀ (w m : Int) (p0 : List Instr), w = writesOf k → m = mostOf k → p0.length ≤ 48 → xpG1 k x a out w m p0 := fun w m p0 hw hm h0 =>
    ⟨true, fun _ => ⟨⟨bldC k [], p0, [], []⟩, rfl, rfl, rfl, rfl, rfl, rfl, rfl, rfl, rfl, rfl, rfl, rfl, hw, rfl, rfl, hm, rfl, rfl, rfl, rfl, ⟨base, h0, nil48, nil48⟩, trivial⟩, fun h => (nomatch h)⟩
  have go2 : ∀ (w m : Int) (p0 p1 : List Instr), w = writesOf k → m = mostOf k → p0.length ≤ 48 → p1.length ≤ 48 → xpG2 k x a out w m p0 p1 := fun w m p0 p1 hw hm h0 h1 =>
    ⟨false, fun h => (nomatch h), fun _ => ⟨true, fun _ => ⟨⟨bldC k [], p0, p1, []⟩, rfl, rfl, rfl, rfl, rfl, rfl, rfl, rfl, rfl, rfl, rfl, rfl, hw, rfl, rfl, hm, rfl, rfl, rfl, rfl, rfl, ⟨base, h0, h1, nil48⟩, trivial⟩, fun h => (nomatch h)⟩⟩
  have go3 : ∀ (w m : Int) (p0 p1 p2 : List Instr), w = writesOf k → m = mostOf k → p0.length ≤ 48 → p1.length ≤ 48 → p2.length ≤ 48 → xpG3 k x a out w m p0 p1 p2 := fun w m p0 p1 p2 hw hm h0 h1 h2 =>
    ⟨false, fun h => (nomatch h), fun _ => ⟨false, fun h => (nomatch h), fun _ => ⟨⟨bldC k [], p0, p1, p2⟩, rfl, rfl, rfl, rfl, rfl, rfl, rfl, rfl, rfl, rfl, rfl, rfl, hw, rfl, rfl, hm, rfl, rfl, rfl, rfl, rfl, rfl, ⟨base, h0, h1, h2⟩, trivial⟩⟩⟩
  have g0 := fun (w m : Int) (hw : w = writesOf k) (hm : m = mostOf k) (z : ((rows.length : Int) == 0) = true) => go1 w m [] hw hm nil48
  have g1 := fun (w m : Int) (hw : w = writesOf k) (hm : m = mostOf k) (z : True) => go1 w m (progL (at5 rows 0)) hw hm (progL_len _)
  have g2 := fun (w m : Int) (hw : w = writesOf k) (hm : m = mostOf k) (z : True) => go2 w m (progL (at5 rows 0)) (progL (at5 rows 1)) hw hm (progL_len _) (progL_len _)
  have g3 := fun (w m : Int) (hw : w = writesOf k) (hm : m = mostOf k) (z : True) => go3 w m (progL (at5 rows 0)) (progL (at5 rows 1)) (progL (at5 rows 2)) hw hm (progL_len _) (progL_len _) (progL_len _)
  have m1 : (IntKind.i64.wrap ((IntKind.u64.wrap k.h).tmod 4) == 1) = true → pk (IntKind.i64.wrap (k.h.tdiv 4)) 12 = mostOf k := fun h => by
    have h : pk k.h 4 = 1 := eq_of_beq h
    rw [mostOf, if_pos h]
  have m0 : (IntKind.i64.wrap ((IntKind.u64.wrap k.h).tmod 4) == 1) = false → 1073741824 = mostOf k := fun h => by
    have h : ¬ pk k.h 4 = 1 := ne_of_beq_false h
    rw [mostOf, if_neg h]
  have w1 : decide (IntKind.i64.wrap ((IntKind.u64.wrap k.e).tmod 5) > 0) = true → 32 = writesOf k := fun h => by
    have h : pk k.e 5 > 0 := of_decide_eq_true h
    rw [writesOf, if_pos h]
  have w0 : decide (IntKind.i64.wrap ((IntKind.u64.wrap k.e).tmod 5) > 0) = false → IntKind.i64.wrap (1 + pk k.e 12) = writesOf k := fun h => by
    have h : ¬ pk k.e 5 > 0 := of_decide_eq_false h
    rw [writesOf, if_neg h]
  have ne0 : (0 : Int) < rows.length → ((rows.length : Int) == 0) = true → False := fun h z => by have : (rows.length : Int) = 0 := eq_of_beq z; omega
  have e0 : ¬ (0 : Int) < rows.length → ((rows.length : Int) == 0) = false → False := fun h z => by have := ne_of_beq_false z; omega
  refine ⟨fun hM => ⟨fun hW => ?_, fun hW => ?_⟩, fun hM => ⟨fun hW => ?_, fun hW => ?_⟩⟩
  · exact ⟨fun a0 => have b0 := of_decide_eq_true a0; have nz := ne0 b0; ⟨⟨by decide, b0⟩, lens 0 (by decide) b0, fun a1 => have b1 := of_decide_eq_true a1; ⟨⟨by decide, b1⟩, lens 1 (by decide) b1, fun a2 => have b2 := of_decide_eq_true a2; ⟨⟨by decide, b2⟩, lens 2 (by decide) b2, fun _ => ⟨fun z => (nz z).elim, fun z => g3 _ _ (w1 hW) (m1 hM) trivial⟩, fun _ => ⟨fun z => (nz z).elim, fun z => g3 _ _ (w1 hW) (m1 hM) trivial⟩⟩, fun a2 => ⟨fun z => (nz z).elim, fun z => g2 _ _ (w1 hW) (m1 hM) trivial⟩⟩, fun a1 => ⟨fun z => (nz z).elim, fun z => g1 _ _ (w1 hW) (m1 hM) trivial⟩⟩,
      fun a0 => ⟨fun z => g0 _ _ (w1 hW) (m1 hM) z, fun z => (e0 (of_decide_eq_false a0) z).elim⟩⟩
  · exact ⟨fun a0 => have b0 := of_decide_eq_true a0; have nz := ne0 b0; ⟨⟨by decide, b0⟩, lens 0 (by decide) b0, fun a1 => have b1 := of_decide_eq_true a1; ⟨⟨by decide, b1⟩, lens 1 (by decide) b1, fun a2 => have b2 := of_decide_eq_true a2; ⟨⟨by decide, b2⟩, lens 2 (by decide) b2, fun _ => ⟨fun z => (nz z).elim, fun z => g3 _ _ (w0 hW) (m1 hM) trivial⟩, fun _ => ⟨fun z => (nz z).elim, fun z => g3 _ _ (w0 hW) (m1 hM) trivial⟩⟩, fun a2 => ⟨fun z => (nz z).elim, fun z => g2 _ _ (w0 hW) (m1 hM) trivial⟩⟩, fun a1 => ⟨fun z => (nz z).elim, fun z => g1 _ _ (w0 hW) (m1 hM) trivial⟩⟩,
      fun a0 => ⟨fun z => g0 _ _ (w0 hW) (m1 hM) z, fun z => (e0 (of_decide_eq_false a0) z).elim⟩⟩
  · exact ⟨fun a0 => have b0 := of_decide_eq_true a0; have nz := ne0 b0; ⟨⟨by decide, b0⟩, lens 0 (by decide) b0, fun a1 => have b1 := of_decide_eq_true a1; ⟨⟨by decide, b1⟩, lens 1 (by decide) b1, fun a2 => have b2 := of_decide_eq_true a2; ⟨⟨by decide, b2⟩, lens 2 (by decide) b2, fun _ => ⟨fun z => (nz z).elim, fun z => g3 _ _ (w1 hW) (m0 hM) trivial⟩, fun _ => ⟨fun z => (nz z).elim, fun z => g3 _ _ (w1 hW) (m0 hM) trivial⟩⟩, fun a2 => ⟨fun z => (nz z).elim, fun z => g2 _ _ (w1 hW) (m0 hM) trivial⟩⟩, fun a1 => ⟨fun z => (nz z).elim, fun z => g1 _ _ (w1 hW) (m0 hM) trivial⟩⟩,
      fun a0 => ⟨fun z => g0 _ _ (w1 hW) (m0 hM) z, fun z => (e0 (of_decide_eq_false a0) z).elim⟩⟩
  · exact ⟨fun a0 => have b0 := of_decide_eq_true a0; have nz := ne0 b0; ⟨⟨by decide, b0⟩, lens 0 (by decide) b0, fun a1 => have b1 := of_decide_eq_true a1; ⟨⟨by decide, b1⟩, lens 1 (by decide) b1, fun a2 => have b2 := of_decide_eq_true a2; ⟨⟨by decide, b2⟩, lens 2 (by decide) b2, fun _ => ⟨fun z => (nz z).elim, fun z => g3 _ _ (w0 hW) (m0 hM) trivial⟩, fun _ => ⟨fun z => (nz z).elim, fun z => g3 _ _ (w0 hW) (m0 hM) trivial⟩⟩, fun a2 => ⟨fun z => (nz z).elim, fun z => g2 _ _ (w0 hW) (m0 hM) trivial⟩⟩, fun a1 => ⟨fun z => (nz z).elim, fun z => g1 _ _ (w0 hW) (m0 hM) trivial⟩⟩,
      fun a0 => ⟨fun z => g0 _ _ (w0 hW) (m0 hM) z, fun z => (e0 (of_decide_eq_false a0) z).elim⟩⟩
theorem xp_run (k : K8) (rows : List (List Int)) (a : Int) (x : Rw) (out : Bool) {av : List AVal} (hA : Ers (C := cod) (away []) [.agg (enc7 k), .tl (T := T) 5 rows, .i .i64 a, .agg (enc6 x), .b out] av) : ∃ m H', runA S m 0 7 av [] = some (.bool true, H') :=
  law_paid (F := F) (fn := Tryd.f7) (body := b7) (args := [.agg (enc7 k), .tl (T := T) 5 rows, .i .i64 a, .agg (enc6 x), .b out]) codOk noExt hookLow q7Ok Tryd.func7 rfl rfl rfl 600 (xpF a out x).cuts (show 5 ≤ Tryd.f7.ntmps by decide) (show Tryd.f7.ntmps ≤ 512 by decide) (by kernel_rfl) (xp_e_ok k rows a x out) (fun p hm s hI => by
    simp only [xpF, List.mem_cons, List.not_mem_nil, or_false] at hm
    rcases hm with rfl | rfl | rfl | rfl | rfl | rfl | rfl | rfl | rfl
    · exact xp_41_ok a out x s.c s.p s.q s.r hI
    · exact xp_42_ok a out x s.c s.p s.q s.r hI
    · exact xp_43_ok a out x s.c s.p s.q s.r hI
    · exact xp_710_ok a out x s.c s.p s.q s.r hI
    · exact xp_720_ok a out x s.c s.p s.q s.r hI
    · exact xp_721_ok a out x s.c s.p s.q s.r hI
    · exact xp_730_ok a out x s.c s.p s.q s.r hI
    · exact xp_731_ok a out x s.c s.p s.q s.r hI
    · exact xp_732_ok a out x s.c s.p s.q s.r hI) hA
end Go.Proofs.YtjboohjicdmidaaDoor

/- An instruction's line, on both sides: the contracts are paid. Printed by a program (gen_lo.py). -/
import Derived.Test.YtbbbpnaghipfmaaDoorLn
namespace Go.Proofs.YtbbbpnaghipfmaaDoor
open Go.RowKit Go.Am Go.Sy
set_option linter.unusedVariables false
set_option linter.unusedSimpArgs false
variable {Z : Xs}

theorem ln_e (Z : Xs) (x : Ins) : Go.Sy.Tree.holds (entryX (F Z) (lookC l9) 400 Tryd.f9 b9 ⟨[], .tup [.s (lineR x), .b (mayB x)], []⟩ [.agg (enc2 x)]) = ( mayD.pre (Ins.mk x.op x.a x.b x.c x.n, ()) ∧ ((!mayB (Ins.mk x.op
 x.a x.b x.c x.n)) = true → [] = lineR x ∧ false = mayB x ∧ True) ∧ ((!mayB (Ins.mk x.op x.a x.b x.c x.n)) = false → ((x.op == 1) = true → okI x.a ∧ (↑([(115 : UInt8), 101, 116, 32].length + (decS x.a).length) : Int) ≤
 9223372036854775807 ∧ (↑(([(115 : UInt8), 101, 116, 32] ++ decS x.a).length + [(32 : UInt8)].length) : Int) ≤ 9223372036854775807 ∧ okI x.n ∧ (↑(([(115 : UInt8), 101, 116, 32] ++ decS x.a ++ [(32 : UInt8)]).length +
 (decS x.n).length) : Int) ≤ 9223372036854775807 ∧ [(115 : UInt8), 101, 116, 32] ++ decS x.a ++ [(32 : UInt8)] ++ decS x.n = lineR x ∧ true = mayB x ∧ True) ∧ ((x.op == 1) = false → ((x.op == 2) = true → okI x.a ∧ (↑([(97
 : UInt8), 100, 100, 32].length + (decS x.a).length) : Int) ≤ 9223372036854775807 ∧ (↑(([(97 : UInt8), 100, 100, 32] ++ decS x.a).length + [(32 : UInt8)].length) : Int) ≤ 9223372036854775807 ∧ okI x.b ∧ (↑(([(97 : UInt8),
 100, 100, 32] ++ decS x.a ++ [(32 : UInt8)]).length + (decS x.b).length) : Int) ≤ 9223372036854775807 ∧ (↑(([(97 : UInt8), 100, 100, 32] ++ decS x.a ++ [(32 : UInt8)] ++ decS x.b).length + [(32 : UInt8)].length) : Int) ≤
 9223372036854775807 ∧ okI x.c ∧ (↑(([(97 : UInt8), 100, 100, 32] ++ decS x.a ++ [(32 : UInt8)] ++ decS x.b ++ [(32 : UInt8)]).length + (decS x.c).length) : Int) ≤ 9223372036854775807 ∧ [(97 : UInt8), 100, 100, 32] ++
 decS x.a ++ [(32 : UInt8)] ++ decS x.b ++ [(32 : UInt8)] ++ decS x.c = lineR x ∧ true = mayB x ∧ True) ∧ ((x.op == 2) = false → ((x.op == 3) = true → okI x.a ∧ (↑([(115 : UInt8), 117, 98, 32].length + (decS x.a).length)
 : Int) ≤ 9223372036854775807 ∧ (↑(([(115 : UInt8), 117, 98, 32] ++ decS x.a).length + [(32 : UInt8)].length) : Int) ≤ 9223372036854775807 ∧ okI x.b ∧ (↑(([(115 : UInt8), 117, 98, 32] ++ decS x.a ++ [(32 : UInt8)]).length
 + (decS x.b).length) : Int) ≤ 9223372036854775807 ∧ (↑(([(115 : UInt8), 117, 98, 32] ++ decS x.a ++ [(32 : UInt8)] ++ decS x.b).length + [(32 : UInt8)].length) : Int) ≤ 9223372036854775807 ∧ okI x.c ∧ (↑(([(115 : UInt8),
 117, 98, 32] ++ decS x.a ++ [(32 : UInt8)] ++ decS x.b ++ [(32 : UInt8)]).length + (decS x.c).length) : Int) ≤ 9223372036854775807 ∧ [(115 : UInt8), 117, 98, 32] ++ decS x.a ++ [(32 : UInt8)] ++ decS x.b ++ [(32 :
 UInt8)] ++ decS x.c = lineR x ∧ true = mayB x ∧ True) ∧ ((x.op == 3) = false → ((x.op == 4) = true → okI x.a ∧ (↑([(109 : UInt8), 117, 108, 32].length + (decS x.a).length) : Int) ≤ 9223372036854775807 ∧ (↑(([(109 :
 UInt8), 117, 108, 32] ++ decS x.a).length + [(32 : UInt8)].length) : Int) ≤ 9223372036854775807 ∧ okI x.b ∧ (↑(([(109 : UInt8), 117, 108, 32] ++ decS x.a ++ [(32 : UInt8)]).length + (decS x.b).length) : Int) ≤
 9223372036854775807 ∧ (↑(([(109 : UInt8), 117, 108, 32] ++ decS x.a ++ [(32 : UInt8)] ++ decS x.b).length + [(32 : UInt8)].length) : Int) ≤ 9223372036854775807 ∧ okI x.c ∧ (↑(([(109 : UInt8), 117, 108, 32] ++ decS x.a ++
 [(32 : UInt8)] ++ decS x.b ++ [(32 : UInt8)]).length + (decS x.c).length) : Int) ≤ 9223372036854775807 ∧ [(109 : UInt8), 117, 108, 32] ++ decS x.a ++ [(32 : UInt8)] ++ decS x.b ++ [(32 : UInt8)] ++ decS x.c = lineR x ∧
 true = mayB x ∧ True) ∧ ((x.op == 4) = false → ((x.op == 5) = true → okI x.a ∧ (↑([(120 : UInt8), 111, 114, 32].length + (decS x.a).length) : Int) ≤ 9223372036854775807 ∧ (↑(([(120 : UInt8), 111, 114, 32] ++ decS
 x.a).length + [(32 : UInt8)].length) : Int) ≤ 9223372036854775807 ∧ okI x.b ∧ (↑(([(120 : UInt8), 111, 114, 32] ++ decS x.a ++ [(32 : UInt8)]).length + (decS x.b).length) : Int) ≤ 9223372036854775807 ∧ (↑(([(120 :
 UInt8), 111, 114, 32] ++ decS x.a ++ [(32 : UInt8)] ++ decS x.b).length + [(32 : UInt8)].length) : Int) ≤ 9223372036854775807 ∧ okI x.c ∧ (↑(([(120 : UInt8), 111, 114, 32] ++ decS x.a ++ [(32 : UInt8)] ++ decS x.b ++
 [(32 : UInt8)]).length + (decS x.c).length) : Int) ≤ 9223372036854775807 ∧ [(120 : UInt8), 111, 114, 32] ++ decS x.a ++ [(32 : UInt8)] ++ decS x.b ++ [(32 : UInt8)] ++ decS x.c = lineR x ∧ true = mayB x ∧ True) ∧ ((x.op
 == 5) = false → ((x.op == 6) = true → okI x.a ∧ (↑([(108 : UInt8), 101, 115, 115, 32].length + (decS x.a).length) : Int) ≤ 9223372036854775807 ∧ (↑(([(108 : UInt8), 101, 115, 115, 32] ++ decS x.a).length + [(32 :
 UInt8)].length) : Int) ≤ 9223372036854775807 ∧ okI x.b ∧ (↑(([(108 : UInt8), 101, 115, 115, 32] ++ decS x.a ++ [(32 : UInt8)]).length + (decS x.b).length) : Int) ≤ 9223372036854775807 ∧ (↑(([(108 : UInt8), 101, 115, 115,
 (32 : UInt8)] ++ decS x.a ++ [(32 : UInt8)] ++ decS x.b).length + [(32 : UInt8)].length) : Int) ≤ 9223372036854775807 ∧ okI x.c ∧ (↑(([(108 : UInt8), 101, 115, 115, (32 : UInt8)] ++ decS x.a ++ [(32 : UInt8)] ++ decS x.b
 ++ [(32 : UInt8)]).length + (decS x.c).length) : Int) ≤ 9223372036854775807 ∧ [(108 : UInt8), 101, 115, 115, (32 : UInt8)] ++ decS x.a ++ [(32 : UInt8)] ++ decS x.b ++ [(32 : UInt8)] ++ decS x.c = lineR x ∧ true = mayB x
 ∧ True) ∧ ((x.op == 6) = false → ((x.op == 7) = true → okI x.a ∧ (↑([(115 : UInt8), 97, 109, 101, (32 : UInt8)].length + (decS x.a).length) : Int) ≤ 9223372036854775807 ∧ (↑(([(115 : UInt8), 97, 109, 101, 32] ++ decS
 x.a).length + [(32 : UInt8)].length) : Int) ≤ 9223372036854775807 ∧ okI x.b ∧ (↑(([(115 : UInt8), 97, 109, 101, (32 : UInt8)] ++ decS x.a ++ [(32 : UInt8)]).length + (decS x.b).length) : Int) ≤ 9223372036854775807 ∧
 (↑(([(115 : UInt8), 97, 109, 101, (32 : UInt8)] ++ decS x.a ++ [(32 : UInt8)] ++ decS x.b).length + [(32 : UInt8)].length) : Int) ≤ 9223372036854775807 ∧ okI x.c ∧ (↑(([(115 : UInt8), 97, 109, 101, (32 : UInt8)] ++ decS
 x.a ++ [(32 : UInt8)] ++ decS x.b ++ [(32 : UInt8)]).length + (decS x.c).length) : Int) ≤ 9223372036854775807 ∧ [(115 : UInt8), 97, 109, 101, (32 : UInt8)] ++ decS x.a ++ [(32 : UInt8)] ++ decS x.b ++ [(32 : UInt8)] ++
 decS x.c = lineR x ∧ true = mayB x ∧ True) ∧ ((x.op == 7) = false → ((x.op == 8) = true → okI x.a ∧ (↑([(108 : UInt8), 111, 97, 100, (32 : UInt8)].length + (decS x.a).length) : Int) ≤ 9223372036854775807 ∧ (↑(([(108 :
 UInt8), 111, 97, 100, (32 : UInt8)] ++ decS x.a).length + [(32 : UInt8)].length) : Int) ≤ 9223372036854775807 ∧ okI x.b ∧ (↑(([(108 : UInt8), 111, 97, 100, (32 : UInt8)] ++ decS x.a ++ [(32 : UInt8)]).length + (decS
 x.b).length) : Int) ≤ 9223372036854775807 ∧ (↑(([(108 : UInt8), 111, 97, 100, (32 : UInt8)] ++ decS x.a ++ [(32 : UInt8)] ++ decS x.b).length + [(32 : UInt8)].length) : Int) ≤ 9223372036854775807 ∧ okI x.n ∧ (↑(([(108 :
 UInt8), 111, 97, 100, (32 : UInt8)] ++ decS x.a ++ [(32 : UInt8)] ++ decS x.b ++ [(32 : UInt8)]).length + (decS x.n).length) : Int) ≤ 9223372036854775807 ∧ [(108 : UInt8), 111, 97, 100, (32 : UInt8)] ++ decS x.a ++ [(32
 : UInt8)] ++ decS x.b ++ [(32 : UInt8)] ++ decS x.n = lineR x ∧ true = mayB x ∧ True) ∧ ((x.op == 8) = false → ((x.op == 9) = true → okI x.a ∧ (↑([(115 : UInt8), 116, 111, 114, (101 : UInt8), 32].length + (decS
 x.a).length) : Int) ≤ 9223372036854775807 ∧ (↑(([(115 : UInt8), 116, 111, 114, (101 : UInt8), 32] ++ decS x.a).length + [(32 : UInt8)].length) : Int) ≤ 9223372036854775807 ∧ okI x.b ∧ (↑(([(115 : UInt8), 116, 111, 114,
 (101 : UInt8), 32] ++ decS x.a ++ [(32 : UInt8)]).length + (decS x.b).length) : Int) ≤ 9223372036854775807 ∧ (↑(([(115 : UInt8), 116, 111, 114, (101 : UInt8), 32] ++ decS x.a ++ [(32 : UInt8)] ++ decS x.b).length + [(32
 : UInt8)].length) : Int) ≤ 9223372036854775807 ∧ okI x.n ∧ (↑(([(115 : UInt8), 116, 111, 114, (101 : UInt8), 32] ++ decS x.a ++ [(32 : UInt8)] ++ decS x.b ++ [(32 : UInt8)]).length + (decS x.n).length) : Int) ≤
 9223372036854775807 ∧ [(115 : UInt8), 116, 111, 114, (101 : UInt8), 32] ++ decS x.a ++ [(32 : UInt8)] ++ decS x.b ++ [(32 : UInt8)] ++ decS x.n = lineR x ∧ true = mayB x ∧ True) ∧ ((x.op == 9) = false → ((x.op == 10) =
 true → okI x.b ∧ (↑([(116 : UInt8), 97, 107, 101, (32 : UInt8)].length + (decS x.b).length) : Int) ≤ 9223372036854775807 ∧ (↑(([(116 : UInt8), 97, 107, 101, (32 : UInt8)] ++ decS x.b).length + [(32 : UInt8)].length) :
 Int) ≤ 9223372036854775807 ∧ okI x.n ∧ (↑(([(116 : UInt8), 97, 107, 101, (32 : UInt8)] ++ decS x.b ++ [(32 : UInt8)]).length + (decS x.n).length) : Int) ≤ 9223372036854775807 ∧ [(116 : UInt8), 97, 107, 101, (32 : UInt8)]
 ++ decS x.b ++ [(32 : UInt8)] ++ decS x.n = lineR x ∧ true = mayB x ∧ True) ∧ ((x.op == 10) = false → ((x.op == 11) = true → okI x.b ∧ (↑([(103 : UInt8), 105, 118, 101, (32 : UInt8)].length + (decS x.b).length) : Int) ≤
 9223372036854775807 ∧ (↑(([(103 : UInt8), 105, 118, 101, (32 : UInt8)] ++ decS x.b).length + [(32 : UInt8)].length) : Int) ≤ 9223372036854775807 ∧ okI x.n ∧ (↑(([(103 : UInt8), 105, 118, (101 : UInt8), 32] ++ decS x.b ++
 [(32 : UInt8)]).length + (decS x.n).length) : Int) ≤ 9223372036854775807 ∧ [(103 : UInt8), 105, 118, 101, (32 : UInt8)] ++ decS x.b ++ [(32 : UInt8)] ++ decS x.n = lineR x ∧ true = mayB x ∧ True) ∧ ((x.op == 11) = false
 → ((x.op == 12) = true → okI x.a ∧ (↑([(108 : UInt8), 111, 103, (32 : UInt8)].length + (decS x.a).length) : Int) ≤ 9223372036854775807 ∧ [(108 : UInt8), 111, 103, 32] ++ decS x.a = lineR x ∧ true = mayB x ∧ True) ∧
 ((x.op == 12) = false → ((x.op == 13) = true → ((x.b == 1) = true → okI x.a ∧ (↑([(114 : UInt8), 101, 97, (100 : UInt8), 32].length + (decS x.a).length) : Int) ≤ 9223372036854775807 ∧ [(114 : UInt8), 101, 97, (100 :
 UInt8), 32] ++ decS x.a = lineR x ∧ true = mayB x ∧ True) ∧ ((x.b == 1) = false → okI x.a ∧ (↑([(101 : UInt8), 110, 116, (101 : UInt8), 114, (32 : UInt8)].length + (decS x.a).length) : Int) ≤ 9223372036854775807 ∧ [(101
 : UInt8), 110, 116, (101 : UInt8), 114, 32] ++ decS x.a = lineR x ∧ true = mayB x ∧ True)) ∧ ((x.op == 13) = false → ((x.op == 14) = true → [(108 : UInt8), 101, 97, (118 : UInt8), 101] = lineR x ∧ true = mayB x ∧ True) ∧
 ((x.op == 14) = false → ((x.op == 15) = true → okI x.a ∧ (↑([(119 : UInt8), 97, 105, (116 : UInt8), 32].length + (decS x.a).length) : Int) ≤ 9223372036854775807 ∧ [(119 : UInt8), 97, 105, (116 : UInt8), 32] ++ decS x.a =
 lineR x ∧ true = mayB x ∧ True) ∧ ((x.op == 15) = false → ((x.op == 16) = true → okI x.a ∧ (↑([(115 : UInt8), 105, 103, (110 : UInt8), 97, (108 : UInt8), (32 : UInt8)].length + (decS x.a).length) : Int) ≤
 9223372036854775807 ∧ [(115 : UInt8), 105, 103, (110 : UInt8), 97, (108 : UInt8), 32] ++ decS x.a = lineR x ∧ true = mayB x ∧ True) ∧ ((x.op == 16) = false → ((x.op == 17) = true → okI x.a ∧ (↑([(99 : UInt8), 97, (115 :
 UInt8), 116, (32 : UInt8)].length + (decS x.a).length) : Int) ≤ 9223372036854775807 ∧ [(99 : UInt8), 97, (115 : UInt8), 116, (32 : UInt8)] ++ decS x.a = lineR x ∧ true = mayB x ∧ True) ∧ ((x.op == 17) = false → ((x.op ==
 18) = true → okI x.a ∧ (↑([(105 : UInt8), 102, (32 : UInt8)].length + (decS x.a).length) : Int) ≤ 9223372036854775807 ∧ [(105 : UInt8), 102, (32 : UInt8)] ++ decS x.a = lineR x ∧ true = mayB x ∧ True) ∧ ((x.op == 18) =
 false → ((x.op == 19) = true → [(101 : UInt8), 108, (115 : UInt8), 101] = lineR x ∧ true = mayB x ∧ True) ∧ ((x.op == 19) = false → ((x.op == 20) = true → [(101 : UInt8), 110, (100 : UInt8)] = lineR x ∧ true = mayB x ∧
 True) ∧ ((x.op == 20) = false → ((x.op == 21) = true → okI x.a ∧ (↑([(108 : UInt8), (111 : UInt8), (111 : UInt8), (112 : UInt8), (32 : UInt8)].length + (decS x.a).length) : Int) ≤ 9223372036854775807 ∧ [(108 : UInt8),
 (111 : UInt8), (111 : UInt8), (112 : UInt8), (32 : UInt8)] ++ decS x.a = lineR x ∧ true = mayB x ∧ True) ∧ ((x.op == 21) = false → [(98 : UInt8), 97, (99 : UInt8), (107 : UInt8)] = lineR x ∧ true = mayB x ∧
 True))))))))))))))))))))))) := by kernel_rfl
theorem rn_e (Z : Xs) (x : Ins) : Go.Sy.Tree.holds (entryX (F Z) (lookC l10) 400 Tryd.f10 b10 ⟨[], .tup [.s (lineR x), .b (mayB x)], []⟩ [.agg (enc2 x)]) = ( mayD.pre (Ins.mk x.op x.a x.b x.c x.n, ()) ∧ ((!mayB (Ins.mk
 x.op x.a x.b x.c x.n)) = true → [] = lineR x ∧ false = mayB x ∧ True) ∧ ((!mayB (Ins.mk x.op x.a x.b x.c x.n)) = false → fdD.pre (x.op, ()) ∧ ((0 : Int) ≤ x.op ∧ x.op < 23) ∧ ((x.op == 13) = true → ((x.b == 1) = true →
 (decide (shA x.op > 0) = true → decD.pre (x.a, ()) ∧ (↑([(32 : UInt8)].length + (decS x.a).length) : Int) ≤ 9223372036854775807 ∧ (↑([(114 : UInt8), 101, 97, 100].length + ([(32 : UInt8)] ++ decS x.a).length) : Int) ≤
 9223372036854775807 ∧ (decide (shC x.op > 0) = true → decD.pre (x.c, ()) ∧ (↑([(32 : UInt8)].length + (decS x.c).length) : Int) ≤ 9223372036854775807 ∧ (↑(([(114 : UInt8), 101, 97, 100] ++ ([(32 : UInt8)] ++ decS
 x.a)).length + ([(32 : UInt8)] ++ decS x.c).length) : Int) ≤ 9223372036854775807 ∧ ((shN x.op == 5) = true → decD.pre (x.n, ()) ∧ (↑([(32 : UInt8)].length + (decS x.n).length) : Int) ≤ 9223372036854775807 ∧ (↑(([(114 :
 UInt8), 101, 97, 100] ++ ([(32 : UInt8)] ++ decS x.a) ++ ([(32 : UInt8)] ++ decS x.c)).length + ([(32 : UInt8)] ++ decS x.n).length) : Int) ≤ 9223372036854775807 ∧ [(114 : UInt8), 101, 97, 100] ++ ([(32 : UInt8)] ++ decS
 x.a) ++ ([(32 : UInt8)] ++ decS x.c) ++ ([(32 : UInt8)] ++ decS x.n) = lineR x ∧ true = mayB x ∧ True) ∧ ((shN x.op == 5) = false → [(114 : UInt8), 101, 97, 100] ++ ([(32 : UInt8)] ++ decS x.a) ++ ([(32 : UInt8)] ++ decS
 x.c) = lineR x ∧ true = mayB x ∧ True)) ∧ (decide (shC x.op > 0) = false → ((shN x.op == 5) = true → decD.pre (x.n, ()) ∧ (↑([(32 : UInt8)].length + (decS x.n).length) : Int) ≤ 9223372036854775807 ∧ (↑(([(114 : UInt8),
 101, 97, 100] ++ ([(32 : UInt8)] ++ decS x.a)).length + ([(32 : UInt8)] ++ decS x.n).length) : Int) ≤ 9223372036854775807 ∧ [(114 : UInt8), 101, 97, 100] ++ ([(32 : UInt8)] ++ decS x.a) ++ ([(32 : UInt8)] ++ decS x.n) =
 lineR x ∧ true = mayB x ∧ True) ∧ ((shN x.op == 5) = false → [(114 : UInt8), 101, 97, 100] ++ ([(32 : UInt8)] ++ decS x.a) = lineR x ∧ true = mayB x ∧ True))) ∧ (decide (shA x.op > 0) = false → (decide (shC x.op > 0) =
 true → decD.pre (x.c, ()) ∧ (↑([(32 : UInt8)].length + (decS x.c).length) : Int) ≤ 9223372036854775807 ∧ (↑([(114 : UInt8), 101, 97, 100].length + ([(32 : UInt8)] ++ decS x.c).length) : Int) ≤ 9223372036854775807 ∧ ((shN
 x.op == 5) = true → decD.pre (x.n, ()) ∧ (↑([(32 : UInt8)].length + (decS x.n).length) : Int) ≤ 9223372036854775807 ∧ (↑(([(114 : UInt8), 101, 97, 100] ++ ([(32 : UInt8)] ++ decS x.c)).length + ([(32 : UInt8)] ++ decS
 x.n).length) : Int) ≤ 9223372036854775807 ∧ [(114 : UInt8), 101, 97, 100] ++ ([(32 : UInt8)] ++ decS x.c) ++ ([(32 : UInt8)] ++ decS x.n) = lineR x ∧ true = mayB x ∧ True) ∧ ((shN x.op == 5) = false → [(114 : UInt8),
 101, 97, 100] ++ ([(32 : UInt8)] ++ decS x.c) = lineR x ∧ true = mayB x ∧ True)) ∧ (decide (shC x.op > 0) = false → ((shN x.op == 5) = true → decD.pre (x.n, ()) ∧ (↑([(32 : UInt8)].length + (decS x.n).length) : Int) ≤
 9223372036854775807 ∧ (↑([(114 : UInt8), 101, 97, 100].length + ([(32 : UInt8)] ++ decS x.n).length) : Int) ≤ 9223372036854775807 ∧ [(114 : UInt8), 101, 97, 100] ++ ([(32 : UInt8)] ++ decS x.n) = lineR x ∧ true = mayB x
 ∧ True) ∧ ((shN x.op == 5) = false → [(114 : UInt8), 101, 97, 100] = lineR x ∧ true = mayB x ∧ True)))) ∧ ((x.b == 1) = false → (decide (shA x.op > 0) = true → decD.pre (x.a, ()) ∧ (↑([(32 : UInt8)].length + (decS
 x.a).length) : Int) ≤ 9223372036854775807 ∧ (↑((at3 wordsL x.op).length + ([(32 : UInt8)] ++ decS x.a).length) : Int) ≤ 9223372036854775807 ∧ (decide (shC x.op > 0) = true → decD.pre (x.c, ()) ∧ (↑([(32 : UInt8)].length
 + (decS x.c).length) : Int) ≤ 9223372036854775807 ∧ (↑((at3 wordsL x.op ++ ([(32 : UInt8)] ++ decS x.a)).length + ([(32 : UInt8)] ++ decS x.c).length) : Int) ≤ 9223372036854775807 ∧ ((shN x.op == 5) = true → decD.pre
 (x.n, ()) ∧ (↑([(32 : UInt8)].length + (decS x.n).length) : Int) ≤ 9223372036854775807 ∧ (↑((at3 wordsL x.op ++ ([(32 : UInt8)] ++ decS x.a) ++ ([(32 : UInt8)] ++ decS x.c)).length + ([(32 : UInt8)] ++ decS x.n).length)
 : Int) ≤ 9223372036854775807 ∧ at3 wordsL x.op ++ ([(32 : UInt8)] ++ decS x.a) ++ ([(32 : UInt8)] ++ decS x.c) ++ ([(32 : UInt8)] ++ decS x.n) = lineR x ∧ true = mayB x ∧ True) ∧ ((shN x.op == 5) = false → at3 wordsL
 x.op ++ ([(32 : UInt8)] ++ decS x.a) ++ ([(32 : UInt8)] ++ decS x.c) = lineR x ∧ true = mayB x ∧ True)) ∧ (decide (shC x.op > 0) = false → ((shN x.op == 5) = true → decD.pre (x.n, ()) ∧ (↑([(32 : UInt8)].length + (decS
 x.n).length) : Int) ≤ 9223372036854775807 ∧ (↑((at3 wordsL x.op ++ ([(32 : UInt8)] ++ decS x.a)).length + ([(32 : UInt8)] ++ decS x.n).length) : Int) ≤ 9223372036854775807 ∧ at3 wordsL x.op ++ ([(32 : UInt8)] ++ decS
 x.a) ++ ([(32 : UInt8)] ++ decS x.n) = lineR x ∧ true = mayB x ∧ True) ∧ ((shN x.op == 5) = false → at3 wordsL x.op ++ ([(32 : UInt8)] ++ decS x.a) = lineR x ∧ true = mayB x ∧ True))) ∧ (decide (shA x.op > 0) = false →
 (decide (shC x.op > 0) = true → decD.pre (x.c, ()) ∧ (↑([(32 : UInt8)].length + (decS x.c).length) : Int) ≤ 9223372036854775807 ∧ (↑((at3 wordsL x.op).length + ([(32 : UInt8)] ++ decS x.c).length) : Int) ≤
 9223372036854775807 ∧ ((shN x.op == 5) = true → decD.pre (x.n, ()) ∧ (↑([(32 : UInt8)].length + (decS x.n).length) : Int) ≤ 9223372036854775807 ∧ (↑((at3 wordsL x.op ++ ([(32 : UInt8)] ++ decS x.c)).length + ([(32 :
 UInt8)] ++ decS x.n).length) : Int) ≤ 9223372036854775807 ∧ at3 wordsL x.op ++ ([(32 : UInt8)] ++ decS x.c) ++ ([(32 : UInt8)] ++ decS x.n) = lineR x ∧ true = mayB x ∧ True) ∧ ((shN x.op == 5) = false → at3 wordsL x.op
 ++ ([(32 : UInt8)] ++ decS x.c) = lineR x ∧ true = mayB x ∧ True)) ∧ (decide (shC x.op > 0) = false → ((shN x.op == 5) = true → decD.pre (x.n, ()) ∧ (↑([(32 : UInt8)].length + (decS x.n).length) : Int) ≤
 9223372036854775807 ∧ (↑((at3 wordsL x.op).length + ([(32 : UInt8)] ++ decS x.n).length) : Int) ≤ 9223372036854775807 ∧ at3 wordsL x.op ++ ([(32 : UInt8)] ++ decS x.n) = lineR x ∧ true = mayB x ∧ True) ∧ ((shN x.op == 5)
 = false → at3 wordsL x.op = lineR x ∧ true = mayB x ∧ True))))) ∧ ((x.op == 13) = false → (decide (shA x.op > 0) = true → decD.pre (x.a, ()) ∧ (↑([(32 : UInt8)].length + (decS x.a).length) : Int) ≤ 9223372036854775807 ∧
 (↑((at3 wordsL x.op).length + ([(32 : UInt8)] ++ decS x.a).length) : Int) ≤ 9223372036854775807 ∧ (decide (shB x.op > 0) = true → decD.pre (x.b, ()) ∧ (↑([(32 : UInt8)].length + (decS x.b).length) : Int) ≤
 9223372036854775807 ∧ (↑((at3 wordsL x.op ++ ([(32 : UInt8)] ++ decS x.a)).length + ([(32 : UInt8)] ++ decS x.b).length) : Int) ≤ 9223372036854775807 ∧ (decide (shC x.op > 0) = true → decD.pre (x.c, ()) ∧ (↑([(32 :
 UInt8)].length + (decS x.c).length) : Int) ≤ 9223372036854775807 ∧ (↑((at3 wordsL x.op ++ ([(32 : UInt8)] ++ decS x.a) ++ ([(32 : UInt8)] ++ decS x.b)).length + ([(32 : UInt8)] ++ decS x.c).length) : Int) ≤
 9223372036854775807 ∧ ((shN x.op == 5) = true → decD.pre (x.n, ()) ∧ (↑([(32 : UInt8)].length + (decS x.n).length) : Int) ≤ 9223372036854775807 ∧ (↑((at3 wordsL x.op ++ ([(32 : UInt8)] ++ decS x.a) ++ ([(32 : UInt8)] ++
 decS x.b) ++ ([(32 : UInt8)] ++ decS x.c)).length + ([(32 : UInt8)] ++ decS x.n).length) : Int) ≤ 9223372036854775807 ∧ at3 wordsL x.op ++ ([(32 : UInt8)] ++ decS x.a) ++ ([(32 : UInt8)] ++ decS x.b) ++ ([(32 : UInt8)]
 ++ decS x.c) ++ ([(32 : UInt8)] ++ decS x.n) = lineR x ∧ true = mayB x ∧ True) ∧ ((shN x.op == 5) = false → at3 wordsL x.op ++ ([(32 : UInt8)] ++ decS x.a) ++ ([(32 : UInt8)] ++ decS x.b) ++ ([(32 : UInt8)] ++ decS x.c)
 = lineR x ∧ true = mayB x ∧ True)) ∧ (decide (shC x.op > 0) = false → ((shN x.op == 5) = true → decD.pre (x.n, ()) ∧ (↑([(32 : UInt8)].length + (decS x.n).length) : Int) ≤ 9223372036854775807 ∧ (↑((at3 wordsL x.op ++
 ([(32 : UInt8)] ++ decS x.a) ++ ([(32 : UInt8)] ++ decS x.b)).length + ([(32 : UInt8)] ++ decS x.n).length) : Int) ≤ 9223372036854775807 ∧ at3 wordsL x.op ++ ([(32 : UInt8)] ++ decS x.a) ++ ([(32 : UInt8)] ++ decS x.b)
 ++ ([(32 : UInt8)] ++ decS x.n) = lineR x ∧ true = mayB x ∧ True) ∧ ((shN x.op == 5) = false → at3 wordsL x.op ++ ([(32 : UInt8)] ++ decS x.a) ++ ([(32 : UInt8)] ++ decS x.b) = lineR x ∧ true = mayB x ∧ True))) ∧ (decide
 (shB x.op > 0) = false → (decide (shC x.op > 0) = true → decD.pre (x.c, ()) ∧ (↑([(32 : UInt8)].length + (decS x.c).length) : Int) ≤ 9223372036854775807 ∧ (↑((at3 wordsL x.op ++ ([(32 : UInt8)] ++ decS x.a)).length +
 ([(32 : UInt8)] ++ decS x.c).length) : Int) ≤ 9223372036854775807 ∧ ((shN x.op == 5) = true → decD.pre (x.n, ()) ∧ (↑([(32 : UInt8)].length + (decS x.n).length) : Int) ≤ 9223372036854775807 ∧ (↑((at3 wordsL x.op ++ ([(32
 : UInt8)] ++ decS x.a) ++ ([(32 : UInt8)] ++ decS x.c)).length + ([(32 : UInt8)] ++ decS x.n).length) : Int) ≤ 9223372036854775807 ∧ at3 wordsL x.op ++ ([(32 : UInt8)] ++ decS x.a) ++ ([(32 : UInt8)] ++ decS x.c) ++
 ([(32 : UInt8)] ++ decS x.n) = lineR x ∧ true = mayB x ∧ True) ∧ ((shN x.op == 5) = false → at3 wordsL x.op ++ ([(32 : UInt8)] ++ decS x.a) ++ ([(32 : UInt8)] ++ decS x.c) = lineR x ∧ true = mayB x ∧ True)) ∧ (decide
 (shC x.op > 0) = false → ((shN x.op == 5) = true → decD.pre (x.n, ()) ∧ (↑([(32 : UInt8)].length + (decS x.n).length) : Int) ≤ 9223372036854775807 ∧ (↑((at3 wordsL x.op ++ ([(32 : UInt8)] ++ decS x.a)).length + ([(32 :
 UInt8)] ++ decS x.n).length) : Int) ≤ 9223372036854775807 ∧ at3 wordsL x.op ++ ([(32 : UInt8)] ++ decS x.a) ++ ([(32 : UInt8)] ++ decS x.n) = lineR x ∧ true = mayB x ∧ True) ∧ ((shN x.op == 5) = false → at3 wordsL x.op
 ++ ([(32 : UInt8)] ++ decS x.a) = lineR x ∧ true = mayB x ∧ True)))) ∧ (decide (shA x.op > 0) = false → (decide (shB x.op > 0) = true → decD.pre (x.b, ()) ∧ (↑([(32 : UInt8)].length + (decS x.b).length) : Int) ≤
 9223372036854775807 ∧ (↑((at3 wordsL x.op).length + ([(32 : UInt8)] ++ decS x.b).length) : Int) ≤ 9223372036854775807 ∧ (decide (shC x.op > 0) = true → decD.pre (x.c, ()) ∧ (↑([(32 : UInt8)].length + (decS x.c).length) :
 Int) ≤ 9223372036854775807 ∧ (↑((at3 wordsL x.op ++ ([(32 : UInt8)] ++ decS x.b)).length + ([(32 : UInt8)] ++ decS x.c).length) : Int) ≤ 9223372036854775807 ∧ ((shN x.op == 5) = true → decD.pre (x.n, ()) ∧ (↑([(32 :
 UInt8)].length + (decS x.n).length) : Int) ≤ 9223372036854775807 ∧ (↑((at3 wordsL x.op ++ ([(32 : UInt8)] ++ decS x.b) ++ ([(32 : UInt8)] ++ decS x.c)).length + ([(32 : UInt8)] ++ decS x.n).length) : Int) ≤
 9223372036854775807 ∧ at3 wordsL x.op ++ ([(32 : UInt8)] ++ decS x.b) ++ ([(32 : UInt8)] ++ decS x.c) ++ ([(32 : UInt8)] ++ decS x.n) = lineR x ∧ true = mayB x ∧ True) ∧ ((shN x.op == 5) = false → at3 wordsL x.op ++
 ([(32 : UInt8)] ++ decS x.b) ++ ([(32 : UInt8)] ++ decS x.c) = lineR x ∧ true = mayB x ∧ True)) ∧ (decide (shC x.op > 0) = false → ((shN x.op == 5) = true → decD.pre (x.n, ()) ∧ (↑([(32 : UInt8)].length + (decS
 x.n).length) : Int) ≤ 9223372036854775807 ∧ (↑((at3 wordsL x.op ++ ([(32 : UInt8)] ++ decS x.b)).length + ([(32 : UInt8)] ++ decS x.n).length) : Int) ≤ 9223372036854775807 ∧ at3 wordsL x.op ++ ([(32 : UInt8)] ++ decS
 x.b) ++ ([(32 : UInt8)] ++ decS x.n) = lineR x ∧ true = mayB x ∧ True) ∧ ((shN x.op == 5) = false → at3 wordsL x.op ++ ([(32 : UInt8)] ++ decS x.b) = lineR x ∧ true = mayB x ∧ True))) ∧ (decide (shB x.op > 0) = false →
 (decide (shC x.op > 0) = true → decD.pre (x.c, ()) ∧ (↑([(32 : UInt8)].length + (decS x.c).length) : Int) ≤ 9223372036854775807 ∧ (↑((at3 wordsL x.op).length + ([(32 : UInt8)] ++ decS x.c).length) : Int) ≤
 9223372036854775807 ∧ ((shN x.op == 5) = true → decD.pre (x.n, ()) ∧ (↑([(32 : UInt8)].length + (decS x.n).length) : Int) ≤ 9223372036854775807 ∧ (↑((at3 wordsL x.op ++ ([(32 : UInt8)] ++ decS x.c)).length + ([(32 :
 UInt8)] ++ decS x.n).length) : Int) ≤ 9223372036854775807 ∧ at3 wordsL x.op ++ ([(32 : UInt8)] ++ decS x.c) ++ ([(32 : UInt8)] ++ decS x.n) = lineR x ∧ true = mayB x ∧ True) ∧ ((shN x.op == 5) = false → at3 wordsL x.op
 ++ ([(32 : UInt8)] ++ decS x.c) = lineR x ∧ true = mayB x ∧ True)) ∧ (decide (shC x.op > 0) = false → ((shN x.op == 5) = true → decD.pre (x.n, ()) ∧ (↑([(32 : UInt8)].length + (decS x.n).length) : Int) ≤
 9223372036854775807 ∧ (↑((at3 wordsL x.op).length + ([(32 : UInt8)] ++ decS x.n).length) : Int) ≤ 9223372036854775807 ∧ at3 wordsL x.op ++ ([(32 : UInt8)] ++ decS x.n) = lineR x ∧ true = mayB x ∧ True) ∧ ((shN x.op == 5)
 = false → at3 wordsL x.op = lineR x ∧ true = mayB x ∧ True))))))) := by kernel_rfl

theorem fitB_ok {k v : Int} (h : fitB k v = true) : okI v := by
  simp only [fitB, Bool.and_eq_true, decide_eq_true_eq] at h
  have : mostK k ≤ 3 := by
    unfold mostK
    repeat' split
    all_goals decide
  exact ⟨by omega, by omega⟩
theorem may_parts {x : Ins} (h : mayB x = true) : 1 ≤ x.op ∧ x.op ≤ 22 ∧ okI x.a ∧ okI x.b ∧ okI x.c := by
  simp only [mayB, Bool.and_eq_true, decide_eq_true_eq] at h
  exact ⟨h.1, h.2.1, fitB_ok h.2.2.1, fitB_ok h.2.2.2.1, fitB_ok h.2.2.2.2.1⟩
theorem line_1 (a b c n : Int) : lineS ⟨1, a, b, c, n⟩ = [115, 101, 116, 32] ++ decS a ++ [32] ++ decS n := by
  simp only [lineS, wordB, show at3 wordsL 1 = [115, 101, 116] from rfl, show shA 1 = 1 from rfl, show shB 1 = 0 from rfl, show shC 1 = 0 from rfl, show shN 1 = 5 from rfl]
  simp
theorem line_2 (a b c n : Int) : lineS ⟨2, a, b, c, n⟩ = [97, 100, 100, 32] ++ decS a ++ [32] ++ decS b ++ [32] ++ decS c := by
  simp only [lineS, wordB, show at3 wordsL 2 = [97, 100, 100] from rfl, show shA 2 = 1 from rfl, show shB 2 = 1 from rfl, show shC 2 = 1 from rfl, show shN 2 = 0 from rfl]
  simp
theorem line_3 (a b c n : Int) : lineS ⟨3, a, b, c, n⟩ = [115, 117, 98, 32] ++ decS a ++ [32] ++ decS b ++ [32] ++ decS c := by
  simp only [lineS, wordB, show at3 wordsL 3 = [115, 117, 98] from rfl, show shA 3 = 1 from rfl, show shB 3 = 1 from rfl, show shC 3 = 1 from rfl, show shN 3 = 0 from rfl]
  simp
theorem line_4 (a b c n : Int) : lineS ⟨4, a, b, c, n⟩ = [109, 117, 108, 32] ++ decS a ++ [32] ++ decS b ++ [32] ++ decS c := by
  simp only [lineS, wordB, show at3 wordsL 4 = [109, 117, 108] from rfl, show shA 4 = 1 from rfl, show shB 4 = 1 from rfl, show shC 4 = 1 from rfl, show shN 4 = 0 from rfl]
  simp
theorem line_5 (a b c n : Int) : lineS ⟨5, a, b, c, n⟩ = [120, 111, 114, 32] ++ decS a ++ [32] ++ decS b ++ [32] ++ decS c := by
  simp only [lineS, wordB, show at3 wordsL 5 = [120, 111, 114] from rfl, show shA 5 = 1 from rfl, show shB 5 = 1 from rfl, show shC 5 = 1 from rfl, show shN 5 = 0 from rfl]
  simp
theorem line_6 (a b c n : Int) : lineS ⟨6, a, b, c, n⟩ = [108, 101, 115, 115, 32] ++ decS a ++ [32] ++ decS b ++ [32] ++ decS c := by
  simp only [lineS, wordB, show at3 wordsL 6 = [108, 101, 115, 115] from rfl, show shA 6 = 1 from rfl, show shB 6 = 1 from rfl, show shC 6 = 1 from rfl, show shN 6 = 0 from rfl]
  simp
theorem line_7 (a b c n : Int) : lineS ⟨7, a, b, c, n⟩ = [115, 97, 109, 101, 32] ++ decS a ++ [32] ++ decS b ++ [32] ++ decS c := by
  simp only [lineS, wordB, show at3 wordsL 7 = [115, 97, 109, 101] from rfl, show shA 7 = 1 from rfl, show shB 7 = 1 from rfl, show shC 7 = 1 from rfl, show shN 7 = 0 from rfl]
  simp
theorem line_8 (a b c n : Int) : lineS ⟨8, a, b, c, n⟩ = [108, 111, 97, 100, 32] ++ decS a ++ [32] ++ decS b ++ [32] ++ decS n := by
  simp only [lineS, wordB, show at3 wordsL 8 = [108, 111, 97, 100] from rfl, show shA 8 = 1 from rfl, show shB 8 = 1 from rfl, show shC 8 = 0 from rfl, show shN 8 = 5 from rfl]
  simp
theorem line_9 (a b c n : Int) : lineS ⟨9, a, b, c, n⟩ = [115, 116, 111, 114, 101, 32] ++ decS a ++ [32] ++ decS b ++ [32] ++ decS n := by
  simp only [lineS, wordB, show at3 wordsL 9 = [115, 116, 111, 114, 101] from rfl, show shA 9 = 1 from rfl, show shB 9 = 1 from rfl, show shC 9 = 0 from rfl, show shN 9 = 5 from rfl]
  simp
theorem line_10 (a b c n : Int) : lineS ⟨10, a, b, c, n⟩ = [116, 97, 107, 101, 32] ++ decS b ++ [32] ++ decS n := by
  simp only [lineS, wordB, show at3 wordsL 10 = [116, 97, 107, 101] from rfl, show shA 10 = 0 from rfl, show shB 10 = 1 from rfl, show shC 10 = 0 from rfl, show shN 10 = 5 from rfl]
  simp
theorem line_11 (a b c n : Int) : lineS ⟨11, a, b, c, n⟩ = [103, 105, 118, 101, 32] ++ decS b ++ [32] ++ decS n := by
  simp only [lineS, wordB, show at3 wordsL 11 = [103, 105, 118, 101] from rfl, show shA 11 = 0 from rfl, show shB 11 = 1 from rfl, show shC 11 = 0 from rfl, show shN 11 = 5 from rfl]
  simp
theorem line_12 (a b c n : Int) : lineS ⟨12, a, b, c, n⟩ = [108, 111, 103, 32] ++ decS a := by
  simp only [lineS, wordB, show at3 wordsL 12 = [108, 111, 103] from rfl, show shA 12 = 1 from rfl, show shB 12 = 0 from rfl, show shC 12 = 0 from rfl, show shN 12 = 0 from rfl]
  simp
theorem line_13a (a c n : Int) : lineS ⟨13, a, 1, c, n⟩ = [114, 101, 97, 100, 32] ++ decS a := by
  simp only [lineS, wordB, show at3 wordsL 13 = [101, 110, 116, 101, 114] from rfl, show shA 13 = 2 from rfl, show shB 13 = 4 from rfl, show shC 13 = 0 from rfl, show shN 13 = 0 from rfl]
  simp
theorem line_13b (a b c n : Int) (h : ¬ b = 1) : lineS ⟨13, a, b, c, n⟩ = [101, 110, 116, 101, 114, 32] ++ decS a := by
  simp only [lineS, wordB, show at3 wordsL 13 = [101, 110, 116, 101, 114] from rfl, show shA 13 = 2 from rfl, show shB 13 = 4 from rfl, show shC 13 = 0 from rfl, show shN 13 = 0 from rfl]
  simp [h]
theorem line_14 (a b c n : Int) : lineS ⟨14, a, b, c, n⟩ = [108, 101, 97, 118, 101] := by
  simp only [lineS, wordB, show at3 wordsL 14 = [108, 101, 97, 118, 101] from rfl, show shA 14 = 0 from rfl, show shB 14 = 0 from rfl, show shC 14 = 0 from rfl, show shN 14 = 0 from rfl]
  simp
theorem line_15 (a b c n : Int) : lineS ⟨15, a, b, c, n⟩ = [119, 97, 105, 116, 32] ++ decS a := by
  simp only [lineS, wordB, show at3 wordsL 15 = [119, 97, 105, 116] from rfl, show shA 15 = 3 from rfl, show shB 15 = 0 from rfl, show shC 15 = 0 from rfl, show shN 15 = 0 from rfl]
  simp
theorem line_16 (a b c n : Int) : lineS ⟨16, a, b, c, n⟩ = [115, 105, 103, 110, 97, 108, 32] ++ decS a := by
  simp only [lineS, wordB, show at3 wordsL 16 = [115, 105, 103, 110, 97, 108] from rfl, show shA 16 = 3 from rfl, show shB 16 = 0 from rfl, show shC 16 = 0 from rfl, show shN 16 = 0 from rfl]
  simp
theorem line_17 (a b c n : Int) : lineS ⟨17, a, b, c, n⟩ = [99, 97, 115, 116, 32] ++ decS a := by
  simp only [lineS, wordB, show at3 wordsL 17 = [99, 97, 115, 116] from rfl, show shA 17 = 3 from rfl, show shB 17 = 0 from rfl, show shC 17 = 0 from rfl, show shN 17 = 0 from rfl]
  simp
theorem line_18 (a b c n : Int) : lineS ⟨18, a, b, c, n⟩ = [105, 102, 32] ++ decS a := by
  simp only [lineS, wordB, show at3 wordsL 18 = [105, 102] from rfl, show shA 18 = 1 from rfl, show shB 18 = 0 from rfl, show shC 18 = 0 from rfl, show shN 18 = 0 from rfl]
  simp
theorem line_19 (a b c n : Int) : lineS ⟨19, a, b, c, n⟩ = [101, 108, 115, 101] := by
  simp only [lineS, wordB, show at3 wordsL 19 = [101, 108, 115, 101] from rfl, show shA 19 = 0 from rfl, show shB 19 = 0 from rfl, show shC 19 = 0 from rfl, show shN 19 = 0 from rfl]
  simp
theorem line_20 (a b c n : Int) : lineS ⟨20, a, b, c, n⟩ = [101, 110, 100] := by
  simp only [lineS, wordB, show at3 wordsL 20 = [101, 110, 100] from rfl, show shA 20 = 0 from rfl, show shB 20 = 0 from rfl, show shC 20 = 0 from rfl, show shN 20 = 0 from rfl]
  simp
theorem line_21 (a b c n : Int) : lineS ⟨21, a, b, c, n⟩ = [108, 111, 111, 112, 32] ++ decS a := by
  simp only [lineS, wordB, show at3 wordsL 21 = [108, 111, 111, 112] from rfl, show shA 21 = 1 from rfl, show shB 21 = 0 from rfl, show shC 21 = 0 from rfl, show shN 21 = 0 from rfl]
  simp
theorem line_22 (a b c n : Int) : lineS ⟨22, a, b, c, n⟩ = [98, 97, 99, 107] := by
  simp only [lineS, wordB, show at3 wordsL 22 = [98, 97, 99, 107] from rfl, show shA 22 = 0 from rfl, show shB 22 = 0 from rfl, show shC 22 = 0 from rfl, show shN 22 = 0 from rfl]
  simp
theorem ln_e_ok (x : Ins) (hn : okI x.n) : Paid (entryX (F Z) (lookC l9) 400 Tryd.f9 b9 ⟨[], .tup [.s (lineR x), .b (mayB x)], []⟩ [.agg (enc2 x)]) := by
  refine ⟨?_⟩
  rw [ln_e]
  obtain ⟨op, a, b, c, n⟩ := x
  simp only at hn
  have la := decS_len a
  have lb := decS_len b
  have lc := decS_len c
  have ln := decS_len n
  refine ⟨trivial, fun h => ?_, fun h => ?_⟩
  · have hm : mayB ⟨op, a, b, c, n⟩ = false := by simpa using h
    rw [lineR, hm]
    exact ⟨rfl, rfl, trivial⟩
  have hm : mayB ⟨op, a, b, c, n⟩ = true := by simpa using h
  obtain ⟨h1, h22, oa, ob, oc⟩ := may_parts hm
  have hL : lineR ⟨op, a, b, c, n⟩ = lineS ⟨op, a, b, c, n⟩ := if_pos hm
  simp only at h1 h22 oa ob oc
  rw [hL, hm]
  clear h hm hL
  refine ⟨fun e => ?_, fun n1 => ⟨fun e => ?_, fun n2 => ⟨fun e => ?_, fun n3 => ⟨fun e => ?_, fun n4 => ⟨fun e => ?_, fun n5 => ⟨fun e => ?_, fun n6 => ⟨fun e => ?_, fun n7 => ⟨fun e => ?_, fun n8 => ⟨fun e => ?_, fun n9 => ⟨fun e => ?_, fun n10 => ⟨fun e => ?_, fun n11 => ⟨fun e => ?_, fun n12 => ⟨fun e => ⟨fun g => ?_, fun g => ?_⟩, fun n13 => ⟨fun e => ?_, fun n14 => ⟨fun e => ?_, fun n15 => ⟨fun e => ?_, fun n16 => ⟨fun e => ?_, fun n17 => ⟨fun e => ?_, fun n18 => ⟨fun e => ?_, fun n19 => ⟨fun e => ?_, fun n20 => ⟨fun e => ?_, fun n21 => ?_⟩⟩⟩⟩⟩⟩⟩⟩⟩⟩⟩⟩⟩⟩⟩⟩⟩⟩⟩⟩⟩
  · obtain rfl := eq_of_beq e
    rw [line_1]
    repeat' (first | exact trivial | with_reducible exact oa | with_reducible exact ob | with_reducible exact oc | with_reducible exact hn | with_reducible exact rfl | apply And.intro)
    all_goals (simp only [List.length_append, List.length_cons, List.length_nil]; omega)
  · obtain rfl := eq_of_beq e
    rw [line_2]
    repeat' (first | exact trivial | with_reducible exact oa | with_reducible exact ob | with_reducible exact oc | with_reducible exact hn | with_reducible exact rfl | apply And.intro)
    all_goals (simp only [List.length_append, List.length_cons, List.length_nil]; omega)
  · obtain rfl := eq_of_beq e
    rw [line_3]
    repeat' (first | exact trivial | with_reducible exact oa | with_reducible exact ob | with_reducible exact oc | with_reducible exact hn | with_reducible exact rfl | apply And.intro)
    all_goals (simp only [List.length_append, List.length_cons, List.length_nil]; omega)
  · obtain rfl := eq_of_beq e
    rw [line_4]
    repeat' (first | exact trivial | with_reducible exact oa | with_reducible exact ob | with_reducible exact oc | with_reducible exact hn | with_reducible exact rfl | apply And.intro)
    all_goals (simp only [List.length_append, List.length_cons, List.length_nil]; omega)
  · obtain rfl := eq_of_beq e
    rw [line_5]
    repeat' (first | exact trivial | with_reducible exact oa | with_reducible exact ob | with_reducible exact oc | with_reducible exact hn | with_reducible exact rfl | apply And.intro)
    all_goals (simp only [List.length_append, List.length_cons, List.length_nil]; omega)
  · obtain rfl := eq_of_beq e
    rw [line_6]
    repeat' (first | exact trivial | with_reducible exact oa | with_reducible exact ob | with_reducible exact oc | with_reducible exact hn | with_reducible exact rfl | apply And.intro)
    all_goals (simp only [List.length_append, List.length_cons, List.length_nil]; omega)
  · obtain rfl := eq_of_beq e
    rw [line_7]
    repeat' (first | exact trivial | with_reducible exact oa | with_reducible exact ob | with_reducible exact oc | with_reducible exact hn | with_reducible exact rfl | apply And.intro)
    all_goals (simp only [List.length_append, List.length_cons, List.length_nil]; omega)
  · obtain rfl := eq_of_beq e
    rw [line_8]
    repeat' (first | exact trivial | with_reducible exact oa | with_reducible exact ob | with_reducible exact oc | with_reducible exact hn | with_reducible exact rfl | apply And.intro)
    all_goals (simp only [List.length_append, List.length_cons, List.length_nil]; omega)
  · obtain rfl := eq_of_beq e
    rw [line_9]
    repeat' (first | exact trivial | with_reducible exact oa | with_reducible exact ob | with_reducible exact oc | with_reducible exact hn | with_reducible exact rfl | apply And.intro)
    all_goals (simp only [List.length_append, List.length_cons, List.length_nil]; omega)
  · obtain rfl := eq_of_beq e
    rw [line_10]
    repeat' (first | exact trivial | with_reducible exact oa | with_reducible exact ob | with_reducible exact oc | with_reducible exact hn | with_reducible exact rfl | apply And.intro)
    all_goals (simp only [List.length_append, List.length_cons, List.length_nil]; omega)
  · obtain rfl := eq_of_beq e
    rw [line_11]
    repeat' (first | exact trivial | with_reducible exact oa | with_reducible exact ob | with_reducible exact oc | with_reducible exact hn | with_reducible exact rfl | apply And.intro)
    all_goals (simp only [List.length_append, List.length_cons, List.length_nil]; omega)
  · obtain rfl := eq_of_beq e
    rw [line_12]
    repeat' (first | exact trivial | with_reducible exact oa | with_reducible exact ob | with_reducible exact oc | with_reducible exact hn | with_reducible exact rfl | apply And.intro)
    all_goals (simp only [List.length_append, List.length_cons, List.length_nil]; omega)
  · obtain rfl := eq_of_beq e
    obtain rfl := eq_of_beq g
    rw [line_13a]
    repeat' (first | exact trivial | with_reducible exact oa | with_reducible exact ob | with_reducible exact oc | with_reducible exact hn | with_reducible exact rfl | apply And.intro)
    all_goals (simp only [List.length_append, List.length_cons, List.length_nil]; omega)
  · obtain rfl := eq_of_beq e
    have g := ne_of_beq_false g
    rw [line_13b _ _ _ _ g]
    repeat' (first | exact trivial | with_reducible exact oa | with_reducible exact ob | with_reducible exact oc | with_reducible exact hn | with_reducible exact rfl | apply And.intro)
    all_goals (simp only [List.length_append, List.length_cons, List.length_nil]; omega)
  · obtain rfl := eq_of_beq e
    rw [line_14]
    repeat' (first | exact trivial | with_reducible exact oa | with_reducible exact ob | with_reducible exact oc | with_reducible exact hn | with_reducible exact rfl | apply And.intro)
    all_goals (simp only [List.length_append, List.length_cons, List.length_nil]; omega)
  · obtain rfl := eq_of_beq e
    rw [line_15]
    repeat' (first | exact trivial | with_reducible exact oa | with_reducible exact ob | with_reducible exact oc | with_reducible exact hn | with_reducible exact rfl | apply And.intro)
    all_goals (simp only [List.length_append, List.length_cons, List.length_nil]; omega)
  · obtain rfl := eq_of_beq e
    rw [line_16]
    repeat' (first | exact trivial | with_reducible exact oa | with_reducible exact ob | with_reducible exact oc | with_reducible exact hn | with_reducible exact rfl | apply And.intro)
    all_goals (simp only [List.length_append, List.length_cons, List.length_nil]; omega)
  · obtain rfl := eq_of_beq e
    rw [line_17]
    repeat' (first | exact trivial | with_reducible exact oa | with_reducible exact ob | with_reducible exact oc | with_reducible exact hn | with_reducible exact rfl | apply And.intro)
    all_goals (simp only [List.length_append, List.length_cons, List.length_nil]; omega)
  · obtain rfl := eq_of_beq e
    rw [line_18]
    repeat' (first | exact trivial | with_reducible exact oa | with_reducible exact ob | with_reducible exact oc | with_reducible exact hn | with_reducible exact rfl | apply And.intro)
    all_goals (simp only [List.length_append, List.length_cons, List.length_nil]; omega)
  · obtain rfl := eq_of_beq e
    rw [line_19]
    repeat' (first | exact trivial | with_reducible exact oa | with_reducible exact ob | with_reducible exact oc | with_reducible exact hn | with_reducible exact rfl | apply And.intro)
    all_goals (simp only [List.length_append, List.length_cons, List.length_nil]; omega)
  · obtain rfl := eq_of_beq e
    rw [line_20]
    repeat' (first | exact trivial | with_reducible exact oa | with_reducible exact ob | with_reducible exact oc | with_reducible exact hn | with_reducible exact rfl | apply And.intro)
    all_goals (simp only [List.length_append, List.length_cons, List.length_nil]; omega)
  · obtain rfl := eq_of_beq e
    rw [line_21]
    repeat' (first | exact trivial | with_reducible exact oa | with_reducible exact ob | with_reducible exact oc | with_reducible exact hn | with_reducible exact rfl | apply And.intro)
    all_goals (simp only [List.length_append, List.length_cons, List.length_nil]; omega)
  · obtain rfl : op = 22 := by
      have n1 : ¬ op = 1 := ne_of_beq_false n1
      have n2 : ¬ op = 2 := ne_of_beq_false n2
      have n3 : ¬ op = 3 := ne_of_beq_false n3
      have n4 : ¬ op = 4 := ne_of_beq_false n4
      have n5 : ¬ op = 5 := ne_of_beq_false n5
      have n6 : ¬ op = 6 := ne_of_beq_false n6
      have n7 : ¬ op = 7 := ne_of_beq_false n7
      have n8 : ¬ op = 8 := ne_of_beq_false n8
      have n9 : ¬ op = 9 := ne_of_beq_false n9
      have n10 : ¬ op = 10 := ne_of_beq_false n10
      have n11 : ¬ op = 11 := ne_of_beq_false n11
      have n12 : ¬ op = 12 := ne_of_beq_false n12
      have n13 : ¬ op = 13 := ne_of_beq_false n13
      have n14 : ¬ op = 14 := ne_of_beq_false n14
      have n15 : ¬ op = 15 := ne_of_beq_false n15
      have n16 : ¬ op = 16 := ne_of_beq_false n16
      have n17 : ¬ op = 17 := ne_of_beq_false n17
      have n18 : ¬ op = 18 := ne_of_beq_false n18
      have n19 : ¬ op = 19 := ne_of_beq_false n19
      have n20 : ¬ op = 20 := ne_of_beq_false n20
      have n21 : ¬ op = 21 := ne_of_beq_false n21
      omega
    rw [line_22]
    exact ⟨rfl, rfl, trivial⟩
theorem l9Ok : CtrOk (F Z).S (lookC l9) := lookC_ok fun p h => by
  simp only [l9, List.mem_cons, List.not_mem_nil, or_false] at h
  rcases h with rfl | rfl | rfl
  · exact mayOk
  · exact itoaOk
  · exact fmtOk
theorem lnOk : CtrOk1 (F Z).S 9 (mkCtr lnD) :=
  mkCtr_paid (fn := Tryd.f9) (body := b9) (ctr := lookC l9) codOk noExt hookLow l9Ok Tryd.func9 rfl rfl rfl lnD 400 (fun _ => []) (show 1 ≤ Tryd.f9.ntmps by decide) (show Tryd.f9.ntmps ≤ 512 by decide) (by kernel_rfl) (fun _ _ => ⟨rfl, rfl⟩)
    (fun (x : Ins × Unit) hp => ln_e_ok x.1 hp) (fun x hp p hm => by cases hm)

theorem words_len (op : Int) (h1 : 1 ≤ op) (h2 : op ≤ 22) : (at3 wordsL op).length ≤ 6 := by
  obtain ⟨n, rfl⟩ := Int.eq_ofNat_of_zero_le (show 0 ≤ op by omega)
  have h : n < wordsL.length := by show n < 23; omega
  rw [at3_get h]
  have hall : (wordsL.all fun w => w.length ≤ 6) = true := by kernel_rfl
  simpa using List.all_eq_true.1 hall _ (List.getElem_mem h)
theorem rn_e_ok (x : Ins) (hn : okI x.n) : Paid (entryX (F Z) (lookC l10) 400 Tryd.f10 b10 ⟨[], .tup [.s (lineR x), .b (mayB x)], []⟩ [.agg (enc2 x)]) := by
  refine ⟨?_⟩
  rw [rn_e]
  obtain ⟨op, a, b, c, n⟩ := x
  simp only at hn
  have la := decS_len a
  have lb := decS_len b
  have lc := decS_len c
  have ln := decS_len n
  refine ⟨trivial, fun h => ?_, fun h => ?_⟩
  · have hm : mayB ⟨op, a, b, c, n⟩ = false := by simpa using h
    rw [lineR, hm]
    exact ⟨rfl, rfl, trivial⟩
  have hm : mayB ⟨op, a, b, c, n⟩ = true := by simpa using h
  obtain ⟨h1, h22, oa, ob, oc⟩ := may_parts hm
  have hL : lineR ⟨op, a, b, c, n⟩ = lineS ⟨op, a, b, c, n⟩ := if_pos hm
  simp only at h1 h22 oa ob oc
  rw [hL, hm]
  have lw : (at3 wordsL op).length ≤ 6 := words_len op h1 h22
  have hb13 : op = 13 → shB op = 4 := fun e => by subst e; rfl
  clear h hm hL
  refine ⟨trivial, ⟨by show (0 : Int) ≤ op; omega, by show op < 23; omega⟩, ?_⟩
  dsimp only
  unfold lineS wordB
  generalize at3 wordsL op = w at *
  repeat' (first | apply And.intro | intro _)
  all_goals first
    | exact trivial
    | (simp only [List.length_append, List.length_cons, List.length_nil]; omega)
    | (simp_all [-Int.not_lt]; done)
theorem l10Ok : CtrOk (F Z).S (lookC l10) := lookC_ok fun p h => by
  simp only [l10, List.mem_cons, List.not_mem_nil, or_false] at h
  rcases h with rfl | rfl | rfl | rfl
  · exact miOk
  · exact fdOk
  · exact wordsOk
  · exact decOk
theorem rnOk : CtrOk1 (F Z).S 10 (mkCtr lnD) :=
  mkCtr_paid (fn := Tryd.f10) (body := b10) (ctr := lookC l10) codOk noExt hookLow l10Ok Tryd.func10 rfl rfl rfl lnD 400 (fun _ => []) (show 1 ≤ Tryd.f10.ntmps by decide) (show Tryd.f10.ntmps ≤ 512 by decide) (by kernel_rfl) (fun _ _ => ⟨rfl, rfl⟩)
    (fun (x : Ins × Unit) hp => rn_e_ok x.1 hp) (fun x hp p hm => by cases hm)
end Go.Proofs.YtbbbpnaghipfmaaDoor

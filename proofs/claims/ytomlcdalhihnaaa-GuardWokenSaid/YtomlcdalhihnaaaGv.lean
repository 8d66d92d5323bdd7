/- GuardWoken: what its texts owe is paid. Printed by a program (gen_gv.py). -/
import Derived.Test.YtomlcdalhihnaaaGq
namespace Go.Proofs.Ytomlcdalhihnaaa
open Go.RowKit Go.Am Go.Sy
set_option linter.unusedVariables false
set_option linter.unusedSimpArgs false

theorem it_e (a b : List Int) : Go.Sy.Tree.holds (entryX F (lookC []) 300 Try.f8 bI (itF a b) [.tl (T := T) 0 a, .tl (T := T) 0 b]) = ( (((↑a.length : Int) != (↑b.length : Int)) = true → false = (a == b) ∧ True) ∧
 (((↑a.length : Int) != (↑b.length : Int)) = false → ∃ (s : Nat), a = a ∧ b = b ∧ (0 : Int) = (↑s : Int) ∧ (a.length ≤ 1000 ∧ s ≤ a.length ∧ a.length = b.length ∧ ∀ (k : Nat), k < s → at0 a (↑k : Int) = at0 b (↑k : Int))
 ∧ True)) := by kernel_rfl
theorem it_4 (a b : List Int) (i : Nat) : Go.Sy.Tree.holds (cutVC F (lookC []) 300 Try.f8 bI (itF a b) 4 (it4 a b) i) = ( (decide ((↑i : Int) < (↑a.length : Int)) = true → ((0 : Int) ≤ (↑i : Int) ∧ (↑i : Int) < (↑a.length
 : Int)) ∧ ((0 : Int) ≤ (↑i : Int) ∧ (↑i : Int) < (↑b.length : Int)) ∧ ((at0 a (↑i : Int) != at0 b (↑i : Int)) = true → false = (a == b) ∧ True) ∧ ((at0 a (↑i : Int) != at0 b (↑i : Int)) = false → ∃ (s : Nat), a = a ∧ b =
 b ∧ IntKind.i64.wrap ((↑i : Int) + 1) = (↑s : Int) ∧ (a.length ≤ 1000 ∧ s ≤ a.length ∧ a.length = b.length ∧ ∀ (k : Nat), k < s → at0 a (↑k : Int) = at0 b (↑k : Int)) ∧ a.length - s < a.length - i ∧ True)) ∧ (decide ((↑i
 : Int) < (↑a.length : Int)) = false → true = (a == b) ∧ True)) := by kernel_rfl
theorem wk_e (l : List Att) (o : List Int) (n : Int) : Go.Sy.Tree.holds (entryX F (lookC qW) 300 Try.f7 bW (wkF l o n) [.tl (T := T) 4 l, .tl (T := T) 0 o, .i .i64 n]) = ( (((0 : Int) ≤ bif false then if (bif true then if
 n < 0 then (0 : Int) else n else if (0 : Int) < n then (0 : Int) else n) < 4 then (4 : Int) else bif true then if n < 0 then (0 : Int) else n else if (0 : Int) < n then (0 : Int) else n else if (4 : Int) < bif true then
 if n < 0 then (0 : Int) else n else if (0 : Int) < n then (0 : Int) else n then (4 : Int) else bif true then if n < 0 then (0 : Int) else n else if (0 : Int) < n then (0 : Int) else n) ∧ ((bif false then if (bif true
 then if n < 0 then (0 : Int) else n else if (0 : Int) < n then (0 : Int) else n) < 4 then (4 : Int) else bif true then if n < 0 then (0 : Int) else n else if (0 : Int) < n then (0 : Int) else n else if (4 : Int) < bif
 true then if n < 0 then (0 : Int) else n else if (0 : Int) < n then (0 : Int) else n then (4 : Int) else bif true then if n < 0 then (0 : Int) else n else if (0 : Int) < n then (0 : Int) else n) = bif false then if (bif
 true then if n < 0 then (0 : Int) else n else if (0 : Int) < n then (0 : Int) else n) < 4 then (4 : Int) else bif true then if n < 0 then (0 : Int) else n else if (0 : Int) < n then (0 : Int) else n else if (4 : Int) <
 bif true then if n < 0 then (0 : Int) else n else if (0 : Int) < n then (0 : Int) else n then (4 : Int) else bif true then if n < 0 then (0 : Int) else n else if (0 : Int) < n then (0 : Int) else n) ∧ (bif false then if
 (bif true then if n < 0 then (0 : Int) else n else if (0 : Int) < n then (0 : Int) else n) < 4 then (4 : Int) else bif true then if n < 0 then (0 : Int) else n else if (0 : Int) < n then (0 : Int) else n else if (4 :
 Int) < bif true then if n < 0 then (0 : Int) else n else if (0 : Int) < n then (0 : Int) else n then (4 : Int) else bif true then if n < 0 then (0 : Int) else n else if (0 : Int) < n then (0 : Int) else n) * 8 ≤
 281474976710656 ∧ (bif false then if (bif true then if n < 0 then (0 : Int) else n else if (0 : Int) < n then (0 : Int) else n) < 4 then (4 : Int) else bif true then if n < 0 then (0 : Int) else n else if (0 : Int) < n
 then (0 : Int) else n else if (4 : Int) < bif true then if n < 0 then (0 : Int) else n else if (0 : Int) < n then (0 : Int) else n then (4 : Int) else bif true then if n < 0 then (0 : Int) else n else if (0 : Int) < n
 then (0 : Int) else n) ≤ 9223372036854775807) ∧ ∃ (s : WS), l = l ∧ List.replicate (bif false then if (bif true then if n < 0 then (0 : Int) else n else if (0 : Int) < n then (0 : Int) else n) < 4 then (4 : Int) else bif
 true then if n < 0 then (0 : Int) else n else if (0 : Int) < n then (0 : Int) else n else if (4 : Int) < bif true then if n < 0 then (0 : Int) else n else if (0 : Int) < n then (0 : Int) else n then (4 : Int) else bif
 true then if n < 0 then (0 : Int) else n else if (0 : Int) < n then (0 : Int) else n).toNat (0 : Int) = s.s.out ∧ [] = s.s.q0 ∧ [] = s.s.q1 ∧ [] = s.s.q2 ∧ o = o ∧ (↑o.length : Int) = (↑o.length : Int) ∧ (0 : Int) =
 (↑s.i : Int) ∧ IA l o n s ∧ True) := by kernel_rfl
theorem wk_5 (l : List Att) (o : List Int) (n : Int) (w : WS) : Go.Sy.Tree.holds (cutVC F (lookC qW) 300 Try.f7 bW (wkF l o n) 5 (cA l o n) w) = ( (decide ((↑w.i : Int) < (↑o.length : Int)) = true → ((0 : Int) ≤ (↑w.i :
 Int) ∧ (↑w.i : Int) < (↑o.length : Int)) ∧ (decide (at0 o (↑w.i : Int) < 0) = true → ∃ (s : WS), l = l ∧ w.s.out = s.s.out ∧ w.s.q0 = s.s.q0 ∧ w.s.q1 = s.s.q1 ∧ w.s.q2 = s.s.q2 ∧ o = o ∧ (↑o.length : Int) = (↑o.length :
 Int) ∧ IntKind.i64.wrap ((↑w.i : Int) + 1) = (↑s.i : Int) ∧ IA l o n s ∧ mA o s < mA o w ∧ True) ∧ (decide (at0 o (↑w.i : Int) < 0) = false → (decide (at0 o (↑w.i : Int) ≥ (↑l.length : Int)) = true → ∃ (s : WS), l = l ∧
 w.s.out = s.s.out ∧ w.s.q0 = s.s.q0 ∧ w.s.q1 = s.s.q1 ∧ w.s.q2 = s.s.q2 ∧ o = o ∧ (↑o.length : Int) = (↑o.length : Int) ∧ IntKind.i64.wrap ((↑w.i : Int) + 1) = (↑s.i : Int) ∧ IA l o n s ∧ mA o s < mA o w ∧ True) ∧
 (decide (at0 o (↑w.i : Int) ≥ (↑l.length : Int)) = false → ((0 : Int) ≤ at0 o (↑w.i : Int) ∧ at0 o (↑w.i : Int) < (↑l.length : Int)) ∧ (((at4 l (at0 o (↑w.i : Int))).en != 6) = true → ∃ (s : WS), l = l ∧ w.s.out =
 s.s.out ∧ w.s.q0 = s.s.q0 ∧ w.s.q1 = s.s.q1 ∧ w.s.q2 = s.s.q2 ∧ o = o ∧ (↑o.length : Int) = (↑o.length : Int) ∧ IntKind.i64.wrap ((↑w.i : Int) + 1) = (↑s.i : Int) ∧ IA l o n s ∧ mA o s < mA o w ∧ True) ∧ (((at4 l (at0 o
 (↑w.i : Int))).en != 6) = false → ((0 : Int) ≤ at0 o (↑w.i : Int) ∧ at0 o (↑w.i : Int) < (↑l.length : Int)) ∧ ∃ (s : WS), l = l ∧ w.s.out = s.s.out ∧ w.s.q0 = s.s.q0 ∧ w.s.q1 = s.s.q1 ∧ w.s.q2 = s.s.q2 ∧ o = o ∧
 (↑o.length : Int) = (↑o.length : Int) ∧ (↑w.i : Int) = (↑s.i : Int) ∧ at0 o (↑w.i : Int) = at0 o (↑s.i : Int) ∧ (at4 l (at0 o (↑w.i : Int))).ca = (attO l o s.i).ca ∧ (↑(at4 l (at0 o (↑w.i : Int))).ca.length : Int) =
 (↑(attO l o s.i).ca.length : Int) ∧ (0 : Int) = (↑s.j : Int) ∧ IB l o n s ∧ mB o s < mA o w ∧ True)))) ∧ (decide ((↑w.i : Int) < (↑o.length : Int)) = false → w.s.out = wokenF l o n ∧ True)) := by kernel_rfl
theorem wk_9 (l : List Att) (o : List Int) (n : Int) (w : WS) : Go.Sy.Tree.holds (cutVC F (lookC qW) 300 Try.f7 bW (wkF l o n) 9 (cB l o n) w) = ( (decide ((↑w.j : Int) < (↑(attO l o w.i).ca.length : Int)) = true → ((0 :
 Int) ≤ (↑w.j : Int) ∧ (↑w.j : Int) < (↑(attO l o w.i).ca.length : Int)) ∧ (((at3 (attO l o w.i).ca (↑w.j : Int)).vl == 10) = true → (((at3 (attO l o w.i).ca (↑w.j : Int)).pl == 0) = true → ((0 : Int) ≤ at0 o (↑w.i : Int)
 ∧ at0 o (↑w.i : Int) < (↑l.length : Int)) ∧ (w.s.q0.length + [(at4 l (at0 o (↑w.i : Int))).th].length) * 8 ≤ 140737488355328 ∧ (((at3 (attO l o w.i).ca (↑w.j : Int)).pl == 0) = true → ∃ (s : WS), l = l ∧ w.s.out =
 s.s.out ∧ w.s.q0 ++ [(at4 l (at0 o (↑w.i : Int))).th] = s.s.q0 ∧ w.s.q1 = s.s.q1 ∧ w.s.q2 = s.s.q2 ∧ o = o ∧ (↑o.length : Int) = (↑o.length : Int) ∧ (↑w.i : Int) = (↑s.i : Int) ∧ at0 o (↑w.i : Int) = at0 o (↑s.i : Int) ∧
 (attO l o w.i).ca = (attO l o s.i).ca ∧ (↑(attO l o w.i).ca.length : Int) = (↑(attO l o s.i).ca.length : Int) ∧ IntKind.i64.wrap ((↑w.j : Int) + 1) = (↑s.j : Int) ∧ IB l o n s ∧ mB o s < mB o w ∧ True) ∧ (((at3 (attO l o
 w.i).ca (↑w.j : Int)).pl == 0) = false → (((at3 (attO l o w.i).ca (↑w.j : Int)).pl == 1) = true → ∃ (s : WS), l = l ∧ w.s.out = s.s.out ∧ Stuck "an object of another kind") ∧ (((at3 (attO l o w.i).ca (↑w.j : Int)).pl ==
 1) = false → (((at3 (attO l o w.i).ca (↑w.j : Int)).pl == 2) = true → ∃ (s : WS), l = l ∧ w.s.out = s.s.out ∧ Stuck "an object of another kind") ∧ (((at3 (attO l o w.i).ca (↑w.j : Int)).pl == 2) = false → Stuck
 "mapUpdate: another key")))) ∧ (((at3 (attO l o w.i).ca (↑w.j : Int)).pl == 0) = false → (((at3 (attO l o w.i).ca (↑w.j : Int)).pl == 1) = true → ((0 : Int) ≤ at0 o (↑w.i : Int) ∧ at0 o (↑w.i : Int) < (↑l.length : Int))
 ∧ (w.s.q1.length + [(at4 l (at0 o (↑w.i : Int))).th].length) * 8 ≤ 140737488355328 ∧ (((at3 (attO l o w.i).ca (↑w.j : Int)).pl == 0) = true → ∃ (s : WS), l = l ∧ w.s.out = s.s.out ∧ w.s.q1 ++ [(at4 l (at0 o (↑w.i :
 Int))).th] = s.s.q0 ∧ Stuck "an object of another kind") ∧ (((at3 (attO l o w.i).ca (↑w.j : Int)).pl == 0) = false → (((at3 (attO l o w.i).ca (↑w.j : Int)).pl == 1) = true → ∃ (s : WS), l = l ∧ w.s.out = s.s.out ∧ w.s.q0
 = s.s.q0 ∧ w.s.q1 ++ [(at4 l (at0 o (↑w.i : Int))).th] = s.s.q1 ∧ w.s.q2 = s.s.q2 ∧ o = o ∧ (↑o.length : Int) = (↑o.length : Int) ∧ (↑w.i : Int) = (↑s.i : Int) ∧ at0 o (↑w.i : Int) = at0 o (↑s.i : Int) ∧ (attO l o
 w.i).ca = (attO l o s.i).ca ∧ (↑(attO l o w.i).ca.length : Int) = (↑(attO l o s.i).ca.length : Int) ∧ IntKind.i64.wrap ((↑w.j : Int) + 1) = (↑s.j : Int) ∧ IB l o n s ∧ mB o s < mB o w ∧ True) ∧ (((at3 (attO l o w.i).ca
 (↑w.j : Int)).pl == 1) = false → (((at3 (attO l o w.i).ca (↑w.j : Int)).pl == 2) = true → ∃ (s : WS), l = l ∧ w.s.out = s.s.out ∧ w.s.q0 = s.s.q0 ∧ Stuck "an object of another kind") ∧ (((at3 (attO l o w.i).ca (↑w.j :
 Int)).pl == 2) = false → Stuck "mapUpdate: another key")))) ∧ (((at3 (attO l o w.i).ca (↑w.j : Int)).pl == 1) = false → (((at3 (attO l o w.i).ca (↑w.j : Int)).pl == 2) = true → ((0 : Int) ≤ at0 o (↑w.i : Int) ∧ at0 o
 (↑w.i : Int) < (↑l.length : Int)) ∧ (w.s.q2.length + [(at4 l (at0 o (↑w.i : Int))).th].length) * 8 ≤ 140737488355328 ∧ (((at3 (attO l o w.i).ca (↑w.j : Int)).pl == 0) = true → ∃ (s : WS), l = l ∧ w.s.out = s.s.out ∧
 w.s.q2 ++ [(at4 l (at0 o (↑w.i : Int))).th] = s.s.q0 ∧ w.s.q1 = s.s.q1 ∧ Stuck "an object of another kind") ∧ (((at3 (attO l o w.i).ca (↑w.j : Int)).pl == 0) = false → (((at3 (attO l o w.i).ca (↑w.j : Int)).pl == 1) =
 true → ∃ (s : WS), l = l ∧ w.s.out = s.s.out ∧ w.s.q0 = s.s.q0 ∧ w.s.q2 ++ [(at4 l (at0 o (↑w.i : Int))).th] = s.s.q1 ∧ Stuck "an object of another kind") ∧ (((at3 (attO l o w.i).ca (↑w.j : Int)).pl == 1) = false →
 (((at3 (attO l o w.i).ca (↑w.j : Int)).pl == 2) = true → ∃ (s : WS), l = l ∧ w.s.out = s.s.out ∧ w.s.q0 = s.s.q0 ∧ w.s.q1 = s.s.q1 ∧ w.s.q2 ++ [(at4 l (at0 o (↑w.i : Int))).th] = s.s.q2 ∧ o = o ∧ (↑o.length : Int) =
 (↑o.length : Int) ∧ (↑w.i : Int) = (↑s.i : Int) ∧ at0 o (↑w.i : Int) = at0 o (↑s.i : Int) ∧ (attO l o w.i).ca = (attO l o s.i).ca ∧ (↑(attO l o w.i).ca.length : Int) = (↑(attO l o s.i).ca.length : Int) ∧ IntKind.i64.wrap
 ((↑w.j : Int) + 1) = (↑s.j : Int) ∧ IB l o n s ∧ mB o s < mB o w ∧ True) ∧ (((at3 (attO l o w.i).ca (↑w.j : Int)).pl == 2) = false → Stuck "mapUpdate: another key")))) ∧ (((at3 (attO l o w.i).ca (↑w.j : Int)).pl == 2) =
 false → ((0 : Int) ≤ at0 o (↑w.i : Int) ∧ at0 o (↑w.i : Int) < (↑l.length : Int)) ∧ (((at3 (attO l o w.i).ca (↑w.j : Int)).pl == 0) = true → ∃ (s : WS), l = l ∧ w.s.out = s.s.out ∧ [(at4 l (at0 o (↑w.i : Int))).th] =
 s.s.q0 ∧ w.s.q1 = s.s.q1 ∧ w.s.q2 = s.s.q2 ∧ o = o ∧ (↑o.length : Int) = (↑o.length : Int) ∧ (↑w.i : Int) = (↑s.i : Int) ∧ at0 o (↑w.i : Int) = at0 o (↑s.i : Int) ∧ (attO l o w.i).ca = (attO l o s.i).ca ∧ (↑(attO l o
 w.i).ca.length : Int) = (↑(attO l o s.i).ca.length : Int) ∧ IntKind.i64.wrap ((↑w.j : Int) + 1) = (↑s.j : Int) ∧ IB l o n s ∧ mB o s < mB o w ∧ True) ∧ (((at3 (attO l o w.i).ca (↑w.j : Int)).pl == 0) = false → (((at3
 (attO l o w.i).ca (↑w.j : Int)).pl == 1) = true → ∃ (s : WS), l = l ∧ w.s.out = s.s.out ∧ w.s.q0 = s.s.q0 ∧ [(at4 l (at0 o (↑w.i : Int))).th] = s.s.q1 ∧ w.s.q2 = s.s.q2 ∧ o = o ∧ (↑o.length : Int) = (↑o.length : Int) ∧
 (↑w.i : Int) = (↑s.i : Int) ∧ at0 o (↑w.i : Int) = at0 o (↑s.i : Int) ∧ (attO l o w.i).ca = (attO l o s.i).ca ∧ (↑(attO l o w.i).ca.length : Int) = (↑(attO l o s.i).ca.length : Int) ∧ IntKind.i64.wrap ((↑w.j : Int) + 1)
 = (↑s.j : Int) ∧ IB l o n s ∧ mB o s < mB o w ∧ True) ∧ (((at3 (attO l o w.i).ca (↑w.j : Int)).pl == 1) = false → (((at3 (attO l o w.i).ca (↑w.j : Int)).pl == 2) = true → ∃ (s : WS), l = l ∧ w.s.out = s.s.out ∧ w.s.q0 =
 s.s.q0 ∧ w.s.q1 = s.s.q1 ∧ [(at4 l (at0 o (↑w.i : Int))).th] = s.s.q2 ∧ o = o ∧ (↑o.length : Int) = (↑o.length : Int) ∧ (↑w.i : Int) = (↑s.i : Int) ∧ at0 o (↑w.i : Int) = at0 o (↑s.i : Int) ∧ (attO l o w.i).ca = (attO l
 o s.i).ca ∧ (↑(attO l o w.i).ca.length : Int) = (↑(attO l o s.i).ca.length : Int) ∧ IntKind.i64.wrap ((↑w.j : Int) + 1) = (↑s.j : Int) ∧ IB l o n s ∧ mB o s < mB o w ∧ True) ∧ (((at3 (attO l o w.i).ca (↑w.j : Int)).pl ==
 2) = false → Stuck "mapUpdate: another key"))))))) ∧ (((at3 (attO l o w.i).ca (↑w.j : Int)).vl == 10) = false → (((at3 (attO l o w.i).ca (↑w.j : Int)).vl == 14) = true → (((at3 (attO l o w.i).ca (↑w.j : Int)).pl == 0) =
 true → ∃ (s : WS), l = l ∧ w.s.out = s.s.out ∧ w.s.q0 = s.s.q0 ∧ w.s.q1 = s.s.q1 ∧ w.s.q2 = s.s.q2 ∧ o = o ∧ (↑o.length : Int) = (↑o.length : Int) ∧ (↑w.i : Int) = (↑s.i : Int) ∧ at0 o (↑w.i : Int) = at0 o (↑s.i : Int) ∧
 (attO l o w.i).ca = (attO l o s.i).ca ∧ (↑(attO l o w.i).ca.length : Int) = (↑(attO l o s.i).ca.length : Int) ∧ (↑w.j : Int) = (↑s.j : Int) ∧ (at3 (attO l o w.i).ca (↑w.j : Int)).pl = (at3 (attO l o s.i).ca (↑s.j :
 Int)).pl ∧ (at3 (attO l o w.i).ca (↑w.j : Int)).vl = (at3 (attO l o s.i).ca (↑s.j : Int)).vl ∧ IntKind.i64.wrap ((↑w.s.q0.length : Int) - 1) = s.n ∧ (0 : Int) = s.k ∧ IC l o n s ∧ mC o s < mB o w ∧ True) ∧ (((at3 (attO l
 o w.i).ca (↑w.j : Int)).pl == 0) = false → (((at3 (attO l o w.i).ca (↑w.j : Int)).pl == 1) = true → ∃ (s : WS), l = l ∧ w.s.out = s.s.out ∧ w.s.q0 = s.s.q0 ∧ w.s.q1 = s.s.q1 ∧ w.s.q2 = s.s.q2 ∧ o = o ∧ (↑o.length : Int)
 = (↑o.length : Int) ∧ (↑w.i : Int) = (↑s.i : Int) ∧ at0 o (↑w.i : Int) = at0 o (↑s.i : Int) ∧ (attO l o w.i).ca = (attO l o s.i).ca ∧ (↑(attO l o w.i).ca.length : Int) = (↑(attO l o s.i).ca.length : Int) ∧ (↑w.j : Int) =
 (↑s.j : Int) ∧ (at3 (attO l o w.i).ca (↑w.j : Int)).pl = (at3 (attO l o s.i).ca (↑s.j : Int)).pl ∧ (at3 (attO l o w.i).ca (↑w.j : Int)).vl = (at3 (attO l o s.i).ca (↑s.j : Int)).vl ∧ IntKind.i64.wrap ((↑w.s.q1.length :
 Int) - 1) = s.n ∧ (0 : Int) = s.k ∧ IC l o n s ∧ mC o s < mB o w ∧ True) ∧ (((at3 (attO l o w.i).ca (↑w.j : Int)).pl == 1) = false → (((at3 (attO l o w.i).ca (↑w.j : Int)).pl == 2) = true → ∃ (s : WS), l = l ∧ w.s.out =
 s.s.out ∧ w.s.q0 = s.s.q0 ∧ w.s.q1 = s.s.q1 ∧ w.s.q2 = s.s.q2 ∧ o = o ∧ (↑o.length : Int) = (↑o.length : Int) ∧ (↑w.i : Int) = (↑s.i : Int) ∧ at0 o (↑w.i : Int) = at0 o (↑s.i : Int) ∧ (attO l o w.i).ca = (attO l o
 s.i).ca ∧ (↑(attO l o w.i).ca.length : Int) = (↑(attO l o s.i).ca.length : Int) ∧ (↑w.j : Int) = (↑s.j : Int) ∧ (at3 (attO l o w.i).ca (↑w.j : Int)).pl = (at3 (attO l o s.i).ca (↑s.j : Int)).pl ∧ (at3 (attO l o w.i).ca
 (↑w.j : Int)).vl = (at3 (attO l o s.i).ca (↑s.j : Int)).vl ∧ IntKind.i64.wrap ((↑w.s.q2.length : Int) - 1) = s.n ∧ (0 : Int) = s.k ∧ IC l o n s ∧ mC o s < mB o w ∧ True) ∧ (((at3 (attO l o w.i).ca (↑w.j : Int)).pl == 2)
 = false → ∃ (s : WS), l = l ∧ w.s.out = s.s.out ∧ w.s.q0 = s.s.q0 ∧ w.s.q1 = s.s.q1 ∧ w.s.q2 = s.s.q2 ∧ o = o ∧ (↑o.length : Int) = (↑o.length : Int) ∧ (↑w.i : Int) = (↑s.i : Int) ∧ at0 o (↑w.i : Int) = at0 o (↑s.i :
 Int) ∧ (attO l o w.i).ca = (attO l o s.i).ca ∧ (↑(attO l o w.i).ca.length : Int) = (↑(attO l o s.i).ca.length : Int) ∧ (↑w.j : Int) = (↑s.j : Int) ∧ (at3 (attO l o w.i).ca (↑w.j : Int)).pl = (at3 (attO l o s.i).ca (↑s.j
 : Int)).pl ∧ (at3 (attO l o w.i).ca (↑w.j : Int)).vl = (at3 (attO l o s.i).ca (↑s.j : Int)).vl ∧ (-1 : Int) = s.n ∧ (0 : Int) = s.k ∧ IC l o n s ∧ mC o s < mB o w ∧ True)))) ∧ (((at3 (attO l o w.i).ca (↑w.j : Int)).vl ==
 14) = false → (((at3 (attO l o w.i).ca (↑w.j : Int)).vl == 13) = true → ∃ (s : WS), l = l ∧ w.s.out = s.s.out ∧ w.s.q0 = s.s.q0 ∧ w.s.q1 = s.s.q1 ∧ w.s.q2 = s.s.q2 ∧ o = o ∧ (↑o.length : Int) = (↑o.length : Int) ∧ (↑w.i
 : Int) = (↑s.i : Int) ∧ at0 o (↑w.i : Int) = at0 o (↑s.i : Int) ∧ (attO l o w.i).ca = (attO l o s.i).ca ∧ (↑(attO l o w.i).ca.length : Int) = (↑(attO l o s.i).ca.length : Int) ∧ (↑w.j : Int) = (↑s.j : Int) ∧ (at3 (attO l
 o w.i).ca (↑w.j : Int)).pl = (at3 (attO l o s.i).ca (↑s.j : Int)).pl ∧ (at3 (attO l o w.i).ca (↑w.j : Int)).vl = (at3 (attO l o s.i).ca (↑s.j : Int)).vl ∧ (0 : Int) = s.n ∧ (0 : Int) = s.k ∧ IC l o n s ∧ mC o s < mB o w
 ∧ True) ∧ (((at3 (attO l o w.i).ca (↑w.j : Int)).vl == 13) = false → ∃ (s : WS), l = l ∧ w.s.out = s.s.out ∧ w.s.q0 = s.s.q0 ∧ w.s.q1 = s.s.q1 ∧ w.s.q2 = s.s.q2 ∧ o = o ∧ (↑o.length : Int) = (↑o.length : Int) ∧ (↑w.i :
 Int) = (↑s.i : Int) ∧ at0 o (↑w.i : Int) = at0 o (↑s.i : Int) ∧ (attO l o w.i).ca = (attO l o s.i).ca ∧ (↑(attO l o w.i).ca.length : Int) = (↑(attO l o s.i).ca.length : Int) ∧ IntKind.i64.wrap ((↑w.j : Int) + 1) = (↑s.j
 : Int) ∧ IB l o n s ∧ mB o s < mB o w ∧ True)))) ∧ (decide ((↑w.j : Int) < (↑(attO l o w.i).ca.length : Int)) = false → ∃ (s : WS), l = l ∧ w.s.out = s.s.out ∧ w.s.q0 = s.s.q0 ∧ w.s.q1 = s.s.q1 ∧ w.s.q2 = s.s.q2 ∧ o = o
 ∧ (↑o.length : Int) = (↑o.length : Int) ∧ IntKind.i64.wrap ((↑w.i : Int) + 1) = (↑s.i : Int) ∧ IA l o n s ∧ mA o s < mB o w ∧ True)) := by kernel_rfl
theorem wk_19 (l : List Att) (o : List Int) (n : Int) (w : WS) : Go.Sy.Tree.holds (cutVC F (lookC qW) 300 Try.f7 bW (wkF l o n) 19 (cC l o n) w) = ( (decide (w.k ≤ w.n) = true → (((at3 (attO l o w.i).ca (↑w.j : Int)).pl
 == 0) = true → (((↑w.s.q0.length : Int) == 0) = true → ∃ (s : WS), l = l ∧ w.s.out = s.s.out ∧ w.s.q0 = s.s.q0 ∧ w.s.q1 = s.s.q1 ∧ w.s.q2 = s.s.q2 ∧ o = o ∧ (↑o.length : Int) = (↑o.length : Int) ∧ (↑w.i : Int) = (↑s.i :
 Int) ∧ at0 o (↑w.i : Int) = at0 o (↑s.i : Int) ∧ (attO l o w.i).ca = (attO l o s.i).ca ∧ (↑(attO l o w.i).ca.length : Int) = (↑(attO l o s.i).ca.length : Int) ∧ (↑w.j : Int) = (↑s.j : Int) ∧ (at3 (attO l o w.i).ca (↑w.j
 : Int)).pl = (at3 (attO l o s.i).ca (↑s.j : Int)).pl ∧ (at3 (attO l o w.i).ca (↑w.j : Int)).vl = (at3 (attO l o s.i).ca (↑s.j : Int)).vl ∧ w.n = s.n ∧ IntKind.i64.wrap (w.k + 1) = s.k ∧ IC l o n s ∧ mC o s < mC o w ∧
 True) ∧ (((↑w.s.q0.length : Int) == 0) = false → ((0 : Int) ≤ 0 ∧ (0 : Int) < (↑w.s.q0.length : Int)) ∧ ((0 : Int) ≤ 0 ∧ (0 : Int) < (↑w.s.q0.length : Int)) ∧ (decide (at0 w.s.q0 (0 : Int) ≥ (0 : Int)) = true → ((0 :
 Int) ≤ 0 ∧ (0 : Int) < (↑w.s.q0.length : Int)) ∧ ((0 : Int) ≤ 0 ∧ (0 : Int) < (↑w.s.q0.length : Int)) ∧ (decide (at0 w.s.q0 (0 : Int) < (↑w.s.out.length : Int)) = true → ((0 : Int) ≤ 0 ∧ (0 : Int) < (↑w.s.q0.length :
 Int)) ∧ ((0 : Int) ≤ 0 ∧ (0 : Int) < (↑w.s.q0.length : Int)) ∧ ((0 : Int) ≤ at0 w.s.q0 (0 : Int) ∧ at0 w.s.q0 (0 : Int) < (↑w.s.out.length : Int)) ∧ ((0 : Int) ≤ at0 w.s.q0 (0 : Int) ∧ at0 w.s.q0 (0 : Int) <
 (↑w.s.out.length : Int)) ∧ ((0 : Int) ≤ at0 w.s.q0 (0 : Int) ∧ at0 w.s.q0 (0 : Int) < (↑w.s.out.length : Int)) ∧ ((0 : Int) ≤ at0 w.s.q0 (0 : Int) ∧ at0 w.s.q0 (0 : Int) < (↑w.s.out.length : Int)) ∧ ((0 : Int) ≤ 1 ∧ (1 :
 Int) ≤ (↑w.s.q0.length : Int) ∧ (↑w.s.q0.length : Int) ≤ (↑w.s.q0.length : Int)) ∧ (((at3 (attO l o w.i).ca (↑w.j : Int)).pl == 0) = true → ∃ (s : WS), l = l ∧ w.s.out.set (at0 w.s.q0 (0 : Int)).toNat (IntKind.i64.wrap
 (at0 w.s.out (at0 w.s.q0 (0 : Int)) + 1)) = s.s.out ∧ List.take ((↑w.s.q0.length : Int).toNat - 1) (List.drop (1 : Nat) w.s.q0) = s.s.q0 ∧ w.s.q1 = s.s.q1 ∧ w.s.q2 = s.s.q2 ∧ o = o ∧ (↑o.length : Int) = (↑o.length : Int)
 ∧ (↑w.i : Int) = (↑s.i : Int) ∧ at0 o (↑w.i : Int) = at0 o (↑s.i : Int) ∧ (attO l o w.i).ca = (attO l o s.i).ca ∧ (↑(attO l o w.i).ca.length : Int) = (↑(attO l o s.i).ca.length : Int) ∧ (↑w.j : Int) = (↑s.j : Int) ∧ (at3
 (attO l o w.i).ca (↑w.j : Int)).pl = (at3 (attO l o s.i).ca (↑s.j : Int)).pl ∧ (at3 (attO l o w.i).ca (↑w.j : Int)).vl = (at3 (attO l o s.i).ca (↑s.j : Int)).vl ∧ w.n = s.n ∧ IntKind.i64.wrap (w.k + 1) = s.k ∧ IC l o n s
 ∧ mC o s < mC o w ∧ True) ∧ (((at3 (attO l o w.i).ca (↑w.j : Int)).pl == 0) = false → (((at3 (attO l o w.i).ca (↑w.j : Int)).pl == 1) = true → ∃ (s : WS), l = l ∧ w.s.out.set (at0 w.s.q0 (0 : Int)).toNat
 (IntKind.i64.wrap (at0 w.s.out (at0 w.s.q0 (0 : Int)) + 1)) = s.s.out ∧ Stuck "an object of another kind") ∧ (((at3 (attO l o w.i).ca (↑w.j : Int)).pl == 1) = false → (((at3 (attO l o w.i).ca (↑w.j : Int)).pl == 2) =
 true → ∃ (s : WS), l = l ∧ w.s.out.set (at0 w.s.q0 (0 : Int)).toNat (IntKind.i64.wrap (at0 w.s.out (at0 w.s.q0 (0 : Int)) + 1)) = s.s.out ∧ Stuck "an object of another kind") ∧ (((at3 (attO l o w.i).ca (↑w.j : Int)).pl
 == 2) = false → Stuck "mapUpdate: another key")))) ∧ (decide (at0 w.s.q0 (0 : Int) < (↑w.s.out.length : Int)) = false → ((0 : Int) ≤ 1 ∧ (1 : Int) ≤ (↑w.s.q0.length : Int) ∧ (↑w.s.q0.length : Int) ≤ (↑w.s.q0.length :
 Int)) ∧ (((at3 (attO l o w.i).ca (↑w.j : Int)).pl == 0) = true → ∃ (s : WS), l = l ∧ w.s.out = s.s.out ∧ List.take ((↑w.s.q0.length : Int).toNat - 1) (List.drop (1 : Nat) w.s.q0) = s.s.q0 ∧ w.s.q1 = s.s.q1 ∧ w.s.q2 =
 s.s.q2 ∧ o = o ∧ (↑o.length : Int) = (↑o.length : Int) ∧ (↑w.i : Int) = (↑s.i : Int) ∧ at0 o (↑w.i : Int) = at0 o (↑s.i : Int) ∧ (attO l o w.i).ca = (attO l o s.i).ca ∧ (↑(attO l o w.i).ca.length : Int) = (↑(attO l o
 s.i).ca.length : Int) ∧ (↑w.j : Int) = (↑s.j : Int) ∧ (at3 (attO l o w.i).ca (↑w.j : Int)).pl = (at3 (attO l o s.i).ca (↑s.j : Int)).pl ∧ (at3 (attO l o w.i).ca (↑w.j : Int)).vl = (at3 (attO l o s.i).ca (↑s.j : Int)).vl
 ∧ w.n = s.n ∧ IntKind.i64.wrap (w.k + 1) = s.k ∧ IC l o n s ∧ mC o s < mC o w ∧ True) ∧ (((at3 (attO l o w.i).ca (↑w.j : Int)).pl == 0) = false → (((at3 (attO l o w.i).ca (↑w.j : Int)).pl == 1) = true → ∃ (s : WS), l = l
 ∧ w.s.out = s.s.out ∧ Stuck "an object of another kind") ∧ (((at3 (attO l o w.i).ca (↑w.j : Int)).pl == 1) = false → (((at3 (attO l o w.i).ca (↑w.j : Int)).pl == 2) = true → ∃ (s : WS), l = l ∧ w.s.out = s.s.out ∧ Stuck
 "an object of another kind") ∧ (((at3 (attO l o w.i).ca (↑w.j : Int)).pl == 2) = false → Stuck "mapUpdate: another key"))))) ∧ (decide (at0 w.s.q0 (0 : Int) ≥ (0 : Int)) = false → ((0 : Int) ≤ 1 ∧ (1 : Int) ≤
 (↑w.s.q0.length : Int) ∧ (↑w.s.q0.length : Int) ≤ (↑w.s.q0.length : Int)) ∧ (((at3 (attO l o w.i).ca (↑w.j : Int)).pl == 0) = true → ∃ (s : WS), l = l ∧ w.s.out = s.s.out ∧ List.take ((↑w.s.q0.length : Int).toNat - 1)
 (List.drop (1 : Nat) w.s.q0) = s.s.q0 ∧ w.s.q1 = s.s.q1 ∧ w.s.q2 = s.s.q2 ∧ o = o ∧ (↑o.length : Int) = (↑o.length : Int) ∧ (↑w.i : Int) = (↑s.i : Int) ∧ at0 o (↑w.i : Int) = at0 o (↑s.i : Int) ∧ (attO l o w.i).ca =
 (attO l o s.i).ca ∧ (↑(attO l o w.i).ca.length : Int) = (↑(attO l o s.i).ca.length : Int) ∧ (↑w.j : Int) = (↑s.j : Int) ∧ (at3 (attO l o w.i).ca (↑w.j : Int)).pl = (at3 (attO l o s.i).ca (↑s.j : Int)).pl ∧ (at3 (attO l o
 w.i).ca (↑w.j : Int)).vl = (at3 (attO l o s.i).ca (↑s.j : Int)).vl ∧ w.n = s.n ∧ IntKind.i64.wrap (w.k + 1) = s.k ∧ IC l o n s ∧ mC o s < mC o w ∧ True) ∧ (((at3 (attO l o w.i).ca (↑w.j : Int)).pl == 0) = false → (((at3
 (attO l o w.i).ca (↑w.j : Int)).pl == 1) = true → ∃ (s : WS), l = l ∧ w.s.out = s.s.out ∧ Stuck "an object of another kind") ∧ (((at3 (attO l o w.i).ca (↑w.j : Int)).pl == 1) = false → (((at3 (attO l o w.i).ca (↑w.j :
 Int)).pl == 2) = true → ∃ (s : WS), l = l ∧ w.s.out = s.s.out ∧ Stuck "an object of another kind") ∧ (((at3 (attO l o w.i).ca (↑w.j : Int)).pl == 2) = false → Stuck "mapUpdate: another key")))))) ∧ (((at3 (attO l o
 w.i).ca (↑w.j : Int)).pl == 0) = false → (((at3 (attO l o w.i).ca (↑w.j : Int)).pl == 1) = true → (((↑w.s.q1.length : Int) == 0) = true → ∃ (s : WS), l = l ∧ w.s.out = s.s.out ∧ w.s.q0 = s.s.q0 ∧ w.s.q1 = s.s.q1 ∧ w.s.q2
 = s.s.q2 ∧ o = o ∧ (↑o.length : Int) = (↑o.length : Int) ∧ (↑w.i : Int) = (↑s.i : Int) ∧ at0 o (↑w.i : Int) = at0 o (↑s.i : Int) ∧ (attO l o w.i).ca = (attO l o s.i).ca ∧ (↑(attO l o w.i).ca.length : Int) = (↑(attO l o
 s.i).ca.length : Int) ∧ (↑w.j : Int) = (↑s.j : Int) ∧ (at3 (attO l o w.i).ca (↑w.j : Int)).pl = (at3 (attO l o s.i).ca (↑s.j : Int)).pl ∧ (at3 (attO l o w.i).ca (↑w.j : Int)).vl = (at3 (attO l o s.i).ca (↑s.j : Int)).vl
 ∧ w.n = s.n ∧ IntKind.i64.wrap (w.k + 1) = s.k ∧ IC l o n s ∧ mC o s < mC o w ∧ True) ∧ (((↑w.s.q1.length : Int) == 0) = false → ((0 : Int) ≤ 0 ∧ (0 : Int) < (↑w.s.q1.length : Int)) ∧ ((0 : Int) ≤ 0 ∧ (0 : Int) <
 (↑w.s.q1.length : Int)) ∧ (decide (at0 w.s.q1 (0 : Int) ≥ (0 : Int)) = true → ((0 : Int) ≤ 0 ∧ (0 : Int) < (↑w.s.q1.length : Int)) ∧ ((0 : Int) ≤ 0 ∧ (0 : Int) < (↑w.s.q1.length : Int)) ∧ (decide (at0 w.s.q1 (0 : Int) <
 (↑w.s.out.length : Int)) = true → ((0 : Int) ≤ 0 ∧ (0 : Int) < (↑w.s.q1.length : Int)) ∧ ((0 : Int) ≤ 0 ∧ (0 : Int) < (↑w.s.q1.length : Int)) ∧ ((0 : Int) ≤ at0 w.s.q1 (0 : Int) ∧ at0 w.s.q1 (0 : Int) < (↑w.s.out.length
 : Int)) ∧ ((0 : Int) ≤ at0 w.s.q1 (0 : Int) ∧ at0 w.s.q1 (0 : Int) < (↑w.s.out.length : Int)) ∧ ((0 : Int) ≤ at0 w.s.q1 (0 : Int) ∧ at0 w.s.q1 (0 : Int) < (↑w.s.out.length : Int)) ∧ ((0 : Int) ≤ at0 w.s.q1 (0 : Int) ∧
 at0 w.s.q1 (0 : Int) < (↑w.s.out.length : Int)) ∧ ((0 : Int) ≤ 1 ∧ (1 : Int) ≤ (↑w.s.q1.length : Int) ∧ (↑w.s.q1.length : Int) ≤ (↑w.s.q1.length : Int)) ∧ (((at3 (attO l o w.i).ca (↑w.j : Int)).pl == 0) = true → ∃ (s :
 WS), l = l ∧ w.s.out.set (at0 w.s.q1 (0 : Int)).toNat (IntKind.i64.wrap (at0 w.s.out (at0 w.s.q1 (0 : Int)) + 1)) = s.s.out ∧ List.take ((↑w.s.q1.length : Int).toNat - 1) (List.drop (1 : Nat) w.s.q1) = s.s.q0 ∧ Stuck "an
 object of another kind") ∧ (((at3 (attO l o w.i).ca (↑w.j : Int)).pl == 0) = false → (((at3 (attO l o w.i).ca (↑w.j : Int)).pl == 1) = true → ∃ (s : WS), l = l ∧ w.s.out.set (at0 w.s.q1 (0 : Int)).toNat (IntKind.i64.wrap
 (at0 w.s.out (at0 w.s.q1 (0 : Int)) + 1)) = s.s.out ∧ w.s.q0 = s.s.q0 ∧ List.take ((↑w.s.q1.length : Int).toNat - 1) (List.drop (1 : Nat) w.s.q1) = s.s.q1 ∧ w.s.q2 = s.s.q2 ∧ o = o ∧ (↑o.length : Int) = (↑o.length : Int)
 ∧ (↑w.i : Int) = (↑s.i : Int) ∧ at0 o (↑w.i : Int) = at0 o (↑s.i : Int) ∧ (attO l o w.i).ca = (attO l o s.i).ca ∧ (↑(attO l o w.i).ca.length : Int) = (↑(attO l o s.i).ca.length : Int) ∧ (↑w.j : Int) = (↑s.j : Int) ∧ (at3
 (attO l o w.i).ca (↑w.j : Int)).pl = (at3 (attO l o s.i).ca (↑s.j : Int)).pl ∧ (at3 (attO l o w.i).ca (↑w.j : Int)).vl = (at3 (attO l o s.i).ca (↑s.j : Int)).vl ∧ w.n = s.n ∧ IntKind.i64.wrap (w.k + 1) = s.k ∧ IC l o n s
 ∧ mC o s < mC o w ∧ True) ∧ (((at3 (attO l o w.i).ca (↑w.j : Int)).pl == 1) = false → (((at3 (attO l o w.i).ca (↑w.j : Int)).pl == 2) = true → ∃ (s : WS), l = l ∧ w.s.out.set (at0 w.s.q1 (0 : Int)).toNat
 (IntKind.i64.wrap (at0 w.s.out (at0 w.s.q1 (0 : Int)) + 1)) = s.s.out ∧ w.s.q0 = s.s.q0 ∧ Stuck "an object of another kind") ∧ (((at3 (attO l o w.i).ca (↑w.j : Int)).pl == 2) = false → Stuck "mapUpdate: another key"))))
 ∧ (decide (at0 w.s.q1 (0 : Int) < (↑w.s.out.length : Int)) = false → ((0 : Int) ≤ 1 ∧ (1 : Int) ≤ (↑w.s.q1.length : Int) ∧ (↑w.s.q1.length : Int) ≤ (↑w.s.q1.length : Int)) ∧ (((at3 (attO l o w.i).ca (↑w.j : Int)).pl ==
 0) = true → ∃ (s : WS), l = l ∧ w.s.out = s.s.out ∧ List.take ((↑w.s.q1.length : Int).toNat - 1) (List.drop (1 : Nat) w.s.q1) = s.s.q0 ∧ Stuck "an object of another kind") ∧ (((at3 (attO l o w.i).ca (↑w.j : Int)).pl ==
 0) = false → (((at3 (attO l o w.i).ca (↑w.j : Int)).pl == 1) = true → ∃ (s : WS), l = l ∧ w.s.out = s.s.out ∧ w.s.q0 = s.s.q0 ∧ List.take ((↑w.s.q1.length : Int).toNat - 1) (List.drop (1 : Nat) w.s.q1) = s.s.q1 ∧ w.s.q2
 = s.s.q2 ∧ o = o ∧ (↑o.length : Int) = (↑o.length : Int) ∧ (↑w.i : Int) = (↑s.i : Int) ∧ at0 o (↑w.i : Int) = at0 o (↑s.i : Int) ∧ (attO l o w.i).ca = (attO l o s.i).ca ∧ (↑(attO l o w.i).ca.length : Int) = (↑(attO l o
 s.i).ca.length : Int) ∧ (↑w.j : Int) = (↑s.j : Int) ∧ (at3 (attO l o w.i).ca (↑w.j : Int)).pl = (at3 (attO l o s.i).ca (↑s.j : Int)).pl ∧ (at3 (attO l o w.i).ca (↑w.j : Int)).vl = (at3 (attO l o s.i).ca (↑s.j : Int)).vl
 ∧ w.n = s.n ∧ IntKind.i64.wrap (w.k + 1) = s.k ∧ IC l o n s ∧ mC o s < mC o w ∧ True) ∧ (((at3 (attO l o w.i).ca (↑w.j : Int)).pl == 1) = false → (((at3 (attO l o w.i).ca (↑w.j : Int)).pl == 2) = true → ∃ (s : WS), l = l
 ∧ w.s.out = s.s.out ∧ w.s.q0 = s.s.q0 ∧ Stuck "an object of another kind") ∧ (((at3 (attO l o w.i).ca (↑w.j : Int)).pl == 2) = false → Stuck "mapUpdate: another key"))))) ∧ (decide (at0 w.s.q1 (0 : Int) ≥ (0 : Int)) =
 false → ((0 : Int) ≤ 1 ∧ (1 : Int) ≤ (↑w.s.q1.length : Int) ∧ (↑w.s.q1.length : Int) ≤ (↑w.s.q1.length : Int)) ∧ (((at3 (attO l o w.i).ca (↑w.j : Int)).pl == 0) = true → ∃ (s : WS), l = l ∧ w.s.out = s.s.out ∧ List.take
 ((↑w.s.q1.length : Int).toNat - 1) (List.drop (1 : Nat) w.s.q1) = s.s.q0 ∧ Stuck "an object of another kind") ∧ (((at3 (attO l o w.i).ca (↑w.j : Int)).pl == 0) = false → (((at3 (attO l o w.i).ca (↑w.j : Int)).pl == 1) =
 true → ∃ (s : WS), l = l ∧ w.s.out = s.s.out ∧ w.s.q0 = s.s.q0 ∧ List.take ((↑w.s.q1.length : Int).toNat - 1) (List.drop (1 : Nat) w.s.q1) = s.s.q1 ∧ w.s.q2 = s.s.q2 ∧ o = o ∧ (↑o.length : Int) = (↑o.length : Int) ∧
 (↑w.i : Int) = (↑s.i : Int) ∧ at0 o (↑w.i : Int) = at0 o (↑s.i : Int) ∧ (attO l o w.i).ca = (attO l o s.i).ca ∧ (↑(attO l o w.i).ca.length : Int) = (↑(attO l o s.i).ca.length : Int) ∧ (↑w.j : Int) = (↑s.j : Int) ∧ (at3
 (attO l o w.i).ca (↑w.j : Int)).pl = (at3 (attO l o s.i).ca (↑s.j : Int)).pl ∧ (at3 (attO l o w.i).ca (↑w.j : Int)).vl = (at3 (attO l o s.i).ca (↑s.j : Int)).vl ∧ w.n = s.n ∧ IntKind.i64.wrap (w.k + 1) = s.k ∧ IC l o n s
 ∧ mC o s < mC o w ∧ True) ∧ (((at3 (attO l o w.i).ca (↑w.j : Int)).pl == 1) = false → (((at3 (attO l o w.i).ca (↑w.j : Int)).pl == 2) = true → ∃ (s : WS), l = l ∧ w.s.out = s.s.out ∧ w.s.q0 = s.s.q0 ∧ Stuck "an object of
 another kind") ∧ (((at3 (attO l o w.i).ca (↑w.j : Int)).pl == 2) = false → Stuck "mapUpdate: another key")))))) ∧ (((at3 (attO l o w.i).ca (↑w.j : Int)).pl == 1) = false → (((at3 (attO l o w.i).ca (↑w.j : Int)).pl == 2)
 = true → (((↑w.s.q2.length : Int) == 0) = true → ∃ (s : WS), l = l ∧ w.s.out = s.s.out ∧ w.s.q0 = s.s.q0 ∧ w.s.q1 = s.s.q1 ∧ w.s.q2 = s.s.q2 ∧ o = o ∧ (↑o.length : Int) = (↑o.length : Int) ∧ (↑w.i : Int) = (↑s.i : Int) ∧
 at0 o (↑w.i : Int) = at0 o (↑s.i : Int) ∧ (attO l o w.i).ca = (attO l o s.i).ca ∧ (↑(attO l o w.i).ca.length : Int) = (↑(attO l o s.i).ca.length : Int) ∧ (↑w.j : Int) = (↑s.j : Int) ∧ (at3 (attO l o w.i).ca (↑w.j :
 Int)).pl = (at3 (attO l o s.i).ca (↑s.j : Int)).pl ∧ (at3 (attO l o w.i).ca (↑w.j : Int)).vl = (at3 (attO l o s.i).ca (↑s.j : Int)).vl ∧ w.n = s.n ∧ IntKind.i64.wrap (w.k + 1) = s.k ∧ IC l o n s ∧ mC o s < mC o w ∧ True)
 ∧ (((↑w.s.q2.length : Int) == 0) = false → ((0 : Int) ≤ 0 ∧ (0 : Int) < (↑w.s.q2.length : Int)) ∧ ((0 : Int) ≤ 0 ∧ (0 : Int) < (↑w.s.q2.length : Int)) ∧ (decide (at0 w.s.q2 (0 : Int) ≥ (0 : Int)) = true → ((0 : Int) ≤ 0
 ∧ (0 : Int) < (↑w.s.q2.length : Int)) ∧ ((0 : Int) ≤ 0 ∧ (0 : Int) < (↑w.s.q2.length : Int)) ∧ (decide (at0 w.s.q2 (0 : Int) < (↑w.s.out.length : Int)) = true → ((0 : Int) ≤ 0 ∧ (0 : Int) < (↑w.s.q2.length : Int)) ∧ ((0
 : Int) ≤ 0 ∧ (0 : Int) < (↑w.s.q2.length : Int)) ∧ ((0 : Int) ≤ at0 w.s.q2 (0 : Int) ∧ at0 w.s.q2 (0 : Int) < (↑w.s.out.length : Int)) ∧ ((0 : Int) ≤ at0 w.s.q2 (0 : Int) ∧ at0 w.s.q2 (0 : Int) < (↑w.s.out.length : Int))
 ∧ ((0 : Int) ≤ at0 w.s.q2 (0 : Int) ∧ at0 w.s.q2 (0 : Int) < (↑w.s.out.length : Int)) ∧ ((0 : Int) ≤ at0 w.s.q2 (0 : Int) ∧ at0 w.s.q2 (0 : Int) < (↑w.s.out.length : Int)) ∧ ((0 : Int) ≤ 1 ∧ (1 : Int) ≤ (↑w.s.q2.length :
 Int) ∧ (↑w.s.q2.length : Int) ≤ (↑w.s.q2.length : Int)) ∧ (((at3 (attO l o w.i).ca (↑w.j : Int)).pl == 0) = true → ∃ (s : WS), l = l ∧ w.s.out.set (at0 w.s.q2 (0 : Int)).toNat (IntKind.i64.wrap (at0 w.s.out (at0 w.s.q2
 (0 : Int)) + 1)) = s.s.out ∧ List.take ((↑w.s.q2.length : Int).toNat - 1) (List.drop (1 : Nat) w.s.q2) = s.s.q0 ∧ w.s.q1 = s.s.q1 ∧ Stuck "an object of another kind") ∧ (((at3 (attO l o w.i).ca (↑w.j : Int)).pl == 0) =
 false → (((at3 (attO l o w.i).ca (↑w.j : Int)).pl == 1) = true → ∃ (s : WS), l = l ∧ w.s.out.set (at0 w.s.q2 (0 : Int)).toNat (IntKind.i64.wrap (at0 w.s.out (at0 w.s.q2 (0 : Int)) + 1)) = s.s.out ∧ w.s.q0 = s.s.q0 ∧
 List.take ((↑w.s.q2.length : Int).toNat - 1) (List.drop (1 : Nat) w.s.q2) = s.s.q1 ∧ Stuck "an object of another kind") ∧ (((at3 (attO l o w.i).ca (↑w.j : Int)).pl == 1) = false → (((at3 (attO l o w.i).ca (↑w.j :
 Int)).pl == 2) = true → ∃ (s : WS), l = l ∧ w.s.out.set (at0 w.s.q2 (0 : Int)).toNat (IntKind.i64.wrap (at0 w.s.out (at0 w.s.q2 (0 : Int)) + 1)) = s.s.out ∧ w.s.q0 = s.s.q0 ∧ w.s.q1 = s.s.q1 ∧ List.take ((↑w.s.q2.length
 : Int).toNat - 1) (List.drop (1 : Nat) w.s.q2) = s.s.q2 ∧ o = o ∧ (↑o.length : Int) = (↑o.length : Int) ∧ (↑w.i : Int) = (↑s.i : Int) ∧ at0 o (↑w.i : Int) = at0 o (↑s.i : Int) ∧ (attO l o w.i).ca = (attO l o s.i).ca ∧
 (↑(attO l o w.i).ca.length : Int) = (↑(attO l o s.i).ca.length : Int) ∧ (↑w.j : Int) = (↑s.j : Int) ∧ (at3 (attO l o w.i).ca (↑w.j : Int)).pl = (at3 (attO l o s.i).ca (↑s.j : Int)).pl ∧ (at3 (attO l o w.i).ca (↑w.j :
 Int)).vl = (at3 (attO l o s.i).ca (↑s.j : Int)).vl ∧ w.n = s.n ∧ IntKind.i64.wrap (w.k + 1) = s.k ∧ IC l o n s ∧ mC o s < mC o w ∧ True) ∧ (((at3 (attO l o w.i).ca (↑w.j : Int)).pl == 2) = false → Stuck "mapUpdate:
 another key")))) ∧ (decide (at0 w.s.q2 (0 : Int) < (↑w.s.out.length : Int)) = false → ((0 : Int) ≤ 1 ∧ (1 : Int) ≤ (↑w.s.q2.length : Int) ∧ (↑w.s.q2.length : Int) ≤ (↑w.s.q2.length : Int)) ∧ (((at3 (attO l o w.i).ca
 (↑w.j : Int)).pl == 0) = true → ∃ (s : WS), l = l ∧ w.s.out = s.s.out ∧ List.take ((↑w.s.q2.length : Int).toNat - 1) (List.drop (1 : Nat) w.s.q2) = s.s.q0 ∧ w.s.q1 = s.s.q1 ∧ Stuck "an object of another kind") ∧ (((at3
 (attO l o w.i).ca (↑w.j : Int)).pl == 0) = false → (((at3 (attO l o w.i).ca (↑w.j : Int)).pl == 1) = true → ∃ (s : WS), l = l ∧ w.s.out = s.s.out ∧ w.s.q0 = s.s.q0 ∧ List.take ((↑w.s.q2.length : Int).toNat - 1)
 (List.drop (1 : Nat) w.s.q2) = s.s.q1 ∧ Stuck "an object of another kind") ∧ (((at3 (attO l o w.i).ca (↑w.j : Int)).pl == 1) = false → (((at3 (attO l o w.i).ca (↑w.j : Int)).pl == 2) = true → ∃ (s : WS), l = l ∧ w.s.out
 = s.s.out ∧ w.s.q0 = s.s.q0 ∧ w.s.q1 = s.s.q1 ∧ List.take ((↑w.s.q2.length : Int).toNat - 1) (List.drop (1 : Nat) w.s.q2) = s.s.q2 ∧ o = o ∧ (↑o.length : Int) = (↑o.length : Int) ∧ (↑w.i : Int) = (↑s.i : Int) ∧ at0 o
 (↑w.i : Int) = at0 o (↑s.i : Int) ∧ (attO l o w.i).ca = (attO l o s.i).ca ∧ (↑(attO l o w.i).ca.length : Int) = (↑(attO l o s.i).ca.length : Int) ∧ (↑w.j : Int) = (↑s.j : Int) ∧ (at3 (attO l o w.i).ca (↑w.j : Int)).pl =
 (at3 (attO l o s.i).ca (↑s.j : Int)).pl ∧ (at3 (attO l o w.i).ca (↑w.j : Int)).vl = (at3 (attO l o s.i).ca (↑s.j : Int)).vl ∧ w.n = s.n ∧ IntKind.i64.wrap (w.k + 1) = s.k ∧ IC l o n s ∧ mC o s < mC o w ∧ True) ∧ (((at3
 (attO l o w.i).ca (↑w.j : Int)).pl == 2) = false → Stuck "mapUpdate: another key"))))) ∧ (decide (at0 w.s.q2 (0 : Int) ≥ (0 : Int)) = false → ((0 : Int) ≤ 1 ∧ (1 : Int) ≤ (↑w.s.q2.length : Int) ∧ (↑w.s.q2.length : Int) ≤
 (↑w.s.q2.length : Int)) ∧ (((at3 (attO l o w.i).ca (↑w.j : Int)).pl == 0) = true → ∃ (s : WS), l = l ∧ w.s.out = s.s.out ∧ List.take ((↑w.s.q2.length : Int).toNat - 1) (List.drop (1 : Nat) w.s.q2) = s.s.q0 ∧ w.s.q1 =
 s.s.q1 ∧ Stuck "an object of another kind") ∧ (((at3 (attO l o w.i).ca (↑w.j : Int)).pl == 0) = false → (((at3 (attO l o w.i).ca (↑w.j : Int)).pl == 1) = true → ∃ (s : WS), l = l ∧ w.s.out = s.s.out ∧ w.s.q0 = s.s.q0 ∧
 List.take ((↑w.s.q2.length : Int).toNat - 1) (List.drop (1 : Nat) w.s.q2) = s.s.q1 ∧ Stuck "an object of another kind") ∧ (((at3 (attO l o w.i).ca (↑w.j : Int)).pl == 1) = false → (((at3 (attO l o w.i).ca (↑w.j :
 Int)).pl == 2) = true → ∃ (s : WS), l = l ∧ w.s.out = s.s.out ∧ w.s.q0 = s.s.q0 ∧ w.s.q1 = s.s.q1 ∧ List.take ((↑w.s.q2.length : Int).toNat - 1) (List.drop (1 : Nat) w.s.q2) = s.s.q2 ∧ o = o ∧ (↑o.length : Int) =
 (↑o.length : Int) ∧ (↑w.i : Int) = (↑s.i : Int) ∧ at0 o (↑w.i : Int) = at0 o (↑s.i : Int) ∧ (attO l o w.i).ca = (attO l o s.i).ca ∧ (↑(attO l o w.i).ca.length : Int) = (↑(attO l o s.i).ca.length : Int) ∧ (↑w.j : Int) =
 (↑s.j : Int) ∧ (at3 (attO l o w.i).ca (↑w.j : Int)).pl = (at3 (attO l o s.i).ca (↑s.j : Int)).pl ∧ (at3 (attO l o w.i).ca (↑w.j : Int)).vl = (at3 (attO l o s.i).ca (↑s.j : Int)).vl ∧ w.n = s.n ∧ IntKind.i64.wrap (w.k +
 1) = s.k ∧ IC l o n s ∧ mC o s < mC o w ∧ True) ∧ (((at3 (attO l o w.i).ca (↑w.j : Int)).pl == 2) = false → Stuck "mapUpdate: another key")))))) ∧ (((at3 (attO l o w.i).ca (↑w.j : Int)).pl == 2) = false → ∃ (s : WS), l =
 l ∧ w.s.out = s.s.out ∧ w.s.q0 = s.s.q0 ∧ w.s.q1 = s.s.q1 ∧ w.s.q2 = s.s.q2 ∧ o = o ∧ (↑o.length : Int) = (↑o.length : Int) ∧ (↑w.i : Int) = (↑s.i : Int) ∧ at0 o (↑w.i : Int) = at0 o (↑s.i : Int) ∧ (attO l o w.i).ca =
 (attO l o s.i).ca ∧ (↑(attO l o w.i).ca.length : Int) = (↑(attO l o s.i).ca.length : Int) ∧ (↑w.j : Int) = (↑s.j : Int) ∧ (at3 (attO l o w.i).ca (↑w.j : Int)).pl = (at3 (attO l o s.i).ca (↑s.j : Int)).pl ∧ (at3 (attO l o
 w.i).ca (↑w.j : Int)).vl = (at3 (attO l o s.i).ca (↑s.j : Int)).vl ∧ w.n = s.n ∧ IntKind.i64.wrap (w.k + 1) = s.k ∧ IC l o n s ∧ mC o s < mC o w ∧ True)))) ∧ (decide (w.k ≤ w.n) = false → ∃ (s : WS), l = l ∧ w.s.out =
 s.s.out ∧ w.s.q0 = s.s.q0 ∧ w.s.q1 = s.s.q1 ∧ w.s.q2 = s.s.q2 ∧ o = o ∧ (↑o.length : Int) = (↑o.length : Int) ∧ (↑w.i : Int) = (↑s.i : Int) ∧ at0 o (↑w.i : Int) = at0 o (↑s.i : Int) ∧ (attO l o w.i).ca = (attO l o
 s.i).ca ∧ (↑(attO l o w.i).ca.length : Int) = (↑(attO l o s.i).ca.length : Int) ∧ IntKind.i64.wrap ((↑w.j : Int) + 1) = (↑s.j : Int) ∧ IB l o n s ∧ mB o s < mC o w ∧ True)) := by kernel_rfl

/-! ### Two lists -/
theorem noneOk : CtrOk F.S (lookC ([] : List (FuncId × Ctr cod))) := lookC_ok fun p h => by cases h
theorem it_e_ok (a b : List Int) (hl : a.length ≤ 1000) : Paid (entryX F (lookC []) 300 Try.f8 bI (itF a b) [.tl (T := T) 0 a, .tl (T := T) 0 b]) := by
  refine ⟨?_⟩
  rw [it_e]
  refine ⟨fun h => ⟨?_, trivial⟩, fun h => ⟨(0 : Nat), rfl, rfl, rfl, ⟨hl, Nat.zero_le _, ?_, fun k hk => absurd hk (Nat.not_lt_zero _)⟩, trivial⟩⟩
  · have h : ¬ (a.length : Int) = (b.length : Int) := by simpa using h
    exact (beq_eq_false_iff_ne.2 fun e => h (by rw [e])).symm
  · have h : (a.length : Int) = (b.length : Int) := by simpa using h
    omega
theorem at0_all {a b : List Int} (hl : a.length = b.length) (h : ∀ k : Nat, k < a.length → at0 a k = at0 b k) : a = b := by
  apply List.ext_getElem hl
  intro i h1 h2
  have gen : ∀ {l : List Int} {d : Int} (hi : i < l.length), l.getD i d = l[i] := fun hi => by rw [List.getD_eq_getElem?_getD, List.getElem?_eq_getElem hi, Option.getD_some]
  have e : a.getD i (cod.dflt 0) = b.getD i (cod.dflt 0) := h i h1
  exact (gen h1).symm.trans (e.trans (gen h2))
theorem it_4_ok (a b : List Int) (i : Nat) (hI : a.length ≤ 1000 ∧ i ≤ a.length ∧ a.length = b.length ∧ ∀ k : Nat, k < i → at0 a k = at0 b k) : Paid (cutVC F (lookC []) 300 Try.f8 bI (itF a b) 4 (it4 a b) i) := by
  refine ⟨?_⟩
  rw [it_4]
  obtain ⟨h0, h1, h2, h3⟩ := hI
  refine ⟨fun h => ?_, fun h => ⟨?_, trivial⟩⟩
  · have h : (i : Int) < (a.length : Int) := of_decide_eq_true h
    refine ⟨⟨by omega, h⟩, ⟨by omega, by omega⟩, fun h4 => ⟨?_, trivial⟩, fun h4 => ⟨i + 1, rfl, rfl, succ64 (by omega), ⟨h0, by omega, h2, fun k hk => ?_⟩, by omega, trivial⟩⟩
    · have h4 : ¬ at0 a i = at0 b i := by simpa using h4
      exact (beq_eq_false_iff_ne.2 fun e => h4 (by rw [e])).symm
    · have h4 : at0 a i = at0 b i := by simpa using h4
      rcases Nat.lt_or_ge k i with g | g
      · exact h3 k g
      · have : k = i := by omega
        subst this
        exact h4
  · have h : ¬ (i : Int) < (a.length : Int) := of_decide_eq_false h
    exact (beq_iff_eq.2 (at0_all h2 fun k hk => h3 k (by omega))).symm
theorem itOk : CtrOk1 F.S 8 (mkCtr itD) :=
  mkCtr_paid (fn := Try.f8) (body := bI) (ctr := lookC []) codOk noExt hookLow noneOk Try.func8 rfl rfl rfl itD 300 (fun (x : List Int × List Int × Unit) => (itF x.1 x.2.1).cuts) (show 2 ≤ Try.f8.ntmps by decide) (show Try.f8.ntmps ≤ 512 by decide) (by kernel_rfl) (fun _ _ => ⟨rfl, rfl⟩)
    (fun (x : List Int × List Int × Unit) (hp : x.1.length ≤ 1000) => it_e_ok x.1 x.2.1 hp) (fun x hp p hm => by
      simp only [itF, List.mem_singleton] at hm
      subst hm
      exact fun s hI => it_4_ok _ _ s hI)

/-! ### Who was woken -/
section
variable (l : List Att) (o : List Int) (n : Int)
theorem wk_e_ok (hp : wkPre l o) : Paid (entryX F (lookC qW) 300 Try.f7 bW (wkF l o n) [.tl (T := T) 4 l, .tl (T := T) 0 o, .i .i64 n]) := by
  refine ⟨?_⟩
  rw [wk_e]
  have hn := lenF_is n
  refine ⟨⟨hn.1, rfl, ?_, ?_⟩, ⟨0, 0, 0, 0, start n⟩, rfl, rfl, rfl, rfl, rfl, rfl, rfl, rfl, ⟨hp, Nat.zero_le _, ⟨Nat.le_refl _, Nat.le_refl _, Nat.le_refl _⟩, rfl⟩, trivial⟩
  · show lenF n * 8 ≤ _
    omega
  · show lenF n ≤ _
    omega
variable (w : WS)
theorem wk_5_ok (hI : IA l o n w) : Paid (cutVC F (lookC qW) 300 Try.f7 bW (wkF l o n) 5 (cA l o n) w) := by
  refine ⟨?_⟩
  rw [wk_5]
  obtain ⟨hp, hi, hq, hr⟩ := hI
  have hL := hp.1
  refine ⟨fun h => ?_, fun h => ⟨?_, trivial⟩⟩
  · have h : (w.i : Int) < (o.length : Int) := of_decide_eq_true h
    rw [drop0 (show w.i < o.length by omega)] at hr
    have na : attF l (at0 o w.i) w.s = w.s → ∃ (s : WS), l = l ∧ w.s.out = s.s.out ∧ w.s.q0 = s.s.q0 ∧ w.s.q1 = s.s.q1 ∧ w.s.q2 = s.s.q2 ∧ o = o ∧ ((o.length : Nat) : Int) = ((o.length : Nat) : Int) ∧ IntKind.i64.wrap ((w.i : Int) + (1 : Int)) = (s.i : Int) ∧ IA l o n s ∧ mA o s < mA o w ∧ True := fun e =>
      ⟨⟨w.i + 1, 0, 0, 0, w.s⟩, rfl, rfl, rfl, rfl, rfl, rfl, rfl, succ64 (by omega), ⟨hp, by show w.i + 1 ≤ _; omega, qle_mono hq (Nat.le_succ _), by
        rw [attsF, e] at hr
        exact hr⟩, by show (o.length - (w.i + 1)) * 100000 < (o.length - w.i) * 100000; omega, trivial⟩
    refine ⟨⟨by omega, h⟩, fun h1 => na (by rw [attF, if_pos (.inl (of_decide_eq_true h1))]), fun h1 => ⟨fun h2 => na (by rw [attF, if_pos (.inr (.inl (of_decide_eq_true h2)))]), fun h2 => ?_⟩⟩
    have h1 : ¬ at0 o w.i < 0 := of_decide_eq_false h1
    have h2 : ¬ at0 o w.i ≥ (l.length : Int) := of_decide_eq_false h2
    refine ⟨⟨by omega, by omega⟩, fun h3 => na (by rw [attF, if_pos (.inr (.inr (by simpa using h3)))]), fun h3 => ?_⟩
    have h3 : (at4 l (at0 o w.i)).en = 6 := by simpa using h3
    have hin : inO l o w.i := ⟨by omega, by omega, by omega, h3⟩
    have hm : (o.length - w.i - 1) * 100000 + (2 - 0) * 10000 < (o.length - w.i) * 100000 := by omega
    refine ⟨⟨by omega, by omega⟩, ⟨w.i, 0, 0, 0, w.s⟩, rfl, rfl, rfl, rfl, rfl, rfl, rfl, rfl, rfl, rfl, rfl, rfl, ⟨hp, hin, Nat.zero_le _, hq, ?_⟩, hm, trivial⟩
    have e : attF l (at0 o w.i) w.s = callsF (attO l o w.i).th (attO l o w.i).ca w.s := if_neg (by rw [h3]; omega)
    rw [attsF, e] at hr
    exact hr
  · have h : ¬ (w.i : Int) < (o.length : Int) := of_decide_eq_false h
    rw [List.drop_eq_nil_of_le (by omega)] at hr
    exact hr
variable {l o n w}
theorem nextB (hp : wkPre l o) (hin : inO l o w.i) (hjl : w.j < (attO l o w.i).ca.length) {M : Nat} (hM : (o.length - w.i - 1) * 100000 + (1 - w.j) * 10000 < M) {q0 q1 q2 out : List Int} (h : qle ⟨q0, q1, q2, out⟩ (w.i + w.j + 1) ∧ (attsF l (o.drop (w.i + 1)) (callsF (attO l o w.i).th ((attO l o w.i).ca.drop (w.j + 1)) ⟨q0, q1, q2, out⟩)).out = wokenF l o n) :
    ∃ (s : WS), l = l ∧ out = s.s.out ∧ q0 = s.s.q0 ∧ q1 = s.s.q1 ∧ q2 = s.s.q2 ∧ o = o ∧ ((o.length : Nat) : Int) = ((o.length : Nat) : Int) ∧ (w.i : Int) = (s.i : Int) ∧ at0 o w.i = at0 o s.i ∧ (attO l o w.i).ca = (attO l o s.i).ca ∧ (((attO l o w.i).ca.length : Nat) : Int) = (((attO l o s.i).ca.length : Nat) : Int) ∧ IntKind.i64.wrap ((w.j : Int) + (1 : Int)) = (s.j : Int) ∧ IB l o n s ∧ mB o s < M ∧ True := by
  have hc := ca_len hp hin
  have e : 2 - (w.j + 1) = 1 - w.j := by omega
  have hm : (o.length - w.i - 1) * 100000 + (2 - (w.j + 1)) * 10000 < M := by rw [e]; exact hM
  exact ⟨⟨w.i, w.j + 1, 0, 0, ⟨q0, q1, q2, out⟩⟩, rfl, rfl, rfl, rfl, rfl, rfl, rfl, rfl, rfl, rfl, rfl, succ64 (by omega), ⟨hp, hin, hjl, h.1, h.2⟩, by dsimp only [mB]; exact hm, trivial⟩
theorem goC (hp : wkPre l o) (hin : inO l o w.i) (hjl : w.j < (attO l o w.i).ca.length) {M : Nat} {nn kk : Int} (h0 : 0 ≤ kk) (h1 : kk ≤ nn + 1) (h2 : nn ≤ 2000) (hM : (o.length - w.i - 1) * 100000 + (1 - w.j) * 10000 + 1 + (nn + 1 - kk).toNat < M) {q0 q1 q2 out : List Int} (h : qle ⟨q0, q1, q2, out⟩ (w.i + w.j) ∧ (attsF l (o.drop (w.i + 1)) (callsF (attO l o w.i).th ((attO l o w.i).ca.drop (w.j + 1)) (wakes (at3 (attO l o w.i).ca w.j).pl (nn + 1 - kk).toNat ⟨q0, q1, q2, out⟩))).out = wokenF l o n) :
    ∃ (s : WS), l = l ∧ out = s.s.out ∧ q0 = s.s.q0 ∧ q1 = s.s.q1 ∧ q2 = s.s.q2 ∧ o = o ∧ ((o.length : Nat) : Int) = ((o.length : Nat) : Int) ∧ (w.i : Int) = (s.i : Int) ∧ at0 o w.i = at0 o s.i ∧ (attO l o w.i).ca = (attO l o s.i).ca ∧ (((attO l o w.i).ca.length : Nat) : Int) = (((attO l o s.i).ca.length : Nat) : Int) ∧ (w.j : Int) = (s.j : Int) ∧
      (at3 (attO l o w.i).ca w.j).pl = (at3 (attO l o s.i).ca s.j).pl ∧ (at3 (attO l o w.i).ca w.j).vl = (at3 (attO l o s.i).ca s.j).vl ∧ nn = s.n ∧ kk = s.k ∧ IC l o n s ∧ mC o s < M ∧ True :=
  ⟨⟨w.i, w.j, nn, kk, ⟨q0, q1, q2, out⟩⟩, rfl, rfl, rfl, rfl, rfl, rfl, rfl, rfl, rfl, rfl, rfl, rfl, rfl, rfl, rfl, rfl, ⟨hp, hin, hjl, h.1, h0, h1, h2, h.2⟩, hM, trivial⟩
variable (l o n w)
theorem wk_9_ok (hI : IB l o n w) : Paid (cutVC F (lookC qW) 300 Try.f7 bW (wkF l o n) 9 (cB l o n) w) := by
  refine ⟨?_⟩
  rw [wk_9]
  obtain ⟨hp, hin, hj, hq, hr⟩ := hI
  have hL := hp.1
  have hc := ca_len hp hin
  have hat := hin.2.1
  have hat2 := hin.2.2.1
  have hi := hin.1
  refine ⟨fun hjl => ?_, fun hjl => ?_⟩
  · have hjl : w.j < (attO l o w.i).ca.length := by have := of_decide_eq_true hjl; omega
    have hx := ca_pl hp hin hjl
    have hq0 := hq.1
    have hq1 := hq.2.1
    have hq2 := hq.2.2
    rw [drop3 hjl, callsF] at hr
    have nb : ∀ (q0 q1 q2 out : List Int), callF (attO l o w.i).th (at3 (attO l o w.i).ca w.j) w.s = ⟨q0, q1, q2, out⟩ → _ := fun q0 q1 q2 out e => nextB (M := mB o w) (n := n) (q0 := q0) (q1 := q1) (q2 := q2) (out := out) hp hin hjl (by show _ < (o.length - w.i - 1) * 100000 + (2 - w.j) * 10000; omega) ⟨by rw [← e]; exact callF_qle hq _ _, by rw [← e]; exact hr⟩
    have c14 : ∀ (q : List Int), w.s.q (at3 (attO l o w.i).ca w.j).pl = q → (at3 (attO l o w.i).ca w.j).vl = 14 → _ := fun q e g => goC (M := mB o w) (n := n) (nn := IntKind.i64.wrap ((q.length : Int) - 1)) (kk := 0) (q0 := w.s.q0) (q1 := w.s.q1) (q2 := w.s.q2) (out := w.s.out) hp hin hjl (Int.le_refl _)
      (by have := qle_q hq (at3 (attO l o w.i).ca w.j).pl; rw [e] at this; rw [wrap_id (by omega) (by omega)]; omega) (by have := qle_q hq (at3 (attO l o w.i).ca w.j).pl; rw [e] at this; rw [wrap_id (by omega) (by omega)]; omega)
      (by have := qle_q hq (at3 (attO l o w.i).ca w.j).pl; rw [e] at this; rw [wrap_id (by omega) (by omega)]; show _ < (o.length - w.i - 1) * 100000 + (2 - w.j) * 10000; omega)
      ⟨hq, by
        have := qle_q hq (at3 (attO l o w.i).ca w.j).pl
        rw [e] at this
        rw [wrap_id (by omega) (by omega), show ((q.length : Int) - 1 + 1 - 0).toNat = q.length by omega, ← e, ← callF_14 (th := (attO l o w.i).th) g]
        exact hr⟩
    have c13 : (at3 (attO l o w.i).ca w.j).vl = 13 → _ := fun g => goC (M := mB o w) (n := n) (nn := 0) (kk := 0) (q0 := w.s.q0) (q1 := w.s.q1) (q2 := w.s.q2) (out := w.s.out) hp hin hjl (Int.le_refl _) (by decide) (by decide) (by show _ < (o.length - w.i - 1) * 100000 + (2 - w.j) * 10000; omega)
      ⟨hq, by
        have hr' := hr
        rw [callF_13 g] at hr'
        exact hr'⟩
    clear hr
    repeat' (first | apply And.intro | intro _)
    all_goals try simp only [beq_iff_eq, beq_eq_false_iff_ne, ne_eq, decide_eq_true_eq, decide_eq_false_iff_not] at *
    all_goals first
      | exact nb _ _ _ _ (push0 (by assumption) (by assumption))
      | exact nb _ _ _ _ (push1 (by assumption) (by assumption))
      | exact nb _ _ _ _ (push2 (by assumption) (by assumption))
      | exact nb _ _ _ _ (callF_none (by assumption) (by assumption) (by assumption))
      | exact c14 _ (qE0 (by assumption)) (by assumption)
      | exact c14 _ (qE1 (by assumption)) (by assumption)
      | exact c14 _ (qE2 (by assumption)) (by assumption)
      | exact c13 (by assumption)
      | (clear nb c14 c13; simp only [List.length_cons, List.length_nil]; omega)
      | (clear nb c14 c13; omega)
  · have hjl : ¬ w.j < (attO l o w.i).ca.length := by have := of_decide_eq_false hjl; omega
    have e : (attO l o w.i).ca.drop w.j = [] := List.drop_eq_nil_of_le (by omega)
    rw [e, callsF] at hr
    exact ⟨⟨w.i + 1, 0, 0, 0, w.s⟩, rfl, rfl, rfl, rfl, rfl, rfl, rfl, succ64 (by omega), ⟨hp, by show w.i + 1 ≤ _; omega, qle_mono hq (by show w.i + w.j ≤ w.i + 1; omega), hr⟩, by show (o.length - (w.i + 1)) * 100000 < (o.length - w.i - 1) * 100000 + (2 - w.j) * 10000; omega, trivial⟩
theorem wk_19_ok (hI : IC l o n w) : Paid (cutVC F (lookC qW) 300 Try.f7 bW (wkF l o n) 19 (cC l o n) w) := by
  refine ⟨?_⟩
  rw [wk_19]
  obtain ⟨hp, hin, hjl, hq, hk0, hk1, hn, hr⟩ := hI
  have hL := hp.1
  have hc := ca_len hp hin
  have hi := hin.1
  have hx := ca_pl hp hin hjl
  refine ⟨fun hk => ?_, fun hk => ?_⟩
  · have hk : w.k ≤ w.n := of_decide_eq_true hk
    have hw : IntKind.i64.wrap (w.k + 1) = w.k + 1 := wrap_id (by omega) (by omega)
    rw [show (w.n + 1 - w.k).toNat = (w.n + 1 - (w.k + 1)).toNat + 1 by omega, wakes] at hr
    have nc : ∀ (q0 q1 q2 out : List Int), wake (at3 (attO l o w.i).ca w.j).pl w.s = ⟨q0, q1, q2, out⟩ → _ := fun q0 q1 q2 out e => goC (M := mC o w) (n := n) (nn := w.n) (kk := IntKind.i64.wrap (w.k + 1)) (q0 := q0) (q1 := q1) (q2 := q2) (out := out) hp hin hjl (by rw [hw]; omega) (by rw [hw]; omega) hn
      (by rw [hw]; show _ < (o.length - w.i - 1) * 100000 + (1 - w.j) * 10000 + 1 + (w.n + 1 - w.k).toNat; omega) ⟨by rw [← e]; exact wake_qle hq _, by rw [hw, ← e]; exact hr⟩
    clear hr
    repeat' (first | apply And.intro | intro _)
    all_goals try simp only [beq_iff_eq, beq_eq_false_iff_ne, ne_eq, decide_eq_true_eq, decide_eq_false_iff_not] at *
    all_goals first
      | (clear nc; omega)
      | exact nc _ _ _ _ (wakeN0 (by assumption) (by assumption))
      | exact nc _ _ _ _ (wakeB0 (by assumption) (by assumption) (by assumption) (by assumption))
      | exact nc _ _ _ _ (wakeS0 (by assumption) (by assumption) (by clear nc; omega))
      | exact nc _ _ _ _ (wakeN1 (by assumption) (by assumption))
      | exact nc _ _ _ _ (wakeB1 (by assumption) (by assumption) (by assumption) (by assumption))
      | exact nc _ _ _ _ (wakeS1 (by assumption) (by assumption) (by clear nc; omega))
      | exact nc _ _ _ _ (wakeN2 (by assumption) (by assumption))
      | exact nc _ _ _ _ (wakeB2 (by assumption) (by assumption) (by assumption) (by assumption))
      | exact nc _ _ _ _ (wakeS2 (by assumption) (by assumption) (by clear nc; omega))
  · have hk : ¬ w.k ≤ w.n := of_decide_eq_false hk
    rw [show (w.n + 1 - w.k).toNat = 0 by omega, wakes] at hr
    exact nextB (M := mC o w) (n := n) (q0 := w.s.q0) (q1 := w.s.q1) (q2 := w.s.q2) (out := w.s.out) hp hin hjl (by show _ < (o.length - w.i - 1) * 100000 + (1 - w.j) * 10000 + 1 + (w.n + 1 - w.k).toNat; omega) ⟨qle_mono hq (Nat.le_succ _), hr⟩
end
theorem wkOk : CtrOk1 F.S 7 (mkCtr wkD) :=
  mkCtr_paid (fn := Try.f7) (body := bW) (ctr := lookC qW) codOk noExt hookLow noneOk Try.func7 rfl rfl rfl wkD 300 (fun (x : List Att × List Int × Int × Unit) => (wkF x.1 x.2.1 x.2.2.1).cuts) (show 3 ≤ Try.f7.ntmps by decide) (show Try.f7.ntmps ≤ 512 by decide) (by kernel_rfl) (fun _ _ => ⟨rfl, rfl⟩)
    (fun (x : List Att × List Int × Int × Unit) (hp : wkPre x.1 x.2.1) => wk_e_ok x.1 x.2.1 x.2.2.1 hp) (fun x hp p hm => by
      simp only [wkF, List.mem_cons, List.not_mem_nil, or_false] at hm
      rcases hm with rfl | rfl | rfl
      · exact fun s hI => wk_5_ok _ _ _ s hI
      · exact fun s hI => wk_9_ok _ _ _ s hI
      · exact fun s hI => wk_19_ok _ _ _ s hI)
end Go.Proofs.Ytomlcdalhihnaaa

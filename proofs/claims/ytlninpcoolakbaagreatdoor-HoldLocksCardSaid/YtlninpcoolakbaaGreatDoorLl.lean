/- HoldLocks: its run. -/
import Derived.Test.YtlninpcoolakbaaGreatDoorLk
namespace Go.Proofs.YtlninpcoolakbaaGreatDoor
open Go.RowKit Go.Am Go.Sy
set_option linter.unusedVariables false
set_option linter.unusedSimpArgs false
set_option maxRecDepth 100000
theorem lk_e (k : K8) (lock far : Int) : Go.Sy.Tree.holds (entryX FL (lookC l4) 1500 Tryz.f4 b4 lkF [.agg (encK k), .i .i64 lock, .i .i64 far]) = ( ∃ (s : K8 × Int × Nat), far = s.snd.fst ∧ k.a = s.fst.a ∧ k.b = s.fst.b ∧
 k.c = s.fst.c ∧ k.d = s.fst.d ∧ k.e = s.fst.e ∧ k.f = s.fst.f ∧ k.g = s.fst.g ∧ k.h = s.fst.h ∧ AVal.int IntKind.i64 (IntKind.i64.wrap ((IntKind.u64.wrap lock).tmod 3)) = AVal.int IntKind.i64 (↑s.snd.snd : Int) ∧
 s.snd.snd < 3 ∧ True) := by kernel_rfl
theorem lk_a (k : K8) (far : Int) (a : Nat) : Go.Sy.Tree.holds (cutVC FL (lookC l4) 1500 Tryz.f4 b4 lkF 2 lkA (k, far, a)) = ( ((IntKind.i64.wrap ((IntKind.u64.wrap k.h).tmod 4) == 1) = true → (decide (IntKind.i64.wrap
 ((IntKind.u64.wrap k.e).tmod 5) > 0) = true → ∃ (s : NumS × Int × Nat), far = s.snd.fst ∧ AVal.int IntKind.i64 (↑a : Int) = AVal.int IntKind.i64 (↑s.snd.snd : Int) ∧ IntKind.i64.wrap ((1 : Int) + IntKind.i64.wrap
 ((IntKind.u64.wrap k.a).tmod 2)) = s.fst.e ∧ IntKind.i64.wrap ((1 : Int) + IntKind.i64.wrap ((IntKind.u64.wrap k.b).tmod 2)) = s.fst.c ∧ IntKind.i64.wrap ((1 : Int) + IntKind.i64.wrap ((IntKind.u64.wrap k.c).tmod 7)) =
 s.fst.s ∧ IntKind.i64.wrap ((32 : Int) - IntKind.i64.wrap (IntKind.i64.wrap ((IntKind.u64.wrap k.d).tmod 4) * 9)) = s.fst.r ∧ (32 : Int) = s.fst.w ∧ IntKind.i64.wrap ((IntKind.u64.wrap k.f).tmod 4) = s.fst.t ∧
 IntKind.i64.wrap ((IntKind.u64.wrap (IntKind.i64.wrap (k.h.tdiv 4))).tmod 12) = s.fst.m ∧ AVal.int IntKind.i64 (0 : Int) = AVal.int IntKind.i64 (0 : Int) ∧ AVal.int IntKind.i64 (1 : Int) = AVal.int IntKind.i64 (1 : Int)
 ∧ AVal.int IntKind.i64 (2 : Int) = AVal.int IntKind.i64 (2 : Int) ∧ AVal.int IntKind.i64 (3 : Int) = AVal.int IntKind.i64 (3 : Int) ∧ AVal.int IntKind.i64 (0 : Int) = AVal.int IntKind.i64 (0 : Int) ∧ AVal.int IntKind.i64
 (1 : Int) = AVal.int IntKind.i64 (1 : Int) ∧ AVal.int IntKind.i64 (2 : Int) = AVal.int IntKind.i64 (2 : Int) ∧ AVal.int IntKind.i64 (3 : Int) = AVal.int IntKind.i64 (3 : Int) ∧ AVal.int IntKind.i64 (0 : Int) = AVal.int
 IntKind.i64 (0 : Int) ∧ IntKind.i64.wrap ((1 : Int) + IntKind.i64.wrap ((IntKind.u64.wrap (IntKind.i64.wrap (k.a.tdiv 2))).tmod 2)) = s.fst.o ∧ AVal.int IntKind.i64 (0 : Int) = AVal.int IntKind.i64 (0 : Int) ∧ constA
 (Value.int IntKind.i64 (3 : Int)) = AVal.int IntKind.i64 (3 : Int) ∧ IntKind.i64.wrap ((3 : Int) - IntKind.i64.wrap ((1 : Int) + IntKind.i64.wrap ((IntKind.u64.wrap (IntKind.i64.wrap (k.a.tdiv 2))).tmod 2))) = s.fst.p ∧
 constA (Value.int IntKind.i64 (3 : Int)) = AVal.int IntKind.i64 (3 : Int) ∧ constA (Value.int IntKind.i64 (3 : Int)) = AVal.int IntKind.i64 (3 : Int) ∧ constA (Value.int IntKind.i64 (3 : Int)) = AVal.int IntKind.i64 (3 :
 Int) ∧ constA (Value.int IntKind.i64 (6 : Int)) = AVal.int IntKind.i64 (6 : Int) ∧ constA (Value.int IntKind.i64 (3 : Int)) = AVal.int IntKind.i64 (3 : Int) ∧ constA (Value.int IntKind.i64 (0 : Int)) = AVal.int
 IntKind.i64 (0 : Int) ∧ constA (Value.int IntKind.i64 (1 : Int)) = AVal.int IntKind.i64 (1 : Int) ∧ constA (Value.int IntKind.i64 (2 : Int)) = AVal.int IntKind.i64 (2 : Int) ∧ (NumOk s.fst ∧ s.snd.snd < 3) ∧ (2 : Nat) <
 3 ∧ True) ∧ (decide (IntKind.i64.wrap ((IntKind.u64.wrap k.e).tmod 5) > 0) = false → ∃ (s : NumS × Int × Nat), far = s.snd.fst ∧ AVal.int IntKind.i64 (↑a : Int) = AVal.int IntKind.i64 (↑s.snd.snd : Int) ∧
 IntKind.i64.wrap ((1 : Int) + IntKind.i64.wrap ((IntKind.u64.wrap k.a).tmod 2)) = s.fst.e ∧ IntKind.i64.wrap ((1 : Int) + IntKind.i64.wrap ((IntKind.u64.wrap k.b).tmod 2)) = s.fst.c ∧ IntKind.i64.wrap ((1 : Int) +
 IntKind.i64.wrap ((IntKind.u64.wrap k.c).tmod 7)) = s.fst.s ∧ IntKind.i64.wrap ((32 : Int) - IntKind.i64.wrap (IntKind.i64.wrap ((IntKind.u64.wrap k.d).tmod 4) * 9)) = s.fst.r ∧ IntKind.i64.wrap ((1 : Int) +
 IntKind.i64.wrap ((IntKind.u64.wrap k.e).tmod 12)) = s.fst.w ∧ IntKind.i64.wrap ((IntKind.u64.wrap k.f).tmod 4) = s.fst.t ∧ IntKind.i64.wrap ((IntKind.u64.wrap (IntKind.i64.wrap (k.h.tdiv 4))).tmod 12) = s.fst.m ∧
 AVal.int IntKind.i64 (0 : Int) = AVal.int IntKind.i64 (0 : Int) ∧ AVal.int IntKind.i64 (1 : Int) = AVal.int IntKind.i64 (1 : Int) ∧ AVal.int IntKind.i64 (2 : Int) = AVal.int IntKind.i64 (2 : Int) ∧ AVal.int IntKind.i64
 (3 : Int) = AVal.int IntKind.i64 (3 : Int) ∧ AVal.int IntKind.i64 (0 : Int) = AVal.int IntKind.i64 (0 : Int) ∧ AVal.int IntKind.i64 (1 : Int) = AVal.int IntKind.i64 (1 : Int) ∧ AVal.int IntKind.i64 (2 : Int) = AVal.int
 IntKind.i64 (2 : Int) ∧ AVal.int IntKind.i64 (3 : Int) = AVal.int IntKind.i64 (3 : Int) ∧ AVal.int IntKind.i64 (0 : Int) = AVal.int IntKind.i64 (0 : Int) ∧ IntKind.i64.wrap ((1 : Int) + IntKind.i64.wrap
 ((IntKind.u64.wrap (IntKind.i64.wrap (k.a.tdiv 2))).tmod 2)) = s.fst.o ∧ AVal.int IntKind.i64 (0 : Int) = AVal.int IntKind.i64 (0 : Int) ∧ constA (Value.int IntKind.i64 (3 : Int)) = AVal.int IntKind.i64 (3 : Int) ∧
 IntKind.i64.wrap ((3 : Int) - IntKind.i64.wrap ((1 : Int) + IntKind.i64.wrap ((IntKind.u64.wrap (IntKind.i64.wrap (k.a.tdiv 2))).tmod 2))) = s.fst.p ∧ constA (Value.int IntKind.i64 (3 : Int)) = AVal.int IntKind.i64 (3 :
 Int) ∧ constA (Value.int IntKind.i64 (3 : Int)) = AVal.int IntKind.i64 (3 : Int) ∧ constA (Value.int IntKind.i64 (3 : Int)) = AVal.int IntKind.i64 (3 : Int) ∧ constA (Value.int IntKind.i64 (6 : Int)) = AVal.int
 IntKind.i64 (6 : Int) ∧ constA (Value.int IntKind.i64 (3 : Int)) = AVal.int IntKind.i64 (3 : Int) ∧ constA (Value.int IntKind.i64 (0 : Int)) = AVal.int IntKind.i64 (0 : Int) ∧ constA (Value.int IntKind.i64 (1 : Int)) =
 AVal.int IntKind.i64 (1 : Int) ∧ constA (Value.int IntKind.i64 (2 : Int)) = AVal.int IntKind.i64 (2 : Int) ∧ (NumOk s.fst ∧ s.snd.snd < 3) ∧ (2 : Nat) < 3 ∧ True)) ∧ ((IntKind.i64.wrap ((IntKind.u64.wrap k.h).tmod 4) ==
 1) = false → (decide (IntKind.i64.wrap ((IntKind.u64.wrap k.e).tmod 5) > 0) = true → ∃ (s : NumS × Int × Nat), far = s.snd.fst ∧ AVal.int IntKind.i64 (↑a : Int) = AVal.int IntKind.i64 (↑s.snd.snd : Int) ∧
 IntKind.i64.wrap ((1 : Int) + IntKind.i64.wrap ((IntKind.u64.wrap k.a).tmod 2)) = s.fst.e ∧ IntKind.i64.wrap ((1 : Int) + IntKind.i64.wrap ((IntKind.u64.wrap k.b).tmod 2)) = s.fst.c ∧ IntKind.i64.wrap ((1 : Int) +
 IntKind.i64.wrap ((IntKind.u64.wrap k.c).tmod 7)) = s.fst.s ∧ IntKind.i64.wrap ((32 : Int) - IntKind.i64.wrap (IntKind.i64.wrap ((IntKind.u64.wrap k.d).tmod 4) * 9)) = s.fst.r ∧ (32 : Int) = s.fst.w ∧ IntKind.i64.wrap
 ((IntKind.u64.wrap k.f).tmod 4) = s.fst.t ∧ (1073741824 : Int) = s.fst.m ∧ AVal.int IntKind.i64 (0 : Int) = AVal.int IntKind.i64 (0 : Int) ∧ AVal.int IntKind.i64 (1 : Int) = AVal.int IntKind.i64 (1 : Int) ∧ AVal.int
 IntKind.i64 (2 : Int) = AVal.int IntKind.i64 (2 : Int) ∧ AVal.int IntKind.i64 (3 : Int) = AVal.int IntKind.i64 (3 : Int) ∧ AVal.int IntKind.i64 (0 : Int) = AVal.int IntKind.i64 (0 : Int) ∧ AVal.int IntKind.i64 (1 : Int)
 = AVal.int IntKind.i64 (1 : Int) ∧ AVal.int IntKind.i64 (2 : Int) = AVal.int IntKind.i64 (2 : Int) ∧ AVal.int IntKind.i64 (3 : Int) = AVal.int IntKind.i64 (3 : Int) ∧ AVal.int IntKind.i64 (0 : Int) = AVal.int IntKind.i64
 (0 : Int) ∧ IntKind.i64.wrap ((1 : Int) + IntKind.i64.wrap ((IntKind.u64.wrap (IntKind.i64.wrap (k.a.tdiv 2))).tmod 2)) = s.fst.o ∧ AVal.int IntKind.i64 (0 : Int) = AVal.int IntKind.i64 (0 : Int) ∧ constA (Value.int
 IntKind.i64 (3 : Int)) = AVal.int IntKind.i64 (3 : Int) ∧ IntKind.i64.wrap ((3 : Int) - IntKind.i64.wrap ((1 : Int) + IntKind.i64.wrap ((IntKind.u64.wrap (IntKind.i64.wrap (k.a.tdiv 2))).tmod 2))) = s.fst.p ∧ constA
 (Value.int IntKind.i64 (3 : Int)) = AVal.int IntKind.i64 (3 : Int) ∧ constA (Value.int IntKind.i64 (3 : Int)) = AVal.int IntKind.i64 (3 : Int) ∧ constA (Value.int IntKind.i64 (3 : Int)) = AVal.int IntKind.i64 (3 : Int) ∧
 constA (Value.int IntKind.i64 (6 : Int)) = AVal.int IntKind.i64 (6 : Int) ∧ constA (Value.int IntKind.i64 (3 : Int)) = AVal.int IntKind.i64 (3 : Int) ∧ constA (Value.int IntKind.i64 (0 : Int)) = AVal.int IntKind.i64 (0 :
 Int) ∧ constA (Value.int IntKind.i64 (1 : Int)) = AVal.int IntKind.i64 (1 : Int) ∧ constA (Value.int IntKind.i64 (2 : Int)) = AVal.int IntKind.i64 (2 : Int) ∧ (NumOk s.fst ∧ s.snd.snd < 3) ∧ (2 : Nat) < 3 ∧ True) ∧
 (decide (IntKind.i64.wrap ((IntKind.u64.wrap k.e).tmod 5) > 0) = false → ∃ (s : NumS × Int × Nat), far = s.snd.fst ∧ AVal.int IntKind.i64 (↑a : Int) = AVal.int IntKind.i64 (↑s.snd.snd : Int) ∧ IntKind.i64.wrap ((1 : Int)
 + IntKind.i64.wrap ((IntKind.u64.wrap k.a).tmod 2)) = s.fst.e ∧ IntKind.i64.wrap ((1 : Int) + IntKind.i64.wrap ((IntKind.u64.wrap k.b).tmod 2)) = s.fst.c ∧ IntKind.i64.wrap ((1 : Int) + IntKind.i64.wrap
 ((IntKind.u64.wrap k.c).tmod 7)) = s.fst.s ∧ IntKind.i64.wrap ((32 : Int) - IntKind.i64.wrap (IntKind.i64.wrap ((IntKind.u64.wrap k.d).tmod 4) * 9)) = s.fst.r ∧ IntKind.i64.wrap ((1 : Int) + IntKind.i64.wrap
 ((IntKind.u64.wrap k.e).tmod 12)) = s.fst.w ∧ IntKind.i64.wrap ((IntKind.u64.wrap k.f).tmod 4) = s.fst.t ∧ (1073741824 : Int) = s.fst.m ∧ AVal.int IntKind.i64 (0 : Int) = AVal.int IntKind.i64 (0 : Int) ∧ AVal.int
 IntKind.i64 (1 : Int) = AVal.int IntKind.i64 (1 : Int) ∧ AVal.int IntKind.i64 (2 : Int) = AVal.int IntKind.i64 (2 : Int) ∧ AVal.int IntKind.i64 (3 : Int) = AVal.int IntKind.i64 (3 : Int) ∧ AVal.int IntKind.i64 (0 : Int)
 = AVal.int IntKind.i64 (0 : Int) ∧ AVal.int IntKind.i64 (1 : Int) = AVal.int IntKind.i64 (1 : Int) ∧ AVal.int IntKind.i64 (2 : Int) = AVal.int IntKind.i64 (2 : Int) ∧ AVal.int IntKind.i64 (3 : Int) = AVal.int IntKind.i64
 (3 : Int) ∧ AVal.int IntKind.i64 (0 : Int) = AVal.int IntKind.i64 (0 : Int) ∧ IntKind.i64.wrap ((1 : Int) + IntKind.i64.wrap ((IntKind.u64.wrap (IntKind.i64.wrap (k.a.tdiv 2))).tmod 2)) = s.fst.o ∧ AVal.int IntKind.i64
 (0 : Int) = AVal.int IntKind.i64 (0 : Int) ∧ constA (Value.int IntKind.i64 (3 : Int)) = AVal.int IntKind.i64 (3 : Int) ∧ IntKind.i64.wrap ((3 : Int) - IntKind.i64.wrap ((1 : Int) + IntKind.i64.wrap ((IntKind.u64.wrap
 (IntKind.i64.wrap (k.a.tdiv 2))).tmod 2))) = s.fst.p ∧ constA (Value.int IntKind.i64 (3 : Int)) = AVal.int IntKind.i64 (3 : Int) ∧ constA (Value.int IntKind.i64 (3 : Int)) = AVal.int IntKind.i64 (3 : Int) ∧ constA
 (Value.int IntKind.i64 (3 : Int)) = AVal.int IntKind.i64 (3 : Int) ∧ constA (Value.int IntKind.i64 (6 : Int)) = AVal.int IntKind.i64 (6 : Int) ∧ constA (Value.int IntKind.i64 (3 : Int)) = AVal.int IntKind.i64 (3 : Int) ∧
 constA (Value.int IntKind.i64 (0 : Int)) = AVal.int IntKind.i64 (0 : Int) ∧ constA (Value.int IntKind.i64 (1 : Int)) = AVal.int IntKind.i64 (1 : Int) ∧ constA (Value.int IntKind.i64 (2 : Int)) = AVal.int IntKind.i64 (2 :
 Int) ∧ (NumOk s.fst ∧ s.snd.snd < 3) ∧ (2 : Nat) < 3 ∧ True))) := by kernel_rfl
theorem lk_c0 (x : NumS) (far : Int) : Go.Sy.Tree.holds (cutVC FL (lookC l4) 1500 Tryz.f4 b4 lkF 3 lkC (x, far, 0)) = ( (decide (x.e ≥ (1 : Int)) = true → (decide (x.e ≤ 2) = true → (decide (x.c ≥ (1 : Int)) = true →
 (decide (x.c ≤ 2) = true → (decide (x.s ≥ (1 : Int)) = true → (decide (x.s ≤ 16) = true → (decide (x.r ≥ (1 : Int)) = true → (decide (x.r ≤ 32) = true → (decide (x.w ≥ (1 : Int)) = true → (decide (x.w ≤ 32) = true →
 (decide (x.t ≥ (0 : Int)) = true → (decide (x.t ≤ 8) = true → (decide (x.m ≥ (0 : Int)) = true → (decide (x.m ≤ 1099511627776) = true → (decide (x.o ≥ (1 : Int)) = true → ((!decide (x.o ≤ 3)) = true → Stuck "no") ∧
 ((!decide (x.o ≤ 3)) = false → (decide (x.p ≥ (1 : Int)) = true → ((!decide (x.p ≤ 3)) = true → Stuck "no") ∧ ((!decide (x.p ≤ 3)) = false → ∃ (s : NumS × Nat × Nat), x.e = s.fst.e ∧ x.c = s.fst.c ∧ x.s = s.fst.s ∧ x.r =
 s.fst.r ∧ x.w = s.fst.w ∧ x.t = s.fst.t ∧ constA (Value.int IntKind.i64 (50 : Int)) = AVal.int IntKind.i64 (50 : Int) ∧ x.m = s.fst.m ∧ AVal.int IntKind.i64 (0 : Int) = AVal.int IntKind.i64 (0 : Int) ∧ AVal.int
 IntKind.i64 (1 : Int) = AVal.int IntKind.i64 (1 : Int) ∧ AVal.int IntKind.i64 (2 : Int) = AVal.int IntKind.i64 (2 : Int) ∧ AVal.int IntKind.i64 (3 : Int) = AVal.int IntKind.i64 (3 : Int) ∧ AVal.int IntKind.i64 (0 : Int)
 = AVal.int IntKind.i64 (0 : Int) ∧ AVal.int IntKind.i64 (1 : Int) = AVal.int IntKind.i64 (1 : Int) ∧ AVal.int IntKind.i64 (2 : Int) = AVal.int IntKind.i64 (2 : Int) ∧ AVal.int IntKind.i64 (3 : Int) = AVal.int IntKind.i64
 (3 : Int) ∧ AVal.int IntKind.i64 (0 : Int) = AVal.int IntKind.i64 (0 : Int) ∧ x.o = s.fst.o ∧ AVal.int IntKind.i64 (0 : Int) = AVal.int IntKind.i64 (0 : Int) ∧ AVal.int IntKind.i64 (3 : Int) = AVal.int IntKind.i64 (3 :
 Int) ∧ x.p = s.fst.p ∧ AVal.int IntKind.i64 (3 : Int) = AVal.int IntKind.i64 (3 : Int) ∧ AVal.int IntKind.i64 (3 : Int) = AVal.int IntKind.i64 (3 : Int) ∧ AVal.int IntKind.i64 (3 : Int) = AVal.int IntKind.i64 (3 : Int) ∧
 AVal.int IntKind.i64 (6 : Int) = AVal.int IntKind.i64 (6 : Int) ∧ AVal.int IntKind.i64 (3 : Int) = AVal.int IntKind.i64 (3 : Int) ∧ AVal.int IntKind.i64 (0 : Int) = AVal.int IntKind.i64 (0 : Int) ∧ AVal.int IntKind.i64
 (1 : Int) = AVal.int IntKind.i64 (1 : Int) ∧ AVal.int IntKind.i64 (2 : Int) = AVal.int IntKind.i64 (2 : Int) ∧ constA (Value.int IntKind.i64 (13 : Int)) = AVal.int IntKind.i64 (13 : Int) ∧ AVal.int IntKind.i64 (0 : Int)
 = AVal.int IntKind.i64 (↑s.snd.fst : Int) ∧ AVal.int IntKind.i64 (0 : Int) = AVal.int IntKind.i64 (0 : Int) ∧ AVal.int IntKind.i64 (0 : Int) = AVal.int IntKind.i64 (0 : Int) ∧ AVal.int IntKind.i64 (0 : Int) = AVal.int
 IntKind.i64 (0 : Int) ∧ constA (Value.int IntKind.i64 (8 : Int)) = AVal.int IntKind.i64 (8 : Int) ∧ constA (Value.int IntKind.i64 (2 : Int)) = AVal.int IntKind.i64 (2 : Int) ∧ AVal.int IntKind.i64 (0 : Int) = AVal.int
 IntKind.i64 (0 : Int) ∧ AVal.int IntKind.i64 (0 : Int) = AVal.int IntKind.i64 (0 : Int) ∧ AVal.int IntKind.i64 (0 : Int) = AVal.int IntKind.i64 ((3 : Int) * (↑s.snd.fst : Int)) ∧ constA (Value.int IntKind.i64 (12 : Int))
 = AVal.int IntKind.i64 (12 : Int) ∧ constA (Value.int IntKind.i64 (2 : Int)) = AVal.int IntKind.i64 (2 : Int) ∧ AVal.int IntKind.i64 (0 : Int) = AVal.int IntKind.i64 (0 : Int) ∧ AVal.int IntKind.i64 (0 : Int) = AVal.int
 IntKind.i64 (0 : Int) ∧ AVal.int IntKind.i64 (0 : Int) = AVal.int IntKind.i64 (0 : Int) ∧ constA (Value.int IntKind.i64 (14 : Int)) = AVal.int IntKind.i64 (14 : Int) ∧ AVal.int IntKind.i64 (0 : Int) = AVal.int
 IntKind.i64 (0 : Int) ∧ AVal.int IntKind.i64 (0 : Int) = AVal.int IntKind.i64 (0 : Int) ∧ AVal.int IntKind.i64 (0 : Int) = AVal.int IntKind.i64 (0 : Int) ∧ AVal.int IntKind.i64 (0 : Int) = AVal.int IntKind.i64 (0 : Int)
 ∧ constA (Value.int IntKind.i64 (13 : Int)) = AVal.int IntKind.i64 (13 : Int) ∧ AVal.int IntKind.i64 (0 : Int) = AVal.int IntKind.i64 (↑s.snd.fst : Int) ∧ AVal.int IntKind.i64 (0 : Int) = AVal.int IntKind.i64 (0 : Int) ∧
 AVal.int IntKind.i64 (0 : Int) = AVal.int IntKind.i64 (0 : Int) ∧ AVal.int IntKind.i64 (0 : Int) = AVal.int IntKind.i64 (0 : Int) ∧ constA (Value.int IntKind.i64 (8 : Int)) = AVal.int IntKind.i64 (8 : Int) ∧ constA
 (Value.int IntKind.i64 (2 : Int)) = AVal.int IntKind.i64 (2 : Int) ∧ AVal.int IntKind.i64 (0 : Int) = AVal.int IntKind.i64 (0 : Int) ∧ AVal.int IntKind.i64 (0 : Int) = AVal.int IntKind.i64 (0 : Int) ∧ AVal.int
 IntKind.i64 (0 : Int) = AVal.int IntKind.i64 ((3 : Int) * (↑s.snd.fst : Int)) ∧ constA (Value.int IntKind.i64 (12 : Int)) = AVal.int IntKind.i64 (12 : Int) ∧ constA (Value.int IntKind.i64 (2 : Int)) = AVal.int
 IntKind.i64 (2 : Int) ∧ AVal.int IntKind.i64 (0 : Int) = AVal.int IntKind.i64 (0 : Int) ∧ AVal.int IntKind.i64 (0 : Int) = AVal.int IntKind.i64 (0 : Int) ∧ AVal.int IntKind.i64 (0 : Int) = AVal.int IntKind.i64 (0 : Int)
 ∧ constA (Value.int IntKind.i64 (14 : Int)) = AVal.int IntKind.i64 (14 : Int) ∧ AVal.int IntKind.i64 (0 : Int) = AVal.int IntKind.i64 (0 : Int) ∧ AVal.int IntKind.i64 (0 : Int) = AVal.int IntKind.i64 (0 : Int) ∧ AVal.int
 IntKind.i64 (0 : Int) = AVal.int IntKind.i64 (0 : Int) ∧ AVal.int IntKind.i64 (0 : Int) = AVal.int IntKind.i64 (0 : Int) ∧ AVal.int IntKind.i64 (3 : Int) = AVal.int IntKind.i64 (3 : Int) ∧ constA (Value.int IntKind.i64
 (-1 : Int)) = AVal.int IntKind.i64 (-1 : Int) ∧ constA (Value.int IntKind.i64 (-1 : Int)) = AVal.int IntKind.i64 (-1 : Int) ∧ constA (Value.int IntKind.i64 (0 : Int)) = AVal.int IntKind.i64 (0 : Int) ∧ AVal.int
 IntKind.i64 (3 : Int) = AVal.int IntKind.i64 (3 : Int) ∧ constA (Value.int IntKind.i64 (-1 : Int)) = AVal.int IntKind.i64 (-1 : Int) ∧ constA (Value.int IntKind.i64 (-1 : Int)) = AVal.int IntKind.i64 (-1 : Int) ∧ constA
 (Value.int IntKind.i64 (0 : Int)) = AVal.int IntKind.i64 (0 : Int) ∧ AVal.int IntKind.i64 (0 : Int) = AVal.int IntKind.i64 (0 : Int) ∧ AVal.int IntKind.i64 (1 : Int) = AVal.int IntKind.i64 (1 : Int) ∧ AVal.int
 IntKind.i64 (2 : Int) = AVal.int IntKind.i64 (2 : Int) ∧ AVal.int IntKind.i64 (3 : Int) = AVal.int IntKind.i64 (3 : Int) ∧ AVal.int IntKind.i64 (0 : Int) = AVal.int IntKind.i64 (0 : Int) ∧ AVal.int IntKind.i64 (1 : Int)
 = AVal.int IntKind.i64 (1 : Int) ∧ AVal.int IntKind.i64 (2 : Int) = AVal.int IntKind.i64 (2 : Int) ∧ AVal.int IntKind.i64 (3 : Int) = AVal.int IntKind.i64 (3 : Int) ∧ AVal.int IntKind.i64 (0 : Int) = AVal.int IntKind.i64
 (0 : Int) ∧ constA (Value.int IntKind.i64 (-1 : Int)) = AVal.int IntKind.i64 (-1 : Int) ∧ constA (Value.int IntKind.i64 (-1 : Int)) = AVal.int IntKind.i64 (-1 : Int) ∧ constA (Value.int IntKind.i64 (-1 : Int)) = AVal.int
 IntKind.i64 (-1 : Int) ∧ constA (Value.int IntKind.i64 (-1 : Int)) = AVal.int IntKind.i64 (-1 : Int) ∧ constA (Value.int IntKind.i64 (-1 : Int)) = AVal.int IntKind.i64 (-1 : Int) ∧ constA (Value.int IntKind.i64 (-1 :
 Int)) = AVal.int IntKind.i64 (-1 : Int) ∧ constA (Value.int IntKind.i64 (-1 : Int)) = AVal.int IntKind.i64 (-1 : Int) ∧ constA (Value.int IntKind.i64 (-1 : Int)) = AVal.int IntKind.i64 (-1 : Int) ∧ constA (Value.int
 IntKind.i64 (-1 : Int)) = AVal.int IntKind.i64 (-1 : Int) ∧ AVal.int IntKind.i64 (0 : Int) = AVal.int IntKind.i64 (0 : Int) ∧ constA (Value.int IntKind.i64 (50 : Int)) = AVal.int IntKind.i64 (50 : Int) ∧ AVal.int
 IntKind.i64 (0 : Int) = AVal.int IntKind.i64 (0 : Int) ∧ AVal.int IntKind.i64 (0 : Int) = AVal.int IntKind.i64 (0 : Int) ∧ AVal.int IntKind.i64 (0 : Int) = AVal.int IntKind.i64 (0 : Int) ∧ AVal.int IntKind.i64 (0 : Int)
 = AVal.int IntKind.i64 (0 : Int) ∧ AVal.int IntKind.i64 (0 : Int) = AVal.int IntKind.i64 (0 : Int) ∧ constA (Value.int IntKind.i64 (-1 : Int)) = AVal.int IntKind.i64 (-1 : Int) ∧ AVal.nils = AVal.nils ∧ AVal.nils =
 AVal.nils ∧ AVal.int IntKind.i64 (0 : Int) = AVal.int IntKind.i64 (0 : Int) ∧ constA (Value.int IntKind.i64 (50 : Int)) = AVal.int IntKind.i64 (50 : Int) ∧ AVal.int IntKind.i64 (0 : Int) = AVal.int IntKind.i64 (0 : Int)
 ∧ AVal.int IntKind.i64 (0 : Int) = AVal.int IntKind.i64 (0 : Int) ∧ AVal.int IntKind.i64 (0 : Int) = AVal.int IntKind.i64 (0 : Int) ∧ AVal.int IntKind.i64 (0 : Int) = AVal.int IntKind.i64 (0 : Int) ∧ AVal.int IntKind.i64
 (0 : Int) = AVal.int IntKind.i64 (0 : Int) ∧ constA (Value.int IntKind.i64 (-1 : Int)) = AVal.int IntKind.i64 (-1 : Int) ∧ AVal.nils = AVal.nils ∧ AVal.nils = AVal.nils ∧ constA (Value.slice none (0 : Nat) (0 : Nat)) =
 AVal.nils ∧ constA (Value.slice none (0 : Nat) (0 : Nat)) = AVal.nils ∧ constA (Value.slice none (0 : Nat) (0 : Nat)) = AVal.nils ∧ AVal.int IntKind.i64 (IntKind.i64.wrap ((IntKind.u64.wrap far).tmod 5)) = AVal.int
 IntKind.i64 (↑s.snd.snd : Int) ∧ (s.snd.fst < 3 ∧ s.snd.snd < 5) ∧ (1 : Nat) < 2 ∧ True)) ∧ (decide (x.p ≥ (1 : Int)) = false → Stuck "no"))) ∧ (decide (x.o ≥ (1 : Int)) = false → Stuck "no")) ∧ (decide (x.m ≤
 1099511627776) = false → Stuck "no")) ∧ (decide (x.m ≥ (0 : Int)) = false → Stuck "no")) ∧ (decide (x.t ≤ 8) = false → Stuck "no")) ∧ (decide (x.t ≥ (0 : Int)) = false → Stuck "no")) ∧ (decide (x.w ≤ 32) = false → Stuck
 "no")) ∧ (decide (x.w ≥ (1 : Int)) = false → Stuck "no")) ∧ (decide (x.r ≤ 32) = false → Stuck "no")) ∧ (decide (x.r ≥ (1 : Int)) = false → Stuck "no")) ∧ (decide (x.s ≤ 16) = false → Stuck "no")) ∧ (decide (x.s ≥ (1 :
 Int)) = false → Stuck "no")) ∧ (decide (x.c ≤ 2) = false → Stuck "no")) ∧ (decide (x.c ≥ (1 : Int)) = false → Stuck "no")) ∧ (decide (x.e ≤ 2) = false → Stuck "no")) ∧ (decide (x.e ≥ (1 : Int)) = false → Stuck "no")) :=
 by kernel_rfl
theorem lk_c1 (x : NumS) (far : Int) : Go.Sy.Tree.holds (cutVC FL (lookC l4) 1500 Tryz.f4 b4 lkF 3 lkC (x, far, 1)) = ( (decide (x.e ≥ (1 : Int)) = true → (decide (x.e ≤ 2) = true → (decide (x.c ≥ (1 : Int)) = true →
 (decide (x.c ≤ 2) = true → (decide (x.s ≥ (1 : Int)) = true → (decide (x.s ≤ 16) = true → (decide (x.r ≥ (1 : Int)) = true → (decide (x.r ≤ 32) = true → (decide (x.w ≥ (1 : Int)) = true → (decide (x.w ≤ 32) = true →
 (decide (x.t ≥ (0 : Int)) = true → (decide (x.t ≤ 8) = true → (decide (x.m ≥ (0 : Int)) = true → (decide (x.m ≤ 1099511627776) = true → (decide (x.o ≥ (1 : Int)) = true → ((!decide (x.o ≤ 3)) = true → Stuck "no") ∧
 ((!decide (x.o ≤ 3)) = false → (decide (x.p ≥ (1 : Int)) = true → ((!decide (x.p ≤ 3)) = true → Stuck "no") ∧ ((!decide (x.p ≤ 3)) = false → ∃ (s : NumS × Nat × Nat), x.e = s.fst.e ∧ x.c = s.fst.c ∧ x.s = s.fst.s ∧ x.r =
 s.fst.r ∧ x.w = s.fst.w ∧ x.t = s.fst.t ∧ constA (Value.int IntKind.i64 (50 : Int)) = AVal.int IntKind.i64 (50 : Int) ∧ x.m = s.fst.m ∧ AVal.int IntKind.i64 (0 : Int) = AVal.int IntKind.i64 (0 : Int) ∧ AVal.int
 IntKind.i64 (1 : Int) = AVal.int IntKind.i64 (1 : Int) ∧ AVal.int IntKind.i64 (2 : Int) = AVal.int IntKind.i64 (2 : Int) ∧ AVal.int IntKind.i64 (3 : Int) = AVal.int IntKind.i64 (3 : Int) ∧ AVal.int IntKind.i64 (0 : Int)
 = AVal.int IntKind.i64 (0 : Int) ∧ AVal.int IntKind.i64 (1 : Int) = AVal.int IntKind.i64 (1 : Int) ∧ AVal.int IntKind.i64 (2 : Int) = AVal.int IntKind.i64 (2 : Int) ∧ AVal.int IntKind.i64 (3 : Int) = AVal.int IntKind.i64
 (3 : Int) ∧ AVal.int IntKind.i64 (0 : Int) = AVal.int IntKind.i64 (0 : Int) ∧ x.o = s.fst.o ∧ AVal.int IntKind.i64 (0 : Int) = AVal.int IntKind.i64 (0 : Int) ∧ AVal.int IntKind.i64 (3 : Int) = AVal.int IntKind.i64 (3 :
 Int) ∧ x.p = s.fst.p ∧ AVal.int IntKind.i64 (3 : Int) = AVal.int IntKind.i64 (3 : Int) ∧ AVal.int IntKind.i64 (3 : Int) = AVal.int IntKind.i64 (3 : Int) ∧ AVal.int IntKind.i64 (3 : Int) = AVal.int IntKind.i64 (3 : Int) ∧
 AVal.int IntKind.i64 (6 : Int) = AVal.int IntKind.i64 (6 : Int) ∧ AVal.int IntKind.i64 (3 : Int) = AVal.int IntKind.i64 (3 : Int) ∧ AVal.int IntKind.i64 (0 : Int) = AVal.int IntKind.i64 (0 : Int) ∧ AVal.int IntKind.i64
 (1 : Int) = AVal.int IntKind.i64 (1 : Int) ∧ AVal.int IntKind.i64 (2 : Int) = AVal.int IntKind.i64 (2 : Int) ∧ constA (Value.int IntKind.i64 (13 : Int)) = AVal.int IntKind.i64 (13 : Int) ∧ AVal.int IntKind.i64 (1 : Int)
 = AVal.int IntKind.i64 (↑s.snd.fst : Int) ∧ AVal.int IntKind.i64 (0 : Int) = AVal.int IntKind.i64 (0 : Int) ∧ AVal.int IntKind.i64 (0 : Int) = AVal.int IntKind.i64 (0 : Int) ∧ AVal.int IntKind.i64 (0 : Int) = AVal.int
 IntKind.i64 (0 : Int) ∧ constA (Value.int IntKind.i64 (8 : Int)) = AVal.int IntKind.i64 (8 : Int) ∧ constA (Value.int IntKind.i64 (2 : Int)) = AVal.int IntKind.i64 (2 : Int) ∧ AVal.int IntKind.i64 (0 : Int) = AVal.int
 IntKind.i64 (0 : Int) ∧ AVal.int IntKind.i64 (0 : Int) = AVal.int IntKind.i64 (0 : Int) ∧ AVal.int IntKind.i64 (3 : Int) = AVal.int IntKind.i64 ((3 : Int) * (↑s.snd.fst : Int)) ∧ constA (Value.int IntKind.i64 (12 : Int))
 = AVal.int IntKind.i64 (12 : Int) ∧ constA (Value.int IntKind.i64 (2 : Int)) = AVal.int IntKind.i64 (2 : Int) ∧ AVal.int IntKind.i64 (0 : Int) = AVal.int IntKind.i64 (0 : Int) ∧ AVal.int IntKind.i64 (0 : Int) = AVal.int
 IntKind.i64 (0 : Int) ∧ AVal.int IntKind.i64 (0 : Int) = AVal.int IntKind.i64 (0 : Int) ∧ constA (Value.int IntKind.i64 (14 : Int)) = AVal.int IntKind.i64 (14 : Int) ∧ AVal.int IntKind.i64 (0 : Int) = AVal.int
 IntKind.i64 (0 : Int) ∧ AVal.int IntKind.i64 (0 : Int) = AVal.int IntKind.i64 (0 : Int) ∧ AVal.int IntKind.i64 (0 : Int) = AVal.int IntKind.i64 (0 : Int) ∧ AVal.int IntKind.i64 (0 : Int) = AVal.int IntKind.i64 (0 : Int)
 ∧ constA (Value.int IntKind.i64 (13 : Int)) = AVal.int IntKind.i64 (13 : Int) ∧ AVal.int IntKind.i64 (1 : Int) = AVal.int IntKind.i64 (↑s.snd.fst : Int) ∧ AVal.int IntKind.i64 (0 : Int) = AVal.int IntKind.i64 (0 : Int) ∧
 AVal.int IntKind.i64 (0 : Int) = AVal.int IntKind.i64 (0 : Int) ∧ AVal.int IntKind.i64 (0 : Int) = AVal.int IntKind.i64 (0 : Int) ∧ constA (Value.int IntKind.i64 (8 : Int)) = AVal.int IntKind.i64 (8 : Int) ∧ constA
 (Value.int IntKind.i64 (2 : Int)) = AVal.int IntKind.i64 (2 : Int) ∧ AVal.int IntKind.i64 (0 : Int) = AVal.int IntKind.i64 (0 : Int) ∧ AVal.int IntKind.i64 (0 : Int) = AVal.int IntKind.i64 (0 : Int) ∧ AVal.int
 IntKind.i64 (3 : Int) = AVal.int IntKind.i64 ((3 : Int) * (↑s.snd.fst : Int)) ∧ constA (Value.int IntKind.i64 (12 : Int)) = AVal.int IntKind.i64 (12 : Int) ∧ constA (Value.int IntKind.i64 (2 : Int)) = AVal.int
 IntKind.i64 (2 : Int) ∧ AVal.int IntKind.i64 (0 : Int) = AVal.int IntKind.i64 (0 : Int) ∧ AVal.int IntKind.i64 (0 : Int) = AVal.int IntKind.i64 (0 : Int) ∧ AVal.int IntKind.i64 (0 : Int) = AVal.int IntKind.i64 (0 : Int)
 ∧ constA (Value.int IntKind.i64 (14 : Int)) = AVal.int IntKind.i64 (14 : Int) ∧ AVal.int IntKind.i64 (0 : Int) = AVal.int IntKind.i64 (0 : Int) ∧ AVal.int IntKind.i64 (0 : Int) = AVal.int IntKind.i64 (0 : Int) ∧ AVal.int
 IntKind.i64 (0 : Int) = AVal.int IntKind.i64 (0 : Int) ∧ AVal.int IntKind.i64 (0 : Int) = AVal.int IntKind.i64 (0 : Int) ∧ AVal.int IntKind.i64 (3 : Int) = AVal.int IntKind.i64 (3 : Int) ∧ constA (Value.int IntKind.i64
 (-1 : Int)) = AVal.int IntKind.i64 (-1 : Int) ∧ constA (Value.int IntKind.i64 (-1 : Int)) = AVal.int IntKind.i64 (-1 : Int) ∧ constA (Value.int IntKind.i64 (0 : Int)) = AVal.int IntKind.i64 (0 : Int) ∧ AVal.int
 IntKind.i64 (3 : Int) = AVal.int IntKind.i64 (3 : Int) ∧ constA (Value.int IntKind.i64 (-1 : Int)) = AVal.int IntKind.i64 (-1 : Int) ∧ constA (Value.int IntKind.i64 (-1 : Int)) = AVal.int IntKind.i64 (-1 : Int) ∧ constA
 (Value.int IntKind.i64 (0 : Int)) = AVal.int IntKind.i64 (0 : Int) ∧ AVal.int IntKind.i64 (0 : Int) = AVal.int IntKind.i64 (0 : Int) ∧ AVal.int IntKind.i64 (1 : Int) = AVal.int IntKind.i64 (1 : Int) ∧ AVal.int
 IntKind.i64 (2 : Int) = AVal.int IntKind.i64 (2 : Int) ∧ AVal.int IntKind.i64 (3 : Int) = AVal.int IntKind.i64 (3 : Int) ∧ AVal.int IntKind.i64 (0 : Int) = AVal.int IntKind.i64 (0 : Int) ∧ AVal.int IntKind.i64 (1 : Int)
 = AVal.int IntKind.i64 (1 : Int) ∧ AVal.int IntKind.i64 (2 : Int) = AVal.int IntKind.i64 (2 : Int) ∧ AVal.int IntKind.i64 (3 : Int) = AVal.int IntKind.i64 (3 : Int) ∧ AVal.int IntKind.i64 (0 : Int) = AVal.int IntKind.i64
 (0 : Int) ∧ constA (Value.int IntKind.i64 (-1 : Int)) = AVal.int IntKind.i64 (-1 : Int) ∧ constA (Value.int IntKind.i64 (-1 : Int)) = AVal.int IntKind.i64 (-1 : Int) ∧ constA (Value.int IntKind.i64 (-1 : Int)) = AVal.int
 IntKind.i64 (-1 : Int) ∧ constA (Value.int IntKind.i64 (-1 : Int)) = AVal.int IntKind.i64 (-1 : Int) ∧ constA (Value.int IntKind.i64 (-1 : Int)) = AVal.int IntKind.i64 (-1 : Int) ∧ constA (Value.int IntKind.i64 (-1 :
 Int)) = AVal.int IntKind.i64 (-1 : Int) ∧ constA (Value.int IntKind.i64 (-1 : Int)) = AVal.int IntKind.i64 (-1 : Int) ∧ constA (Value.int IntKind.i64 (-1 : Int)) = AVal.int IntKind.i64 (-1 : Int) ∧ constA (Value.int
 IntKind.i64 (-1 : Int)) = AVal.int IntKind.i64 (-1 : Int) ∧ AVal.int IntKind.i64 (0 : Int) = AVal.int IntKind.i64 (0 : Int) ∧ constA (Value.int IntKind.i64 (50 : Int)) = AVal.int IntKind.i64 (50 : Int) ∧ AVal.int
 IntKind.i64 (0 : Int) = AVal.int IntKind.i64 (0 : Int) ∧ AVal.int IntKind.i64 (0 : Int) = AVal.int IntKind.i64 (0 : Int) ∧ AVal.int IntKind.i64 (0 : Int) = AVal.int IntKind.i64 (0 : Int) ∧ AVal.int IntKind.i64 (0 : Int)
 = AVal.int IntKind.i64 (0 : Int) ∧ AVal.int IntKind.i64 (0 : Int) = AVal.int IntKind.i64 (0 : Int) ∧ constA (Value.int IntKind.i64 (-1 : Int)) = AVal.int IntKind.i64 (-1 : Int) ∧ AVal.nils = AVal.nils ∧ AVal.nils =
 AVal.nils ∧ AVal.int IntKind.i64 (0 : Int) = AVal.int IntKind.i64 (0 : Int) ∧ constA (Value.int IntKind.i64 (50 : Int)) = AVal.int IntKind.i64 (50 : Int) ∧ AVal.int IntKind.i64 (0 : Int) = AVal.int IntKind.i64 (0 : Int)
 ∧ AVal.int IntKind.i64 (0 : Int) = AVal.int IntKind.i64 (0 : Int) ∧ AVal.int IntKind.i64 (0 : Int) = AVal.int IntKind.i64 (0 : Int) ∧ AVal.int IntKind.i64 (0 : Int) = AVal.int IntKind.i64 (0 : Int) ∧ AVal.int IntKind.i64
 (0 : Int) = AVal.int IntKind.i64 (0 : Int) ∧ constA (Value.int IntKind.i64 (-1 : Int)) = AVal.int IntKind.i64 (-1 : Int) ∧ AVal.nils = AVal.nils ∧ AVal.nils = AVal.nils ∧ constA (Value.slice none (0 : Nat) (0 : Nat)) =
 AVal.nils ∧ constA (Value.slice none (0 : Nat) (0 : Nat)) = AVal.nils ∧ constA (Value.slice none (0 : Nat) (0 : Nat)) = AVal.nils ∧ AVal.int IntKind.i64 (IntKind.i64.wrap ((IntKind.u64.wrap far).tmod 5)) = AVal.int
 IntKind.i64 (↑s.snd.snd : Int) ∧ (s.snd.fst < 3 ∧ s.snd.snd < 5) ∧ (1 : Nat) < 2 ∧ True)) ∧ (decide (x.p ≥ (1 : Int)) = false → Stuck "no"))) ∧ (decide (x.o ≥ (1 : Int)) = false → Stuck "no")) ∧ (decide (x.m ≤
 1099511627776) = false → Stuck "no")) ∧ (decide (x.m ≥ (0 : Int)) = false → Stuck "no")) ∧ (decide (x.t ≤ 8) = false → Stuck "no")) ∧ (decide (x.t ≥ (0 : Int)) = false → Stuck "no")) ∧ (decide (x.w ≤ 32) = false → Stuck
 "no")) ∧ (decide (x.w ≥ (1 : Int)) = false → Stuck "no")) ∧ (decide (x.r ≤ 32) = false → Stuck "no")) ∧ (decide (x.r ≥ (1 : Int)) = false → Stuck "no")) ∧ (decide (x.s ≤ 16) = false → Stuck "no")) ∧ (decide (x.s ≥ (1 :
 Int)) = false → Stuck "no")) ∧ (decide (x.c ≤ 2) = false → Stuck "no")) ∧ (decide (x.c ≥ (1 : Int)) = false → Stuck "no")) ∧ (decide (x.e ≤ 2) = false → Stuck "no")) ∧ (decide (x.e ≥ (1 : Int)) = false → Stuck "no")) :=
 by kernel_rfl
theorem lk_c2 (x : NumS) (far : Int) : Go.Sy.Tree.holds (cutVC FL (lookC l4) 1500 Tryz.f4 b4 lkF 3 lkC (x, far, 2)) = ( (decide (x.e ≥ (1 : Int)) = true → (decide (x.e ≤ 2) = true → (decide (x.c ≥ (1 : Int)) = true →
 (decide (x.c ≤ 2) = true → (decide (x.s ≥ (1 : Int)) = true → (decide (x.s ≤ 16) = true → (decide (x.r ≥ (1 : Int)) = true → (decide (x.r ≤ 32) = true → (decide (x.w ≥ (1 : Int)) = true → (decide (x.w ≤ 32) = true →
 (decide (x.t ≥ (0 : Int)) = true → (decide (x.t ≤ 8) = true → (decide (x.m ≥ (0 : Int)) = true → (decide (x.m ≤ 1099511627776) = true → (decide (x.o ≥ (1 : Int)) = true → ((!decide (x.o ≤ 3)) = true → Stuck "no") ∧
 ((!decide (x.o ≤ 3)) = false → (decide (x.p ≥ (1 : Int)) = true → ((!decide (x.p ≤ 3)) = true → Stuck "no") ∧ ((!decide (x.p ≤ 3)) = false → ∃ (s : NumS × Nat × Nat), x.e = s.fst.e ∧ x.c = s.fst.c ∧ x.s = s.fst.s ∧ x.r =
 s.fst.r ∧ x.w = s.fst.w ∧ x.t = s.fst.t ∧ constA (Value.int IntKind.i64 (50 : Int)) = AVal.int IntKind.i64 (50 : Int) ∧ x.m = s.fst.m ∧ AVal.int IntKind.i64 (0 : Int) = AVal.int IntKind.i64 (0 : Int) ∧ AVal.int
 IntKind.i64 (1 : Int) = AVal.int IntKind.i64 (1 : Int) ∧ AVal.int IntKind.i64 (2 : Int) = AVal.int IntKind.i64 (2 : Int) ∧ AVal.int IntKind.i64 (3 : Int) = AVal.int IntKind.i64 (3 : Int) ∧ AVal.int IntKind.i64 (0 : Int)
 = AVal.int IntKind.i64 (0 : Int) ∧ AVal.int IntKind.i64 (1 : Int) = AVal.int IntKind.i64 (1 : Int) ∧ AVal.int IntKind.i64 (2 : Int) = AVal.int IntKind.i64 (2 : Int) ∧ AVal.int IntKind.i64 (3 : Int) = AVal.int IntKind.i64
 (3 : Int) ∧ AVal.int IntKind.i64 (0 : Int) = AVal.int IntKind.i64 (0 : Int) ∧ x.o = s.fst.o ∧ AVal.int IntKind.i64 (0 : Int) = AVal.int IntKind.i64 (0 : Int) ∧ AVal.int IntKind.i64 (3 : Int) = AVal.int IntKind.i64 (3 :
 Int) ∧ x.p = s.fst.p ∧ AVal.int IntKind.i64 (3 : Int) = AVal.int IntKind.i64 (3 : Int) ∧ AVal.int IntKind.i64 (3 : Int) = AVal.int IntKind.i64 (3 : Int) ∧ AVal.int IntKind.i64 (3 : Int) = AVal.int IntKind.i64 (3 : Int) ∧
 AVal.int IntKind.i64 (6 : Int) = AVal.int IntKind.i64 (6 : Int) ∧ AVal.int IntKind.i64 (3 : Int) = AVal.int IntKind.i64 (3 : Int) ∧ AVal.int IntKind.i64 (0 : Int) = AVal.int IntKind.i64 (0 : Int) ∧ AVal.int IntKind.i64
 (1 : Int) = AVal.int IntKind.i64 (1 : Int) ∧ AVal.int IntKind.i64 (2 : Int) = AVal.int IntKind.i64 (2 : Int) ∧ constA (Value.int IntKind.i64 (13 : Int)) = AVal.int IntKind.i64 (13 : Int) ∧ AVal.int IntKind.i64 (2 : Int)
 = AVal.int IntKind.i64 (↑s.snd.fst : Int) ∧ AVal.int IntKind.i64 (0 : Int) = AVal.int IntKind.i64 (0 : Int) ∧ AVal.int IntKind.i64 (0 : Int) = AVal.int IntKind.i64 (0 : Int) ∧ AVal.int IntKind.i64 (0 : Int) = AVal.int
 IntKind.i64 (0 : Int) ∧ constA (Value.int IntKind.i64 (8 : Int)) = AVal.int IntKind.i64 (8 : Int) ∧ constA (Value.int IntKind.i64 (2 : Int)) = AVal.int IntKind.i64 (2 : Int) ∧ AVal.int IntKind.i64 (0 : Int) = AVal.int
 IntKind.i64 (0 : Int) ∧ AVal.int IntKind.i64 (0 : Int) = AVal.int IntKind.i64 (0 : Int) ∧ AVal.int IntKind.i64 (6 : Int) = AVal.int IntKind.i64 ((3 : Int) * (↑s.snd.fst : Int)) ∧ constA (Value.int IntKind.i64 (12 : Int))
 = AVal.int IntKind.i64 (12 : Int) ∧ constA (Value.int IntKind.i64 (2 : Int)) = AVal.int IntKind.i64 (2 : Int) ∧ AVal.int IntKind.i64 (0 : Int) = AVal.int IntKind.i64 (0 : Int) ∧ AVal.int IntKind.i64 (0 : Int) = AVal.int
 IntKind.i64 (0 : Int) ∧ AVal.int IntKind.i64 (0 : Int) = AVal.int IntKind.i64 (0 : Int) ∧ constA (Value.int IntKind.i64 (14 : Int)) = AVal.int IntKind.i64 (14 : Int) ∧ AVal.int IntKind.i64 (0 : Int) = AVal.int
 IntKind.i64 (0 : Int) ∧ AVal.int IntKind.i64 (0 : Int) = AVal.int IntKind.i64 (0 : Int) ∧ AVal.int IntKind.i64 (0 : Int) = AVal.int IntKind.i64 (0 : Int) ∧ AVal.int IntKind.i64 (0 : Int) = AVal.int IntKind.i64 (0 : Int)
 ∧ constA (Value.int IntKind.i64 (13 : Int)) = AVal.int IntKind.i64 (13 : Int) ∧ AVal.int IntKind.i64 (2 : Int) = AVal.int IntKind.i64 (↑s.snd.fst : Int) ∧ AVal.int IntKind.i64 (0 : Int) = AVal.int IntKind.i64 (0 : Int) ∧
 AVal.int IntKind.i64 (0 : Int) = AVal.int IntKind.i64 (0 : Int) ∧ AVal.int IntKind.i64 (0 : Int) = AVal.int IntKind.i64 (0 : Int) ∧ constA (Value.int IntKind.i64 (8 : Int)) = AVal.int IntKind.i64 (8 : Int) ∧ constA
 (Value.int IntKind.i64 (2 : Int)) = AVal.int IntKind.i64 (2 : Int) ∧ AVal.int IntKind.i64 (0 : Int) = AVal.int IntKind.i64 (0 : Int) ∧ AVal.int IntKind.i64 (0 : Int) = AVal.int IntKind.i64 (0 : Int) ∧ AVal.int
 IntKind.i64 (6 : Int) = AVal.int IntKind.i64 ((3 : Int) * (↑s.snd.fst : Int)) ∧ constA (Value.int IntKind.i64 (12 : Int)) = AVal.int IntKind.i64 (12 : Int) ∧ constA (Value.int IntKind.i64 (2 : Int)) = AVal.int
 IntKind.i64 (2 : Int) ∧ AVal.int IntKind.i64 (0 : Int) = AVal.int IntKind.i64 (0 : Int) ∧ AVal.int IntKind.i64 (0 : Int) = AVal.int IntKind.i64 (0 : Int) ∧ AVal.int IntKind.i64 (0 : Int) = AVal.int IntKind.i64 (0 : Int)
 ∧ constA (Value.int IntKind.i64 (14 : Int)) = AVal.int IntKind.i64 (14 : Int) ∧ AVal.int IntKind.i64 (0 : Int) = AVal.int IntKind.i64 (0 : Int) ∧ AVal.int IntKind.i64 (0 : Int) = AVal.int IntKind.i64 (0 : Int) ∧ AVal.int
 IntKind.i64 (0 : Int) = AVal.int IntKind.i64 (0 : Int) ∧ AVal.int IntKind.i64 (0 : Int) = AVal.int IntKind.i64 (0 : Int) ∧ AVal.int IntKind.i64 (3 : Int) = AVal.int IntKind.i64 (3 : Int) ∧ constA (Value.int IntKind.i64
 (-1 : Int)) = AVal.int IntKind.i64 (-1 : Int) ∧ constA (Value.int IntKind.i64 (-1 : Int)) = AVal.int IntKind.i64 (-1 : Int) ∧ constA (Value.int IntKind.i64 (0 : Int)) = AVal.int IntKind.i64 (0 : Int) ∧ AVal.int
 IntKind.i64 (3 : Int) = AVal.int IntKind.i64 (3 : Int) ∧ constA (Value.int IntKind.i64 (-1 : Int)) = AVal.int IntKind.i64 (-1 : Int) ∧ constA (Value.int IntKind.i64 (-1 : Int)) = AVal.int IntKind.i64 (-1 : Int) ∧ constA
 (Value.int IntKind.i64 (0 : Int)) = AVal.int IntKind.i64 (0 : Int) ∧ AVal.int IntKind.i64 (0 : Int) = AVal.int IntKind.i64 (0 : Int) ∧ AVal.int IntKind.i64 (1 : Int) = AVal.int IntKind.i64 (1 : Int) ∧ AVal.int
 IntKind.i64 (2 : Int) = AVal.int IntKind.i64 (2 : Int) ∧ AVal.int IntKind.i64 (3 : Int) = AVal.int IntKind.i64 (3 : Int) ∧ AVal.int IntKind.i64 (0 : Int) = AVal.int IntKind.i64 (0 : Int) ∧ AVal.int IntKind.i64 (1 : Int)
 = AVal.int IntKind.i64 (1 : Int) ∧ AVal.int IntKind.i64 (2 : Int) = AVal.int IntKind.i64 (2 : Int) ∧ AVal.int IntKind.i64 (3 : Int) = AVal.int IntKind.i64 (3 : Int) ∧ AVal.int IntKind.i64 (0 : Int) = AVal.int IntKind.i64
 (0 : Int) ∧ constA (Value.int IntKind.i64 (-1 : Int)) = AVal.int IntKind.i64 (-1 : Int) ∧ constA (Value.int IntKind.i64 (-1 : Int)) = AVal.int IntKind.i64 (-1 : Int) ∧ constA (Value.int IntKind.i64 (-1 : Int)) = AVal.int
 IntKind.i64 (-1 : Int) ∧ constA (Value.int IntKind.i64 (-1 : Int)) = AVal.int IntKind.i64 (-1 : Int) ∧ constA (Value.int IntKind.i64 (-1 : Int)) = AVal.int IntKind.i64 (-1 : Int) ∧ constA (Value.int IntKind.i64 (-1 :
 Int)) = AVal.int IntKind.i64 (-1 : Int) ∧ constA (Value.int IntKind.i64 (-1 : Int)) = AVal.int IntKind.i64 (-1 : Int) ∧ constA (Value.int IntKind.i64 (-1 : Int)) = AVal.int IntKind.i64 (-1 : Int) ∧ constA (Value.int
 IntKind.i64 (-1 : Int)) = AVal.int IntKind.i64 (-1 : Int) ∧ AVal.int IntKind.i64 (0 : Int) = AVal.int IntKind.i64 (0 : Int) ∧ constA (Value.int IntKind.i64 (50 : Int)) = AVal.int IntKind.i64 (50 : Int) ∧ AVal.int
 IntKind.i64 (0 : Int) = AVal.int IntKind.i64 (0 : Int) ∧ AVal.int IntKind.i64 (0 : Int) = AVal.int IntKind.i64 (0 : Int) ∧ AVal.int IntKind.i64 (0 : Int) = AVal.int IntKind.i64 (0 : Int) ∧ AVal.int IntKind.i64 (0 : Int)
 = AVal.int IntKind.i64 (0 : Int) ∧ AVal.int IntKind.i64 (0 : Int) = AVal.int IntKind.i64 (0 : Int) ∧ constA (Value.int IntKind.i64 (-1 : Int)) = AVal.int IntKind.i64 (-1 : Int) ∧ AVal.nils = AVal.nils ∧ AVal.nils =
 AVal.nils ∧ AVal.int IntKind.i64 (0 : Int) = AVal.int IntKind.i64 (0 : Int) ∧ constA (Value.int IntKind.i64 (50 : Int)) = AVal.int IntKind.i64 (50 : Int) ∧ AVal.int IntKind.i64 (0 : Int) = AVal.int IntKind.i64 (0 : Int)
 ∧ AVal.int IntKind.i64 (0 : Int) = AVal.int IntKind.i64 (0 : Int) ∧ AVal.int IntKind.i64 (0 : Int) = AVal.int IntKind.i64 (0 : Int) ∧ AVal.int IntKind.i64 (0 : Int) = AVal.int IntKind.i64 (0 : Int) ∧ AVal.int IntKind.i64
 (0 : Int) = AVal.int IntKind.i64 (0 : Int) ∧ constA (Value.int IntKind.i64 (-1 : Int)) = AVal.int IntKind.i64 (-1 : Int) ∧ AVal.nils = AVal.nils ∧ AVal.nils = AVal.nils ∧ constA (Value.slice none (0 : Nat) (0 : Nat)) =
 AVal.nils ∧ constA (Value.slice none (0 : Nat) (0 : Nat)) = AVal.nils ∧ constA (Value.slice none (0 : Nat) (0 : Nat)) = AVal.nils ∧ AVal.int IntKind.i64 (IntKind.i64.wrap ((IntKind.u64.wrap far).tmod 5)) = AVal.int
 IntKind.i64 (↑s.snd.snd : Int) ∧ (s.snd.fst < 3 ∧ s.snd.snd < 5) ∧ (1 : Nat) < 2 ∧ True)) ∧ (decide (x.p ≥ (1 : Int)) = false → Stuck "no"))) ∧ (decide (x.o ≥ (1 : Int)) = false → Stuck "no")) ∧ (decide (x.m ≤
 1099511627776) = false → Stuck "no")) ∧ (decide (x.m ≥ (0 : Int)) = false → Stuck "no")) ∧ (decide (x.t ≤ 8) = false → Stuck "no")) ∧ (decide (x.t ≥ (0 : Int)) = false → Stuck "no")) ∧ (decide (x.w ≤ 32) = false → Stuck
 "no")) ∧ (decide (x.w ≥ (1 : Int)) = false → Stuck "no")) ∧ (decide (x.r ≤ 32) = false → Stuck "no")) ∧ (decide (x.r ≥ (1 : Int)) = false → Stuck "no")) ∧ (decide (x.s ≤ 16) = false → Stuck "no")) ∧ (decide (x.s ≥ (1 :
 Int)) = false → Stuck "no")) ∧ (decide (x.c ≤ 2) = false → Stuck "no")) ∧ (decide (x.c ≥ (1 : Int)) = false → Stuck "no")) ∧ (decide (x.e ≤ 2) = false → Stuck "no")) ∧ (decide (x.e ≥ (1 : Int)) = false → Stuck "no")) :=
 by kernel_rfl
def pk (x m : Int) : Int := IntKind.i64.wrap ((IntKind.u64.wrap x).tmod m)
theorem pk_is (x m : Int) (h0 : 0 < m) (h1 : m < 1000000) : 0 ≤ pk x m ∧ pk x m < m := by
  have hx : 0 ≤ IntKind.u64.wrap x := (wrapU64_is x).1
  have e : (IntKind.u64.wrap x).tmod m = IntKind.u64.wrap x % m := Int.tmod_eq_emod_of_nonneg hx
  have h2 := Int.emod_nonneg (IntKind.u64.wrap x) (show m ≠ 0 by omega)
  have h3 := Int.emod_lt_of_pos (IntKind.u64.wrap x) h0
  unfold pk
  rw [e, wrap64 (by omega) (by omega)]
  exact ⟨h2, h3⟩
theorem int_eq {m n : Int} (h : m = n) : AVal.int IntKind.i64 m = AVal.int IntKind.i64 n := by rw [h]
theorem lkE_ok (k : K8) (lock far : Int) : Paid (entryX FL (lookC l4) 1500 Tryz.f4 b4 lkF [.agg (encK k), .i .i64 lock, .i .i64 far]) := by
  refine ⟨?_⟩
  rw [lk_e]
  have h := pk_is lock 3 (by decide) (by decide)
  refine ⟨(k, far, (pk lock 3).toNat), rfl, rfl, rfl, rfl, rfl, rfl, rfl, rfl, rfl, int_eq ?_, ?_, trivial⟩
  · show pk lock 3 = (((pk lock 3).toNat : Nat) : Int); omega
  · show (pk lock 3).toNat < 3; omega
theorem num_of {k : K8} {w m : Int} (hw : 1 ≤ w ∧ w ≤ 32) (hm : 0 ≤ m ∧ m ≤ 1099511627776) :
    NumOk ⟨IntKind.i64.wrap (1 + pk k.a 2), IntKind.i64.wrap (1 + pk k.b 2), IntKind.i64.wrap (1 + pk k.c 7), IntKind.i64.wrap (32 - IntKind.i64.wrap (pk k.d 4 * 9)), w, pk k.f 4, m,
      IntKind.i64.wrap (1 + pk (IntKind.i64.wrap (k.a.tdiv 2)) 2), IntKind.i64.wrap (3 - IntKind.i64.wrap (1 + pk (IntKind.i64.wrap (k.a.tdiv 2)) 2))⟩ := by
  have ha := pk_is k.a 2 (by decide) (by decide)
  have hb := pk_is k.b 2 (by decide) (by decide)
  have hc := pk_is k.c 7 (by decide) (by decide)
  have hd := pk_is k.d 4 (by decide) (by decide)
  have hf := pk_is k.f 4 (by decide) (by decide)
  have ho := pk_is (IntKind.i64.wrap (k.a.tdiv 2)) 2 (by decide) (by decide)
  rw [wrap64 (n := 1 + pk k.a 2) (by omega) (by omega), wrap64 (n := 1 + pk k.b 2) (by omega) (by omega), wrap64 (n := 1 + pk k.c 7) (by omega) (by omega), wrap64 (n := pk k.d 4 * 9) (by omega) (by omega),
    wrap64 (n := 32 - pk k.d 4 * 9) (by omega) (by omega), wrap64 (n := 1 + pk (IntKind.i64.wrap (k.a.tdiv 2)) 2) (by omega) (by omega), wrap64 (n := 3 - (1 + pk (IntKind.i64.wrap (k.a.tdiv 2)) 2)) (by omega) (by omega)]
  exact ⟨⟨by show (1 : Int) ≤ 1 + pk k.a 2; omega, by show 1 + pk k.a 2 ≤ 2; omega⟩, ⟨by show (1 : Int) ≤ 1 + pk k.b 2; omega, by show 1 + pk k.b 2 ≤ 2; omega⟩, ⟨by show (1 : Int) ≤ 1 + pk k.c 7; omega, by show 1 + pk k.c 7 ≤ 16; omega⟩,
    ⟨by show (1 : Int) ≤ 32 - pk k.d 4 * 9; omega, by show 32 - pk k.d 4 * 9 ≤ 32; omega⟩, hw, ⟨hf.1, by show pk k.f 4 ≤ 8; omega⟩, hm,
    ⟨by show (1 : Int) ≤ 1 + pk (IntKind.i64.wrap (k.a.tdiv 2)) 2; omega, by show 1 + pk (IntKind.i64.wrap (k.a.tdiv 2)) 2 ≤ 3; omega⟩, ⟨by show (1 : Int) ≤ 3 - (1 + pk (IntKind.i64.wrap (k.a.tdiv 2)) 2); omega, by show 3 - (1 + pk (IntKind.i64.wrap (k.a.tdiv 2)) 2) ≤ 3; omega⟩⟩
theorem writes_ok (k : K8) : 1 ≤ IntKind.i64.wrap (1 + pk k.e 12) ∧ IntKind.i64.wrap (1 + pk k.e 12) ≤ 32 := by
  have h := pk_is k.e 12 (by decide) (by decide)
  rw [wrap64 (by omega) (by omega)]
  omega
theorem most_ok (k : K8) : 0 ≤ pk (IntKind.i64.wrap (k.h.tdiv 4)) 12 ∧ pk (IntKind.i64.wrap (k.h.tdiv 4)) 12 ≤ 1099511627776 := by
  have h := pk_is (IntKind.i64.wrap (k.h.tdiv 4)) 12 (by decide) (by decide)
  omega
theorem lkA_ok (k : K8) (far : Int) (a : Nat) (ha : a < 3) : Paid (cutVC FL (lookC l4) 1500 Tryz.f4 b4 lkF 2 lkA (k, far, a)) := by
  refine ⟨?_⟩
  rw [lk_a]
  refine ⟨fun _ => ⟨fun _ => ?_, fun _ => ?_⟩, fun _ => ⟨fun _ => ?_, fun _ => ?_⟩⟩
  · exact ⟨(⟨_, _, _, _, _, _, _, _, _⟩, far, a), rfl, rfl, rfl, rfl, rfl, rfl, rfl, rfl, rfl, rfl, rfl, rfl, rfl, rfl, rfl, rfl, rfl, rfl, rfl, rfl, rfl, rfl, rfl, rfl, rfl, rfl, rfl, rfl, rfl, rfl, ⟨num_of (by decide) (most_ok k), ha⟩, by decide, trivial⟩
  · exact ⟨(⟨_, _, _, _, _, _, _, _, _⟩, far, a), rfl, rfl, rfl, rfl, rfl, rfl, rfl, rfl, rfl, rfl, rfl, rfl, rfl, rfl, rfl, rfl, rfl, rfl, rfl, rfl, rfl, rfl, rfl, rfl, rfl, rfl, rfl, rfl, rfl, rfl, ⟨num_of (writes_ok k) (most_ok k), ha⟩, by decide, trivial⟩
  · exact ⟨(⟨_, _, _, _, _, _, _, _, _⟩, far, a), rfl, rfl, rfl, rfl, rfl, rfl, rfl, rfl, rfl, rfl, rfl, rfl, rfl, rfl, rfl, rfl, rfl, rfl, rfl, rfl, rfl, rfl, rfl, rfl, rfl, rfl, rfl, rfl, rfl, rfl, ⟨num_of (by decide) (by decide), ha⟩, by decide, trivial⟩
  · exact ⟨(⟨_, _, _, _, _, _, _, _, _⟩, far, a), rfl, rfl, rfl, rfl, rfl, rfl, rfl, rfl, rfl, rfl, rfl, rfl, rfl, rfl, rfl, rfl, rfl, rfl, rfl, rfl, rfl, rfl, rfl, rfl, rfl, rfl, rfl, rfl, rfl, rfl, ⟨num_of (writes_ok k) (by decide), ha⟩, by decide, trivial⟩
theorem lkC0_ok (x : NumS) (far : Int) (hx : NumOk x) : Paid (cutVC FL (lookC l4) 1500 Tryz.f4 b4 lkF 3 lkC (x, far, 0)) := by
  refine ⟨?_⟩
  rw [lk_c0]
  obtain ⟨⟨e0, e1⟩, ⟨c0, c1⟩, ⟨s0, s1⟩, ⟨r0, r1⟩, ⟨w0, w1⟩, ⟨t0, t1⟩, ⟨m0, m1⟩, ⟨o0, o1⟩, ⟨p0, p1⟩⟩ := hx
  have hp := pk_is far 5 (by decide) (by decide)
  have hn : pk far 5 = (((pk far 5).toNat : Nat) : Int) := by omega
  have hl : (pk far 5).toNat < 5 := by omega
  repeat' (first | apply And.intro | intro h)
  all_goals first
    | exact ⟨(x, 0, (pk far 5).toNat), rfl, rfl, rfl, rfl, rfl, rfl, rfl, rfl, rfl, rfl, rfl, rfl, rfl, rfl, rfl, rfl, rfl, rfl, rfl, rfl, rfl, rfl, rfl, rfl, rfl, rfl, rfl, rfl, rfl, rfl, rfl, rfl, rfl, rfl, rfl, rfl, rfl, rfl, rfl, rfl, rfl, rfl, rfl, rfl, rfl, rfl, rfl, rfl, rfl, rfl, rfl, rfl, rfl, rfl, rfl, rfl, rfl, rfl, rfl, rfl, rfl, rfl, rfl, rfl, rfl, rfl, rfl, rfl, rfl, rfl, rfl, rfl, rfl, rfl, rfl, rfl, rfl, rfl, rfl, rfl, rfl, rfl, rfl, rfl, rfl, rfl, rfl, rfl, rfl, rfl, rfl, rfl, rfl, rfl, rfl, rfl, rfl, rfl, rfl, rfl, rfl, rfl, rfl, rfl, rfl, rfl, rfl, rfl, rfl, rfl, rfl, rfl, rfl, rfl, rfl, rfl, rfl, rfl, int_eq hn, ⟨show (0 : Nat) < 3 by decide, hl⟩, by decide, trivial⟩
    | (exfalso; simp only [decide_eq_true_eq, decide_eq_false_iff_not, Bool.not_eq_true', Bool.not_eq_false'] at *; omega)
theorem lkC1_ok (x : NumS) (far : Int) (hx : NumOk x) : Paid (cutVC FL (lookC l4) 1500 Tryz.f4 b4 lkF 3 lkC (x, far, 1)) := by
  refine ⟨?_⟩
  rw [lk_c1]
  obtain ⟨⟨e0, e1⟩, ⟨c0, c1⟩, ⟨s0, s1⟩, ⟨r0, r1⟩, ⟨w0, w1⟩, ⟨t0, t1⟩, ⟨m0, m1⟩, ⟨o0, o1⟩, ⟨p0, p1⟩⟩ := hx
  have hp := pk_is far 5 (by decide) (by decide)
  have hn : pk far 5 = (((pk far 5).toNat : Nat) : Int) := by omega
  have hl : (pk far 5).toNat < 5 := by omega
  repeat' (first | apply And.intro | intro h)
  all_goals first
    | exact ⟨(x, 1, (pk far 5).toNat), rfl, rfl, rfl, rfl, rfl, rfl, rfl, rfl, rfl, rfl, rfl, rfl, rfl, rfl, rfl, rfl, rfl, rfl, rfl, rfl, rfl, rfl, rfl, rfl, rfl, rfl, rfl, rfl, rfl, rfl, rfl, rfl, rfl, rfl, rfl, rfl, rfl, rfl, rfl, rfl, rfl, rfl, rfl, rfl, rfl, rfl, rfl, rfl, rfl, rfl, rfl, rfl, rfl, rfl, rfl, rfl, rfl, rfl, rfl, rfl, rfl, rfl, rfl, rfl, rfl, rfl, rfl, rfl, rfl, rfl, rfl, rfl, rfl, rfl, rfl, rfl, rfl, rfl, rfl, rfl, rfl, rfl, rfl, rfl, rfl, rfl, rfl, rfl, rfl, rfl, rfl, rfl, rfl, rfl, rfl, rfl, rfl, rfl, rfl, rfl, rfl, rfl, rfl, rfl, rfl, rfl, rfl, rfl, rfl, rfl, rfl, rfl, rfl, rfl, rfl, rfl, rfl, rfl, int_eq hn, ⟨show (1 : Nat) < 3 by decide, hl⟩, by decide, trivial⟩
    | (exfalso; simp only [decide_eq_true_eq, decide_eq_false_iff_not, Bool.not_eq_true', Bool.not_eq_false'] at *; omega)
theorem lkC2_ok (x : NumS) (far : Int) (hx : NumOk x) : Paid (cutVC FL (lookC l4) 1500 Tryz.f4 b4 lkF 3 lkC (x, far, 2)) := by
  refine ⟨?_⟩
  rw [lk_c2]
  obtain ⟨⟨e0, e1⟩, ⟨c0, c1⟩, ⟨s0, s1⟩, ⟨r0, r1⟩, ⟨w0, w1⟩, ⟨t0, t1⟩, ⟨m0, m1⟩, ⟨o0, o1⟩, ⟨p0, p1⟩⟩ := hx
  have hp := pk_is far 5 (by decide) (by decide)
  have hn : pk far 5 = (((pk far 5).toNat : Nat) : Int) := by omega
  have hl : (pk far 5).toNat < 5 := by omega
  repeat' (first | apply And.intro | intro h)
  all_goals first
    | exact ⟨(x, 2, (pk far 5).toNat), rfl, rfl, rfl, rfl, rfl, rfl, rfl, rfl, rfl, rfl, rfl, rfl, rfl, rfl, rfl, rfl, rfl, rfl, rfl, rfl, rfl, rfl, rfl, rfl, rfl, rfl, rfl, rfl, rfl, rfl, rfl, rfl, rfl, rfl, rfl, rfl, rfl, rfl, rfl, rfl, rfl, rfl, rfl, rfl, rfl, rfl, rfl, rfl, rfl, rfl, rfl, rfl, rfl, rfl, rfl, rfl, rfl, rfl, rfl, rfl, rfl, rfl, rfl, rfl, rfl, rfl, rfl, rfl, rfl, rfl, rfl, rfl, rfl, rfl, rfl, rfl, rfl, rfl, rfl, rfl, rfl, rfl, rfl, rfl, rfl, rfl, rfl, rfl, rfl, rfl, rfl, rfl, rfl, rfl, rfl, rfl, rfl, rfl, rfl, rfl, rfl, rfl, rfl, rfl, rfl, rfl, rfl, rfl, rfl, rfl, rfl, rfl, rfl, rfl, rfl, rfl, rfl, rfl, int_eq hn, ⟨show (2 : Nat) < 3 by decide, hl⟩, by decide, trivial⟩
    | (exfalso; simp only [decide_eq_true_eq, decide_eq_false_iff_not, Bool.not_eq_true', Bool.not_eq_false'] at *; omega)
theorem lkC_ok (x : NumS) (far : Int) (a : Nat) (hx : NumOk x) (ha : a < 3) : Paid (cutVC FL (lookC l4) 1500 Tryz.f4 b4 lkF 3 lkC (x, far, a)) :=
  match a, ha with
  | 0, _ => lkC0_ok x far hx
  | 1, _ => lkC1_ok x far hx
  | 2, _ => lkC2_ok x far hx
theorem lkB00_ok (x : NumS) : Paid (cutVC FL (lookC l4) 1500 Tryz.f4 b4 lkF 10 lkB (x, 0, 0)) := ⟨by rw [show Go.Sy.Tree.holds (cutVC FL (lookC l4) 1500 Tryz.f4 b4 lkF 10 lkB (x, 0, 0)) = (true = true ∧ True) by kernel_rfl]; exact ⟨rfl, trivial⟩⟩
theorem lkB01_ok (x : NumS) : Paid (cutVC FL (lookC l4) 1500 Tryz.f4 b4 lkF 10 lkB (x, 0, 1)) := ⟨by rw [show Go.Sy.Tree.holds (cutVC FL (lookC l4) 1500 Tryz.f4 b4 lkF 10 lkB (x, 0, 1)) = (true = true ∧ True) by kernel_rfl]; exact ⟨rfl, trivial⟩⟩
theorem lkB02_ok (x : NumS) : Paid (cutVC FL (lookC l4) 1500 Tryz.f4 b4 lkF 10 lkB (x, 0, 2)) := ⟨by rw [show Go.Sy.Tree.holds (cutVC FL (lookC l4) 1500 Tryz.f4 b4 lkF 10 lkB (x, 0, 2)) = (true = true ∧ True) by kernel_rfl]; exact ⟨rfl, trivial⟩⟩
theorem lkB03_ok (x : NumS) : Paid (cutVC FL (lookC l4) 1500 Tryz.f4 b4 lkF 10 lkB (x, 0, 3)) := ⟨by rw [show Go.Sy.Tree.holds (cutVC FL (lookC l4) 1500 Tryz.f4 b4 lkF 10 lkB (x, 0, 3)) = (true = true ∧ True) by kernel_rfl]; exact ⟨rfl, trivial⟩⟩
theorem lkB04_ok (x : NumS) : Paid (cutVC FL (lookC l4) 1500 Tryz.f4 b4 lkF 10 lkB (x, 0, 4)) := ⟨by rw [show Go.Sy.Tree.holds (cutVC FL (lookC l4) 1500 Tryz.f4 b4 lkF 10 lkB (x, 0, 4)) = (true = true ∧ True) by kernel_rfl]; exact ⟨rfl, trivial⟩⟩
theorem lkB10_ok (x : NumS) : Paid (cutVC FL (lookC l4) 1500 Tryz.f4 b4 lkF 10 lkB (x, 1, 0)) := ⟨by rw [show Go.Sy.Tree.holds (cutVC FL (lookC l4) 1500 Tryz.f4 b4 lkF 10 lkB (x, 1, 0)) = (true = true ∧ True) by kernel_rfl]; exact ⟨rfl, trivial⟩⟩
theorem lkB11_ok (x : NumS) : Paid (cutVC FL (lookC l4) 1500 Tryz.f4 b4 lkF 10 lkB (x, 1, 1)) := ⟨by rw [show Go.Sy.Tree.holds (cutVC FL (lookC l4) 1500 Tryz.f4 b4 lkF 10 lkB (x, 1, 1)) = (true = true ∧ True) by kernel_rfl]; exact ⟨rfl, trivial⟩⟩
theorem lkB12_ok (x : NumS) : Paid (cutVC FL (lookC l4) 1500 Tryz.f4 b4 lkF 10 lkB (x, 1, 2)) := ⟨by rw [show Go.Sy.Tree.holds (cutVC FL (lookC l4) 1500 Tryz.f4 b4 lkF 10 lkB (x, 1, 2)) = (true = true ∧ True) by kernel_rfl]; exact ⟨rfl, trivial⟩⟩
theorem lkB13_ok (x : NumS) : Paid (cutVC FL (lookC l4) 1500 Tryz.f4 b4 lkF 10 lkB (x, 1, 3)) := ⟨by rw [show Go.Sy.Tree.holds (cutVC FL (lookC l4) 1500 Tryz.f4 b4 lkF 10 lkB (x, 1, 3)) = (true = true ∧ True) by kernel_rfl]; exact ⟨rfl, trivial⟩⟩
theorem lkB14_ok (x : NumS) : Paid (cutVC FL (lookC l4) 1500 Tryz.f4 b4 lkF 10 lkB (x, 1, 4)) := ⟨by rw [show Go.Sy.Tree.holds (cutVC FL (lookC l4) 1500 Tryz.f4 b4 lkF 10 lkB (x, 1, 4)) = (true = true ∧ True) by kernel_rfl]; exact ⟨rfl, trivial⟩⟩
theorem lkB20_ok (x : NumS) : Paid (cutVC FL (lookC l4) 1500 Tryz.f4 b4 lkF 10 lkB (x, 2, 0)) := ⟨by rw [show Go.Sy.Tree.holds (cutVC FL (lookC l4) 1500 Tryz.f4 b4 lkF 10 lkB (x, 2, 0)) = (true = true ∧ True) by kernel_rfl]; exact ⟨rfl, trivial⟩⟩
theorem lkB21_ok (x : NumS) : Paid (cutVC FL (lookC l4) 1500 Tryz.f4 b4 lkF 10 lkB (x, 2, 1)) := ⟨by rw [show Go.Sy.Tree.holds (cutVC FL (lookC l4) 1500 Tryz.f4 b4 lkF 10 lkB (x, 2, 1)) = (true = true ∧ True) by kernel_rfl]; exact ⟨rfl, trivial⟩⟩
theorem lkB22_ok (x : NumS) : Paid (cutVC FL (lookC l4) 1500 Tryz.f4 b4 lkF 10 lkB (x, 2, 2)) := ⟨by rw [show Go.Sy.Tree.holds (cutVC FL (lookC l4) 1500 Tryz.f4 b4 lkF 10 lkB (x, 2, 2)) = (true = true ∧ True) by kernel_rfl]; exact ⟨rfl, trivial⟩⟩
theorem lkB23_ok (x : NumS) : Paid (cutVC FL (lookC l4) 1500 Tryz.f4 b4 lkF 10 lkB (x, 2, 3)) := ⟨by rw [show Go.Sy.Tree.holds (cutVC FL (lookC l4) 1500 Tryz.f4 b4 lkF 10 lkB (x, 2, 3)) = (true = true ∧ True) by kernel_rfl]; exact ⟨rfl, trivial⟩⟩
theorem lkB24_ok (x : NumS) : Paid (cutVC FL (lookC l4) 1500 Tryz.f4 b4 lkF 10 lkB (x, 2, 4)) := ⟨by rw [show Go.Sy.Tree.holds (cutVC FL (lookC l4) 1500 Tryz.f4 b4 lkF 10 lkB (x, 2, 4)) = (true = true ∧ True) by kernel_rfl]; exact ⟨rfl, trivial⟩⟩
theorem lkB_ok (x : NumS) (a n : Nat) (ha : a < 3) (hn : n < 5) : Paid (cutVC FL (lookC l4) 1500 Tryz.f4 b4 lkF 10 lkB (x, a, n)) :=
  match a, ha, n, hn with
  | 0, _, 0, _ => lkB00_ok x
  | 0, _, 1, _ => lkB01_ok x
  | 0, _, 2, _ => lkB02_ok x
  | 0, _, 3, _ => lkB03_ok x
  | 0, _, 4, _ => lkB04_ok x
  | 1, _, 0, _ => lkB10_ok x
  | 1, _, 1, _ => lkB11_ok x
  | 1, _, 2, _ => lkB12_ok x
  | 1, _, 3, _ => lkB13_ok x
  | 1, _, 4, _ => lkB14_ok x
  | 2, _, 0, _ => lkB20_ok x
  | 2, _, 1, _ => lkB21_ok x
  | 2, _, 2, _ => lkB22_ok x
  | 2, _, 3, _ => lkB23_ok x
  | 2, _, 4, _ => lkB24_ok x
theorem hookLowL : HookLow FL.S := stLow polL toldL
theorem noExtL : ExtNo FL.S FL.noExt := fun f h av => rfl
theorem hookL5 : FL.S.hook 5 = some (litFun toldL 5) := by kernel_rfl
theorem tellOkL : CtrOk1 FL.S 5 tellCtr := by
  intro E lo wlo args h H K av hh hS hA
  unfold tellCtr at hh
  split at hh
  · obtain rfl := hA.inv_nil
    exact ⟨.bool true, H, _, h, E, ⟨0, by simp only [callA, hookL5]; rfl⟩, LeN.refl _ _, Nat.le_refl _, hS, Nat.le_refl _, .a _, hh⟩
  · exact (stuck_no hh).elim
theorem l4Ok : CtrOk FL.S (lookC l4) := lookC_ok fun p h => by
  have h : p ∈ [_, _, _] := h
  simp only [List.mem_cons, List.not_mem_nil, or_false] at h
  rcases h with rfl | rfl | rfl
  · exact tellOkL
  · exact noCtr_ok
  · exact noCtr_ok
theorem locks_run (k : K8) (lock far : Int) {av : List AVal} (hA : Ers (C := cod) (away []) [.agg (encK k), .i .i64 lock, .i .i64 far] av) : ∃ n H', runA SL n 0 4 av [] = some (.bool true, H') :=
  law_paid (F := FL) (fn := Tryz.f4) (body := b4) (ctr := lookC l4) codOk noExtL hookLowL l4Ok Tryz.func4 rfl rfl rfl 1500 (args := [.agg (encK k), .i .i64 lock, .i .i64 far]) [(2, lkA), (3, lkC), (10, lkB)] (show 3 ≤ Tryz.f4.ntmps by decide) (show Tryz.f4.ntmps ≤ 512 by decide) (by kernel_rfl)
    (lkE_ok k lock far) (fun p hm s hI => by
      simp only [List.mem_cons, List.not_mem_nil, or_false] at hm
      rcases hm with rfl | rfl | rfl
      · obtain ⟨k, far, a⟩ := s
        exact lkA_ok k far a hI
      · obtain ⟨x, far, a⟩ := s
        exact lkC_ok x far a hI.1 hI.2
      · obtain ⟨x, a, n⟩ := s
        exact lkB_ok x a n hI.1 hI.2) hA
end Go.Proofs.YtlninpcoolakbaaGreatDoor

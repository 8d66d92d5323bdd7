/- What is told of a tally, and of an attempt: the contracts are paid. -/
import Derived.Test.YtomlcdalhihnaaaDoorRt
namespace Go.Proofs.YtomlcdalhihnaaaDoor
open Go.RowKit Go.Am Go.Sy
set_option linter.unusedVariables false
set_option linter.unusedSimpArgs false

theorem ca_a (c : Int) : Go.Sy.Tree.holds (entryX F (fun _ => none) 200 Tryd.f32 b32 ⟨[], .s (causeT c), []⟩ [.i .i64 c]) = ( ((c == 1) = true → [(108 : UInt8), 111, 99, 107, 101, 100] = causeT c ∧ True) ∧ ((c == 1) =
 false → ((c == 2) = true → [(115 : UInt8), 116, 97, 108, 101] = causeT c ∧ True) ∧ ((c == 2) = false → ((c == 3) = true → [(119 : UInt8), 97, 116, 99, 104] = causeT c ∧ True) ∧ ((c == 3) = false → ((c == 4) = true →
 [(102 : UInt8), 117, 108, 108] = causeT c ∧ True) ∧ ((c == 4) = false → ((c == 5) = true → [(111 : UInt8), 118, 101, 114] = causeT c ∧ True) ∧ ((c == 5) = false → ((c == 6) = true → [(115 : UInt8), 99, 114, 105, 112,
 116] = causeT c ∧ True) ∧ ((c == 6) = false → [(63 : UInt8)] = causeT c ∧ True))))))) := by kernel_rfl
theorem ca_b (c : Int) : Go.Sy.Tree.holds (entryX F (fun _ => none) 200 Tryd.f33 b33 ⟨[], .s (causeT c), []⟩ [.i .i64 c]) = ( (decide (c < 1) = true → [(63 : UInt8)] = causeT c ∧ True) ∧ (decide (c < 1) = false → (decide
 (c > 6) = true → [(63 : UInt8)] = causeT c ∧ True) ∧ (decide (c > 6) = false → ((0 : Int) ≤ IntKind.i64.wrap (c - 1) ∧ IntKind.i64.wrap (c - 1) < 6) ∧ ((IntKind.i64.wrap (c - 1) == 5) = true → [(115 : UInt8), 99, 114,
 105, 112, 116] = causeT c ∧ True) ∧ ((IntKind.i64.wrap (c - 1) == 5) = false → ((IntKind.i64.wrap (c - 1) == 4) = true → [(111 : UInt8), 118, 101, 114] = causeT c ∧ True) ∧ ((IntKind.i64.wrap (c - 1) == 4) = false →
 ((IntKind.i64.wrap (c - 1) == 3) = true → [(102 : UInt8), 117, 108, 108] = causeT c ∧ True) ∧ ((IntKind.i64.wrap (c - 1) == 3) = false → ((IntKind.i64.wrap (c - 1) == 2) = true → [(119 : UInt8), 97, 116, 99, 104] =
 causeT c ∧ True) ∧ ((IntKind.i64.wrap (c - 1) == 2) = false → ((IntKind.i64.wrap (c - 1) == 1) = true → [(115 : UInt8), 116, 97, 108, 101] = causeT c ∧ True) ∧ ((IntKind.i64.wrap (c - 1) == 1) = false → [(108 : UInt8),
 111, 99, 107, 101, (100 : UInt8)] = causeT c ∧ True)))))))) := by kernel_rfl
theorem ta_e (t : Tly) : Go.Sy.Tree.holds (entryX F (lookC r1) 200 Tryd.f13 b13 (taF t) [.agg (enc6 t)]) = ( itoaD.pre (t.tries, ()) ∧ (↑([(116 : UInt8), 114, 105, 101, 115, 32].length + (decS t.tries).length) : Int) ≤
 9223372036854775807 ∧ (↑(([(116 : UInt8), 114, 105, 101, 115, 32] ++ decS t.tries).length + [(32 : UInt8), 115, 112, 101, 99, 32].length) : Int) ≤ 9223372036854775807 ∧ itoaD.pre (t.spec, ()) ∧ (↑(([(116 : UInt8), 114,
 105, 101, 115, 32] ++ decS t.tries ++ [(32 : UInt8), 115, 112, 101, 99, 32]).length + (decS t.spec).length) : Int) ≤ 9223372036854775807 ∧ (↑(([(116 : UInt8), 114, 105, 101, 115, 32] ++ decS t.tries ++ [(32 : UInt8),
 115, 112, 101, 99, 32] ++ decS t.spec).length + [(32 : UInt8), 114, 101, 97, 108, 32].length) : Int) ≤ 9223372036854775807 ∧ itoaD.pre (t.real, ()) ∧ (↑(([(116 : UInt8), 114, 105, 101, 115, 32] ++ decS t.tries ++ [(32 :
 UInt8), 115, 112, 101, 99, (32 : UInt8)] ++ decS t.spec ++ [(32 : UInt8), 114, 101, 97, 108, (32 : UInt8)]).length + (decS t.real).length) : Int) ≤ 9223372036854775807 ∧ ∃ (s : Nat), t.tries = t.tries ∧ t.c0 = t.c0 ∧
 t.c1 = t.c1 ∧ t.c2 = t.c2 ∧ t.c3 = t.c3 ∧ t.c4 = t.c4 ∧ t.c5 = t.c5 ∧ t.c6 = t.c6 ∧ t.spec = t.spec ∧ t.real = t.real ∧ [(116 : UInt8), 114, 105, 101, 115, (32 : UInt8)] ++ decS t.tries ++ [(32 : UInt8), 115, 112, 101,
 (99 : UInt8), 32] ++ decS t.spec ++ [(32 : UInt8), 114, 101, 97, 108, (32 : UInt8)] ++ decS t.real = headT t ++ parts t s ∧ constA (Value.int IntKind.i64 (1 : Int)) = AVal.int IntKind.i64 ((↑s : Int) + 1) ∧ s ≤ 6 ∧ True)
 := by kernel_rfl
theorem ta_0 (t : Tly) : Go.Sy.Tree.holds (cutVC F (lookC r1) 200 Tryd.f13 b13 (taF t) 3 (taC t) (0 : Nat)) = ( ((t.c1 != 0) = true → causeD.pre ((1 : Int), ()) ∧ (7 : Int) ≤ 9223372036854775807 ∧ (8 : Int) ≤
 9223372036854775807 ∧ itoaD.pre (t.c1, ()) ∧ (↑([(32 : UInt8), 108, 111, 99, 107, 101, 100, (32 : UInt8)].length + (decS t.c1).length) : Int) ≤ 9223372036854775807 ∧ (↑((headT t ++ parts t (0 : Nat)).length + ([(32 :
 UInt8), 108, 111, 99, 107, 101, (100 : UInt8), 32] ++ decS t.c1).length) : Int) ≤ 9223372036854775807 ∧ ∃ (s : Nat), t.tries = t.tries ∧ t.c0 = t.c0 ∧ t.c1 = t.c1 ∧ t.c2 = t.c2 ∧ t.c3 = t.c3 ∧ t.c4 = t.c4 ∧ t.c5 = t.c5 ∧
 t.c6 = t.c6 ∧ t.spec = t.spec ∧ t.real = t.real ∧ headT t ++ parts t (0 : Nat) ++ ([(32 : UInt8), 108, 111, 99, 107, (101 : UInt8), 100, 32] ++ decS t.c1) = headT t ++ parts t s ∧ AVal.int IntKind.i64 (2 : Int) =
 AVal.int IntKind.i64 ((↑s : Int) + 1) ∧ s ≤ 6 ∧ (7 : Nat) - s < 7 ∧ True) ∧ ((t.c1 != 0) = false → ∃ (s : Nat), t.tries = t.tries ∧ t.c0 = t.c0 ∧ t.c1 = t.c1 ∧ t.c2 = t.c2 ∧ t.c3 = t.c3 ∧ t.c4 = t.c4 ∧ t.c5 = t.c5 ∧ t.c6
 = t.c6 ∧ t.spec = t.spec ∧ t.real = t.real ∧ headT t ++ parts t (0 : Nat) = headT t ++ parts t s ∧ AVal.int IntKind.i64 (2 : Int) = AVal.int IntKind.i64 ((↑s : Int) + 1) ∧ s ≤ 6 ∧ (7 : Nat) - s < 7 ∧ True)) := by
 kernel_rfl
theorem ta_1 (t : Tly) : Go.Sy.Tree.holds (cutVC F (lookC r1) 200 Tryd.f13 b13 (taF t) 3 (taC t) (1 : Nat)) = ( ((t.c2 != 0) = true → causeD.pre ((2 : Int), ()) ∧ (6 : Int) ≤ 9223372036854775807 ∧ (7 : Int) ≤
 9223372036854775807 ∧ itoaD.pre (t.c2, ()) ∧ (↑([(32 : UInt8), 115, 116, 97, 108, 101, (32 : UInt8)].length + (decS t.c2).length) : Int) ≤ 9223372036854775807 ∧ (↑((headT t ++ parts t (1 : Nat)).length + ([(32 : UInt8),
 115, 116, 97, 108, 101, (32 : UInt8)] ++ decS t.c2).length) : Int) ≤ 9223372036854775807 ∧ ∃ (s : Nat), t.tries = t.tries ∧ t.c0 = t.c0 ∧ t.c1 = t.c1 ∧ t.c2 = t.c2 ∧ t.c3 = t.c3 ∧ t.c4 = t.c4 ∧ t.c5 = t.c5 ∧ t.c6 = t.c6
 ∧ t.spec = t.spec ∧ t.real = t.real ∧ headT t ++ parts t (1 : Nat) ++ ([(32 : UInt8), 115, 116, 97, 108, (101 : UInt8), 32] ++ decS t.c2) = headT t ++ parts t s ∧ AVal.int IntKind.i64 (3 : Int) = AVal.int IntKind.i64
 ((↑s : Int) + 1) ∧ s ≤ 6 ∧ (7 : Nat) - s < 6 ∧ True) ∧ ((t.c2 != 0) = false → ∃ (s : Nat), t.tries = t.tries ∧ t.c0 = t.c0 ∧ t.c1 = t.c1 ∧ t.c2 = t.c2 ∧ t.c3 = t.c3 ∧ t.c4 = t.c4 ∧ t.c5 = t.c5 ∧ t.c6 = t.c6 ∧ t.spec =
 t.spec ∧ t.real = t.real ∧ headT t ++ parts t (1 : Nat) = headT t ++ parts t s ∧ AVal.int IntKind.i64 (3 : Int) = AVal.int IntKind.i64 ((↑s : Int) + 1) ∧ s ≤ 6 ∧ (7 : Nat) - s < 6 ∧ True)) := by kernel_rfl
theorem ta_2 (t : Tly) : Go.Sy.Tree.holds (cutVC F (lookC r1) 200 Tryd.f13 b13 (taF t) 3 (taC t) (2 : Nat)) = ( ((t.c3 != 0) = true → causeD.pre ((3 : Int), ()) ∧ (6 : Int) ≤ 9223372036854775807 ∧ (7 : Int) ≤
 9223372036854775807 ∧ itoaD.pre (t.c3, ()) ∧ (↑([(32 : UInt8), 119, 97, 116, 99, 104, (32 : UInt8)].length + (decS t.c3).length) : Int) ≤ 9223372036854775807 ∧ (↑((headT t ++ parts t (2 : Nat)).length + ([(32 : UInt8),
 119, 97, 116, 99, 104, (32 : UInt8)] ++ decS t.c3).length) : Int) ≤ 9223372036854775807 ∧ ∃ (s : Nat), t.tries = t.tries ∧ t.c0 = t.c0 ∧ t.c1 = t.c1 ∧ t.c2 = t.c2 ∧ t.c3 = t.c3 ∧ t.c4 = t.c4 ∧ t.c5 = t.c5 ∧ t.c6 = t.c6 ∧
 t.spec = t.spec ∧ t.real = t.real ∧ headT t ++ parts t (2 : Nat) ++ ([(32 : UInt8), 119, 97, 116, 99, (104 : UInt8), 32] ++ decS t.c3) = headT t ++ parts t s ∧ AVal.int IntKind.i64 (4 : Int) = AVal.int IntKind.i64 ((↑s :
 Int) + 1) ∧ s ≤ 6 ∧ (7 : Nat) - s < 5 ∧ True) ∧ ((t.c3 != 0) = false → ∃ (s : Nat), t.tries = t.tries ∧ t.c0 = t.c0 ∧ t.c1 = t.c1 ∧ t.c2 = t.c2 ∧ t.c3 = t.c3 ∧ t.c4 = t.c4 ∧ t.c5 = t.c5 ∧ t.c6 = t.c6 ∧ t.spec = t.spec ∧
 t.real = t.real ∧ headT t ++ parts t (2 : Nat) = headT t ++ parts t s ∧ AVal.int IntKind.i64 (4 : Int) = AVal.int IntKind.i64 ((↑s : Int) + 1) ∧ s ≤ 6 ∧ (7 : Nat) - s < 5 ∧ True)) := by kernel_rfl
theorem ta_3 (t : Tly) : Go.Sy.Tree.holds (cutVC F (lookC r1) 200 Tryd.f13 b13 (taF t) 3 (taC t) (3 : Nat)) = ( ((t.c4 != 0) = true → causeD.pre ((4 : Int), ()) ∧ (5 : Int) ≤ 9223372036854775807 ∧ (6 : Int) ≤
 9223372036854775807 ∧ itoaD.pre (t.c4, ()) ∧ (↑([(32 : UInt8), 102, 117, 108, 108, 32].length + (decS t.c4).length) : Int) ≤ 9223372036854775807 ∧ (↑((headT t ++ parts t (3 : Nat)).length + ([(32 : UInt8), 102, 117, 108,
 108, 32] ++ decS t.c4).length) : Int) ≤ 9223372036854775807 ∧ ∃ (s : Nat), t.tries = t.tries ∧ t.c0 = t.c0 ∧ t.c1 = t.c1 ∧ t.c2 = t.c2 ∧ t.c3 = t.c3 ∧ t.c4 = t.c4 ∧ t.c5 = t.c5 ∧ t.c6 = t.c6 ∧ t.spec = t.spec ∧ t.real =
 t.real ∧ headT t ++ parts t (3 : Nat) ++ ([(32 : UInt8), 102, 117, 108, 108, (32 : UInt8)] ++ decS t.c4) = headT t ++ parts t s ∧ AVal.int IntKind.i64 (5 : Int) = AVal.int IntKind.i64 ((↑s : Int) + 1) ∧ s ≤ 6 ∧ (7 : Nat)
 - s < 4 ∧ True) ∧ ((t.c4 != 0) = false → ∃ (s : Nat), t.tries = t.tries ∧ t.c0 = t.c0 ∧ t.c1 = t.c1 ∧ t.c2 = t.c2 ∧ t.c3 = t.c3 ∧ t.c4 = t.c4 ∧ t.c5 = t.c5 ∧ t.c6 = t.c6 ∧ t.spec = t.spec ∧ t.real = t.real ∧ headT t ++
 parts t (3 : Nat) = headT t ++ parts t s ∧ AVal.int IntKind.i64 (5 : Int) = AVal.int IntKind.i64 ((↑s : Int) + 1) ∧ s ≤ 6 ∧ (7 : Nat) - s < 4 ∧ True)) := by kernel_rfl
theorem ta_4 (t : Tly) : Go.Sy.Tree.holds (cutVC F (lookC r1) 200 Tryd.f13 b13 (taF t) 3 (taC t) (4 : Nat)) = ( ((t.c5 != 0) = true → causeD.pre ((5 : Int), ()) ∧ (5 : Int) ≤ 9223372036854775807 ∧ (6 : Int) ≤
 9223372036854775807 ∧ itoaD.pre (t.c5, ()) ∧ (↑([(32 : UInt8), 111, 118, 101, 114, 32].length + (decS t.c5).length) : Int) ≤ 9223372036854775807 ∧ (↑((headT t ++ parts t (4 : Nat)).length + ([(32 : UInt8), 111, 118, 101,
 114, 32] ++ decS t.c5).length) : Int) ≤ 9223372036854775807 ∧ ∃ (s : Nat), t.tries = t.tries ∧ t.c0 = t.c0 ∧ t.c1 = t.c1 ∧ t.c2 = t.c2 ∧ t.c3 = t.c3 ∧ t.c4 = t.c4 ∧ t.c5 = t.c5 ∧ t.c6 = t.c6 ∧ t.spec = t.spec ∧ t.real =
 t.real ∧ headT t ++ parts t (4 : Nat) ++ ([(32 : UInt8), 111, 118, 101, 114, (32 : UInt8)] ++ decS t.c5) = headT t ++ parts t s ∧ AVal.int IntKind.i64 (6 : Int) = AVal.int IntKind.i64 ((↑s : Int) + 1) ∧ s ≤ 6 ∧ (7 : Nat)
 - s < 3 ∧ True) ∧ ((t.c5 != 0) = false → ∃ (s : Nat), t.tries = t.tries ∧ t.c0 = t.c0 ∧ t.c1 = t.c1 ∧ t.c2 = t.c2 ∧ t.c3 = t.c3 ∧ t.c4 = t.c4 ∧ t.c5 = t.c5 ∧ t.c6 = t.c6 ∧ t.spec = t.spec ∧ t.real = t.real ∧ headT t ++
 parts t (4 : Nat) = headT t ++ parts t s ∧ AVal.int IntKind.i64 (6 : Int) = AVal.int IntKind.i64 ((↑s : Int) + 1) ∧ s ≤ 6 ∧ (7 : Nat) - s < 3 ∧ True)) := by kernel_rfl
theorem ta_5 (t : Tly) : Go.Sy.Tree.holds (cutVC F (lookC r1) 200 Tryd.f13 b13 (taF t) 3 (taC t) (5 : Nat)) = ( ((t.c6 != 0) = true → causeD.pre ((6 : Int), ()) ∧ (7 : Int) ≤ 9223372036854775807 ∧ (8 : Int) ≤
 9223372036854775807 ∧ itoaD.pre (t.c6, ()) ∧ (↑([(32 : UInt8), 115, 99, 114, 105, 112, 116, (32 : UInt8)].length + (decS t.c6).length) : Int) ≤ 9223372036854775807 ∧ (↑((headT t ++ parts t (5 : Nat)).length + ([(32 :
 UInt8), 115, 99, 114, 105, 112, (116 : UInt8), 32] ++ decS t.c6).length) : Int) ≤ 9223372036854775807 ∧ ∃ (s : Nat), t.tries = t.tries ∧ t.c0 = t.c0 ∧ t.c1 = t.c1 ∧ t.c2 = t.c2 ∧ t.c3 = t.c3 ∧ t.c4 = t.c4 ∧ t.c5 = t.c5 ∧
 t.c6 = t.c6 ∧ t.spec = t.spec ∧ t.real = t.real ∧ headT t ++ parts t (5 : Nat) ++ ([(32 : UInt8), 115, 99, 114, 105, (112 : UInt8), 116, 32] ++ decS t.c6) = headT t ++ parts t s ∧ AVal.int IntKind.i64 (7 : Int) =
 AVal.int IntKind.i64 ((↑s : Int) + 1) ∧ s ≤ 6 ∧ (7 : Nat) - s < 2 ∧ True) ∧ ((t.c6 != 0) = false → ∃ (s : Nat), t.tries = t.tries ∧ t.c0 = t.c0 ∧ t.c1 = t.c1 ∧ t.c2 = t.c2 ∧ t.c3 = t.c3 ∧ t.c4 = t.c4 ∧ t.c5 = t.c5 ∧ t.c6
 = t.c6 ∧ t.spec = t.spec ∧ t.real = t.real ∧ headT t ++ parts t (5 : Nat) = headT t ++ parts t s ∧ AVal.int IntKind.i64 (7 : Int) = AVal.int IntKind.i64 ((↑s : Int) + 1) ∧ s ≤ 6 ∧ (7 : Nat) - s < 2 ∧ True)) := by
 kernel_rfl
theorem ta_6 (t : Tly) : Go.Sy.Tree.holds (cutVC F (lookC r1) 200 Tryd.f13 b13 (taF t) 3 (taC t) (6 : Nat)) = ( headT t ++ parts t (6 : Nat) = headT t ++ parts t (6 : Nat) ∧ True) := by kernel_rfl
theorem tb_e (t : Tly) : Go.Sy.Tree.holds (entryX F (lookC r1) 200 Tryd.f14 b14 (taF t) [.agg (enc6 t)]) = ( decD.pre (t.tries, ()) ∧ (↑([(116 : UInt8), 114, 105, 101, 115, 32].length + (decS t.tries).length) : Int) ≤
 9223372036854775807 ∧ (↑(([(116 : UInt8), 114, 105, 101, 115, 32] ++ decS t.tries).length + [(32 : UInt8), 115, 112, 101, 99, 32].length) : Int) ≤ 9223372036854775807 ∧ decD.pre (t.spec, ()) ∧ (↑(([(116 : UInt8), 114,
 105, 101, 115, 32] ++ decS t.tries ++ [(32 : UInt8), 115, 112, 101, 99, 32]).length + (decS t.spec).length) : Int) ≤ 9223372036854775807 ∧ (↑(([(116 : UInt8), 114, 105, 101, 115, 32] ++ decS t.tries ++ [(32 : UInt8),
 115, 112, 101, 99, 32] ++ decS t.spec).length + [(32 : UInt8), 114, 101, 97, 108, 32].length) : Int) ≤ 9223372036854775807 ∧ decD.pre (t.real, ()) ∧ (↑(([(116 : UInt8), 114, 105, 101, 115, 32] ++ decS t.tries ++ [(32 :
 UInt8), 115, 112, 101, 99, (32 : UInt8)] ++ decS t.spec ++ [(32 : UInt8), 114, 101, 97, 108, (32 : UInt8)]).length + (decS t.real).length) : Int) ≤ 9223372036854775807 ∧ ∃ (s : Nat), t.tries = t.tries ∧ t.c0 = t.c0 ∧
 t.c1 = t.c1 ∧ t.c2 = t.c2 ∧ t.c3 = t.c3 ∧ t.c4 = t.c4 ∧ t.c5 = t.c5 ∧ t.c6 = t.c6 ∧ t.spec = t.spec ∧ t.real = t.real ∧ [(116 : UInt8), 114, 105, 101, 115, (32 : UInt8)] ++ decS t.tries ++ [(32 : UInt8), 115, 112, 101,
 (99 : UInt8), 32] ++ decS t.spec ++ [(32 : UInt8), 114, 101, 97, 108, (32 : UInt8)] ++ decS t.real = headT t ++ parts t s ∧ constA (Value.int IntKind.i64 (1 : Int)) = AVal.int IntKind.i64 ((↑s : Int) + 1) ∧ s ≤ 6 ∧ True)
 := by kernel_rfl
theorem tb_0 (t : Tly) : Go.Sy.Tree.holds (cutVC F (lookC r1) 200 Tryd.f14 b14 (taF t) 3 (taC t) (0 : Nat)) = ( ((t.c1 != 0) = true → causeD.pre ((1 : Int), ()) ∧ (7 : Int) ≤ 9223372036854775807 ∧ (8 : Int) ≤
 9223372036854775807 ∧ decD.pre (t.c1, ()) ∧ (↑([(32 : UInt8), 108, 111, 99, 107, 101, 100, (32 : UInt8)].length + (decS t.c1).length) : Int) ≤ 9223372036854775807 ∧ (↑((headT t ++ parts t (0 : Nat)).length + ([(32 :
 UInt8), 108, 111, 99, 107, 101, (100 : UInt8), 32] ++ decS t.c1).length) : Int) ≤ 9223372036854775807 ∧ ∃ (s : Nat), t.tries = t.tries ∧ t.c0 = t.c0 ∧ t.c1 = t.c1 ∧ t.c2 = t.c2 ∧ t.c3 = t.c3 ∧ t.c4 = t.c4 ∧ t.c5 = t.c5 ∧
 t.c6 = t.c6 ∧ t.spec = t.spec ∧ t.real = t.real ∧ headT t ++ parts t (0 : Nat) ++ ([(32 : UInt8), 108, 111, 99, 107, (101 : UInt8), 100, 32] ++ decS t.c1) = headT t ++ parts t s ∧ AVal.int IntKind.i64 (2 : Int) =
 AVal.int IntKind.i64 ((↑s : Int) + 1) ∧ s ≤ 6 ∧ (7 : Nat) - s < 7 ∧ True) ∧ ((t.c1 != 0) = false → ∃ (s : Nat), t.tries = t.tries ∧ t.c0 = t.c0 ∧ t.c1 = t.c1 ∧ t.c2 = t.c2 ∧ t.c3 = t.c3 ∧ t.c4 = t.c4 ∧ t.c5 = t.c5 ∧ t.c6
 = t.c6 ∧ t.spec = t.spec ∧ t.real = t.real ∧ headT t ++ parts t (0 : Nat) = headT t ++ parts t s ∧ AVal.int IntKind.i64 (2 : Int) = AVal.int IntKind.i64 ((↑s : Int) + 1) ∧ s ≤ 6 ∧ (7 : Nat) - s < 7 ∧ True)) := by
 kernel_rfl
theorem tb_1 (t : Tly) : Go.Sy.Tree.holds (cutVC F (lookC r1) 200 Tryd.f14 b14 (taF t) 3 (taC t) (1 : Nat)) = ( ((t.c2 != 0) = true → causeD.pre ((2 : Int), ()) ∧ (6 : Int) ≤ 9223372036854775807 ∧ (7 : Int) ≤
 9223372036854775807 ∧ decD.pre (t.c2, ()) ∧ (↑([(32 : UInt8), 115, 116, 97, 108, 101, (32 : UInt8)].length + (decS t.c2).length) : Int) ≤ 9223372036854775807 ∧ (↑((headT t ++ parts t (1 : Nat)).length + ([(32 : UInt8),
 115, 116, 97, 108, 101, (32 : UInt8)] ++ decS t.c2).length) : Int) ≤ 9223372036854775807 ∧ ∃ (s : Nat), t.tries = t.tries ∧ t.c0 = t.c0 ∧ t.c1 = t.c1 ∧ t.c2 = t.c2 ∧ t.c3 = t.c3 ∧ t.c4 = t.c4 ∧ t.c5 = t.c5 ∧ t.c6 = t.c6
 ∧ t.spec = t.spec ∧ t.real = t.real ∧ headT t ++ parts t (1 : Nat) ++ ([(32 : UInt8), 115, 116, 97, 108, (101 : UInt8), 32] ++ decS t.c2) = headT t ++ parts t s ∧ AVal.int IntKind.i64 (3 : Int) = AVal.int IntKind.i64
 ((↑s : Int) + 1) ∧ s ≤ 6 ∧ (7 : Nat) - s < 6 ∧ True) ∧ ((t.c2 != 0) = false → ∃ (s : Nat), t.tries = t.tries ∧ t.c0 = t.c0 ∧ t.c1 = t.c1 ∧ t.c2 = t.c2 ∧ t.c3 = t.c3 ∧ t.c4 = t.c4 ∧ t.c5 = t.c5 ∧ t.c6 = t.c6 ∧ t.spec =
 t.spec ∧ t.real = t.real ∧ headT t ++ parts t (1 : Nat) = headT t ++ parts t s ∧ AVal.int IntKind.i64 (3 : Int) = AVal.int IntKind.i64 ((↑s : Int) + 1) ∧ s ≤ 6 ∧ (7 : Nat) - s < 6 ∧ True)) := by kernel_rfl
theorem tb_2 (t : Tly) : Go.Sy.Tree.holds (cutVC F (lookC r1) 200 Tryd.f14 b14 (taF t) 3 (taC t) (2 : Nat)) = ( ((t.c3 != 0) = true → causeD.pre ((3 : Int), ()) ∧ (6 : Int) ≤ 9223372036854775807 ∧ (7 : Int) ≤
 9223372036854775807 ∧ decD.pre (t.c3, ()) ∧ (↑([(32 : UInt8), 119, 97, 116, 99, 104, (32 : UInt8)].length + (decS t.c3).length) : Int) ≤ 9223372036854775807 ∧ (↑((headT t ++ parts t (2 : Nat)).length + ([(32 : UInt8),
 119, 97, 116, 99, 104, (32 : UInt8)] ++ decS t.c3).length) : Int) ≤ 9223372036854775807 ∧ ∃ (s : Nat), t.tries = t.tries ∧ t.c0 = t.c0 ∧ t.c1 = t.c1 ∧ t.c2 = t.c2 ∧ t.c3 = t.c3 ∧ t.c4 = t.c4 ∧ t.c5 = t.c5 ∧ t.c6 = t.c6 ∧
 t.spec = t.spec ∧ t.real = t.real ∧ headT t ++ parts t (2 : Nat) ++ ([(32 : UInt8), 119, 97, 116, 99, (104 : UInt8), 32] ++ decS t.c3) = headT t ++ parts t s ∧ AVal.int IntKind.i64 (4 : Int) = AVal.int IntKind.i64 ((↑s :
 Int) + 1) ∧ s ≤ 6 ∧ (7 : Nat) - s < 5 ∧ True) ∧ ((t.c3 != 0) = false → ∃ (s : Nat), t.tries = t.tries ∧ t.c0 = t.c0 ∧ t.c1 = t.c1 ∧ t.c2 = t.c2 ∧ t.c3 = t.c3 ∧ t.c4 = t.c4 ∧ t.c5 = t.c5 ∧ t.c6 = t.c6 ∧ t.spec = t.spec ∧
 t.real = t.real ∧ headT t ++ parts t (2 : Nat) = headT t ++ parts t s ∧ AVal.int IntKind.i64 (4 : Int) = AVal.int IntKind.i64 ((↑s : Int) + 1) ∧ s ≤ 6 ∧ (7 : Nat) - s < 5 ∧ True)) := by kernel_rfl
theorem tb_3 (t : Tly) : Go.Sy.Tree.holds (cutVC F (lookC r1) 200 Tryd.f14 b14 (taF t) 3 (taC t) (3 : Nat)) = ( ((t.c4 != 0) = true → causeD.pre ((4 : Int), ()) ∧ (5 : Int) ≤ 9223372036854775807 ∧ (6 : Int) ≤
 9223372036854775807 ∧ decD.pre (t.c4, ()) ∧ (↑([(32 : UInt8), 102, 117, 108, 108, 32].length + (decS t.c4).length) : Int) ≤ 9223372036854775807 ∧ (↑((headT t ++ parts t (3 : Nat)).length + ([(32 : UInt8), 102, 117, 108,
 108, 32] ++ decS t.c4).length) : Int) ≤ 9223372036854775807 ∧ ∃ (s : Nat), t.tries = t.tries ∧ t.c0 = t.c0 ∧ t.c1 = t.c1 ∧ t.c2 = t.c2 ∧ t.c3 = t.c3 ∧ t.c4 = t.c4 ∧ t.c5 = t.c5 ∧ t.c6 = t.c6 ∧ t.spec = t.spec ∧ t.real =
 t.real ∧ headT t ++ parts t (3 : Nat) ++ ([(32 : UInt8), 102, 117, 108, 108, (32 : UInt8)] ++ decS t.c4) = headT t ++ parts t s ∧ AVal.int IntKind.i64 (5 : Int) = AVal.int IntKind.i64 ((↑s : Int) + 1) ∧ s ≤ 6 ∧ (7 : Nat)
 - s < 4 ∧ True) ∧ ((t.c4 != 0) = false → ∃ (s : Nat), t.tries = t.tries ∧ t.c0 = t.c0 ∧ t.c1 = t.c1 ∧ t.c2 = t.c2 ∧ t.c3 = t.c3 ∧ t.c4 = t.c4 ∧ t.c5 = t.c5 ∧ t.c6 = t.c6 ∧ t.spec = t.spec ∧ t.real = t.real ∧ headT t ++
 parts t (3 : Nat) = headT t ++ parts t s ∧ AVal.int IntKind.i64 (5 : Int) = AVal.int IntKind.i64 ((↑s : Int) + 1) ∧ s ≤ 6 ∧ (7 : Nat) - s < 4 ∧ True)) := by kernel_rfl
theorem tb_4 (t : Tly) : Go.Sy.Tree.holds (cutVC F (lookC r1) 200 Tryd.f14 b14 (taF t) 3 (taC t) (4 : Nat)) = ( ((t.c5 != 0) = true → causeD.pre ((5 : Int), ()) ∧ (5 : Int) ≤ 9223372036854775807 ∧ (6 : Int) ≤
 9223372036854775807 ∧ decD.pre (t.c5, ()) ∧ (↑([(32 : UInt8), 111, 118, 101, 114, 32].length + (decS t.c5).length) : Int) ≤ 9223372036854775807 ∧ (↑((headT t ++ parts t (4 : Nat)).length + ([(32 : UInt8), 111, 118, 101,
 114, 32] ++ decS t.c5).length) : Int) ≤ 9223372036854775807 ∧ ∃ (s : Nat), t.tries = t.tries ∧ t.c0 = t.c0 ∧ t.c1 = t.c1 ∧ t.c2 = t.c2 ∧ t.c3 = t.c3 ∧ t.c4 = t.c4 ∧ t.c5 = t.c5 ∧ t.c6 = t.c6 ∧ t.spec = t.spec ∧ t.real =
 t.real ∧ headT t ++ parts t (4 : Nat) ++ ([(32 : UInt8), 111, 118, 101, 114, (32 : UInt8)] ++ decS t.c5) = headT t ++ parts t s ∧ AVal.int IntKind.i64 (6 : Int) = AVal.int IntKind.i64 ((↑s : Int) + 1) ∧ s ≤ 6 ∧ (7 : Nat)
 - s < 3 ∧ True) ∧ ((t.c5 != 0) = false → ∃ (s : Nat), t.tries = t.tries ∧ t.c0 = t.c0 ∧ t.c1 = t.c1 ∧ t.c2 = t.c2 ∧ t.c3 = t.c3 ∧ t.c4 = t.c4 ∧ t.c5 = t.c5 ∧ t.c6 = t.c6 ∧ t.spec = t.spec ∧ t.real = t.real ∧ headT t ++
 parts t (4 : Nat) = headT t ++ parts t s ∧ AVal.int IntKind.i64 (6 : Int) = AVal.int IntKind.i64 ((↑s : Int) + 1) ∧ s ≤ 6 ∧ (7 : Nat) - s < 3 ∧ True)) := by kernel_rfl
theorem tb_5 (t : Tly) : Go.Sy.Tree.holds (cutVC F (lookC r1) 200 Tryd.f14 b14 (taF t) 3 (taC t) (5 : Nat)) = ( ((t.c6 != 0) = true → causeD.pre ((6 : Int), ()) ∧ (7 : Int) ≤ 9223372036854775807 ∧ (8 : Int) ≤
 9223372036854775807 ∧ decD.pre (t.c6, ()) ∧ (↑([(32 : UInt8), 115, 99, 114, 105, 112, 116, (32 : UInt8)].length + (decS t.c6).length) : Int) ≤ 9223372036854775807 ∧ (↑((headT t ++ parts t (5 : Nat)).length + ([(32 :
 UInt8), 115, 99, 114, 105, 112, (116 : UInt8), 32] ++ decS t.c6).length) : Int) ≤ 9223372036854775807 ∧ ∃ (s : Nat), t.tries = t.tries ∧ t.c0 = t.c0 ∧ t.c1 = t.c1 ∧ t.c2 = t.c2 ∧ t.c3 = t.c3 ∧ t.c4 = t.c4 ∧ t.c5 = t.c5 ∧
 t.c6 = t.c6 ∧ t.spec = t.spec ∧ t.real = t.real ∧ headT t ++ parts t (5 : Nat) ++ ([(32 : UInt8), 115, 99, 114, 105, (112 : UInt8), 116, 32] ++ decS t.c6) = headT t ++ parts t s ∧ AVal.int IntKind.i64 (7 : Int) =
 AVal.int IntKind.i64 ((↑s : Int) + 1) ∧ s ≤ 6 ∧ (7 : Nat) - s < 2 ∧ True) ∧ ((t.c6 != 0) = false → ∃ (s : Nat), t.tries = t.tries ∧ t.c0 = t.c0 ∧ t.c1 = t.c1 ∧ t.c2 = t.c2 ∧ t.c3 = t.c3 ∧ t.c4 = t.c4 ∧ t.c5 = t.c5 ∧ t.c6
 = t.c6 ∧ t.spec = t.spec ∧ t.real = t.real ∧ headT t ++ parts t (5 : Nat) = headT t ++ parts t s ∧ AVal.int IntKind.i64 (7 : Int) = AVal.int IntKind.i64 ((↑s : Int) + 1) ∧ s ≤ 6 ∧ (7 : Nat) - s < 2 ∧ True)) := by
 kernel_rfl
theorem tb_6 (t : Tly) : Go.Sy.Tree.holds (cutVC F (lookC r1) 200 Tryd.f14 b14 (taF t) 3 (taC t) (6 : Nat)) = ( headT t ++ parts t (6 : Nat) = headT t ++ parts t (6 : Nat) ∧ True) := by kernel_rfl
theorem at_a (x : Att) : Go.Sy.Tree.holds (entryX F (lookC r0) 200 Tryd.f11 b11 (fA x) [.agg (enc5 x)]) = ( (x.real = true → ((x.fin == 6) = true → ∃ (s : Unit), x.thread = x.thread ∧ x.tri = x.tri ∧ x.real = x.real ∧
 x.frm = x.frm ∧ x.unt = x.unt ∧ x.fin = x.fin ∧ x.stamp = x.stamp ∧ x.step = x.step ∧ x.reads = x.reads ∧ x.writes = x.writes ∧ x.seen = x.seen ∧ x.calls = x.calls ∧ [(114 : UInt8), 101, 97, 108] = kindT x.real ∧ [(99 :
 UInt8), 111, 109, 109, 105, (116 : UInt8)] = endT x.fin ∧ True ∧ True) ∧ ((x.fin == 6) = false → ((x.fin == 7) = true → ∃ (s : Unit), x.thread = x.thread ∧ x.tri = x.tri ∧ x.real = x.real ∧ x.frm = x.frm ∧ x.unt = x.unt
 ∧ x.fin = x.fin ∧ x.stamp = x.stamp ∧ x.step = x.step ∧ x.reads = x.reads ∧ x.writes = x.writes ∧ x.seen = x.seen ∧ x.calls = x.calls ∧ [(114 : UInt8), 101, 97, 108] = kindT x.real ∧ [(97 : UInt8), 98, 111, 114, 116] =
 endT x.fin ∧ True ∧ True) ∧ ((x.fin == 7) = false → ((x.fin == 0) = true → ∃ (s : Unit), x.thread = x.thread ∧ x.tri = x.tri ∧ x.real = x.real ∧ x.frm = x.frm ∧ x.unt = x.unt ∧ x.fin = x.fin ∧ x.stamp = x.stamp ∧ x.step
 = x.step ∧ x.reads = x.reads ∧ x.writes = x.writes ∧ x.seen = x.seen ∧ x.calls = x.calls ∧ [(114 : UInt8), 101, 97, 108] = kindT x.real ∧ [(97 : UInt8), 108, 105, 118, 101] = endT x.fin ∧ True ∧ True) ∧ ((x.fin == 0) =
 false → ∃ (s : Unit), x.thread = x.thread ∧ x.tri = x.tri ∧ x.real = x.real ∧ x.frm = x.frm ∧ x.unt = x.unt ∧ x.fin = x.fin ∧ x.stamp = x.stamp ∧ x.step = x.step ∧ x.reads = x.reads ∧ x.writes = x.writes ∧ x.seen =
 x.seen ∧ x.calls = x.calls ∧ [(114 : UInt8), 101, 97, 108] = kindT x.real ∧ [(63 : UInt8)] = endT x.fin ∧ True ∧ True)))) ∧ (x.real = false → ((x.fin == 6) = true → ∃ (s : Unit), x.thread = x.thread ∧ x.tri = x.tri ∧
 x.real = x.real ∧ x.frm = x.frm ∧ x.unt = x.unt ∧ x.fin = x.fin ∧ x.stamp = x.stamp ∧ x.step = x.step ∧ x.reads = x.reads ∧ x.writes = x.writes ∧ x.seen = x.seen ∧ x.calls = x.calls ∧ [(115 : UInt8), 112, 101, 99] =
 kindT x.real ∧ [(99 : UInt8), 111, 109, 109, 105, (116 : UInt8)] = endT x.fin ∧ True ∧ True) ∧ ((x.fin == 6) = false → ((x.fin == 7) = true → ∃ (s : Unit), x.thread = x.thread ∧ x.tri = x.tri ∧ x.real = x.real ∧ x.frm =
 x.frm ∧ x.unt = x.unt ∧ x.fin = x.fin ∧ x.stamp = x.stamp ∧ x.step = x.step ∧ x.reads = x.reads ∧ x.writes = x.writes ∧ x.seen = x.seen ∧ x.calls = x.calls ∧ [(115 : UInt8), 112, 101, 99] = kindT x.real ∧ [(97 : UInt8),
 98, 111, 114, 116] = endT x.fin ∧ True ∧ True) ∧ ((x.fin == 7) = false → ((x.fin == 0) = true → ∃ (s : Unit), x.thread = x.thread ∧ x.tri = x.tri ∧ x.real = x.real ∧ x.frm = x.frm ∧ x.unt = x.unt ∧ x.fin = x.fin ∧
 x.stamp = x.stamp ∧ x.step = x.step ∧ x.reads = x.reads ∧ x.writes = x.writes ∧ x.seen = x.seen ∧ x.calls = x.calls ∧ [(115 : UInt8), 112, 101, 99] = kindT x.real ∧ [(97 : UInt8), 108, 105, 118, 101] = endT x.fin ∧ True
 ∧ True) ∧ ((x.fin == 0) = false → ∃ (s : Unit), x.thread = x.thread ∧ x.tri = x.tri ∧ x.real = x.real ∧ x.frm = x.frm ∧ x.unt = x.unt ∧ x.fin = x.fin ∧ x.stamp = x.stamp ∧ x.step = x.step ∧ x.reads = x.reads ∧ x.writes =
 x.writes ∧ x.seen = x.seen ∧ x.calls = x.calls ∧ [(115 : UInt8), 112, 101, 99] = kindT x.real ∧ [(63 : UInt8)] = endT x.fin ∧ True ∧ True))))) := by kernel_rfl
theorem at_a12 (x : Att) : Go.Sy.Tree.holds (cutVC F (lookC r0) 200 Tryd.f11 b11 (fA x) 12 (cA12 x) ()) = ( itoaD.pre (x.thread, ()) ∧ (↑([(116 : UInt8)].length + (decS x.thread).length) : Int) ≤ 9223372036854775807 ∧
 (↑(([(116 : UInt8)] ++ decS x.thread).length + [(46 : UInt8)].length) : Int) ≤ 9223372036854775807 ∧ itoaD.pre (x.tri, ()) ∧ (↑(([(116 : UInt8)] ++ decS x.thread ++ [(46 : UInt8)]).length + (decS x.tri).length) : Int) ≤
 9223372036854775807 ∧ (↑(([(116 : UInt8)] ++ decS x.thread ++ [(46 : UInt8)] ++ decS x.tri).length + [(32 : UInt8)].length) : Int) ≤ 9223372036854775807 ∧ (↑(([(116 : UInt8)] ++ decS x.thread ++ [(46 : UInt8)] ++ decS
 x.tri ++ [(32 : UInt8)]).length + (kindT x.real).length) : Int) ≤ 9223372036854775807 ∧ (↑(([(116 : UInt8)] ++ decS x.thread ++ [(46 : UInt8)] ++ decS x.tri ++ [(32 : UInt8)] ++ kindT x.real).length + [(32 : UInt8), 97,
 116, 32].length) : Int) ≤ 9223372036854775807 ∧ ∃ (y : Unit), constA (Value.int IntKind.i64 (10 : Int)) = AVal.int IntKind.i64 (10 : Int) ∧ fiD.pre (x.stamp, y, ()) ∧ (↑(([(116 : UInt8)] ++ decS x.thread ++ [(46 :
 UInt8)] ++ decS x.tri ++ [(32 : UInt8)] ++ kindT x.real ++ [(32 : UInt8), 97, 116, 32]).length + (decS x.stamp).length) : Int) ≤ 9223372036854775807 ∧ (↑(([(116 : UInt8)] ++ decS x.thread ++ [(46 : UInt8)] ++ decS x.tri
 ++ [(32 : UInt8)] ++ kindT x.real ++ [(32 : UInt8), 97, 116, 32] ++ decS x.stamp).length + [(32 : UInt8), 114, 101, 97, 100, (115 : UInt8), 32].length) : Int) ≤ 9223372036854775807 ∧ itoaD.pre ((↑x.reads.length : Int),
 ()) ∧ (↑(([(116 : UInt8)] ++ decS x.thread ++ [(46 : UInt8)] ++ decS x.tri ++ [(32 : UInt8)] ++ kindT x.real ++ [(32 : UInt8), 97, 116, 32] ++ decS x.stamp ++ [(32 : UInt8), 114, 101, 97, 100, (115 : UInt8), 32]).length
 + (decS (↑x.reads.length : Int)).length) : Int) ≤ 9223372036854775807 ∧ (↑(([(116 : UInt8)] ++ decS x.thread ++ [(46 : UInt8)] ++ decS x.tri ++ [(32 : UInt8)] ++ kindT x.real ++ [(32 : UInt8), 97, 116, 32] ++ decS
 x.stamp ++ [(32 : UInt8), 114, 101, 97, 100, (115 : UInt8), 32] ++ decS (↑x.reads.length : Int)).length + [(32 : UInt8), 119, 114, 105, 116, (101 : UInt8), 115, 32].length) : Int) ≤ 9223372036854775807 ∧ itoaD.pre
 ((↑x.writes.length : Int), ()) ∧ (↑(([(116 : UInt8)] ++ decS x.thread ++ [(46 : UInt8)] ++ decS x.tri ++ [(32 : UInt8)] ++ kindT x.real ++ [(32 : UInt8), 97, 116, 32] ++ decS x.stamp ++ [(32 : UInt8), 114, 101, 97, (100
 : UInt8), 115, 32] ++ decS (↑x.reads.length : Int) ++ [(32 : UInt8), 119, 114, 105, (116 : UInt8), 101, 115, 32]).length + (decS (↑x.writes.length : Int)).length) : Int) ≤ 9223372036854775807 ∧ (↑(([(116 : UInt8)] ++
 decS x.thread ++ [(46 : UInt8)] ++ decS x.tri ++ [(32 : UInt8)] ++ kindT x.real ++ [(32 : UInt8), 97, 116, 32] ++ decS x.stamp ++ [(32 : UInt8), 114, 101, 97, (100 : UInt8), 115, 32] ++ decS (↑x.reads.length : Int) ++
 [(32 : UInt8), 119, 114, 105, (116 : UInt8), 101, 115, 32] ++ decS (↑x.writes.length : Int)).length + [(32 : UInt8)].length) : Int) ≤ 9223372036854775807 ∧ (↑(([(116 : UInt8)] ++ decS x.thread ++ [(46 : UInt8)] ++ decS
 x.tri ++ [(32 : UInt8)] ++ kindT x.real ++ [(32 : UInt8), 97, 116, (32 : UInt8)] ++ decS x.stamp ++ [(32 : UInt8), 114, 101, 97, (100 : UInt8), 115, 32] ++ decS (↑x.reads.length : Int) ++ [(32 : UInt8), 119, 114, 105,
 (116 : UInt8), 101, 115, 32] ++ decS (↑x.writes.length : Int) ++ [(32 : UInt8)]).length + (endT x.fin).length) : Int) ≤ 9223372036854775807 ∧ [(116 : UInt8)] ++ decS x.thread ++ [(46 : UInt8)] ++ decS x.tri ++ [(32 :
 UInt8)] ++ kindT x.real ++ [(32 : UInt8), 97, 116, 32] ++ decS x.stamp ++ [(32 : UInt8), 114, 101, 97, (100 : UInt8), 115, 32] ++ decS (↑x.reads.length : Int) ++ [(32 : UInt8), 119, 114, 105, (116 : UInt8), 101, 115, 32]
 ++ decS (↑x.writes.length : Int) ++ [(32 : UInt8)] ++ endT x.fin = attT x ∧ True) := by kernel_rfl
theorem at_b (x : Att) : Go.Sy.Tree.holds (entryX F (lookC r0) 200 Tryd.f12 b12 (fB x) [.agg (enc5 x)]) = ( decD.pre (x.thread, ()) ∧ (↑([(116 : UInt8)].length + (decS x.thread).length) : Int) ≤ 9223372036854775807 ∧
 (↑(([(116 : UInt8)] ++ decS x.thread).length + [(46 : UInt8)].length) : Int) ≤ 9223372036854775807 ∧ decD.pre (x.tri, ()) ∧ (↑(([(116 : UInt8)] ++ decS x.thread ++ [(46 : UInt8)]).length + (decS x.tri).length) : Int) ≤
 9223372036854775807 ∧ (x.real = true → (↑(([(116 : UInt8)] ++ decS x.thread ++ [(46 : UInt8)] ++ decS x.tri).length + [(32 : UInt8), 114, 101, 97, 108].length) : Int) ≤ 9223372036854775807 ∧ ∃ (s : Unit), x.thread =
 x.thread ∧ x.tri = x.tri ∧ x.real = x.real ∧ x.frm = x.frm ∧ x.unt = x.unt ∧ x.fin = x.fin ∧ x.stamp = x.stamp ∧ x.step = x.step ∧ x.reads = x.reads ∧ x.writes = x.writes ∧ x.seen = x.seen ∧ x.calls = x.calls ∧ [(116 :
 UInt8)] ++ decS x.thread ++ [(46 : UInt8)] ++ decS x.tri ++ [(32 : UInt8), 114, 101, 97, (108 : UInt8)] = pre2 x ∧ True ∧ True) ∧ (x.real = false → (↑(([(116 : UInt8)] ++ decS x.thread ++ [(46 : UInt8)] ++ decS
 x.tri).length + [(32 : UInt8), 115, 112, 101, 99].length) : Int) ≤ 9223372036854775807 ∧ ∃ (s : Unit), x.thread = x.thread ∧ x.tri = x.tri ∧ x.real = x.real ∧ x.frm = x.frm ∧ x.unt = x.unt ∧ x.fin = x.fin ∧ x.stamp =
 x.stamp ∧ x.step = x.step ∧ x.reads = x.reads ∧ x.writes = x.writes ∧ x.seen = x.seen ∧ x.calls = x.calls ∧ [(116 : UInt8)] ++ decS x.thread ++ [(46 : UInt8)] ++ decS x.tri ++ [(32 : UInt8), 115, 112, 101, (99 : UInt8)]
 = pre2 x ∧ True ∧ True)) := by kernel_rfl
theorem at_b5 (x : Att) : Go.Sy.Tree.holds (cutVC F (lookC r0) 200 Tryd.f12 b12 (fB x) 5 (cB5 x) ()) = ( decD.pre (x.stamp, ()) ∧ (↑([(32 : UInt8), 97, 116, 32].length + (decS x.stamp).length) : Int) ≤ 9223372036854775807
 ∧ (↑(([(32 : UInt8), 97, 116, 32] ++ decS x.stamp).length + [(32 : UInt8), 114, 101, 97, 100, 115, (32 : UInt8)].length) : Int) ≤ 9223372036854775807 ∧ decD.pre ((↑x.reads.length : Int), ()) ∧ (↑(([(32 : UInt8), 97, 116,
 32] ++ decS x.stamp ++ [(32 : UInt8), 114, 101, 97, 100, 115, (32 : UInt8)]).length + (decS (↑x.reads.length : Int)).length) : Int) ≤ 9223372036854775807 ∧ (↑(([(32 : UInt8), 97, 116, 32] ++ decS x.stamp ++ [(32 :
 UInt8), 114, 101, 97, 100, 115, (32 : UInt8)] ++ decS (↑x.reads.length : Int)).length + [(32 : UInt8), 119, 114, 105, 116, 101, (115 : UInt8), 32].length) : Int) ≤ 9223372036854775807 ∧ decD.pre ((↑x.writes.length :
 Int), ()) ∧ (↑(([(32 : UInt8), 97, 116, 32] ++ decS x.stamp ++ [(32 : UInt8), 114, 101, 97, 100, 115, (32 : UInt8)] ++ decS (↑x.reads.length : Int) ++ [(32 : UInt8), 119, 114, 105, 116, 101, (115 : UInt8), 32]).length +
 (decS (↑x.writes.length : Int)).length) : Int) ≤ 9223372036854775807 ∧ (↑((pre2 x).length + ([(32 : UInt8), 97, 116, 32] ++ decS x.stamp ++ [(32 : UInt8), 114, 101, 97, 100, (115 : UInt8), 32] ++ decS (↑x.reads.length :
 Int) ++ [(32 : UInt8), 119, 114, 105, 116, (101 : UInt8), 115, 32] ++ decS (↑x.writes.length : Int)).length) : Int) ≤ 9223372036854775807 ∧ ∃ (s : Unit), x.thread = x.thread ∧ x.tri = x.tri ∧ x.real = x.real ∧ x.frm =
 x.frm ∧ x.unt = x.unt ∧ x.fin = x.fin ∧ x.stamp = x.stamp ∧ x.step = x.step ∧ x.reads = x.reads ∧ x.writes = x.writes ∧ x.seen = x.seen ∧ x.calls = x.calls ∧ pre2 x ++ ([(32 : UInt8), 97, 116, 32] ++ decS x.stamp ++ [(32
 : UInt8), 114, 101, 97, (100 : UInt8), 115, 32] ++ decS (↑x.reads.length : Int) ++ [(32 : UInt8), 119, 114, 105, (116 : UInt8), 101, 115, 32] ++ decS (↑x.writes.length : Int)) = pre6 x ∧ True ∧ (0 : Nat) < 1 ∧ True) :=
 by kernel_rfl
theorem at_b6 (x : Att) : Go.Sy.Tree.holds (cutVC F (lookC r0) 200 Tryd.f12 b12 (fB x) 6 (cB6 x) ()) = ( ((x.fin == 6) = true → (↑((pre6 x).length + [(32 : UInt8), 99, 111, 109, 109, 105, (116 : UInt8)].length) : Int) ≤
 9223372036854775807 ∧ pre6 x ++ [(32 : UInt8), 99, 111, 109, 109, 105, 116] = attT x ∧ True) ∧ ((x.fin == 6) = false → ((x.fin == 7) = true → (↑((pre6 x).length + [(32 : UInt8), 97, 98, 111, 114, 116].length) : Int) ≤
 9223372036854775807 ∧ pre6 x ++ [(32 : UInt8), 97, 98, 111, 114, 116] = attT x ∧ True) ∧ ((x.fin == 7) = false → ((x.fin == 0) = true → (↑((pre6 x).length + [(32 : UInt8), 97, 108, 105, 118, 101].length) : Int) ≤
 9223372036854775807 ∧ pre6 x ++ [(32 : UInt8), 97, 108, 105, 118, 101] = attT x ∧ True) ∧ ((x.fin == 0) = false → (↑((pre6 x).length + [(32 : UInt8), 63].length) : Int) ≤ 9223372036854775807 ∧ pre6 x ++ [(32 : UInt8),
 63] = attT x ∧ True)))) := by kernel_rfl

theorem ca_a_ok (c : Int) (h1 : 1 ≤ c) (h2 : c ≤ 6) : Paid (entryX F (fun _ => none) 200 Tryd.f32 b32 ⟨[], .s (causeT c), []⟩ [.i .i64 c]) := by
  refine ⟨?_⟩
  rw [ca_a]
  rcases (show c = 1 ∨ c = 2 ∨ c = 3 ∨ c = 4 ∨ c = 5 ∨ c = 6 by omega) with rfl | rfl | rfl | rfl | rfl | rfl <;> simp [causeT]
theorem ca_b_ok (c : Int) (h1 : 1 ≤ c) (h2 : c ≤ 6) : Paid (entryX F (fun _ => none) 200 Tryd.f33 b33 ⟨[], .s (causeT c), []⟩ [.i .i64 c]) := by
  refine ⟨?_⟩
  rw [ca_b]
  rcases (show c = 1 ∨ c = 2 ∨ c = 3 ∨ c = 4 ∨ c = 5 ∨ c = 6 by omega) with rfl | rfl | rfl | rfl | rfl | rfl <;> simp [causeT, IntKind.wrap, IntKind.signed, IntKind.bits]
theorem nilOk : CtrOk F.S (fun _ => none : FuncId → Option (Ctr cod)) := fun f c h => by cases h
theorem cause32 : CtrOk1 F.S 32 (mkCtr causeD) :=
  mkCtr_paid (fn := Tryd.f32) (body := b32) (ctr := fun _ => none) codOk noExt hookLow nilOk Tryd.func32 rfl rfl rfl causeD 200 (fun _ => []) (show 1 ≤ 16 by decide) (show 16 ≤ 512 by decide) (by kernel_rfl) (fun _ _ => ⟨rfl, rfl⟩)
    (fun x hp => ca_a_ok x.1 hp.1 hp.2) (fun x hp p hm => by cases hm)
theorem cause33 : CtrOk1 F.S 33 (mkCtr causeD) :=
  mkCtr_paid (fn := Tryd.f33) (body := b33) (ctr := fun _ => none) codOk noExt hookLow nilOk Tryd.func33 rfl rfl rfl causeD 200 (fun _ => []) (show 1 ≤ 14 by decide) (show 14 ≤ 512 by decide) (by kernel_rfl) (fun _ _ => ⟨rfl, rfl⟩)
    (fun x hp => ca_b_ok x.1 hp.1 hp.2) (fun x hp p hm => by cases hm)
theorem r0Ok : CtrOk F.S (lookC r0) := lookC_ok fun p h => by
  simp only [r0, List.mem_cons, List.not_mem_nil, or_false] at h
  rcases h with rfl | rfl | rfl
  · exact decOk
  · exact it40Ok
  · exact fiOk
theorem r1Ok : CtrOk F.S (lookC r1) := lookC_ok fun p h => by
  simp only [r1, List.mem_cons, List.not_mem_nil, or_false] at h
  rcases h with rfl | rfl | rfl | rfl | rfl
  · exact decOk
  · exact it40Ok
  · exact fiOk
  · exact cause32
  · exact cause33
theorem causeT_len (c : Int) : (causeT c).length ≤ 6 := by
  unfold causeT
  repeat' split
  all_goals decide
theorem part_len (t : Tly) (c : Nat) : (part t c).length ≤ 40 := by
  unfold part
  split
  · simp
  · have h1 := causeT_len c
    have h2 := decS_len (cau t c)
    simp only [List.length_append, List.length_cons, List.length_nil]
    omega
theorem parts_len (t : Tly) : ∀ n, (parts t n).length ≤ 40 * n
  | 0 => Nat.le_refl _
  | n + 1 => by
    have h1 := part_len t (n + 1)
    have h2 := parts_len t n
    simp only [parts, List.length_append]
    omega
theorem head_len (t : Tly) : (headT t).length ≤ 100 := by
  have h1 := decS_len t.tries
  have h2 := decS_len t.spec
  have h3 := decS_len t.real
  simp only [headT, List.length_append, List.length_cons, List.length_nil]
  omega

theorem ta_e_ok (t : Tly) (h : okT t) : Paid (entryX F (lookC r1) 200 Tryd.f13 b13 (taF t) [.agg (enc6 t)]) := by
  refine ⟨?_⟩
  rw [ta_e]
  obtain ⟨i1, i2, i3, _⟩ := h
  have h1 := decS_len t.tries
  have h2 := decS_len t.spec
  have h3 := decS_len t.real
  refine ⟨i1, ?_, ?_, i2, ?_, ?_, i3, ?_, 0, rfl, rfl, rfl, rfl, rfl, rfl, rfl, rfl, rfl, rfl, ?_, rfl, by omega, trivial⟩
  all_goals first
    | (simp only [List.length_append, List.length_cons, List.length_nil]; omega)
    | simp only [headT, parts, List.append_assoc, List.append_nil, List.cons_append, List.nil_append]
theorem ta_0_ok (t : Tly) (h : okT t) : Paid (cutVC F (lookC r1) 200 Tryd.f13 b13 (taF t) 3 (taC t) (0 : Nat)) := by
  refine ⟨?_⟩
  rw [ta_0]
  have hc := h.2.2.2 1 (by omega) (by omega)
  have h1 := head_len t
  have h2 := parts_len t 0
  have h3 := decS_len t.c1
  refine ⟨fun hz => ⟨⟨by show (1 : Int) ≤ 1; omega, by show (1 : Int) ≤ 6; omega⟩, ?_, ?_, hc, ?_, ?_, 1, rfl, rfl, rfl, rfl, rfl, rfl, rfl, rfl, rfl, rfl, ?_, rfl, by omega, by omega, trivial⟩, fun hz => ⟨1, rfl, rfl, rfl, rfl, rfl, rfl, rfl, rfl, rfl, rfl, ?_, rfl, by omega, by omega, trivial⟩⟩
  all_goals first
    | (simp only [List.length_append, List.length_cons, List.length_nil]; omega)
    | omega
    | skip
  · have hz : ¬ t.c1 = 0 := by simpa using hz
    have e : part t 1 = [32] ++ (causeT 1 ++ ([32] ++ decS t.c1)) := by
      show (if t.c1 = 0 then [] else _) = _
      rw [if_neg hz]
      rfl
    rw [show parts t 1 = parts t 0 ++ part t 1 from rfl, e]
    simp [causeT]
  · have hz : t.c1 = 0 := by simpa using hz
    have e : part t 1 = [] := by
      show (if t.c1 = 0 then [] else _) = _
      rw [if_pos hz]
    rw [show parts t 1 = parts t 0 ++ part t 1 from rfl, e, List.append_nil]
theorem ta_1_ok (t : Tly) (h : okT t) : Paid (cutVC F (lookC r1) 200 Tryd.f13 b13 (taF t) 3 (taC t) (1 : Nat)) := by
  refine ⟨?_⟩
  rw [ta_1]
  have hc := h.2.2.2 2 (by omega) (by omega)
  have h1 := head_len t
  have h2 := parts_len t 1
  have h3 := decS_len t.c2
  refine ⟨fun hz => ⟨⟨by show (1 : Int) ≤ 2; omega, by show (2 : Int) ≤ 6; omega⟩, ?_, ?_, hc, ?_, ?_, 2, rfl, rfl, rfl, rfl, rfl, rfl, rfl, rfl, rfl, rfl, ?_, rfl, by omega, by omega, trivial⟩, fun hz => ⟨2, rfl, rfl, rfl, rfl, rfl, rfl, rfl, rfl, rfl, rfl, ?_, rfl, by omega, by omega, trivial⟩⟩
  all_goals first
    | (simp only [List.length_append, List.length_cons, List.length_nil]; omega)
    | omega
    | skip
  · have hz : ¬ t.c2 = 0 := by simpa using hz
    have e : part t 2 = [32] ++ (causeT 2 ++ ([32] ++ decS t.c2)) := by
      show (if t.c2 = 0 then [] else _) = _
      rw [if_neg hz]
      rfl
    rw [show parts t 2 = parts t 1 ++ part t 2 from rfl, e]
    simp [causeT]
  · have hz : t.c2 = 0 := by simpa using hz
    have e : part t 2 = [] := by
      show (if t.c2 = 0 then [] else _) = _
      rw [if_pos hz]
    rw [show parts t 2 = parts t 1 ++ part t 2 from rfl, e, List.append_nil]
theorem ta_2_ok (t : Tly) (h : okT t) : Paid (cutVC F (lookC r1) 200 Tryd.f13 b13 (taF t) 3 (taC t) (2 : Nat)) := by
  refine ⟨?_⟩
  rw [ta_2]
  have hc := h.2.2.2 3 (by omega) (by omega)
  have h1 := head_len t
  have h2 := parts_len t 2
  have h3 := decS_len t.c3
  refine ⟨fun hz => ⟨⟨by show (1 : Int) ≤ 3; omega, by show (3 : Int) ≤ 6; omega⟩, ?_, ?_, hc, ?_, ?_, 3, rfl, rfl, rfl, rfl, rfl, rfl, rfl, rfl, rfl, rfl, ?_, rfl, by omega, by omega, trivial⟩, fun hz => ⟨3, rfl, rfl, rfl, rfl, rfl, rfl, rfl, rfl, rfl, rfl, ?_, rfl, by omega, by omega, trivial⟩⟩
  all_goals first
    | (simp only [List.length_append, List.length_cons, List.length_nil]; omega)
    | omega
    | skip
  · have hz : ¬ t.c3 = 0 := by simpa using hz
    have e : part t 3 = [32] ++ (causeT 3 ++ ([32] ++ decS t.c3)) := by
      show (if t.c3 = 0 then [] else _) = _
      rw [if_neg hz]
      rfl
    rw [show parts t 3 = parts t 2 ++ part t 3 from rfl, e]
    simp [causeT]
  · have hz : t.c3 = 0 := by simpa using hz
    have e : part t 3 = [] := by
      show (if t.c3 = 0 then [] else _) = _
      rw [if_pos hz]
    rw [show parts t 3 = parts t 2 ++ part t 3 from rfl, e, List.append_nil]
theorem ta_3_ok (t : Tly) (h : okT t) : Paid (cutVC F (lookC r1) 200 Tryd.f13 b13 (taF t) 3 (taC t) (3 : Nat)) := by
  refine ⟨?_⟩
  rw [ta_3]
  have hc := h.2.2.2 4 (by omega) (by omega)
  have h1 := head_len t
  have h2 := parts_len t 3
  have h3 := decS_len t.c4
  refine ⟨fun hz => ⟨⟨by show (1 : Int) ≤ 4; omega, by show (4 : Int) ≤ 6; omega⟩, ?_, ?_, hc, ?_, ?_, 4, rfl, rfl, rfl, rfl, rfl, rfl, rfl, rfl, rfl, rfl, ?_, rfl, by omega, by omega, trivial⟩, fun hz => ⟨4, rfl, rfl, rfl, rfl, rfl, rfl, rfl, rfl, rfl, rfl, ?_, rfl, by omega, by omega, trivial⟩⟩
  all_goals first
    | (simp only [List.length_append, List.length_cons, List.length_nil]; omega)
    | omega
    | skip
  · have hz : ¬ t.c4 = 0 := by simpa using hz
    have e : part t 4 = [32] ++ (causeT 4 ++ ([32] ++ decS t.c4)) := by
      show (if t.c4 = 0 then [] else _) = _
      rw [if_neg hz]
      rfl
    rw [show parts t 4 = parts t 3 ++ part t 4 from rfl, e]
    simp [causeT]
  · have hz : t.c4 = 0 := by simpa using hz
    have e : part t 4 = [] := by
      show (if t.c4 = 0 then [] else _) = _
      rw [if_pos hz]
    rw [show parts t 4 = parts t 3 ++ part t 4 from rfl, e, List.append_nil]
theorem ta_4_ok (t : Tly) (h : okT t) : Paid (cutVC F (lookC r1) 200 Tryd.f13 b13 (taF t) 3 (taC t) (4 : Nat)) := by
  refine ⟨?_⟩
  rw [ta_4]
  have hc := h.2.2.2 5 (by omega) (by omega)
  have h1 := head_len t
  have h2 := parts_len t 4
  have h3 := decS_len t.c5
  refine ⟨fun hz => ⟨⟨by show (1 : Int) ≤ 5; omega, by show (5 : Int) ≤ 6; omega⟩, ?_, ?_, hc, ?_, ?_, 5, rfl, rfl, rfl, rfl, rfl, rfl, rfl, rfl, rfl, rfl, ?_, rfl, by omega, by omega, trivial⟩, fun hz => ⟨5, rfl, rfl, rfl, rfl, rfl, rfl, rfl, rfl, rfl, rfl, ?_, rfl, by omega, by omega, trivial⟩⟩
  all_goals first
    | (simp only [List.length_append, List.length_cons, List.length_nil]; omega)
    | omega
    | skip
  · have hz : ¬ t.c5 = 0 := by simpa using hz
    have e : part t 5 = [32] ++ (causeT 5 ++ ([32] ++ decS t.c5)) := by
      show (if t.c5 = 0 then [] else _) = _
      rw [if_neg hz]
      rfl
    rw [show parts t 5 = parts t 4 ++ part t 5 from rfl, e]
    simp [causeT]
  · have hz : t.c5 = 0 := by simpa using hz
    have e : part t 5 = [] := by
      show (if t.c5 = 0 then [] else _) = _
      rw [if_pos hz]
    rw [show parts t 5 = parts t 4 ++ part t 5 from rfl, e, List.append_nil]
theorem ta_5_ok (t : Tly) (h : okT t) : Paid (cutVC F (lookC r1) 200 Tryd.f13 b13 (taF t) 3 (taC t) (5 : Nat)) := by
  refine ⟨?_⟩
  rw [ta_5]
  have hc := h.2.2.2 6 (by omega) (by omega)
  have h1 := head_len t
  have h2 := parts_len t 5
  have h3 := decS_len t.c6
  refine ⟨fun hz => ⟨⟨by show (1 : Int) ≤ 6; omega, by show (6 : Int) ≤ 6; omega⟩, ?_, ?_, hc, ?_, ?_, 6, rfl, rfl, rfl, rfl, rfl, rfl, rfl, rfl, rfl, rfl, ?_, rfl, by omega, by omega, trivial⟩, fun hz => ⟨6, rfl, rfl, rfl, rfl, rfl, rfl, rfl, rfl, rfl, rfl, ?_, rfl, by omega, by omega, trivial⟩⟩
  all_goals first
    | (simp only [List.length_append, List.length_cons, List.length_nil]; omega)
    | omega
    | skip
  · have hz : ¬ t.c6 = 0 := by simpa using hz
    have e : part t 6 = [32] ++ (causeT 6 ++ ([32] ++ decS t.c6)) := by
      show (if t.c6 = 0 then [] else _) = _
      rw [if_neg hz]
      rfl
    rw [show parts t 6 = parts t 5 ++ part t 6 from rfl, e]
    simp [causeT]
  · have hz : t.c6 = 0 := by simpa using hz
    have e : part t 6 = [] := by
      show (if t.c6 = 0 then [] else _) = _
      rw [if_pos hz]
    rw [show parts t 6 = parts t 5 ++ part t 6 from rfl, e, List.append_nil]
theorem ta_6_ok (t : Tly) : Paid (cutVC F (lookC r1) 200 Tryd.f13 b13 (taF t) 3 (taC t) (6 : Nat)) := by
  refine ⟨?_⟩
  rw [ta_6]
  exact ⟨rfl, trivial⟩
theorem ta_c_ok (t : Tly) (h : okT t) (n : Nat) (hn : n ≤ 6) : Paid (cutVC F (lookC r1) 200 Tryd.f13 b13 (taF t) 3 (taC t) n) := by
  rcases (show n = 0 ∨ n = 1 ∨ n = 2 ∨ n = 3 ∨ n = 4 ∨ n = 5 ∨ n = 6 by omega) with rfl | rfl | rfl | rfl | rfl | rfl | rfl
  · exact ta_0_ok t h
  · exact ta_1_ok t h
  · exact ta_2_ok t h
  · exact ta_3_ok t h
  · exact ta_4_ok t h
  · exact ta_5_ok t h
  · exact ta_6_ok t
theorem tally13 : CtrOk1 F.S 13 (mkCtr tallyD) :=
  mkCtr_paid (fn := Tryd.f13) (body := b13) (ctr := lookC r1) codOk noExt hookLow r1Ok Tryd.func13 rfl rfl rfl tallyD 200 (fun (x : Tly × Unit) => [(3, taC x.1)]) (show 1 ≤ 41 by decide) (show 41 ≤ 512 by decide) (by kernel_rfl) (fun _ _ => ⟨rfl, rfl⟩)
    (fun x hp => ta_e_ok x.1 hp) (fun x hp p hm s hI => by
      rw [List.mem_singleton] at hm
      subst hm
      exact ta_c_ok x.1 hp s hI)
theorem tb_e_ok (t : Tly) (h : okT t) : Paid (entryX F (lookC r1) 200 Tryd.f14 b14 (taF t) [.agg (enc6 t)]) := by
  refine ⟨?_⟩
  rw [tb_e]
  obtain ⟨i1, i2, i3, _⟩ := h
  have h1 := decS_len t.tries
  have h2 := decS_len t.spec
  have h3 := decS_len t.real
  refine ⟨trivial, ?_, ?_, trivial, ?_, ?_, trivial, ?_, 0, rfl, rfl, rfl, rfl, rfl, rfl, rfl, rfl, rfl, rfl, ?_, rfl, by omega, trivial⟩
  all_goals first
    | (simp only [List.length_append, List.length_cons, List.length_nil]; omega)
    | simp only [headT, parts, List.append_assoc, List.append_nil, List.cons_append, List.nil_append]
theorem tb_0_ok (t : Tly) (h : okT t) : Paid (cutVC F (lookC r1) 200 Tryd.f14 b14 (taF t) 3 (taC t) (0 : Nat)) := by
  refine ⟨?_⟩
  rw [tb_0]
  have hc := h.2.2.2 1 (by omega) (by omega)
  have h1 := head_len t
  have h2 := parts_len t 0
  have h3 := decS_len t.c1
  refine ⟨fun hz => ⟨⟨by show (1 : Int) ≤ 1; omega, by show (1 : Int) ≤ 6; omega⟩, ?_, ?_, trivial, ?_, ?_, 1, rfl, rfl, rfl, rfl, rfl, rfl, rfl, rfl, rfl, rfl, ?_, rfl, by omega, by omega, trivial⟩, fun hz => ⟨1, rfl, rfl, rfl, rfl, rfl, rfl, rfl, rfl, rfl, rfl, ?_, rfl, by omega, by omega, trivial⟩⟩
  all_goals first
    | (simp only [List.length_append, List.length_cons, List.length_nil]; omega)
    | omega
    | skip
  · have hz : ¬ t.c1 = 0 := by simpa using hz
    have e : part t 1 = [32] ++ (causeT 1 ++ ([32] ++ decS t.c1)) := by
      show (if t.c1 = 0 then [] else _) = _
      rw [if_neg hz]
      rfl
    rw [show parts t 1 = parts t 0 ++ part t 1 from rfl, e]
    simp [causeT]
  · have hz : t.c1 = 0 := by simpa using hz
    have e : part t 1 = [] := by
      show (if t.c1 = 0 then [] else _) = _
      rw [if_pos hz]
    rw [show parts t 1 = parts t 0 ++ part t 1 from rfl, e, List.append_nil]
theorem tb_1_ok (t : Tly) (h : okT t) : Paid (cutVC F (lookC r1) 200 Tryd.f14 b14 (taF t) 3 (taC t) (1 : Nat)) := by
  refine ⟨?_⟩
  rw [tb_1]
  have hc := h.2.2.2 2 (by omega) (by omega)
  have h1 := head_len t
  have h2 := parts_len t 1
  have h3 := decS_len t.c2
  refine ⟨fun hz => ⟨⟨by show (1 : Int) ≤ 2; omega, by show (2 : Int) ≤ 6; omega⟩, ?_, ?_, trivial, ?_, ?_, 2, rfl, rfl, rfl, rfl, rfl, rfl, rfl, rfl, rfl, rfl, ?_, rfl, by omega, by omega, trivial⟩, fun hz => ⟨2, rfl, rfl, rfl, rfl, rfl, rfl, rfl, rfl, rfl, rfl, ?_, rfl, by omega, by omega, trivial⟩⟩
  all_goals first
    | (simp only [List.length_append, List.length_cons, List.length_nil]; omega)
    | omega
    | skip
  · have hz : ¬ t.c2 = 0 := by simpa using hz
    have e : part t 2 = [32] ++ (causeT 2 ++ ([32] ++ decS t.c2)) := by
      show (if t.c2 = 0 then [] else _) = _
      rw [if_neg hz]
      rfl
    rw [show parts t 2 = parts t 1 ++ part t 2 from rfl, e]
    simp [causeT]
  · have hz : t.c2 = 0 := by simpa using hz
    have e : part t 2 = [] := by
      show (if t.c2 = 0 then [] else _) = _
      rw [if_pos hz]
    rw [show parts t 2 = parts t 1 ++ part t 2 from rfl, e, List.append_nil]
theorem tb_2_ok (t : Tly) (h : okT t) : Paid (cutVC F (lookC r1) 200 Tryd.f14 b14 (taF t) 3 (taC t) (2 : Nat)) := by
  refine ⟨?_⟩
  rw [tb_2]
  have hc := h.2.2.2 3 (by omega) (by omega)
  have h1 := head_len t
  have h2 := parts_len t 2
  have h3 := decS_len t.c3
  refine ⟨fun hz => ⟨⟨by show (1 : Int) ≤ 3; omega, by show (3 : Int) ≤ 6; omega⟩, ?_, ?_, trivial, ?_, ?_, 3, rfl, rfl, rfl, rfl, rfl, rfl, rfl, rfl, rfl, rfl, ?_, rfl, by omega, by omega, trivial⟩, fun hz => ⟨3, rfl, rfl, rfl, rfl, rfl, rfl, rfl, rfl, rfl, rfl, ?_, rfl, by omega, by omega, trivial⟩⟩
  all_goals first
    | (simp only [List.length_append, List.length_cons, List.length_nil]; omega)
    | omega
    | skip
  · have hz : ¬ t.c3 = 0 := by simpa using hz
    have e : part t 3 = [32] ++ (causeT 3 ++ ([32] ++ decS t.c3)) := by
      show (if t.c3 = 0 then [] else _) = _
      rw [if_neg hz]
      rfl
    rw [show parts t 3 = parts t 2 ++ part t 3 from rfl, e]
    simp [causeT]
  · have hz : t.c3 = 0 := by simpa using hz
    have e : part t 3 = [] := by
      show (if t.c3 = 0 then [] else _) = _
      rw [if_pos hz]
    rw [show parts t 3 = parts t 2 ++ part t 3 from rfl, e, List.append_nil]
theorem tb_3_ok (t : Tly) (h : okT t) : Paid (cutVC F (lookC r1) 200 Tryd.f14 b14 (taF t) 3 (taC t) (3 : Nat)) := by
  refine ⟨?_⟩
  rw [tb_3]
  have hc := h.2.2.2 4 (by omega) (by omega)
  have h1 := head_len t
  have h2 := parts_len t 3
  have h3 := decS_len t.c4
  refine ⟨fun hz => ⟨⟨by show (1 : Int) ≤ 4; omega, by show (4 : Int) ≤ 6; omega⟩, ?_, ?_, trivial, ?_, ?_, 4, rfl, rfl, rfl, rfl, rfl, rfl, rfl, rfl, rfl, rfl, ?_, rfl, by omega, by omega, trivial⟩, fun hz => ⟨4, rfl, rfl, rfl, rfl, rfl, rfl, rfl, rfl, rfl, rfl, ?_, rfl, by omega, by omega, trivial⟩⟩
  all_goals first
    | (simp only [List.length_append, List.length_cons, List.length_nil]; omega)
    | omega
    | skip
  · have hz : ¬ t.c4 = 0 := by simpa using hz
    have e : part t 4 = [32] ++ (causeT 4 ++ ([32] ++ decS t.c4)) := by
      show (if t.c4 = 0 then [] else _) = _
      rw [if_neg hz]
      rfl
    rw [show parts t 4 = parts t 3 ++ part t 4 from rfl, e]
    simp [causeT]
  · have hz : t.c4 = 0 := by simpa using hz
    have e : part t 4 = [] := by
      show (if t.c4 = 0 then [] else _) = _
      rw [if_pos hz]
    rw [show parts t 4 = parts t 3 ++ part t 4 from rfl, e, List.append_nil]
theorem tb_4_ok (t : Tly) (h : okT t) : Paid (cutVC F (lookC r1) 200 Tryd.f14 b14 (taF t) 3 (taC t) (4 : Nat)) := by
  refine ⟨?_⟩
  rw [tb_4]
  have hc := h.2.2.2 5 (by omega) (by omega)
  have h1 := head_len t
  have h2 := parts_len t 4
  have h3 := decS_len t.c5
  refine ⟨fun hz => ⟨⟨by show (1 : Int) ≤ 5; omega, by show (5 : Int) ≤ 6; omega⟩, ?_, ?_, trivial, ?_, ?_, 5, rfl, rfl, rfl, rfl, rfl, rfl, rfl, rfl, rfl, rfl, ?_, rfl, by omega, by omega, trivial⟩, fun hz => ⟨5, rfl, rfl, rfl, rfl, rfl, rfl, rfl, rfl, rfl, rfl, ?_, rfl, by omega, by omega, trivial⟩⟩
  all_goals first
    | (simp only [List.length_append, List.length_cons, List.length_nil]; omega)
    | omega
    | skip
  · have hz : ¬ t.c5 = 0 := by simpa using hz
    have e : part t 5 = [32] ++ (causeT 5 ++ ([32] ++ decS t.c5)) := by
      show (if t.c5 = 0 then [] else _) = _
      rw [if_neg hz]
      rfl
    rw [show parts t 5 = parts t 4 ++ part t 5 from rfl, e]
    simp [causeT]
  · have hz : t.c5 = 0 := by simpa using hz
    have e : part t 5 = [] := by
      show (if t.c5 = 0 then [] else _) = _
      rw [if_pos hz]
    rw [show parts t 5 = parts t 4 ++ part t 5 from rfl, e, List.append_nil]
theorem tb_5_ok (t : Tly) (h : okT t) : Paid (cutVC F (lookC r1) 200 Tryd.f14 b14 (taF t) 3 (taC t) (5 : Nat)) := by
  refine ⟨?_⟩
  rw [tb_5]
  have hc := h.2.2.2 6 (by omega) (by omega)
  have h1 := head_len t
  have h2 := parts_len t 5
  have h3 := decS_len t.c6
  refine ⟨fun hz => ⟨⟨by show (1 : Int) ≤ 6; omega, by show (6 : Int) ≤ 6; omega⟩, ?_, ?_, trivial, ?_, ?_, 6, rfl, rfl, rfl, rfl, rfl, rfl, rfl, rfl, rfl, rfl, ?_, rfl, by omega, by omega, trivial⟩, fun hz => ⟨6, rfl, rfl, rfl, rfl, rfl, rfl, rfl, rfl, rfl, rfl, ?_, rfl, by omega, by omega, trivial⟩⟩
  all_goals first
    | (simp only [List.length_append, List.length_cons, List.length_nil]; omega)
    | omega
    | skip
  · have hz : ¬ t.c6 = 0 := by simpa using hz
    have e : part t 6 = [32] ++ (causeT 6 ++ ([32] ++ decS t.c6)) := by
      show (if t.c6 = 0 then [] else _) = _
      rw [if_neg hz]
      rfl
    rw [show parts t 6 = parts t 5 ++ part t 6 from rfl, e]
    simp [causeT]
  · have hz : t.c6 = 0 := by simpa using hz
    have e : part t 6 = [] := by
      show (if t.c6 = 0 then [] else _) = _
      rw [if_pos hz]
    rw [show parts t 6 = parts t 5 ++ part t 6 from rfl, e, List.append_nil]
theorem tb_6_ok (t : Tly) : Paid (cutVC F (lookC r1) 200 Tryd.f14 b14 (taF t) 3 (taC t) (6 : Nat)) := by
  refine ⟨?_⟩
  rw [tb_6]
  exact ⟨rfl, trivial⟩
theorem tb_c_ok (t : Tly) (h : okT t) (n : Nat) (hn : n ≤ 6) : Paid (cutVC F (lookC r1) 200 Tryd.f14 b14 (taF t) 3 (taC t) n) := by
  rcases (show n = 0 ∨ n = 1 ∨ n = 2 ∨ n = 3 ∨ n = 4 ∨ n = 5 ∨ n = 6 by omega) with rfl | rfl | rfl | rfl | rfl | rfl | rfl
  · exact tb_0_ok t h
  · exact tb_1_ok t h
  · exact tb_2_ok t h
  · exact tb_3_ok t h
  · exact tb_4_ok t h
  · exact tb_5_ok t h
  · exact tb_6_ok t
theorem tally14 : CtrOk1 F.S 14 (mkCtr tallyD) :=
  mkCtr_paid (fn := Tryd.f14) (body := b14) (ctr := lookC r1) codOk noExt hookLow r1Ok Tryd.func14 rfl rfl rfl tallyD 200 (fun (x : Tly × Unit) => [(3, taC x.1)]) (show 1 ≤ 41 by decide) (show 41 ≤ 512 by decide) (by kernel_rfl) (fun _ _ => ⟨rfl, rfl⟩)
    (fun x hp => tb_e_ok x.1 hp) (fun x hp p hm s hI => by
      rw [List.mem_singleton] at hm
      subst hm
      exact tb_c_ok x.1 hp s hI)

theorem kindT_len (b : Bool) : (kindT b).length ≤ 4 := by cases b <;> decide
theorem endT_len (n : Int) : (endT n).length ≤ 6 := by
  unfold endT
  repeat' split
  all_goals decide
theorem pre2_len (x : Att) : (pre2 x).length ≤ 60 := by
  have h1 := decS_len x.thread
  have h2 := decS_len x.tri
  have h3 := kindT_len x.real
  simp only [pre2, List.length_append, List.length_cons, List.length_nil]
  omega
theorem pre6_len (x : Att) : (pre6 x).length ≤ 200 := by
  have h1 := pre2_len x
  have h2 := decS_len x.stamp
  have h3 := decS_len (x.reads.length : Int)
  have h4 := decS_len (x.writes.length : Int)
  simp only [pre6, List.length_append, List.length_cons, List.length_nil]
  omega
theorem att_pre6 (x : Att) : attT x = pre6 x ++ ([32] ++ endT x.fin) := by
  simp only [attT, pre6, pre2, List.append_assoc, List.cons_append, List.nil_append]
theorem at_b_ok (x : Att) : Paid (entryX F (lookC r0) 200 Tryd.f12 b12 (fB x) [.agg (enc5 x)]) := by
  refine ⟨?_⟩
  rw [at_b]
  have h1 := decS_len x.thread
  have h2 := decS_len x.tri
  refine ⟨trivial, ?_, ?_, trivial, ?_, fun hr => ⟨?_, (), rfl, rfl, rfl, rfl, rfl, rfl, rfl, rfl, rfl, rfl, rfl, rfl, ?_, trivial, trivial⟩, fun hr => ⟨?_, (), rfl, rfl, rfl, rfl, rfl, rfl, rfl, rfl, rfl, rfl, rfl, rfl, ?_, trivial, trivial⟩⟩
  all_goals first
    | (simp only [List.length_append, List.length_cons, List.length_nil]; omega)
    | simp [pre2, kindT, hr]
theorem at_b5_ok (x : Att) : Paid (cutVC F (lookC r0) 200 Tryd.f12 b12 (fB x) 5 (cB5 x) ()) := by
  refine ⟨?_⟩
  rw [at_b5]
  have h1 := pre2_len x
  have h2 := decS_len x.stamp
  have h3 := decS_len (x.reads.length : Int)
  have h4 := decS_len (x.writes.length : Int)
  refine ⟨trivial, ?_, ?_, trivial, ?_, ?_, trivial, ?_, ?_, (), rfl, rfl, rfl, rfl, rfl, rfl, rfl, rfl, rfl, rfl, rfl, rfl, ?_, trivial, by show (0 : Nat) < 1; omega, trivial⟩
  all_goals first
    | (simp only [List.length_append, List.length_cons, List.length_nil]; omega)
    | simp [pre6]
theorem at_b6_ok (x : Att) : Paid (cutVC F (lookC r0) 200 Tryd.f12 b12 (fB x) 6 (cB6 x) ()) := by
  refine ⟨?_⟩
  rw [at_b6]
  have h1 := pre6_len x
  refine ⟨fun h => ⟨?_, ?_, trivial⟩, fun h => ⟨fun k => ⟨?_, ?_, trivial⟩, fun k => ⟨fun m => ⟨?_, ?_, trivial⟩, fun m => ⟨?_, ?_, trivial⟩⟩⟩⟩
  all_goals first
    | (simp only [List.length_append, List.length_cons, List.length_nil]; omega)
    | skip
  all_goals rw [att_pre6]
  · have h : x.fin = 6 := by simpa using h
    simp [endT, h]
  · have k : x.fin = 7 := by simpa using k
    simp [endT, k]
  · have m : x.fin = 0 := by simpa using m
    simp [endT, m]
  · have h : ¬ x.fin = 6 := by simpa using h
    have k : ¬ x.fin = 7 := by simpa using k
    have m : ¬ x.fin = 0 := by simpa using m
    simp [endT, h, k, m]
theorem att12 : CtrOk1 F.S 12 (mkCtr attD) :=
  mkCtr_paid (fn := Tryd.f12) (body := b12) (ctr := lookC r0) codOk noExt hookLow r0Ok Tryd.func12 rfl rfl rfl attD 200 (fun (x : Att × Unit) => [(5, cB5 x.1), (6, cB6 x.1)]) (show 1 ≤ 53 by decide) (show 53 ≤ 512 by decide) (by kernel_rfl) (fun _ _ => ⟨rfl, rfl⟩)
    (fun x hp => at_b_ok x.1) (fun x hp p hm s hI => by
      simp only [List.mem_cons, List.not_mem_nil, or_false] at hm
      rcases hm with rfl | rfl
      · exact at_b5_ok x.1
      · exact at_b6_ok x.1)
theorem at_a_ok (x : Att) : Paid (entryX F (lookC r0) 200 Tryd.f11 b11 (fA x) [.agg (enc5 x)]) := by
  refine ⟨?_⟩
  rw [at_a]
  refine ⟨fun hr => ⟨fun h => ?_, fun h => ⟨fun k => ?_, fun k => ⟨fun m => ?_, fun m => ?_⟩⟩⟩, fun hr => ⟨fun h => ?_, fun h => ⟨fun k => ?_, fun k => ⟨fun m => ?_, fun m => ?_⟩⟩⟩⟩
  all_goals simp only [beq_iff_eq, beq_eq_false_iff_ne, ne_eq] at h
  all_goals try simp only [beq_iff_eq, beq_eq_false_iff_ne, ne_eq] at k
  all_goals try simp only [beq_iff_eq, beq_eq_false_iff_ne, ne_eq] at m
  all_goals simp [kindT, endT, *]
theorem at_a12_ok (x : Att) (hp : okA x) : Paid (cutVC F (lookC r0) 200 Tryd.f11 b11 (fA x) 12 (cA12 x) ()) := by
  refine ⟨?_⟩
  rw [at_a12]
  obtain ⟨i1, i2, i3, i4, i5⟩ := hp
  have h1 := decS_len x.thread
  have h2 := decS_len x.tri
  have h3 := decS_len x.stamp
  have h4 := decS_len (x.reads.length : Int)
  have h5 := decS_len (x.writes.length : Int)
  have h6 := kindT_len x.real
  have h7 := endT_len x.fin
  have j4 : inI (x.reads.length : Int) := ⟨by omega, by omega⟩
  have j5 : inI (x.writes.length : Int) := ⟨by omega, by omega⟩
  refine ⟨i1, ?_, ?_, i2, ?_, ?_, ?_, ?_, (), rfl, i3, ?_, ?_, j4, ?_, ?_, j5, ?_, ?_, ?_, ?_, trivial⟩
  all_goals first
    | (simp only [List.length_append, List.length_cons, List.length_nil]; omega)
    | simp only [attT, List.append_assoc, List.cons_append, List.nil_append]
theorem att11 : CtrOk1 F.S 11 (mkCtr attD) :=
  mkCtr_paid (fn := Tryd.f11) (body := b11) (ctr := lookC r0) codOk noExt hookLow r0Ok Tryd.func11 rfl rfl rfl attD 200 (fun (x : Att × Unit) => [(12, cA12 x.1)]) (show 1 ≤ 49 by decide) (show 49 ≤ 512 by decide) (by kernel_rfl) (fun _ _ => ⟨rfl, rfl⟩)
    (fun x hp => at_a_ok x.1) (fun x hp p hm s hI => by
      rw [List.mem_singleton] at hm
      subst hm
      exact at_a12_ok x.1 hp)
end Go.Proofs.YtomlcdalhihnaaaDoor

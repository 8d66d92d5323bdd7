/- syncopelaw29.ReportTallies: what its own text owes is paid. -/
import Derived.Test.YtomlcdalhihnaaaDoorRl
namespace Go.Proofs.YtomlcdalhihnaaaDoor
open Go.RowKit Go.Am Go.Sy
set_option linter.unusedVariables false

theorem rt_e (t : Tly) (l : List Try) (n : Int) : Go.Sy.Tree.holds (entryX F (lookC u3c) 400 Tryd.f3 b3 (rtF t l n) [.agg (enc6 t), .tl (T := T) 3 l, .i .i64 n]) = ( (decide ((↑l.length : Int) > 3) = true → true = true ∧
 True) ∧ (decide ((↑l.length : Int) > 3) = false → ∃ (s : Nat), l = l ∧ n = n ∧ t.tries = t.tries ∧ t.c0 = t.c0 ∧ t.c1 = t.c1 ∧ t.c2 = t.c2 ∧ t.c3 = t.c3 ∧ t.c4 = t.c4 ∧ t.c5 = t.c5 ∧ t.c6 = t.c6 ∧ t.spec = t.spec ∧
 t.real = t.real ∧ (0 : Int) = (↑s : Int) ∧ (s ≤ l.length ∧ l.length ≤ 3 ∧ ∀ (x : Try), x ∈ List.take s l → x.ops.length ≤ 6) ∧ True)) := by kernel_rfl
theorem rt_4 (t : Tly) (l : List Try) (n : Int) (i : Nat) : Go.Sy.Tree.holds (cutVC F (lookC u3c) 400 Tryd.f3 b3 (rtF t l n) 4 (rtC4 t l n) i) = ( (decide ((↑i : Int) < (↑l.length : Int)) = true → ((0 : Int) ≤ (↑i : Int)
 ∧ (↑i : Int) < (↑l.length : Int)) ∧ (decide ((↑(at3 l (↑i : Int)).ops.length : Int) > 6) = true → true = true ∧ True) ∧ (decide ((↑(at3 l (↑i : Int)).ops.length : Int) > 6) = false → ∃ (s : Nat), l = l ∧ n = n ∧ t.tries
 = t.tries ∧ t.c0 = t.c0 ∧ t.c1 = t.c1 ∧ t.c2 = t.c2 ∧ t.c3 = t.c3 ∧ t.c4 = t.c4 ∧ t.c5 = t.c5 ∧ t.c6 = t.c6 ∧ t.spec = t.spec ∧ t.real = t.real ∧ IntKind.i64.wrap ((↑i : Int) + 1) = (↑s : Int) ∧ (s ≤ l.length ∧ l.length
 ≤ 3 ∧ ∀ (x : Try), x ∈ List.take s l → x.ops.length ≤ 6) ∧ (10 : Nat) + (l.length - s) < 10 + (l.length - i) ∧ True)) ∧ (decide ((↑i : Int) < (↑l.length : Int)) = false → ∃ (b : Bool), (b = true → ∃ (s : Tq (0 : Nat)), l
 = tql (0 : Nat) s ∧ n = n ∧ t.tries = t.tries ∧ t.c0 = t.c0 ∧ t.c1 = t.c1 ∧ t.c2 = t.c2 ∧ t.c3 = t.c3 ∧ t.c4 = t.c4 ∧ t.c5 = t.c5 ∧ t.c6 = t.c6 ∧ t.spec = t.spec ∧ t.real = t.real ∧ okOps (tql (0 : Nat) s) ∧ (5 : Nat) <
 10 + (l.length - i) ∧ True) ∧ (b = false → ∃ (b : Bool), (b = true → ∃ (s : Tq (1 : Nat)), l = tql (1 : Nat) s ∧ n = n ∧ t.tries = t.tries ∧ t.c0 = t.c0 ∧ t.c1 = t.c1 ∧ t.c2 = t.c2 ∧ t.c3 = t.c3 ∧ t.c4 = t.c4 ∧ t.c5 =
 t.c5 ∧ t.c6 = t.c6 ∧ t.spec = t.spec ∧ t.real = t.real ∧ okOps (tql (1 : Nat) s) ∧ (5 : Nat) < 10 + (l.length - i) ∧ True) ∧ (b = false → ∃ (b : Bool), (b = true → ∃ (s : Tq (2 : Nat)), l = tql (2 : Nat) s ∧ n = n ∧
 t.tries = t.tries ∧ t.c0 = t.c0 ∧ t.c1 = t.c1 ∧ t.c2 = t.c2 ∧ t.c3 = t.c3 ∧ t.c4 = t.c4 ∧ t.c5 = t.c5 ∧ t.c6 = t.c6 ∧ t.spec = t.spec ∧ t.real = t.real ∧ okOps (tql (2 : Nat) s) ∧ (5 : Nat) < 10 + (l.length - i) ∧ True)
 ∧ (b = false → ∃ (s : Tq (3 : Nat)), l = tql (3 : Nat) s ∧ n = n ∧ t.tries = t.tries ∧ t.c0 = t.c0 ∧ t.c1 = t.c1 ∧ t.c2 = t.c2 ∧ t.c3 = t.c3 ∧ t.c4 = t.c4 ∧ t.c5 = t.c5 ∧ t.c6 = t.c6 ∧ t.spec = t.spec ∧ t.real = t.real ∧
 okOps (tql (3 : Nat) s) ∧ (5 : Nat) < 10 + (l.length - i) ∧ True))))) := by kernel_rfl
theorem rt_80 (t : Tly) (l : List Try) (n : Int) : Go.Sy.Tree.holds (cutVC F (lookC u3c) 400 Tryd.f3 b3 (rtF t l n) 8 (rtC8 t n 0) (() : Tq 0)) = ( ∃ (y : Unit), constA (Value.bool true) = AVal.bool true ∧ attsD.pre (tql
 (0 : Nat) (), W3.mk (0 : Int) (0 : Int) (0 : Int), y, ()) ∧ ∃ (b : Bool), (b = true → ∃ (s : Tp (0 : Nat)), AVal.nils = AVal.nils ∧ n = n ∧ t.tries = t.tries ∧ t.c0 = t.c0 ∧ t.c1 = t.c1 ∧ t.c2 = t.c2 ∧ t.c3 = t.c3 ∧ t.c4
 = t.c4 ∧ t.c5 = t.c5 ∧ t.c6 = t.c6 ∧ t.spec = t.spec ∧ t.real = t.real ∧ (∀ (x : Att), x ∈ tpl (0 : Nat) s → ok1 x) ∧ (1 : Nat) < 5 ∧ True) ∧ (b = false → ∃ (b : Bool), (b = true → ∃ (s : Tp (1 : Nat)), Stuck "le: sl") ∧
 (b = false → ∃ (b : Bool), (b = true → ∃ (s : Tp (2 : Nat)), Stuck "le: sl") ∧ (b = false → ∃ (s : Tp (3 : Nat)), Stuck "le: sl")))) := by kernel_rfl
theorem rt_81 (t : Tly) (l : List Try) (n : Int) (y0 : Try) : Go.Sy.Tree.holds (cutVC F (lookC u3c) 400 Tryd.f3 b3 (rtF t l n) 8 (rtC8 t n 1) ((y0, ()) : Tq 1)) = ( ∃ (y : Unit), constA (Value.bool true) = AVal.bool true
 ∧ attsD.pre (tql (1 : Nat) (y0, ()), W3.mk (0 : Int) (0 : Int) (0 : Int), y, ()) ∧ ∃ (b : Bool), (b = true → ∃ (s : Tp (0 : Nat)), Stuck "le: a") ∧ (b = false → ∃ (b : Bool), (b = true → ∃ (s : Tp (1 : Nat)), (mkA ([] :
 List Att).length y0 (opsS (W3.mk (0 : Int) (0 : Int) (0 : Int)) y0.ops)).thread = s.fst.thread ∧ (mkA ([] : List Att).length y0 (opsS (W3.mk (0 : Int) (0 : Int) (0 : Int)) y0.ops)).tri = s.fst.tri ∧ (mkA ([] : List
 Att).length y0 (opsS (W3.mk (0 : Int) (0 : Int) (0 : Int)) y0.ops)).real = s.fst.real ∧ (mkA ([] : List Att).length y0 (opsS (W3.mk (0 : Int) (0 : Int) (0 : Int)) y0.ops)).frm = s.fst.frm ∧ (mkA ([] : List Att).length y0
 (opsS (W3.mk (0 : Int) (0 : Int) (0 : Int)) y0.ops)).unt = s.fst.unt ∧ (mkA ([] : List Att).length y0 (opsS (W3.mk (0 : Int) (0 : Int) (0 : Int)) y0.ops)).fin = s.fst.fin ∧ (mkA ([] : List Att).length y0 (opsS (W3.mk (0
 : Int) (0 : Int) (0 : Int)) y0.ops)).stamp = s.fst.stamp ∧ (mkA ([] : List Att).length y0 (opsS (W3.mk (0 : Int) (0 : Int) (0 : Int)) y0.ops)).step = s.fst.step ∧ (mkA ([] : List Att).length y0 (opsS (W3.mk (0 : Int) (0
 : Int) (0 : Int)) y0.ops)).reads = s.fst.reads ∧ (mkA ([] : List Att).length y0 (opsS (W3.mk (0 : Int) (0 : Int) (0 : Int)) y0.ops)).writes = s.fst.writes ∧ (mkA ([] : List Att).length y0 (opsS (W3.mk (0 : Int) (0 : Int)
 (0 : Int)) y0.ops)).seen = s.fst.seen ∧ AVal.nils = AVal.nils ∧ n = n ∧ t.tries = t.tries ∧ t.c0 = t.c0 ∧ t.c1 = t.c1 ∧ t.c2 = t.c2 ∧ t.c3 = t.c3 ∧ t.c4 = t.c4 ∧ t.c5 = t.c5 ∧ t.c6 = t.c6 ∧ t.spec = t.spec ∧ t.real =
 t.real ∧ (∀ (x : Att), x ∈ tpl (1 : Nat) s → ok1 x) ∧ (1 : Nat) < 5 ∧ True) ∧ (b = false → ∃ (b : Bool), (b = true → ∃ (s : Tp (2 : Nat)), Stuck "le: sl") ∧ (b = false → ∃ (s : Tp (3 : Nat)), Stuck "le: sl")))) := by
 kernel_rfl
theorem rt_82 (t : Tly) (l : List Try) (n : Int) (y0 : Try) (y1 : Try) : Go.Sy.Tree.holds (cutVC F (lookC u3c) 400 Tryd.f3 b3 (rtF t l n) 8 (rtC8 t n 2) ((y0, y1, ()) : Tq 2)) = ( ∃ (y : Unit), constA (Value.bool true) =
 AVal.bool true ∧ attsD.pre (tql (2 : Nat) (y0, y1, ()), W3.mk (0 : Int) (0 : Int) (0 : Int), y, ()) ∧ ∃ (b : Bool), (b = true → ∃ (s : Tp (0 : Nat)), Stuck "le: a") ∧ (b = false → ∃ (b : Bool), (b = true → ∃ (s : Tp (1 :
 Nat)), Stuck "le: sl") ∧ (b = false → ∃ (b : Bool), (b = true → ∃ (s : Tp (2 : Nat)), (mkA ([] : List Att).length y0 (opsS (W3.mk (0 : Int) (0 : Int) (0 : Int)) y0.ops)).thread = s.fst.thread ∧ (mkA ([] : List
 Att).length y0 (opsS (W3.mk (0 : Int) (0 : Int) (0 : Int)) y0.ops)).tri = s.fst.tri ∧ (mkA ([] : List Att).length y0 (opsS (W3.mk (0 : Int) (0 : Int) (0 : Int)) y0.ops)).real = s.fst.real ∧ (mkA ([] : List Att).length y0
 (opsS (W3.mk (0 : Int) (0 : Int) (0 : Int)) y0.ops)).frm = s.fst.frm ∧ (mkA ([] : List Att).length y0 (opsS (W3.mk (0 : Int) (0 : Int) (0 : Int)) y0.ops)).unt = s.fst.unt ∧ (mkA ([] : List Att).length y0 (opsS (W3.mk (0
 : Int) (0 : Int) (0 : Int)) y0.ops)).fin = s.fst.fin ∧ (mkA ([] : List Att).length y0 (opsS (W3.mk (0 : Int) (0 : Int) (0 : Int)) y0.ops)).stamp = s.fst.stamp ∧ (mkA ([] : List Att).length y0 (opsS (W3.mk (0 : Int) (0 :
 Int) (0 : Int)) y0.ops)).step = s.fst.step ∧ (mkA ([] : List Att).length y0 (opsS (W3.mk (0 : Int) (0 : Int) (0 : Int)) y0.ops)).reads = s.fst.reads ∧ (mkA ([] : List Att).length y0 (opsS (W3.mk (0 : Int) (0 : Int) (0 :
 Int)) y0.ops)).writes = s.fst.writes ∧ (mkA ([] : List Att).length y0 (opsS (W3.mk (0 : Int) (0 : Int) (0 : Int)) y0.ops)).seen = s.fst.seen ∧ AVal.nils = AVal.nils ∧ (mkA (stepT (Ru.mk [] (W3.mk (0 : Int) (0 : Int) (0 :
 Int))) y0).done.length y1 (opsS (stepT (Ru.mk [] (W3.mk (0 : Int) (0 : Int) (0 : Int))) y0).w y1.ops)).thread = s.snd.fst.thread ∧ (mkA (stepT (Ru.mk [] (W3.mk (0 : Int) (0 : Int) (0 : Int))) y0).done.length y1 (opsS
 (stepT (Ru.mk [] (W3.mk (0 : Int) (0 : Int) (0 : Int))) y0).w y1.ops)).tri = s.snd.fst.tri ∧ (mkA (stepT (Ru.mk [] (W3.mk (0 : Int) (0 : Int) (0 : Int))) y0).done.length y1 (opsS (stepT (Ru.mk [] (W3.mk (0 : Int) (0 :
 Int) (0 : Int))) y0).w y1.ops)).real = s.snd.fst.real ∧ (mkA (stepT (Ru.mk [] (W3.mk (0 : Int) (0 : Int) (0 : Int))) y0).done.length y1 (opsS (stepT (Ru.mk [] (W3.mk (0 : Int) (0 : Int) (0 : Int))) y0).w y1.ops)).frm =
 s.snd.fst.frm ∧ (mkA (stepT (Ru.mk [] (W3.mk (0 : Int) (0 : Int) (0 : Int))) y0).done.length y1 (opsS (stepT (Ru.mk [] (W3.mk (0 : Int) (0 : Int) (0 : Int))) y0).w y1.ops)).unt = s.snd.fst.unt ∧ (mkA (stepT (Ru.mk []
 (W3.mk (0 : Int) (0 : Int) (0 : Int))) y0).done.length y1 (opsS (stepT (Ru.mk [] (W3.mk (0 : Int) (0 : Int) (0 : Int))) y0).w y1.ops)).fin = s.snd.fst.fin ∧ (mkA (stepT (Ru.mk [] (W3.mk (0 : Int) (0 : Int) (0 : Int)))
 y0).done.length y1 (opsS (stepT (Ru.mk [] (W3.mk (0 : Int) (0 : Int) (0 : Int))) y0).w y1.ops)).stamp = s.snd.fst.stamp ∧ (mkA (stepT (Ru.mk [] (W3.mk (0 : Int) (0 : Int) (0 : Int))) y0).done.length y1 (opsS (stepT
 (Ru.mk [] (W3.mk (0 : Int) (0 : Int) (0 : Int))) y0).w y1.ops)).step = s.snd.fst.step ∧ (mkA (stepT (Ru.mk [] (W3.mk (0 : Int) (0 : Int) (0 : Int))) y0).done.length y1 (opsS (stepT (Ru.mk [] (W3.mk (0 : Int) (0 : Int) (0
 : Int))) y0).w y1.ops)).reads = s.snd.fst.reads ∧ (mkA (stepT (Ru.mk [] (W3.mk (0 : Int) (0 : Int) (0 : Int))) y0).done.length y1 (opsS (stepT (Ru.mk [] (W3.mk (0 : Int) (0 : Int) (0 : Int))) y0).w y1.ops)).writes =
 s.snd.fst.writes ∧ (mkA (stepT (Ru.mk [] (W3.mk (0 : Int) (0 : Int) (0 : Int))) y0).done.length y1 (opsS (stepT (Ru.mk [] (W3.mk (0 : Int) (0 : Int) (0 : Int))) y0).w y1.ops)).seen = s.snd.fst.seen ∧ AVal.nils =
 AVal.nils ∧ n = n ∧ t.tries = t.tries ∧ t.c0 = t.c0 ∧ t.c1 = t.c1 ∧ t.c2 = t.c2 ∧ t.c3 = t.c3 ∧ t.c4 = t.c4 ∧ t.c5 = t.c5 ∧ t.c6 = t.c6 ∧ t.spec = t.spec ∧ t.real = t.real ∧ (∀ (x : Att), x ∈ tpl (2 : Nat) s → ok1 x) ∧
 (1 : Nat) < 5 ∧ True) ∧ (b = false → ∃ (s : Tp (3 : Nat)), Stuck "le: sl")))) := by kernel_rfl
theorem rt_83 (t : Tly) (l : List Try) (n : Int) (y0 : Try) (y1 : Try) (y2 : Try) : Go.Sy.Tree.holds (cutVC F (lookC u3c) 400 Tryd.f3 b3 (rtF t l n) 8 (rtC8 t n 3) ((y0, y1, y2, ()) : Tq 3)) = ( ∃ (y : Unit), constA
 (Value.bool true) = AVal.bool true ∧ attsD.pre (tql (3 : Nat) (y0, y1, y2, ()), W3.mk (0 : Int) (0 : Int) (0 : Int), y, ()) ∧ ∃ (b : Bool), (b = true → ∃ (s : Tp (0 : Nat)), Stuck "le: a") ∧ (b = false → ∃ (b : Bool), (b
 = true → ∃ (s : Tp (1 : Nat)), Stuck "le: sl") ∧ (b = false → ∃ (b : Bool), (b = true → ∃ (s : Tp (2 : Nat)), Stuck "le: sl") ∧ (b = false → ∃ (s : Tp (3 : Nat)), (mkA ([] : List Att).length y0 (opsS (W3.mk (0 : Int) (0
 : Int) (0 : Int)) y0.ops)).thread = s.fst.thread ∧ (mkA ([] : List Att).length y0 (opsS (W3.mk (0 : Int) (0 : Int) (0 : Int)) y0.ops)).tri = s.fst.tri ∧ (mkA ([] : List Att).length y0 (opsS (W3.mk (0 : Int) (0 : Int) (0
 : Int)) y0.ops)).real = s.fst.real ∧ (mkA ([] : List Att).length y0 (opsS (W3.mk (0 : Int) (0 : Int) (0 : Int)) y0.ops)).frm = s.fst.frm ∧ (mkA ([] : List Att).length y0 (opsS (W3.mk (0 : Int) (0 : Int) (0 : Int))
 y0.ops)).unt = s.fst.unt ∧ (mkA ([] : List Att).length y0 (opsS (W3.mk (0 : Int) (0 : Int) (0 : Int)) y0.ops)).fin = s.fst.fin ∧ (mkA ([] : List Att).length y0 (opsS (W3.mk (0 : Int) (0 : Int) (0 : Int)) y0.ops)).stamp =
 s.fst.stamp ∧ (mkA ([] : List Att).length y0 (opsS (W3.mk (0 : Int) (0 : Int) (0 : Int)) y0.ops)).step = s.fst.step ∧ (mkA ([] : List Att).length y0 (opsS (W3.mk (0 : Int) (0 : Int) (0 : Int)) y0.ops)).reads =
 s.fst.reads ∧ (mkA ([] : List Att).length y0 (opsS (W3.mk (0 : Int) (0 : Int) (0 : Int)) y0.ops)).writes = s.fst.writes ∧ (mkA ([] : List Att).length y0 (opsS (W3.mk (0 : Int) (0 : Int) (0 : Int)) y0.ops)).seen =
 s.fst.seen ∧ AVal.nils = AVal.nils ∧ (mkA (stepT (Ru.mk [] (W3.mk (0 : Int) (0 : Int) (0 : Int))) y0).done.length y1 (opsS (stepT (Ru.mk [] (W3.mk (0 : Int) (0 : Int) (0 : Int))) y0).w y1.ops)).thread = s.snd.fst.thread
 ∧ (mkA (stepT (Ru.mk [] (W3.mk (0 : Int) (0 : Int) (0 : Int))) y0).done.length y1 (opsS (stepT (Ru.mk [] (W3.mk (0 : Int) (0 : Int) (0 : Int))) y0).w y1.ops)).tri = s.snd.fst.tri ∧ (mkA (stepT (Ru.mk [] (W3.mk (0 : Int)
 (0 : Int) (0 : Int))) y0).done.length y1 (opsS (stepT (Ru.mk [] (W3.mk (0 : Int) (0 : Int) (0 : Int))) y0).w y1.ops)).real = s.snd.fst.real ∧ (mkA (stepT (Ru.mk [] (W3.mk (0 : Int) (0 : Int) (0 : Int))) y0).done.length
 y1 (opsS (stepT (Ru.mk [] (W3.mk (0 : Int) (0 : Int) (0 : Int))) y0).w y1.ops)).frm = s.snd.fst.frm ∧ (mkA (stepT (Ru.mk [] (W3.mk (0 : Int) (0 : Int) (0 : Int))) y0).done.length y1 (opsS (stepT (Ru.mk [] (W3.mk (0 :
 Int) (0 : Int) (0 : Int))) y0).w y1.ops)).unt = s.snd.fst.unt ∧ (mkA (stepT (Ru.mk [] (W3.mk (0 : Int) (0 : Int) (0 : Int))) y0).done.length y1 (opsS (stepT (Ru.mk [] (W3.mk (0 : Int) (0 : Int) (0 : Int))) y0).w
 y1.ops)).fin = s.snd.fst.fin ∧ (mkA (stepT (Ru.mk [] (W3.mk (0 : Int) (0 : Int) (0 : Int))) y0).done.length y1 (opsS (stepT (Ru.mk [] (W3.mk (0 : Int) (0 : Int) (0 : Int))) y0).w y1.ops)).stamp = s.snd.fst.stamp ∧ (mkA
 (stepT (Ru.mk [] (W3.mk (0 : Int) (0 : Int) (0 : Int))) y0).done.length y1 (opsS (stepT (Ru.mk [] (W3.mk (0 : Int) (0 : Int) (0 : Int))) y0).w y1.ops)).step = s.snd.fst.step ∧ (mkA (stepT (Ru.mk [] (W3.mk (0 : Int) (0 :
 Int) (0 : Int))) y0).done.length y1 (opsS (stepT (Ru.mk [] (W3.mk (0 : Int) (0 : Int) (0 : Int))) y0).w y1.ops)).reads = s.snd.fst.reads ∧ (mkA (stepT (Ru.mk [] (W3.mk (0 : Int) (0 : Int) (0 : Int))) y0).done.length y1
 (opsS (stepT (Ru.mk [] (W3.mk (0 : Int) (0 : Int) (0 : Int))) y0).w y1.ops)).writes = s.snd.fst.writes ∧ (mkA (stepT (Ru.mk [] (W3.mk (0 : Int) (0 : Int) (0 : Int))) y0).done.length y1 (opsS (stepT (Ru.mk [] (W3.mk (0 :
 Int) (0 : Int) (0 : Int))) y0).w y1.ops)).seen = s.snd.fst.seen ∧ AVal.nils = AVal.nils ∧ (mkA (stepT (stepT (Ru.mk [] (W3.mk (0 : Int) (0 : Int) (0 : Int))) y0) y1).done.length y2 (opsS (stepT (stepT (Ru.mk [] (W3.mk (0
 : Int) (0 : Int) (0 : Int))) y0) y1).w y2.ops)).thread = s.snd.snd.fst.thread ∧ (mkA (stepT (stepT (Ru.mk [] (W3.mk (0 : Int) (0 : Int) (0 : Int))) y0) y1).done.length y2 (opsS (stepT (stepT (Ru.mk [] (W3.mk (0 : Int) (0
 : Int) (0 : Int))) y0) y1).w y2.ops)).tri = s.snd.snd.fst.tri ∧ (mkA (stepT (stepT (Ru.mk [] (W3.mk (0 : Int) (0 : Int) (0 : Int))) y0) y1).done.length y2 (opsS (stepT (stepT (Ru.mk [] (W3.mk (0 : Int) (0 : Int) (0 :
 Int))) y0) y1).w y2.ops)).real = s.snd.snd.fst.real ∧ (mkA (stepT (stepT (Ru.mk [] (W3.mk (0 : Int) (0 : Int) (0 : Int))) y0) y1).done.length y2 (opsS (stepT (stepT (Ru.mk [] (W3.mk (0 : Int) (0 : Int) (0 : Int))) y0)
 y1).w y2.ops)).frm = s.snd.snd.fst.frm ∧ (mkA (stepT (stepT (Ru.mk [] (W3.mk (0 : Int) (0 : Int) (0 : Int))) y0) y1).done.length y2 (opsS (stepT (stepT (Ru.mk [] (W3.mk (0 : Int) (0 : Int) (0 : Int))) y0) y1).w
 y2.ops)).unt = s.snd.snd.fst.unt ∧ (mkA (stepT (stepT (Ru.mk [] (W3.mk (0 : Int) (0 : Int) (0 : Int))) y0) y1).done.length y2 (opsS (stepT (stepT (Ru.mk [] (W3.mk (0 : Int) (0 : Int) (0 : Int))) y0) y1).w y2.ops)).fin =
 s.snd.snd.fst.fin ∧ (mkA (stepT (stepT (Ru.mk [] (W3.mk (0 : Int) (0 : Int) (0 : Int))) y0) y1).done.length y2 (opsS (stepT (stepT (Ru.mk [] (W3.mk (0 : Int) (0 : Int) (0 : Int))) y0) y1).w y2.ops)).stamp =
 s.snd.snd.fst.stamp ∧ (mkA (stepT (stepT (Ru.mk [] (W3.mk (0 : Int) (0 : Int) (0 : Int))) y0) y1).done.length y2 (opsS (stepT (stepT (Ru.mk [] (W3.mk (0 : Int) (0 : Int) (0 : Int))) y0) y1).w y2.ops)).step =
 s.snd.snd.fst.step ∧ (mkA (stepT (stepT (Ru.mk [] (W3.mk (0 : Int) (0 : Int) (0 : Int))) y0) y1).done.length y2 (opsS (stepT (stepT (Ru.mk [] (W3.mk (0 : Int) (0 : Int) (0 : Int))) y0) y1).w y2.ops)).reads =
 s.snd.snd.fst.reads ∧ (mkA (stepT (stepT (Ru.mk [] (W3.mk (0 : Int) (0 : Int) (0 : Int))) y0) y1).done.length y2 (opsS (stepT (stepT (Ru.mk [] (W3.mk (0 : Int) (0 : Int) (0 : Int))) y0) y1).w y2.ops)).writes =
 s.snd.snd.fst.writes ∧ (mkA (stepT (stepT (Ru.mk [] (W3.mk (0 : Int) (0 : Int) (0 : Int))) y0) y1).done.length y2 (opsS (stepT (stepT (Ru.mk [] (W3.mk (0 : Int) (0 : Int) (0 : Int))) y0) y1).w y2.ops)).seen =
 s.snd.snd.fst.seen ∧ AVal.nils = AVal.nils ∧ n = n ∧ t.tries = t.tries ∧ t.c0 = t.c0 ∧ t.c1 = t.c1 ∧ t.c2 = t.c2 ∧ t.c3 = t.c3 ∧ t.c4 = t.c4 ∧ t.c5 = t.c5 ∧ t.c6 = t.c6 ∧ t.spec = t.spec ∧ t.real = t.real ∧ (∀ (x : Att),
 x ∈ tpl (3 : Nat) s → ok1 x) ∧ (1 : Nat) < 5 ∧ True)))) := by kernel_rfl
theorem rt_90 (t : Tly) (l : List Try) (n : Int) : Go.Sy.Tree.holds (cutVC F (lookC u3c) 400 Tryd.f3 b3 (rtF t l n) 9 (rtC9 t n 0) (() : Tp 0)) = ( tallyD.pre (Tly.mk t.tries t.c0 t.c1 t.c2 t.c3 t.c4 t.c5 t.c6 t.spec
 t.real, ()) ∧ tallyD.pre (Tly.mk t.tries t.c0 t.c1 t.c2 t.c3 t.c4 t.c5 t.c6 t.spec t.real, ()) ∧ (headT (Tly.mk t.tries t.c0 t.c1 t.c2 t.c3 t.c4 t.c5 t.c6 t.spec t.real) ++ parts (Tly.mk t.tries t.c0 t.c1 t.c2 t.c3 t.c4
 t.c5 t.c6 t.spec t.real) (6 : Nat) == headT (Tly.mk t.tries t.c0 t.c1 t.c2 t.c3 t.c4 t.c5 t.c6 t.spec t.real) ++ parts (Tly.mk t.tries t.c0 t.c1 t.c2 t.c3 t.c4 t.c5 t.c6 t.spec t.real) (6 : Nat)) = true ∧ True) := by
 kernel_rfl
theorem rt_91 (t : Tly) (l : List Try) (n : Int) (x0 : Att) : Go.Sy.Tree.holds (cutVC F (lookC u3c) 400 Tryd.f3 b3 (rtF t l n) 9 (rtC9 t n 1) ((x0, ()) : Tp 1)) = ( attD.pre (Att.mk x0.thread x0.tri x0.real x0.frm x0.unt
 x0.fin n x0.step x0.reads x0.writes x0.seen [], ()) ∧ attD.pre (Att.mk x0.thread x0.tri x0.real x0.frm x0.unt x0.fin n x0.step x0.reads x0.writes x0.seen [], ()) ∧ ((!attT (Att.mk x0.thread x0.tri x0.real x0.frm x0.unt
 x0.fin n x0.step x0.reads x0.writes x0.seen []) == attT (Att.mk x0.thread x0.tri x0.real x0.frm x0.unt x0.fin n x0.step x0.reads x0.writes x0.seen [])) = true → false = true ∧ True) ∧ ((!attT (Att.mk x0.thread x0.tri
 x0.real x0.frm x0.unt x0.fin n x0.step x0.reads x0.writes x0.seen []) == attT (Att.mk x0.thread x0.tri x0.real x0.frm x0.unt x0.fin n x0.step x0.reads x0.writes x0.seen [])) = false → tallyD.pre (Tly.mk t.tries t.c0 t.c1
 t.c2 t.c3 t.c4 t.c5 t.c6 t.spec t.real, ()) ∧ tallyD.pre (Tly.mk t.tries t.c0 t.c1 t.c2 t.c3 t.c4 t.c5 t.c6 t.spec t.real, ()) ∧ (headT (Tly.mk t.tries t.c0 t.c1 t.c2 t.c3 t.c4 t.c5 t.c6 t.spec t.real) ++ parts (Tly.mk
 t.tries t.c0 t.c1 t.c2 t.c3 t.c4 t.c5 t.c6 t.spec t.real) (6 : Nat) == headT (Tly.mk t.tries t.c0 t.c1 t.c2 t.c3 t.c4 t.c5 t.c6 t.spec t.real) ++ parts (Tly.mk t.tries t.c0 t.c1 t.c2 t.c3 t.c4 t.c5 t.c6 t.spec t.real) (6
 : Nat)) = true ∧ True)) := by kernel_rfl
theorem rt_92 (t : Tly) (l : List Try) (n : Int) (x0 : Att) (x1 : Att) : Go.Sy.Tree.holds (cutVC F (lookC u3c) 400 Tryd.f3 b3 (rtF t l n) 9 (rtC9 t n 2) ((x0, x1, ()) : Tp 2)) = ( attD.pre (Att.mk x0.thread x0.tri x0.real
 x0.frm x0.unt x0.fin n x0.step x0.reads x0.writes x0.seen [], ()) ∧ attD.pre (Att.mk x0.thread x0.tri x0.real x0.frm x0.unt x0.fin n x0.step x0.reads x0.writes x0.seen [], ()) ∧ ((!attT (Att.mk x0.thread x0.tri x0.real
 x0.frm x0.unt x0.fin n x0.step x0.reads x0.writes x0.seen []) == attT (Att.mk x0.thread x0.tri x0.real x0.frm x0.unt x0.fin n x0.step x0.reads x0.writes x0.seen [])) = true → false = true ∧ True) ∧ ((!attT (Att.mk
 x0.thread x0.tri x0.real x0.frm x0.unt x0.fin n x0.step x0.reads x0.writes x0.seen []) == attT (Att.mk x0.thread x0.tri x0.real x0.frm x0.unt x0.fin n x0.step x0.reads x0.writes x0.seen [])) = false → attD.pre (Att.mk
 x1.thread x1.tri x1.real x1.frm x1.unt x1.fin n x1.step x1.reads x1.writes x1.seen [], ()) ∧ attD.pre (Att.mk x1.thread x1.tri x1.real x1.frm x1.unt x1.fin n x1.step x1.reads x1.writes x1.seen [], ()) ∧ ((!attT (Att.mk
 x1.thread x1.tri x1.real x1.frm x1.unt x1.fin n x1.step x1.reads x1.writes x1.seen []) == attT (Att.mk x1.thread x1.tri x1.real x1.frm x1.unt x1.fin n x1.step x1.reads x1.writes x1.seen [])) = true → false = true ∧ True)
 ∧ ((!attT (Att.mk x1.thread x1.tri x1.real x1.frm x1.unt x1.fin n x1.step x1.reads x1.writes x1.seen []) == attT (Att.mk x1.thread x1.tri x1.real x1.frm x1.unt x1.fin n x1.step x1.reads x1.writes x1.seen [])) = false →
 tallyD.pre (Tly.mk t.tries t.c0 t.c1 t.c2 t.c3 t.c4 t.c5 t.c6 t.spec t.real, ()) ∧ tallyD.pre (Tly.mk t.tries t.c0 t.c1 t.c2 t.c3 t.c4 t.c5 t.c6 t.spec t.real, ()) ∧ (headT (Tly.mk t.tries t.c0 t.c1 t.c2 t.c3 t.c4 t.c5
 t.c6 t.spec t.real) ++ parts (Tly.mk t.tries t.c0 t.c1 t.c2 t.c3 t.c4 t.c5 t.c6 t.spec t.real) (6 : Nat) == headT (Tly.mk t.tries t.c0 t.c1 t.c2 t.c3 t.c4 t.c5 t.c6 t.spec t.real) ++ parts (Tly.mk t.tries t.c0 t.c1 t.c2
 t.c3 t.c4 t.c5 t.c6 t.spec t.real) (6 : Nat)) = true ∧ True))) := by kernel_rfl
theorem rt_93 (t : Tly) (l : List Try) (n : Int) (x0 : Att) (x1 : Att) (x2 : Att) : Go.Sy.Tree.holds (cutVC F (lookC u3c) 400 Tryd.f3 b3 (rtF t l n) 9 (rtC9 t n 3) ((x0, x1, x2, ()) : Tp 3)) = ( attD.pre (Att.mk x0.thread
 x0.tri x0.real x0.frm x0.unt x0.fin n x0.step x0.reads x0.writes x0.seen [], ()) ∧ attD.pre (Att.mk x0.thread x0.tri x0.real x0.frm x0.unt x0.fin n x0.step x0.reads x0.writes x0.seen [], ()) ∧ ((!attT (Att.mk x0.thread
 x0.tri x0.real x0.frm x0.unt x0.fin n x0.step x0.reads x0.writes x0.seen []) == attT (Att.mk x0.thread x0.tri x0.real x0.frm x0.unt x0.fin n x0.step x0.reads x0.writes x0.seen [])) = true → false = true ∧ True) ∧ ((!attT
 (Att.mk x0.thread x0.tri x0.real x0.frm x0.unt x0.fin n x0.step x0.reads x0.writes x0.seen []) == attT (Att.mk x0.thread x0.tri x0.real x0.frm x0.unt x0.fin n x0.step x0.reads x0.writes x0.seen [])) = false → attD.pre
 (Att.mk x1.thread x1.tri x1.real x1.frm x1.unt x1.fin n x1.step x1.reads x1.writes x1.seen [], ()) ∧ attD.pre (Att.mk x1.thread x1.tri x1.real x1.frm x1.unt x1.fin n x1.step x1.reads x1.writes x1.seen [], ()) ∧ ((!attT
 (Att.mk x1.thread x1.tri x1.real x1.frm x1.unt x1.fin n x1.step x1.reads x1.writes x1.seen []) == attT (Att.mk x1.thread x1.tri x1.real x1.frm x1.unt x1.fin n x1.step x1.reads x1.writes x1.seen [])) = true → false = true
 ∧ True) ∧ ((!attT (Att.mk x1.thread x1.tri x1.real x1.frm x1.unt x1.fin n x1.step x1.reads x1.writes x1.seen []) == attT (Att.mk x1.thread x1.tri x1.real x1.frm x1.unt x1.fin n x1.step x1.reads x1.writes x1.seen [])) =
 false → attD.pre (Att.mk x2.thread x2.tri x2.real x2.frm x2.unt (n.tmod 9) n x2.step x2.reads x2.writes x2.seen [], ()) ∧ attD.pre (Att.mk x2.thread x2.tri x2.real x2.frm x2.unt (n.tmod 9) n x2.step x2.reads x2.writes
 x2.seen [], ()) ∧ ((!attT (Att.mk x2.thread x2.tri x2.real x2.frm x2.unt (n.tmod 9) n x2.step x2.reads x2.writes x2.seen []) == attT (Att.mk x2.thread x2.tri x2.real x2.frm x2.unt (n.tmod 9) n x2.step x2.reads x2.writes
 x2.seen [])) = true → false = true ∧ True) ∧ ((!attT (Att.mk x2.thread x2.tri x2.real x2.frm x2.unt (n.tmod 9) n x2.step x2.reads x2.writes x2.seen []) == attT (Att.mk x2.thread x2.tri x2.real x2.frm x2.unt (n.tmod 9) n
 x2.step x2.reads x2.writes x2.seen [])) = false → tallyD.pre (Tly.mk t.tries t.c0 t.c1 t.c2 t.c3 t.c4 t.c5 t.c6 t.spec t.real, ()) ∧ tallyD.pre (Tly.mk t.tries t.c0 t.c1 t.c2 t.c3 t.c4 t.c5 t.c6 t.spec t.real, ()) ∧
 (headT (Tly.mk t.tries t.c0 t.c1 t.c2 t.c3 t.c4 t.c5 t.c6 t.spec t.real) ++ parts (Tly.mk t.tries t.c0 t.c1 t.c2 t.c3 t.c4 t.c5 t.c6 t.spec t.real) (6 : Nat) == headT (Tly.mk t.tries t.c0 t.c1 t.c2 t.c3 t.c4 t.c5 t.c6
 t.spec t.real) ++ parts (Tly.mk t.tries t.c0 t.c1 t.c2 t.c3 t.c4 t.c5 t.c6 t.spec t.real) (6 : Nat)) = true ∧ True)))) := by kernel_rfl

theorem u3cOk : CtrOk F.S (lookC u3c) := lookC_ok fun p h => by
  simp only [u3c, List.mem_cons, List.not_mem_nil, or_false] at h
  rcases h with rfl | rfl | rfl | rfl | rfl | rfl
  · exact toldCtr_ok rfl
  · exact attsOk
  · exact att11
  · exact att12
  · exact tally13
  · exact tally14
theorem ok1_mk {k : Nat} {w : W3} {t : Try} (hk : k ≤ 3) (h : t.ops.length ≤ 6) : ok1 (mkA k t (opsS w t.ops)) := by
  have h1 := u3_is t.thread
  have h2 := opsS_le w t.ops
  refine ⟨⟨?_, ?_⟩, ⟨?_, ?_⟩, ?_, ?_⟩
  · show -9223372036854775808 ≤ u3 t.thread; omega
  · show u3 t.thread ≤ 9223372036854775807; omega
  · show -9223372036854775808 ≤ (k : Int) + 1; omega
  · show (k : Int) + 1 ≤ 9223372036854775807; omega
  · show (opsS w t.ops).rs.length ≤ 1000000; omega
  · show (opsS w t.ops).ws.length ≤ 1000000; omega
theorem rt_e_ok (t : Tly) (l : List Try) (n : Int) : Paid (entryX F (lookC u3c) 400 Tryd.f3 b3 (rtF t l n) [.agg (enc6 t), .tl (T := T) 3 l, .i .i64 n]) := by
  refine ⟨?_⟩
  rw [rt_e]
  refine ⟨fun _ => ⟨rfl, trivial⟩, fun h => ?_⟩
  have h : l.length ≤ 3 := by have := of_decide_eq_false h; omega
  exact ⟨0, rfl, rfl, rfl, rfl, rfl, rfl, rfl, rfl, rfl, rfl, rfl, rfl, rfl, ⟨Nat.zero_le _, h, fun x hx => by simp at hx⟩, trivial⟩
theorem rt_4_ok (t : Tly) (l : List Try) (n : Int) (i : Nat) (hi : i ≤ l.length) (hl : l.length ≤ 3) (ho : ∀ x ∈ l.take i, x.ops.length ≤ 6) : Paid (cutVC F (lookC u3c) 400 Tryd.f3 b3 (rtF t l n) 4 (rtC4 t l n) i) := by
  refine ⟨?_⟩
  rw [rt_4]
  refine ⟨fun h => ?_, fun h => ?_⟩
  · have h : i < l.length := by have := of_decide_eq_true h; omega
    refine ⟨⟨by omega, by omega⟩, fun _ => ⟨rfl, trivial⟩, fun k => ?_⟩
    have k := of_decide_eq_false k
    have e : at3 l (i : Int) = l[i] := at3_get h
    rw [e] at k
    exact ⟨i + 1, rfl, rfl, rfl, rfl, rfl, rfl, rfl, rfl, rfl, rfl, rfl, rfl, succ64 (i := i) (by omega), ⟨h, hl, all_take ho h (by omega)⟩, (show 10 + (l.length - (i + 1)) < 10 + (l.length - i) by omega), trivial⟩
  · have h : i = l.length := by have := of_decide_eq_false h; omega
    subst h
    rw [List.take_length] at ho
    have hm : 5 < 10 + (l.length - l.length) := by omega
    rcases l with _ | ⟨y0, _ | ⟨y1, _ | ⟨y2, _ | ⟨y3, l⟩⟩⟩⟩
    · exact ⟨true, fun _ => ⟨(), rfl, rfl, rfl, rfl, rfl, rfl, rfl, rfl, rfl, rfl, rfl, rfl, ⟨hl, ho⟩, hm, trivial⟩, nofun⟩
    · exact ⟨false, nofun, fun _ => ⟨true, fun _ => ⟨(y0, ()), rfl, rfl, rfl, rfl, rfl, rfl, rfl, rfl, rfl, rfl, rfl, rfl, ⟨hl, ho⟩, hm, trivial⟩, nofun⟩⟩
    · exact ⟨false, nofun, fun _ => ⟨false, nofun, fun _ => ⟨true, fun _ => ⟨(y0, y1, ()), rfl, rfl, rfl, rfl, rfl, rfl, rfl, rfl, rfl, rfl, rfl, rfl, ⟨hl, ho⟩, hm, trivial⟩, nofun⟩⟩⟩
    · exact ⟨false, nofun, fun _ => ⟨false, nofun, fun _ => ⟨false, nofun, fun _ => ⟨(y0, y1, y2, ()), rfl, rfl, rfl, rfl, rfl, rfl, rfl, rfl, rfl, rfl, rfl, rfl, ⟨hl, ho⟩, hm, trivial⟩⟩⟩⟩
    · simp only [List.length_cons] at hl
      omega
theorem rt_80_ok (t : Tly) (l : List Try) (n : Int)  (ho : okOps (tql 0 (() : Tq 0))) : Paid (cutVC F (lookC u3c) 400 Tryd.f3 b3 (rtF t l n) 8 (rtC8 t n 0) (() : Tq 0)) := by
  refine ⟨?_⟩
  rw [rt_80]
  have hI : ∀ x ∈ tpl 0 (() : Tp 0), ok1 x := by
    intro x hx; cases hx
  exact ⟨(), rfl, ⟨ho, rfl⟩, ⟨true, fun _ => ⟨(), rfl, rfl, rfl, rfl, rfl, rfl, rfl, rfl, rfl, rfl, rfl, rfl, hI, (show 1 < 5 by omega), trivial⟩, nofun⟩⟩
theorem rt_90_ok (t : Tly) (l : List Try) (n : Int) (hT : okT t) (hn : inI n)  (hI : ∀ x ∈ tpl 0 (() : Tp 0), ok1 x) : Paid (cutVC F (lookC u3c) 400 Tryd.f3 b3 (rtF t l n) 9 (rtC9 t n 0) (() : Tp 0)) := by
  refine ⟨?_⟩
  rw [rt_90]
  exact ⟨hT, hT, by simp, trivial⟩
theorem rt_81_ok (t : Tly) (l : List Try) (n : Int) (y0 : Try) (ho : okOps (tql 1 ((y0, ()) : Tq 1))) : Paid (cutVC F (lookC u3c) 400 Tryd.f3 b3 (rtF t l n) 8 (rtC8 t n 1) ((y0, ()) : Tq 1)) := by
  refine ⟨?_⟩
  rw [rt_81]
  have hI : ∀ x ∈ tpl 1 ((mkA (⟨[], ⟨0, 0, 0⟩⟩ : Ru).done.length y0 (opsS (⟨[], ⟨0, 0, 0⟩⟩ : Ru).w y0.ops), ()) : Tp 1), ok1 x := by
    intro x hx
    have hx : x ∈ [mkA (⟨[], ⟨0, 0, 0⟩⟩ : Ru).done.length y0 (opsS (⟨[], ⟨0, 0, 0⟩⟩ : Ru).w y0.ops)] := hx
    simp only [List.mem_cons, List.not_mem_nil, or_false] at hx
    rcases hx with rfl
    · exact ok1_mk (Nat.le_of_ble_eq_true rfl) (ho.2 y0 (by simp [tql]))
  exact ⟨(), rfl, ⟨ho, rfl⟩, ⟨false, nofun, fun _ => ⟨true, fun _ => ⟨(mkA (⟨[], ⟨0, 0, 0⟩⟩ : Ru).done.length y0 (opsS (⟨[], ⟨0, 0, 0⟩⟩ : Ru).w y0.ops), ()), rfl, rfl, rfl, rfl, rfl, rfl, rfl, rfl, rfl, rfl, rfl, rfl, rfl, rfl, rfl, rfl, rfl, rfl, rfl, rfl, rfl, rfl, rfl, hI, (show 1 < 5 by omega), trivial⟩, nofun⟩⟩⟩
theorem rt_91_ok (t : Tly) (l : List Try) (n : Int) (hT : okT t) (hn : inI n) (x0 : Att) (hI : ∀ x ∈ tpl 1 ((x0, ()) : Tp 1), ok1 x) : Paid (cutVC F (lookC u3c) 400 Tryd.f3 b3 (rtF t l n) 9 (rtC9 t n 1) ((x0, ()) : Tp 1)) := by
  refine ⟨?_⟩
  rw [rt_91]
  have ha0 : okA ⟨x0.thread, x0.tri, x0.real, x0.frm, x0.unt, x0.fin, n, x0.step, x0.reads, x0.writes, x0.seen, []⟩ := by
    obtain ⟨h1, h2, h3, h4⟩ := hI x0 (by simp [tpl])
    exact ⟨h1, h2, hn, h3, h4⟩
  exact ⟨ha0, ha0, fun h => by simp at h, fun _ => ⟨hT, hT, by simp, trivial⟩⟩
theorem rt_82_ok (t : Tly) (l : List Try) (n : Int) (y0 : Try) (y1 : Try) (ho : okOps (tql 2 ((y0, y1, ()) : Tq 2))) : Paid (cutVC F (lookC u3c) 400 Tryd.f3 b3 (rtF t l n) 8 (rtC8 t n 2) ((y0, y1, ()) : Tq 2)) := by
  refine ⟨?_⟩
  rw [rt_82]
  have hI : ∀ x ∈ tpl 2 ((mkA (⟨[], ⟨0, 0, 0⟩⟩ : Ru).done.length y0 (opsS (⟨[], ⟨0, 0, 0⟩⟩ : Ru).w y0.ops), mkA (stepT (⟨[], ⟨0, 0, 0⟩⟩ : Ru) y0).done.length y1 (opsS (stepT (⟨[], ⟨0, 0, 0⟩⟩ : Ru) y0).w y1.ops), ()) : Tp 2), ok1 x := by
    intro x hx
    have hx : x ∈ [mkA (⟨[], ⟨0, 0, 0⟩⟩ : Ru).done.length y0 (opsS (⟨[], ⟨0, 0, 0⟩⟩ : Ru).w y0.ops), mkA (stepT (⟨[], ⟨0, 0, 0⟩⟩ : Ru) y0).done.length y1 (opsS (stepT (⟨[], ⟨0, 0, 0⟩⟩ : Ru) y0).w y1.ops)] := hx
    simp only [List.mem_cons, List.not_mem_nil, or_false] at hx
    rcases hx with rfl | rfl
    · exact ok1_mk (Nat.le_of_ble_eq_true rfl) (ho.2 y0 (by simp [tql]))
    · exact ok1_mk (Nat.le_of_ble_eq_true rfl) (ho.2 y1 (by simp [tql]))
  exact ⟨(), rfl, ⟨ho, rfl⟩, ⟨false, nofun, fun _ => ⟨false, nofun, fun _ => ⟨true, fun _ => ⟨(mkA (⟨[], ⟨0, 0, 0⟩⟩ : Ru).done.length y0 (opsS (⟨[], ⟨0, 0, 0⟩⟩ : Ru).w y0.ops), mkA (stepT (⟨[], ⟨0, 0, 0⟩⟩ : Ru) y0).done.length y1 (opsS (stepT (⟨[], ⟨0, 0, 0⟩⟩ : Ru) y0).w y1.ops), ()), rfl, rfl, rfl, rfl, rfl, rfl, rfl, rfl, rfl, rfl, rfl, rfl, rfl, rfl, rfl, rfl, rfl, rfl, rfl, rfl, rfl, rfl, rfl, rfl, rfl, rfl, rfl, rfl, rfl, rfl, rfl, rfl, rfl, rfl, rfl, hI, (show 1 < 5 by omega), trivial⟩, nofun⟩⟩⟩⟩
theorem rt_92_ok (t : Tly) (l : List Try) (n : Int) (hT : okT t) (hn : inI n) (x0 : Att) (x1 : Att) (hI : ∀ x ∈ tpl 2 ((x0, x1, ()) : Tp 2), ok1 x) : Paid (cutVC F (lookC u3c) 400 Tryd.f3 b3 (rtF t l n) 9 (rtC9 t n 2) ((x0, x1, ()) : Tp 2)) := by
  refine ⟨?_⟩
  rw [rt_92]
  have ha0 : okA ⟨x0.thread, x0.tri, x0.real, x0.frm, x0.unt, x0.fin, n, x0.step, x0.reads, x0.writes, x0.seen, []⟩ := by
    obtain ⟨h1, h2, h3, h4⟩ := hI x0 (by simp [tpl])
    exact ⟨h1, h2, hn, h3, h4⟩
  have ha1 : okA ⟨x1.thread, x1.tri, x1.real, x1.frm, x1.unt, x1.fin, n, x1.step, x1.reads, x1.writes, x1.seen, []⟩ := by
    obtain ⟨h1, h2, h3, h4⟩ := hI x1 (by simp [tpl])
    exact ⟨h1, h2, hn, h3, h4⟩
  exact ⟨ha0, ha0, fun h => by simp at h, fun _ => ⟨ha1, ha1, fun h => by simp at h, fun _ => ⟨hT, hT, by simp, trivial⟩⟩⟩
theorem rt_83_ok (t : Tly) (l : List Try) (n : Int) (y0 : Try) (y1 : Try) (y2 : Try) (ho : okOps (tql 3 ((y0, y1, y2, ()) : Tq 3))) : Paid (cutVC F (lookC u3c) 400 Tryd.f3 b3 (rtF t l n) 8 (rtC8 t n 3) ((y0, y1, y2, ()) : Tq 3)) := by
  refine ⟨?_⟩
  rw [rt_83]
  have hI : ∀ x ∈ tpl 3 ((mkA (⟨[], ⟨0, 0, 0⟩⟩ : Ru).done.length y0 (opsS (⟨[], ⟨0, 0, 0⟩⟩ : Ru).w y0.ops), mkA (stepT (⟨[], ⟨0, 0, 0⟩⟩ : Ru) y0).done.length y1 (opsS (stepT (⟨[], ⟨0, 0, 0⟩⟩ : Ru) y0).w y1.ops), mkA (stepT (stepT (⟨[], ⟨0, 0, 0⟩⟩ : Ru) y0) y1).done.length y2 (opsS (stepT (stepT (⟨[], ⟨0, 0, 0⟩⟩ : Ru) y0) y1).w y2.ops), ()) : Tp 3), ok1 x := by
    intro x hx
    have hx : x ∈ [mkA (⟨[], ⟨0, 0, 0⟩⟩ : Ru).done.length y0 (opsS (⟨[], ⟨0, 0, 0⟩⟩ : Ru).w y0.ops), mkA (stepT (⟨[], ⟨0, 0, 0⟩⟩ : Ru) y0).done.length y1 (opsS (stepT (⟨[], ⟨0, 0, 0⟩⟩ : Ru) y0).w y1.ops), mkA (stepT (stepT (⟨[], ⟨0, 0, 0⟩⟩ : Ru) y0) y1).done.length y2 (opsS (stepT (stepT (⟨[], ⟨0, 0, 0⟩⟩ : Ru) y0) y1).w y2.ops)] := hx
    simp only [List.mem_cons, List.not_mem_nil, or_false] at hx
    rcases hx with rfl | rfl | rfl
    · exact ok1_mk (Nat.le_of_ble_eq_true rfl) (ho.2 y0 (by simp [tql]))
    · exact ok1_mk (Nat.le_of_ble_eq_true rfl) (ho.2 y1 (by simp [tql]))
    · exact ok1_mk (Nat.le_of_ble_eq_true rfl) (ho.2 y2 (by simp [tql]))
  exact ⟨(), rfl, ⟨ho, rfl⟩, ⟨false, nofun, fun _ => ⟨false, nofun, fun _ => ⟨false, nofun, fun _ => ⟨(mkA (⟨[], ⟨0, 0, 0⟩⟩ : Ru).done.length y0 (opsS (⟨[], ⟨0, 0, 0⟩⟩ : Ru).w y0.ops), mkA (stepT (⟨[], ⟨0, 0, 0⟩⟩ : Ru) y0).done.length y1 (opsS (stepT (⟨[], ⟨0, 0, 0⟩⟩ : Ru) y0).w y1.ops), mkA (stepT (stepT (⟨[], ⟨0, 0, 0⟩⟩ : Ru) y0) y1).done.length y2 (opsS (stepT (stepT (⟨[], ⟨0, 0, 0⟩⟩ : Ru) y0) y1).w y2.ops), ()), rfl, rfl, rfl, rfl, rfl, rfl, rfl, rfl, rfl, rfl, rfl, rfl, rfl, rfl, rfl, rfl, rfl, rfl, rfl, rfl, rfl, rfl, rfl, rfl, rfl, rfl, rfl, rfl, rfl, rfl, rfl, rfl, rfl, rfl, rfl, rfl, rfl, rfl, rfl, rfl, rfl, rfl, rfl, rfl, rfl, rfl, rfl, hI, (show 1 < 5 by omega), trivial⟩⟩⟩⟩⟩
theorem rt_93_ok (t : Tly) (l : List Try) (n : Int) (hT : okT t) (hn : inI n) (x0 : Att) (x1 : Att) (x2 : Att) (hI : ∀ x ∈ tpl 3 ((x0, x1, x2, ()) : Tp 3), ok1 x) : Paid (cutVC F (lookC u3c) 400 Tryd.f3 b3 (rtF t l n) 9 (rtC9 t n 3) ((x0, x1, x2, ()) : Tp 3)) := by
  refine ⟨?_⟩
  rw [rt_93]
  have ha0 : okA ⟨x0.thread, x0.tri, x0.real, x0.frm, x0.unt, x0.fin, n, x0.step, x0.reads, x0.writes, x0.seen, []⟩ := by
    obtain ⟨h1, h2, h3, h4⟩ := hI x0 (by simp [tpl])
    exact ⟨h1, h2, hn, h3, h4⟩
  have ha1 : okA ⟨x1.thread, x1.tri, x1.real, x1.frm, x1.unt, x1.fin, n, x1.step, x1.reads, x1.writes, x1.seen, []⟩ := by
    obtain ⟨h1, h2, h3, h4⟩ := hI x1 (by simp [tpl])
    exact ⟨h1, h2, hn, h3, h4⟩
  have ha2 : okA ⟨x2.thread, x2.tri, x2.real, x2.frm, x2.unt, n.tmod 9, n, x2.step, x2.reads, x2.writes, x2.seen, []⟩ := by
    obtain ⟨h1, h2, h3, h4⟩ := hI x2 (by simp [tpl])
    exact ⟨h1, h2, hn, h3, h4⟩
  exact ⟨ha0, ha0, fun h => by simp at h, fun _ => ⟨ha1, ha1, fun h => by simp at h, fun _ => ⟨ha2, ha2, fun h => by simp at h, fun _ => ⟨hT, hT, by simp, trivial⟩⟩⟩⟩
theorem rt_cuts (t : Tly) (l : List Try) (n : Int) (hT : okT t) (hn : inI n) : ∀ p, p ∈ rtCs t l n → ∀ s, p.2.I s → Paid (cutVC F (lookC u3c) 400 Tryd.f3 b3 (rtF t l n) p.1 p.2 s) := by
  intro p hm s hI
  simp only [rtCs, List.mem_cons, List.not_mem_nil, or_false] at hm
  rcases hm with rfl | rfl | rfl | rfl | rfl | rfl | rfl | rfl | rfl
  · exact rt_4_ok t l n s hI.1 hI.2.1 hI.2.2
  · obtain ⟨⟩ := s
    exact rt_80_ok t l n hI
  · obtain ⟨y0, ⟨⟩⟩ := s
    exact rt_81_ok t l n y0 hI
  · obtain ⟨y0, y1, ⟨⟩⟩ := s
    exact rt_82_ok t l n y0 y1 hI
  · obtain ⟨y0, y1, y2, ⟨⟩⟩ := s
    exact rt_83_ok t l n y0 y1 y2 hI
  · obtain ⟨⟩ := s
    exact rt_90_ok t l n hT hn hI
  · obtain ⟨x0, ⟨⟩⟩ := s
    exact rt_91_ok t l n hT hn x0 hI
  · obtain ⟨x0, x1, ⟨⟩⟩ := s
    exact rt_92_ok t l n hT hn x0 x1 hI
  · obtain ⟨x0, x1, x2, ⟨⟩⟩ := s
    exact rt_93_ok t l n hT hn x0 x1 x2 hI
theorem rt_run (t : Tly) (l : List Try) (n : Int) (hT : okT t) (hn : inI n) {av : List AVal} (hA : Ers (C := cod) (away []) [.agg (enc6 t), .tl (T := T) 3 l, .i .i64 n] av) : ∃ m H', runA S m 0 3 av [] = some (.bool true, H') :=
  law_paid (F := F) (fn := Tryd.f3) (body := b3) (args := [.agg (enc6 t), .tl (T := T) 3 l, .i .i64 n]) codOk noExt hookLow u3cOk Tryd.func3 rfl rfl rfl 400 (rtCs t l n) (show 3 ≤ 69 by decide) (show 69 ≤ 512 by decide) (by kernel_rfl) (rt_e_ok t l n) (rt_cuts t l n hT hn) hA
end Go.Proofs.YtomlcdalhihnaaaDoor

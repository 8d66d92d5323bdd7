/- syncopelaw26.Attempts: what attempts are made of tries; the contract is paid. -/
import Derived.Test.YtomlcdalhihnaaaDoorRw
namespace Go.Proofs.YtomlcdalhihnaaaDoor
open Go.RowKit Go.Am Go.Sy
set_option linter.unusedVariables false
set_option linter.unusedSimpArgs false

theorem as_e (l : List Try) (d : List Att) : Go.Sy.Tree.holds (entryX F (lookC []) 200 Tryd.f10 b10 (asF l d) [.tl (T := T) 3 l, .agg (enc7 ⟨0, 0, 0⟩), .a (.bool true)]) = ( ∃ (b : Bool), (b = true → ∃ (s : Tp (0 : Nat) ×
 W3), constA (Value.slice none (0 : Nat) (0 : Nat)) = AVal.nils ∧ l = l ∧ AVal.bool true = AVal.bool true ∧ (0 : Int) = s.snd.a ∧ (0 : Int) = s.snd.b ∧ (0 : Int) = s.snd.c ∧ constA (Value.int IntKind.i64 (0 : Int)) =
 AVal.int IntKind.i64 (0 : Int) ∧ ((0 : Nat) ≤ l.length ∧ l.length ≤ 3 ∧ Ru.mk (tpl (0 : Nat) s.fst) s.snd = runT (List.take (0 : Nat) l)) ∧ True) ∧ (b = false → ∃ (b : Bool), (b = true → ∃ (s : Tp (1 : Nat) × W3), Stuck
 "le: sl") ∧ (b = false → ∃ (b : Bool), (b = true → ∃ (s : Tp (2 : Nat) × W3), Stuck "le: sl") ∧ (b = false → ∃ (s : Tp (3 : Nat) × W3), Stuck "le: sl")))) := by kernel_rfl
theorem as_40 (l : List Try) (d : List Att) (w : W3) : Go.Sy.Tree.holds (cutVC F (lookC []) 200 Tryd.f10 b10 (asF l d) 4 (asC4 l 0) (((), w) : Tp 0 × W3)) = ( (decide ((0 : Int) < (↑l.length : Int)) = true → ((0 : Int) ≤
 0 ∧ (0 : Int) < (↑l.length : Int)) ∧ ((0 : Int) ≤ (IntKind.u64.wrap (at3 l (0 : Int)).fin).tmod 4 ∧ (IntKind.u64.wrap (at3 l (0 : Int)).fin).tmod 4 < 4) ∧ (((IntKind.u64.wrap (at3 l (0 : Int)).fin).tmod 4 == 3) = true →
 ∃ (b : Bool), (b = true → ∃ (s : Tp (0 : Nat) × InS), AVal.nils = AVal.nils ∧ l = l ∧ AVal.bool true = AVal.bool true ∧ w.a = s.snd.w.a ∧ w.b = s.snd.w.b ∧ w.c = s.snd.w.c ∧ AVal.int IntKind.i64 (0 : Int) = AVal.int
 IntKind.i64 (0 : Int) ∧ (at3 l (0 : Int)).thread = s.snd.t.thread ∧ (at3 l (0 : Int)).frm = s.snd.t.frm ∧ (at3 l (0 : Int)).long = s.snd.t.long ∧ (at3 l (0 : Int)).fin = s.snd.t.fin ∧ (at3 l (0 : Int)).real =
 s.snd.t.real ∧ (at3 l (0 : Int)).ops = s.snd.t.ops ∧ IntKind.i64.wrap ((IntKind.u64.wrap (at3 l (0 : Int)).thread).tmod 3) = (mkA (0 : Nat) s.snd.t s.snd.s).thread ∧ (1 : Int) = (mkA (0 : Nat) s.snd.t s.snd.s).tri ∧ (at3
 l (0 : Int)).real = (mkA (0 : Nat) s.snd.t s.snd.s).real ∧ IntKind.i64.wrap ((IntKind.u64.wrap (at3 l (0 : Int)).frm).tmod 8) = (mkA (0 : Nat) s.snd.t s.snd.s).frm ∧ IntKind.i64.wrap (IntKind.i64.wrap ((IntKind.u64.wrap
 (at3 l (0 : Int)).frm).tmod 8) + IntKind.i64.wrap ((IntKind.u64.wrap (at3 l (0 : Int)).long).tmod 4)) = (mkA (0 : Nat) s.snd.t s.snd.s).unt ∧ (0 : Int) = (mkA (0 : Nat) s.snd.t s.snd.s).fin ∧ (0 : Int) = (mkA (0 : Nat)
 s.snd.t s.snd.s).stamp ∧ (0 : Int) = (mkA (0 : Nat) s.snd.t s.snd.s).step ∧ [] = (mkA (0 : Nat) s.snd.t s.snd.s).reads ∧ [] = (mkA (0 : Nat) s.snd.t s.snd.s).writes ∧ [] = (mkA (0 : Nat) s.snd.t s.snd.s).seen ∧ AVal.nils
 = AVal.nils ∧ w.a = s.snd.s.own.a ∧ w.b = s.snd.s.own.b ∧ w.c = s.snd.s.own.c ∧ (0 : Int) = (↑s.snd.j : Int) ∧ ((0 : Nat) < l.length ∧ l.length ≤ 3 ∧ Ru.mk (tpl (0 : Nat) s.fst) s.snd.w = runT (List.take (0 : Nat) l) ∧
 s.snd.t = at3 l (0 : Int) ∧ s.snd.t.ops.length ≤ 6 ∧ s.snd.j ≤ s.snd.t.ops.length ∧ s.snd.s = opsS s.snd.w (List.take s.snd.j s.snd.t.ops)) ∧ (10 : Nat) * (l.length - 0) - s.snd.j < 1 + 10 * (l.length - 0) ∧ True) ∧ (b =
 false → ∃ (b : Bool), (b = true → ∃ (s : Tp (1 : Nat) × InS), Stuck "le: sl") ∧ (b = false → ∃ (s : Tp (2 : Nat) × InS), Stuck "le: sl"))) ∧ (((IntKind.u64.wrap (at3 l (0 : Int)).fin).tmod 4 == 3) = false →
 (((IntKind.u64.wrap (at3 l (0 : Int)).fin).tmod 4 == 2) = true → ∃ (b : Bool), (b = true → ∃ (s : Tp (0 : Nat) × InS), AVal.nils = AVal.nils ∧ l = l ∧ AVal.bool true = AVal.bool true ∧ w.a = s.snd.w.a ∧ w.b = s.snd.w.b ∧
 w.c = s.snd.w.c ∧ AVal.int IntKind.i64 (0 : Int) = AVal.int IntKind.i64 (0 : Int) ∧ (at3 l (0 : Int)).thread = s.snd.t.thread ∧ (at3 l (0 : Int)).frm = s.snd.t.frm ∧ (at3 l (0 : Int)).long = s.snd.t.long ∧ (at3 l (0 :
 Int)).fin = s.snd.t.fin ∧ (at3 l (0 : Int)).real = s.snd.t.real ∧ (at3 l (0 : Int)).ops = s.snd.t.ops ∧ IntKind.i64.wrap ((IntKind.u64.wrap (at3 l (0 : Int)).thread).tmod 3) = (mkA (0 : Nat) s.snd.t s.snd.s).thread ∧ (1
 : Int) = (mkA (0 : Nat) s.snd.t s.snd.s).tri ∧ (at3 l (0 : Int)).real = (mkA (0 : Nat) s.snd.t s.snd.s).real ∧ IntKind.i64.wrap ((IntKind.u64.wrap (at3 l (0 : Int)).frm).tmod 8) = (mkA (0 : Nat) s.snd.t s.snd.s).frm ∧
 IntKind.i64.wrap (IntKind.i64.wrap ((IntKind.u64.wrap (at3 l (0 : Int)).frm).tmod 8) + IntKind.i64.wrap ((IntKind.u64.wrap (at3 l (0 : Int)).long).tmod 4)) = (mkA (0 : Nat) s.snd.t s.snd.s).unt ∧ (7 : Int) = (mkA (0 :
 Nat) s.snd.t s.snd.s).fin ∧ (0 : Int) = (mkA (0 : Nat) s.snd.t s.snd.s).stamp ∧ (0 : Int) = (mkA (0 : Nat) s.snd.t s.snd.s).step ∧ [] = (mkA (0 : Nat) s.snd.t s.snd.s).reads ∧ [] = (mkA (0 : Nat) s.snd.t s.snd.s).writes
 ∧ [] = (mkA (0 : Nat) s.snd.t s.snd.s).seen ∧ AVal.nils = AVal.nils ∧ w.a = s.snd.s.own.a ∧ w.b = s.snd.s.own.b ∧ w.c = s.snd.s.own.c ∧ (0 : Int) = (↑s.snd.j : Int) ∧ ((0 : Nat) < l.length ∧ l.length ≤ 3 ∧ Ru.mk (tpl (0
 : Nat) s.fst) s.snd.w = runT (List.take (0 : Nat) l) ∧ s.snd.t = at3 l (0 : Int) ∧ s.snd.t.ops.length ≤ 6 ∧ s.snd.j ≤ s.snd.t.ops.length ∧ s.snd.s = opsS s.snd.w (List.take s.snd.j s.snd.t.ops)) ∧ (10 : Nat) * (l.length
 - 0) - s.snd.j < 1 + 10 * (l.length - 0) ∧ True) ∧ (b = false → ∃ (b : Bool), (b = true → ∃ (s : Tp (1 : Nat) × InS), Stuck "le: sl") ∧ (b = false → ∃ (s : Tp (2 : Nat) × InS), Stuck "le: sl"))) ∧ (((IntKind.u64.wrap
 (at3 l (0 : Int)).fin).tmod 4 == 2) = false → (((IntKind.u64.wrap (at3 l (0 : Int)).fin).tmod 4 == 1) = true → ∃ (b : Bool), (b = true → ∃ (s : Tp (0 : Nat) × InS), AVal.nils = AVal.nils ∧ l = l ∧ AVal.bool true =
 AVal.bool true ∧ w.a = s.snd.w.a ∧ w.b = s.snd.w.b ∧ w.c = s.snd.w.c ∧ AVal.int IntKind.i64 (0 : Int) = AVal.int IntKind.i64 (0 : Int) ∧ (at3 l (0 : Int)).thread = s.snd.t.thread ∧ (at3 l (0 : Int)).frm = s.snd.t.frm ∧
 (at3 l (0 : Int)).long = s.snd.t.long ∧ (at3 l (0 : Int)).fin = s.snd.t.fin ∧ (at3 l (0 : Int)).real = s.snd.t.real ∧ (at3 l (0 : Int)).ops = s.snd.t.ops ∧ IntKind.i64.wrap ((IntKind.u64.wrap (at3 l (0 :
 Int)).thread).tmod 3) = (mkA (0 : Nat) s.snd.t s.snd.s).thread ∧ (1 : Int) = (mkA (0 : Nat) s.snd.t s.snd.s).tri ∧ (at3 l (0 : Int)).real = (mkA (0 : Nat) s.snd.t s.snd.s).real ∧ IntKind.i64.wrap ((IntKind.u64.wrap (at3
 l (0 : Int)).frm).tmod 8) = (mkA (0 : Nat) s.snd.t s.snd.s).frm ∧ IntKind.i64.wrap (IntKind.i64.wrap ((IntKind.u64.wrap (at3 l (0 : Int)).frm).tmod 8) + IntKind.i64.wrap ((IntKind.u64.wrap (at3 l (0 : Int)).long).tmod
 4)) = (mkA (0 : Nat) s.snd.t s.snd.s).unt ∧ (6 : Int) = (mkA (0 : Nat) s.snd.t s.snd.s).fin ∧ (0 : Int) = (mkA (0 : Nat) s.snd.t s.snd.s).stamp ∧ (0 : Int) = (mkA (0 : Nat) s.snd.t s.snd.s).step ∧ [] = (mkA (0 : Nat)
 s.snd.t s.snd.s).reads ∧ [] = (mkA (0 : Nat) s.snd.t s.snd.s).writes ∧ [] = (mkA (0 : Nat) s.snd.t s.snd.s).seen ∧ AVal.nils = AVal.nils ∧ w.a = s.snd.s.own.a ∧ w.b = s.snd.s.own.b ∧ w.c = s.snd.s.own.c ∧ (0 : Int) =
 (↑s.snd.j : Int) ∧ ((0 : Nat) < l.length ∧ l.length ≤ 3 ∧ Ru.mk (tpl (0 : Nat) s.fst) s.snd.w = runT (List.take (0 : Nat) l) ∧ s.snd.t = at3 l (0 : Int) ∧ s.snd.t.ops.length ≤ 6 ∧ s.snd.j ≤ s.snd.t.ops.length ∧ s.snd.s =
 opsS s.snd.w (List.take s.snd.j s.snd.t.ops)) ∧ (10 : Nat) * (l.length - 0) - s.snd.j < 1 + 10 * (l.length - 0) ∧ True) ∧ (b = false → ∃ (b : Bool), (b = true → ∃ (s : Tp (1 : Nat) × InS), Stuck "le: sl") ∧ (b = false →
 ∃ (s : Tp (2 : Nat) × InS), Stuck "le: sl"))) ∧ (((IntKind.u64.wrap (at3 l (0 : Int)).fin).tmod 4 == 1) = false → ∃ (b : Bool), (b = true → ∃ (s : Tp (0 : Nat) × InS), AVal.nils = AVal.nils ∧ l = l ∧ AVal.bool true =
 AVal.bool true ∧ w.a = s.snd.w.a ∧ w.b = s.snd.w.b ∧ w.c = s.snd.w.c ∧ AVal.int IntKind.i64 (0 : Int) = AVal.int IntKind.i64 (0 : Int) ∧ (at3 l (0 : Int)).thread = s.snd.t.thread ∧ (at3 l (0 : Int)).frm = s.snd.t.frm ∧
 (at3 l (0 : Int)).long = s.snd.t.long ∧ (at3 l (0 : Int)).fin = s.snd.t.fin ∧ (at3 l (0 : Int)).real = s.snd.t.real ∧ (at3 l (0 : Int)).ops = s.snd.t.ops ∧ IntKind.i64.wrap ((IntKind.u64.wrap (at3 l (0 :
 Int)).thread).tmod 3) = (mkA (0 : Nat) s.snd.t s.snd.s).thread ∧ (1 : Int) = (mkA (0 : Nat) s.snd.t s.snd.s).tri ∧ (at3 l (0 : Int)).real = (mkA (0 : Nat) s.snd.t s.snd.s).real ∧ IntKind.i64.wrap ((IntKind.u64.wrap (at3
 l (0 : Int)).frm).tmod 8) = (mkA (0 : Nat) s.snd.t s.snd.s).frm ∧ IntKind.i64.wrap (IntKind.i64.wrap ((IntKind.u64.wrap (at3 l (0 : Int)).frm).tmod 8) + IntKind.i64.wrap ((IntKind.u64.wrap (at3 l (0 : Int)).long).tmod
 4)) = (mkA (0 : Nat) s.snd.t s.snd.s).unt ∧ (6 : Int) = (mkA (0 : Nat) s.snd.t s.snd.s).fin ∧ (0 : Int) = (mkA (0 : Nat) s.snd.t s.snd.s).stamp ∧ (0 : Int) = (mkA (0 : Nat) s.snd.t s.snd.s).step ∧ [] = (mkA (0 : Nat)
 s.snd.t s.snd.s).reads ∧ [] = (mkA (0 : Nat) s.snd.t s.snd.s).writes ∧ [] = (mkA (0 : Nat) s.snd.t s.snd.s).seen ∧ AVal.nils = AVal.nils ∧ w.a = s.snd.s.own.a ∧ w.b = s.snd.s.own.b ∧ w.c = s.snd.s.own.c ∧ (0 : Int) =
 (↑s.snd.j : Int) ∧ ((0 : Nat) < l.length ∧ l.length ≤ 3 ∧ Ru.mk (tpl (0 : Nat) s.fst) s.snd.w = runT (List.take (0 : Nat) l) ∧ s.snd.t = at3 l (0 : Int) ∧ s.snd.t.ops.length ≤ 6 ∧ s.snd.j ≤ s.snd.t.ops.length ∧ s.snd.s =
 opsS s.snd.w (List.take s.snd.j s.snd.t.ops)) ∧ (10 : Nat) * (l.length - 0) - s.snd.j < 1 + 10 * (l.length - 0) ∧ True) ∧ (b = false → ∃ (b : Bool), (b = true → ∃ (s : Tp (1 : Nat) × InS), Stuck "le: sl") ∧ (b = false →
 ∃ (s : Tp (2 : Nat) × InS), Stuck "le: sl")))))) ∧ (decide ((0 : Int) < (↑l.length : Int)) = false → ∃ (b : Bool), (b = true → ∃ (s : Tp (0 : Nat)), AVal.nils = AVal.nils ∧ tpl (0 : Nat) s = d ∧ (0 : Nat) < 1 + 10 *
 (l.length - 0) ∧ True) ∧ (b = false → ∃ (b : Bool), (b = true → ∃ (s : Tp (1 : Nat)), Stuck "le: sl") ∧ (b = false → ∃ (b : Bool), (b = true → ∃ (s : Tp (2 : Nat)), Stuck "le: sl") ∧ (b = false → ∃ (s : Tp (3 : Nat)),
 Stuck "le: sl"))))) := by kernel_rfl
theorem as_41 (l : List Try) (d : List Att) (w : W3) (x0 : Att) : Go.Sy.Tree.holds (cutVC F (lookC []) 200 Tryd.f10 b10 (asF l d) 4 (asC4 l 1) (((x0, ()), w) : Tp 1 × W3)) = ( (decide ((1 : Int) < (↑l.length : Int)) =
 true → ((0 : Int) ≤ 1 ∧ (1 : Int) < (↑l.length : Int)) ∧ ((0 : Int) ≤ (IntKind.u64.wrap (at3 l (1 : Int)).fin).tmod 4 ∧ (IntKind.u64.wrap (at3 l (1 : Int)).fin).tmod 4 < 4) ∧ (((IntKind.u64.wrap (at3 l (1 :
 Int)).fin).tmod 4 == 3) = true → ∃ (b : Bool), (b = true → ∃ (s : Tp (0 : Nat) × InS), Stuck "le: a") ∧ (b = false → ∃ (b : Bool), (b = true → ∃ (s : Tp (1 : Nat) × InS), x0.thread = s.fst.fst.thread ∧ x0.tri =
 s.fst.fst.tri ∧ x0.real = s.fst.fst.real ∧ x0.frm = s.fst.fst.frm ∧ x0.unt = s.fst.fst.unt ∧ x0.fin = s.fst.fst.fin ∧ x0.stamp = s.fst.fst.stamp ∧ x0.step = s.fst.fst.step ∧ x0.reads = s.fst.fst.reads ∧ x0.writes =
 s.fst.fst.writes ∧ x0.seen = s.fst.fst.seen ∧ AVal.nils = AVal.nils ∧ l = l ∧ AVal.bool true = AVal.bool true ∧ w.a = s.snd.w.a ∧ w.b = s.snd.w.b ∧ w.c = s.snd.w.c ∧ AVal.int IntKind.i64 (1 : Int) = AVal.int IntKind.i64
 (1 : Int) ∧ (at3 l (1 : Int)).thread = s.snd.t.thread ∧ (at3 l (1 : Int)).frm = s.snd.t.frm ∧ (at3 l (1 : Int)).long = s.snd.t.long ∧ (at3 l (1 : Int)).fin = s.snd.t.fin ∧ (at3 l (1 : Int)).real = s.snd.t.real ∧ (at3 l
 (1 : Int)).ops = s.snd.t.ops ∧ IntKind.i64.wrap ((IntKind.u64.wrap (at3 l (1 : Int)).thread).tmod 3) = (mkA (1 : Nat) s.snd.t s.snd.s).thread ∧ (2 : Int) = (mkA (1 : Nat) s.snd.t s.snd.s).tri ∧ (at3 l (1 : Int)).real =
 (mkA (1 : Nat) s.snd.t s.snd.s).real ∧ IntKind.i64.wrap ((IntKind.u64.wrap (at3 l (1 : Int)).frm).tmod 8) = (mkA (1 : Nat) s.snd.t s.snd.s).frm ∧ IntKind.i64.wrap (IntKind.i64.wrap ((IntKind.u64.wrap (at3 l (1 :
 Int)).frm).tmod 8) + IntKind.i64.wrap ((IntKind.u64.wrap (at3 l (1 : Int)).long).tmod 4)) = (mkA (1 : Nat) s.snd.t s.snd.s).unt ∧ (0 : Int) = (mkA (1 : Nat) s.snd.t s.snd.s).fin ∧ (0 : Int) = (mkA (1 : Nat) s.snd.t
 s.snd.s).stamp ∧ (0 : Int) = (mkA (1 : Nat) s.snd.t s.snd.s).step ∧ [] = (mkA (1 : Nat) s.snd.t s.snd.s).reads ∧ [] = (mkA (1 : Nat) s.snd.t s.snd.s).writes ∧ [] = (mkA (1 : Nat) s.snd.t s.snd.s).seen ∧ AVal.nils =
 AVal.nils ∧ w.a = s.snd.s.own.a ∧ w.b = s.snd.s.own.b ∧ w.c = s.snd.s.own.c ∧ (0 : Int) = (↑s.snd.j : Int) ∧ ((1 : Nat) < l.length ∧ l.length ≤ 3 ∧ Ru.mk (tpl (1 : Nat) s.fst) s.snd.w = runT (List.take (1 : Nat) l) ∧
 s.snd.t = at3 l (1 : Int) ∧ s.snd.t.ops.length ≤ 6 ∧ s.snd.j ≤ s.snd.t.ops.length ∧ s.snd.s = opsS s.snd.w (List.take s.snd.j s.snd.t.ops)) ∧ (10 : Nat) * (l.length - 1) - s.snd.j < 1 + 10 * (l.length - 1) ∧ True) ∧ (b =
 false → ∃ (s : Tp (2 : Nat) × InS), Stuck "le: sl"))) ∧ (((IntKind.u64.wrap (at3 l (1 : Int)).fin).tmod 4 == 3) = false → (((IntKind.u64.wrap (at3 l (1 : Int)).fin).tmod 4 == 2) = true → ∃ (b : Bool), (b = true → ∃ (s :
 Tp (0 : Nat) × InS), Stuck "le: a") ∧ (b = false → ∃ (b : Bool), (b = true → ∃ (s : Tp (1 : Nat) × InS), x0.thread = s.fst.fst.thread ∧ x0.tri = s.fst.fst.tri ∧ x0.real = s.fst.fst.real ∧ x0.frm = s.fst.fst.frm ∧ x0.unt
 = s.fst.fst.unt ∧ x0.fin = s.fst.fst.fin ∧ x0.stamp = s.fst.fst.stamp ∧ x0.step = s.fst.fst.step ∧ x0.reads = s.fst.fst.reads ∧ x0.writes = s.fst.fst.writes ∧ x0.seen = s.fst.fst.seen ∧ AVal.nils = AVal.nils ∧ l = l ∧
 AVal.bool true = AVal.bool true ∧ w.a = s.snd.w.a ∧ w.b = s.snd.w.b ∧ w.c = s.snd.w.c ∧ AVal.int IntKind.i64 (1 : Int) = AVal.int IntKind.i64 (1 : Int) ∧ (at3 l (1 : Int)).thread = s.snd.t.thread ∧ (at3 l (1 : Int)).frm
 = s.snd.t.frm ∧ (at3 l (1 : Int)).long = s.snd.t.long ∧ (at3 l (1 : Int)).fin = s.snd.t.fin ∧ (at3 l (1 : Int)).real = s.snd.t.real ∧ (at3 l (1 : Int)).ops = s.snd.t.ops ∧ IntKind.i64.wrap ((IntKind.u64.wrap (at3 l (1 :
 Int)).thread).tmod 3) = (mkA (1 : Nat) s.snd.t s.snd.s).thread ∧ (2 : Int) = (mkA (1 : Nat) s.snd.t s.snd.s).tri ∧ (at3 l (1 : Int)).real = (mkA (1 : Nat) s.snd.t s.snd.s).real ∧ IntKind.i64.wrap ((IntKind.u64.wrap (at3
 l (1 : Int)).frm).tmod 8) = (mkA (1 : Nat) s.snd.t s.snd.s).frm ∧ IntKind.i64.wrap (IntKind.i64.wrap ((IntKind.u64.wrap (at3 l (1 : Int)).frm).tmod 8) + IntKind.i64.wrap ((IntKind.u64.wrap (at3 l (1 : Int)).long).tmod
 4)) = (mkA (1 : Nat) s.snd.t s.snd.s).unt ∧ (7 : Int) = (mkA (1 : Nat) s.snd.t s.snd.s).fin ∧ (0 : Int) = (mkA (1 : Nat) s.snd.t s.snd.s).stamp ∧ (0 : Int) = (mkA (1 : Nat) s.snd.t s.snd.s).step ∧ [] = (mkA (1 : Nat)
 s.snd.t s.snd.s).reads ∧ [] = (mkA (1 : Nat) s.snd.t s.snd.s).writes ∧ [] = (mkA (1 : Nat) s.snd.t s.snd.s).seen ∧ AVal.nils = AVal.nils ∧ w.a = s.snd.s.own.a ∧ w.b = s.snd.s.own.b ∧ w.c = s.snd.s.own.c ∧ (0 : Int) =
 (↑s.snd.j : Int) ∧ ((1 : Nat) < l.length ∧ l.length ≤ 3 ∧ Ru.mk (tpl (1 : Nat) s.fst) s.snd.w = runT (List.take (1 : Nat) l) ∧ s.snd.t = at3 l (1 : Int) ∧ s.snd.t.ops.length ≤ 6 ∧ s.snd.j ≤ s.snd.t.ops.length ∧ s.snd.s =
 opsS s.snd.w (List.take s.snd.j s.snd.t.ops)) ∧ (10 : Nat) * (l.length - 1) - s.snd.j < 1 + 10 * (l.length - 1) ∧ True) ∧ (b = false → ∃ (s : Tp (2 : Nat) × InS), Stuck "le: sl"))) ∧ (((IntKind.u64.wrap (at3 l (1 :
 Int)).fin).tmod 4 == 2) = false → (((IntKind.u64.wrap (at3 l (1 : Int)).fin).tmod 4 == 1) = true → ∃ (b : Bool), (b = true → ∃ (s : Tp (0 : Nat) × InS), Stuck "le: a") ∧ (b = false → ∃ (b : Bool), (b = true → ∃ (s : Tp
 (1 : Nat) × InS), x0.thread = s.fst.fst.thread ∧ x0.tri = s.fst.fst.tri ∧ x0.real = s.fst.fst.real ∧ x0.frm = s.fst.fst.frm ∧ x0.unt = s.fst.fst.unt ∧ x0.fin = s.fst.fst.fin ∧ x0.stamp = s.fst.fst.stamp ∧ x0.step =
 s.fst.fst.step ∧ x0.reads = s.fst.fst.reads ∧ x0.writes = s.fst.fst.writes ∧ x0.seen = s.fst.fst.seen ∧ AVal.nils = AVal.nils ∧ l = l ∧ AVal.bool true = AVal.bool true ∧ w.a = s.snd.w.a ∧ w.b = s.snd.w.b ∧ w.c =
 s.snd.w.c ∧ AVal.int IntKind.i64 (1 : Int) = AVal.int IntKind.i64 (1 : Int) ∧ (at3 l (1 : Int)).thread = s.snd.t.thread ∧ (at3 l (1 : Int)).frm = s.snd.t.frm ∧ (at3 l (1 : Int)).long = s.snd.t.long ∧ (at3 l (1 :
 Int)).fin = s.snd.t.fin ∧ (at3 l (1 : Int)).real = s.snd.t.real ∧ (at3 l (1 : Int)).ops = s.snd.t.ops ∧ IntKind.i64.wrap ((IntKind.u64.wrap (at3 l (1 : Int)).thread).tmod 3) = (mkA (1 : Nat) s.snd.t s.snd.s).thread ∧ (2
 : Int) = (mkA (1 : Nat) s.snd.t s.snd.s).tri ∧ (at3 l (1 : Int)).real = (mkA (1 : Nat) s.snd.t s.snd.s).real ∧ IntKind.i64.wrap ((IntKind.u64.wrap (at3 l (1 : Int)).frm).tmod 8) = (mkA (1 : Nat) s.snd.t s.snd.s).frm ∧
 IntKind.i64.wrap (IntKind.i64.wrap ((IntKind.u64.wrap (at3 l (1 : Int)).frm).tmod 8) + IntKind.i64.wrap ((IntKind.u64.wrap (at3 l (1 : Int)).long).tmod 4)) = (mkA (1 : Nat) s.snd.t s.snd.s).unt ∧ (6 : Int) = (mkA (1 :
 Nat) s.snd.t s.snd.s).fin ∧ (0 : Int) = (mkA (1 : Nat) s.snd.t s.snd.s).stamp ∧ (0 : Int) = (mkA (1 : Nat) s.snd.t s.snd.s).step ∧ [] = (mkA (1 : Nat) s.snd.t s.snd.s).reads ∧ [] = (mkA (1 : Nat) s.snd.t s.snd.s).writes
 ∧ [] = (mkA (1 : Nat) s.snd.t s.snd.s).seen ∧ AVal.nils = AVal.nils ∧ w.a = s.snd.s.own.a ∧ w.b = s.snd.s.own.b ∧ w.c = s.snd.s.own.c ∧ (0 : Int) = (↑s.snd.j : Int) ∧ ((1 : Nat) < l.length ∧ l.length ≤ 3 ∧ Ru.mk (tpl (1
 : Nat) s.fst) s.snd.w = runT (List.take (1 : Nat) l) ∧ s.snd.t = at3 l (1 : Int) ∧ s.snd.t.ops.length ≤ 6 ∧ s.snd.j ≤ s.snd.t.ops.length ∧ s.snd.s = opsS s.snd.w (List.take s.snd.j s.snd.t.ops)) ∧ (10 : Nat) * (l.length
 - 1) - s.snd.j < 1 + 10 * (l.length - 1) ∧ True) ∧ (b = false → ∃ (s : Tp (2 : Nat) × InS), Stuck "le: sl"))) ∧ (((IntKind.u64.wrap (at3 l (1 : Int)).fin).tmod 4 == 1) = false → ∃ (b : Bool), (b = true → ∃ (s : Tp (0 :
 Nat) × InS), Stuck "le: a") ∧ (b = false → ∃ (b : Bool), (b = true → ∃ (s : Tp (1 : Nat) × InS), x0.thread = s.fst.fst.thread ∧ x0.tri = s.fst.fst.tri ∧ x0.real = s.fst.fst.real ∧ x0.frm = s.fst.fst.frm ∧ x0.unt =
 s.fst.fst.unt ∧ x0.fin = s.fst.fst.fin ∧ x0.stamp = s.fst.fst.stamp ∧ x0.step = s.fst.fst.step ∧ x0.reads = s.fst.fst.reads ∧ x0.writes = s.fst.fst.writes ∧ x0.seen = s.fst.fst.seen ∧ AVal.nils = AVal.nils ∧ l = l ∧
 AVal.bool true = AVal.bool true ∧ w.a = s.snd.w.a ∧ w.b = s.snd.w.b ∧ w.c = s.snd.w.c ∧ AVal.int IntKind.i64 (1 : Int) = AVal.int IntKind.i64 (1 : Int) ∧ (at3 l (1 : Int)).thread = s.snd.t.thread ∧ (at3 l (1 : Int)).frm
 = s.snd.t.frm ∧ (at3 l (1 : Int)).long = s.snd.t.long ∧ (at3 l (1 : Int)).fin = s.snd.t.fin ∧ (at3 l (1 : Int)).real = s.snd.t.real ∧ (at3 l (1 : Int)).ops = s.snd.t.ops ∧ IntKind.i64.wrap ((IntKind.u64.wrap (at3 l (1 :
 Int)).thread).tmod 3) = (mkA (1 : Nat) s.snd.t s.snd.s).thread ∧ (2 : Int) = (mkA (1 : Nat) s.snd.t s.snd.s).tri ∧ (at3 l (1 : Int)).real = (mkA (1 : Nat) s.snd.t s.snd.s).real ∧ IntKind.i64.wrap ((IntKind.u64.wrap (at3
 l (1 : Int)).frm).tmod 8) = (mkA (1 : Nat) s.snd.t s.snd.s).frm ∧ IntKind.i64.wrap (IntKind.i64.wrap ((IntKind.u64.wrap (at3 l (1 : Int)).frm).tmod 8) + IntKind.i64.wrap ((IntKind.u64.wrap (at3 l (1 : Int)).long).tmod
 4)) = (mkA (1 : Nat) s.snd.t s.snd.s).unt ∧ (6 : Int) = (mkA (1 : Nat) s.snd.t s.snd.s).fin ∧ (0 : Int) = (mkA (1 : Nat) s.snd.t s.snd.s).stamp ∧ (0 : Int) = (mkA (1 : Nat) s.snd.t s.snd.s).step ∧ [] = (mkA (1 : Nat)
 s.snd.t s.snd.s).reads ∧ [] = (mkA (1 : Nat) s.snd.t s.snd.s).writes ∧ [] = (mkA (1 : Nat) s.snd.t s.snd.s).seen ∧ AVal.nils = AVal.nils ∧ w.a = s.snd.s.own.a ∧ w.b = s.snd.s.own.b ∧ w.c = s.snd.s.own.c ∧ (0 : Int) =
 (↑s.snd.j : Int) ∧ ((1 : Nat) < l.length ∧ l.length ≤ 3 ∧ Ru.mk (tpl (1 : Nat) s.fst) s.snd.w = runT (List.take (1 : Nat) l) ∧ s.snd.t = at3 l (1 : Int) ∧ s.snd.t.ops.length ≤ 6 ∧ s.snd.j ≤ s.snd.t.ops.length ∧ s.snd.s =
 opsS s.snd.w (List.take s.snd.j s.snd.t.ops)) ∧ (10 : Nat) * (l.length - 1) - s.snd.j < 1 + 10 * (l.length - 1) ∧ True) ∧ (b = false → ∃ (s : Tp (2 : Nat) × InS), Stuck "le: sl")))))) ∧ (decide ((1 : Int) < (↑l.length :
 Int)) = false → ∃ (b : Bool), (b = true → ∃ (s : Tp (0 : Nat)), Stuck "le: a") ∧ (b = false → ∃ (b : Bool), (b = true → ∃ (s : Tp (1 : Nat)), x0.thread = s.fst.thread ∧ x0.tri = s.fst.tri ∧ x0.real = s.fst.real ∧ x0.frm
 = s.fst.frm ∧ x0.unt = s.fst.unt ∧ x0.fin = s.fst.fin ∧ x0.stamp = s.fst.stamp ∧ x0.step = s.fst.step ∧ x0.reads = s.fst.reads ∧ x0.writes = s.fst.writes ∧ x0.seen = s.fst.seen ∧ AVal.nils = AVal.nils ∧ tpl (1 : Nat) s =
 d ∧ (0 : Nat) < 1 + 10 * (l.length - 1) ∧ True) ∧ (b = false → ∃ (b : Bool), (b = true → ∃ (s : Tp (2 : Nat)), Stuck "le: sl") ∧ (b = false → ∃ (s : Tp (3 : Nat)), Stuck "le: sl"))))) := by kernel_rfl
theorem as_42 (l : List Try) (d : List Att) (w : W3) (x0 : Att) (x1 : Att) : Go.Sy.Tree.holds (cutVC F (lookC []) 200 Tryd.f10 b10 (asF l d) 4 (asC4 l 2) (((x0, x1, ()), w) : Tp 2 × W3)) = ( (decide ((2 : Int) <
 (↑l.length : Int)) = true → ((0 : Int) ≤ 2 ∧ (2 : Int) < (↑l.length : Int)) ∧ ((0 : Int) ≤ (IntKind.u64.wrap (at3 l (2 : Int)).fin).tmod 4 ∧ (IntKind.u64.wrap (at3 l (2 : Int)).fin).tmod 4 < 4) ∧ (((IntKind.u64.wrap (at3
 l (2 : Int)).fin).tmod 4 == 3) = true → ∃ (b : Bool), (b = true → ∃ (s : Tp (0 : Nat) × InS), Stuck "le: a") ∧ (b = false → ∃ (b : Bool), (b = true → ∃ (s : Tp (1 : Nat) × InS), Stuck "le: sl") ∧ (b = false → ∃ (s : Tp
 (2 : Nat) × InS), x0.thread = s.fst.fst.thread ∧ x0.tri = s.fst.fst.tri ∧ x0.real = s.fst.fst.real ∧ x0.frm = s.fst.fst.frm ∧ x0.unt = s.fst.fst.unt ∧ x0.fin = s.fst.fst.fin ∧ x0.stamp = s.fst.fst.stamp ∧ x0.step =
 s.fst.fst.step ∧ x0.reads = s.fst.fst.reads ∧ x0.writes = s.fst.fst.writes ∧ x0.seen = s.fst.fst.seen ∧ AVal.nils = AVal.nils ∧ x1.thread = s.fst.snd.fst.thread ∧ x1.tri = s.fst.snd.fst.tri ∧ x1.real = s.fst.snd.fst.real
 ∧ x1.frm = s.fst.snd.fst.frm ∧ x1.unt = s.fst.snd.fst.unt ∧ x1.fin = s.fst.snd.fst.fin ∧ x1.stamp = s.fst.snd.fst.stamp ∧ x1.step = s.fst.snd.fst.step ∧ x1.reads = s.fst.snd.fst.reads ∧ x1.writes = s.fst.snd.fst.writes ∧
 x1.seen = s.fst.snd.fst.seen ∧ AVal.nils = AVal.nils ∧ l = l ∧ AVal.bool true = AVal.bool true ∧ w.a = s.snd.w.a ∧ w.b = s.snd.w.b ∧ w.c = s.snd.w.c ∧ AVal.int IntKind.i64 (2 : Int) = AVal.int IntKind.i64 (2 : Int) ∧
 (at3 l (2 : Int)).thread = s.snd.t.thread ∧ (at3 l (2 : Int)).frm = s.snd.t.frm ∧ (at3 l (2 : Int)).long = s.snd.t.long ∧ (at3 l (2 : Int)).fin = s.snd.t.fin ∧ (at3 l (2 : Int)).real = s.snd.t.real ∧ (at3 l (2 :
 Int)).ops = s.snd.t.ops ∧ IntKind.i64.wrap ((IntKind.u64.wrap (at3 l (2 : Int)).thread).tmod 3) = (mkA (2 : Nat) s.snd.t s.snd.s).thread ∧ (3 : Int) = (mkA (2 : Nat) s.snd.t s.snd.s).tri ∧ (at3 l (2 : Int)).real = (mkA
 (2 : Nat) s.snd.t s.snd.s).real ∧ IntKind.i64.wrap ((IntKind.u64.wrap (at3 l (2 : Int)).frm).tmod 8) = (mkA (2 : Nat) s.snd.t s.snd.s).frm ∧ IntKind.i64.wrap (IntKind.i64.wrap ((IntKind.u64.wrap (at3 l (2 :
 Int)).frm).tmod 8) + IntKind.i64.wrap ((IntKind.u64.wrap (at3 l (2 : Int)).long).tmod 4)) = (mkA (2 : Nat) s.snd.t s.snd.s).unt ∧ (0 : Int) = (mkA (2 : Nat) s.snd.t s.snd.s).fin ∧ (0 : Int) = (mkA (2 : Nat) s.snd.t
 s.snd.s).stamp ∧ (0 : Int) = (mkA (2 : Nat) s.snd.t s.snd.s).step ∧ [] = (mkA (2 : Nat) s.snd.t s.snd.s).reads ∧ [] = (mkA (2 : Nat) s.snd.t s.snd.s).writes ∧ [] = (mkA (2 : Nat) s.snd.t s.snd.s).seen ∧ AVal.nils =
 AVal.nils ∧ w.a = s.snd.s.own.a ∧ w.b = s.snd.s.own.b ∧ w.c = s.snd.s.own.c ∧ (0 : Int) = (↑s.snd.j : Int) ∧ ((2 : Nat) < l.length ∧ l.length ≤ 3 ∧ Ru.mk (tpl (2 : Nat) s.fst) s.snd.w = runT (List.take (2 : Nat) l) ∧
 s.snd.t = at3 l (2 : Int) ∧ s.snd.t.ops.length ≤ 6 ∧ s.snd.j ≤ s.snd.t.ops.length ∧ s.snd.s = opsS s.snd.w (List.take s.snd.j s.snd.t.ops)) ∧ (10 : Nat) * (l.length - 2) - s.snd.j < 1 + 10 * (l.length - 2) ∧ True))) ∧
 (((IntKind.u64.wrap (at3 l (2 : Int)).fin).tmod 4 == 3) = false → (((IntKind.u64.wrap (at3 l (2 : Int)).fin).tmod 4 == 2) = true → ∃ (b : Bool), (b = true → ∃ (s : Tp (0 : Nat) × InS), Stuck "le: a") ∧ (b = false → ∃ (b
 : Bool), (b = true → ∃ (s : Tp (1 : Nat) × InS), Stuck "le: sl") ∧ (b = false → ∃ (s : Tp (2 : Nat) × InS), x0.thread = s.fst.fst.thread ∧ x0.tri = s.fst.fst.tri ∧ x0.real = s.fst.fst.real ∧ x0.frm = s.fst.fst.frm ∧
 x0.unt = s.fst.fst.unt ∧ x0.fin = s.fst.fst.fin ∧ x0.stamp = s.fst.fst.stamp ∧ x0.step = s.fst.fst.step ∧ x0.reads = s.fst.fst.reads ∧ x0.writes = s.fst.fst.writes ∧ x0.seen = s.fst.fst.seen ∧ AVal.nils = AVal.nils ∧
 x1.thread = s.fst.snd.fst.thread ∧ x1.tri = s.fst.snd.fst.tri ∧ x1.real = s.fst.snd.fst.real ∧ x1.frm = s.fst.snd.fst.frm ∧ x1.unt = s.fst.snd.fst.unt ∧ x1.fin = s.fst.snd.fst.fin ∧ x1.stamp = s.fst.snd.fst.stamp ∧
 x1.step = s.fst.snd.fst.step ∧ x1.reads = s.fst.snd.fst.reads ∧ x1.writes = s.fst.snd.fst.writes ∧ x1.seen = s.fst.snd.fst.seen ∧ AVal.nils = AVal.nils ∧ l = l ∧ AVal.bool true = AVal.bool true ∧ w.a = s.snd.w.a ∧ w.b =
 s.snd.w.b ∧ w.c = s.snd.w.c ∧ AVal.int IntKind.i64 (2 : Int) = AVal.int IntKind.i64 (2 : Int) ∧ (at3 l (2 : Int)).thread = s.snd.t.thread ∧ (at3 l (2 : Int)).frm = s.snd.t.frm ∧ (at3 l (2 : Int)).long = s.snd.t.long ∧
 (at3 l (2 : Int)).fin = s.snd.t.fin ∧ (at3 l (2 : Int)).real = s.snd.t.real ∧ (at3 l (2 : Int)).ops = s.snd.t.ops ∧ IntKind.i64.wrap ((IntKind.u64.wrap (at3 l (2 : Int)).thread).tmod 3) = (mkA (2 : Nat) s.snd.t
 s.snd.s).thread ∧ (3 : Int) = (mkA (2 : Nat) s.snd.t s.snd.s).tri ∧ (at3 l (2 : Int)).real = (mkA (2 : Nat) s.snd.t s.snd.s).real ∧ IntKind.i64.wrap ((IntKind.u64.wrap (at3 l (2 : Int)).frm).tmod 8) = (mkA (2 : Nat)
 s.snd.t s.snd.s).frm ∧ IntKind.i64.wrap (IntKind.i64.wrap ((IntKind.u64.wrap (at3 l (2 : Int)).frm).tmod 8) + IntKind.i64.wrap ((IntKind.u64.wrap (at3 l (2 : Int)).long).tmod 4)) = (mkA (2 : Nat) s.snd.t s.snd.s).unt ∧
 (7 : Int) = (mkA (2 : Nat) s.snd.t s.snd.s).fin ∧ (0 : Int) = (mkA (2 : Nat) s.snd.t s.snd.s).stamp ∧ (0 : Int) = (mkA (2 : Nat) s.snd.t s.snd.s).step ∧ [] = (mkA (2 : Nat) s.snd.t s.snd.s).reads ∧ [] = (mkA (2 : Nat)
 s.snd.t s.snd.s).writes ∧ [] = (mkA (2 : Nat) s.snd.t s.snd.s).seen ∧ AVal.nils = AVal.nils ∧ w.a = s.snd.s.own.a ∧ w.b = s.snd.s.own.b ∧ w.c = s.snd.s.own.c ∧ (0 : Int) = (↑s.snd.j : Int) ∧ ((2 : Nat) < l.length ∧
 l.length ≤ 3 ∧ Ru.mk (tpl (2 : Nat) s.fst) s.snd.w = runT (List.take (2 : Nat) l) ∧ s.snd.t = at3 l (2 : Int) ∧ s.snd.t.ops.length ≤ 6 ∧ s.snd.j ≤ s.snd.t.ops.length ∧ s.snd.s = opsS s.snd.w (List.take s.snd.j
 s.snd.t.ops)) ∧ (10 : Nat) * (l.length - 2) - s.snd.j < 1 + 10 * (l.length - 2) ∧ True))) ∧ (((IntKind.u64.wrap (at3 l (2 : Int)).fin).tmod 4 == 2) = false → (((IntKind.u64.wrap (at3 l (2 : Int)).fin).tmod 4 == 1) = true
 → ∃ (b : Bool), (b = true → ∃ (s : Tp (0 : Nat) × InS), Stuck "le: a") ∧ (b = false → ∃ (b : Bool), (b = true → ∃ (s : Tp (1 : Nat) × InS), Stuck "le: sl") ∧ (b = false → ∃ (s : Tp (2 : Nat) × InS), x0.thread =
 s.fst.fst.thread ∧ x0.tri = s.fst.fst.tri ∧ x0.real = s.fst.fst.real ∧ x0.frm = s.fst.fst.frm ∧ x0.unt = s.fst.fst.unt ∧ x0.fin = s.fst.fst.fin ∧ x0.stamp = s.fst.fst.stamp ∧ x0.step = s.fst.fst.step ∧ x0.reads =
 s.fst.fst.reads ∧ x0.writes = s.fst.fst.writes ∧ x0.seen = s.fst.fst.seen ∧ AVal.nils = AVal.nils ∧ x1.thread = s.fst.snd.fst.thread ∧ x1.tri = s.fst.snd.fst.tri ∧ x1.real = s.fst.snd.fst.real ∧ x1.frm =
 s.fst.snd.fst.frm ∧ x1.unt = s.fst.snd.fst.unt ∧ x1.fin = s.fst.snd.fst.fin ∧ x1.stamp = s.fst.snd.fst.stamp ∧ x1.step = s.fst.snd.fst.step ∧ x1.reads = s.fst.snd.fst.reads ∧ x1.writes = s.fst.snd.fst.writes ∧ x1.seen =
 s.fst.snd.fst.seen ∧ AVal.nils = AVal.nils ∧ l = l ∧ AVal.bool true = AVal.bool true ∧ w.a = s.snd.w.a ∧ w.b = s.snd.w.b ∧ w.c = s.snd.w.c ∧ AVal.int IntKind.i64 (2 : Int) = AVal.int IntKind.i64 (2 : Int) ∧ (at3 l (2 :
 Int)).thread = s.snd.t.thread ∧ (at3 l (2 : Int)).frm = s.snd.t.frm ∧ (at3 l (2 : Int)).long = s.snd.t.long ∧ (at3 l (2 : Int)).fin = s.snd.t.fin ∧ (at3 l (2 : Int)).real = s.snd.t.real ∧ (at3 l (2 : Int)).ops =
 s.snd.t.ops ∧ IntKind.i64.wrap ((IntKind.u64.wrap (at3 l (2 : Int)).thread).tmod 3) = (mkA (2 : Nat) s.snd.t s.snd.s).thread ∧ (3 : Int) = (mkA (2 : Nat) s.snd.t s.snd.s).tri ∧ (at3 l (2 : Int)).real = (mkA (2 : Nat)
 s.snd.t s.snd.s).real ∧ IntKind.i64.wrap ((IntKind.u64.wrap (at3 l (2 : Int)).frm).tmod 8) = (mkA (2 : Nat) s.snd.t s.snd.s).frm ∧ IntKind.i64.wrap (IntKind.i64.wrap ((IntKind.u64.wrap (at3 l (2 : Int)).frm).tmod 8) +
 IntKind.i64.wrap ((IntKind.u64.wrap (at3 l (2 : Int)).long).tmod 4)) = (mkA (2 : Nat) s.snd.t s.snd.s).unt ∧ (6 : Int) = (mkA (2 : Nat) s.snd.t s.snd.s).fin ∧ (0 : Int) = (mkA (2 : Nat) s.snd.t s.snd.s).stamp ∧ (0 : Int)
 = (mkA (2 : Nat) s.snd.t s.snd.s).step ∧ [] = (mkA (2 : Nat) s.snd.t s.snd.s).reads ∧ [] = (mkA (2 : Nat) s.snd.t s.snd.s).writes ∧ [] = (mkA (2 : Nat) s.snd.t s.snd.s).seen ∧ AVal.nils = AVal.nils ∧ w.a = s.snd.s.own.a
 ∧ w.b = s.snd.s.own.b ∧ w.c = s.snd.s.own.c ∧ (0 : Int) = (↑s.snd.j : Int) ∧ ((2 : Nat) < l.length ∧ l.length ≤ 3 ∧ Ru.mk (tpl (2 : Nat) s.fst) s.snd.w = runT (List.take (2 : Nat) l) ∧ s.snd.t = at3 l (2 : Int) ∧
 s.snd.t.ops.length ≤ 6 ∧ s.snd.j ≤ s.snd.t.ops.length ∧ s.snd.s = opsS s.snd.w (List.take s.snd.j s.snd.t.ops)) ∧ (10 : Nat) * (l.length - 2) - s.snd.j < 1 + 10 * (l.length - 2) ∧ True))) ∧ (((IntKind.u64.wrap (at3 l (2
 : Int)).fin).tmod 4 == 1) = false → ∃ (b : Bool), (b = true → ∃ (s : Tp (0 : Nat) × InS), Stuck "le: a") ∧ (b = false → ∃ (b : Bool), (b = true → ∃ (s : Tp (1 : Nat) × InS), Stuck "le: sl") ∧ (b = false → ∃ (s : Tp (2 :
 Nat) × InS), x0.thread = s.fst.fst.thread ∧ x0.tri = s.fst.fst.tri ∧ x0.real = s.fst.fst.real ∧ x0.frm = s.fst.fst.frm ∧ x0.unt = s.fst.fst.unt ∧ x0.fin = s.fst.fst.fin ∧ x0.stamp = s.fst.fst.stamp ∧ x0.step =
 s.fst.fst.step ∧ x0.reads = s.fst.fst.reads ∧ x0.writes = s.fst.fst.writes ∧ x0.seen = s.fst.fst.seen ∧ AVal.nils = AVal.nils ∧ x1.thread = s.fst.snd.fst.thread ∧ x1.tri = s.fst.snd.fst.tri ∧ x1.real = s.fst.snd.fst.real
 ∧ x1.frm = s.fst.snd.fst.frm ∧ x1.unt = s.fst.snd.fst.unt ∧ x1.fin = s.fst.snd.fst.fin ∧ x1.stamp = s.fst.snd.fst.stamp ∧ x1.step = s.fst.snd.fst.step ∧ x1.reads = s.fst.snd.fst.reads ∧ x1.writes = s.fst.snd.fst.writes ∧
 x1.seen = s.fst.snd.fst.seen ∧ AVal.nils = AVal.nils ∧ l = l ∧ AVal.bool true = AVal.bool true ∧ w.a = s.snd.w.a ∧ w.b = s.snd.w.b ∧ w.c = s.snd.w.c ∧ AVal.int IntKind.i64 (2 : Int) = AVal.int IntKind.i64 (2 : Int) ∧
 (at3 l (2 : Int)).thread = s.snd.t.thread ∧ (at3 l (2 : Int)).frm = s.snd.t.frm ∧ (at3 l (2 : Int)).long = s.snd.t.long ∧ (at3 l (2 : Int)).fin = s.snd.t.fin ∧ (at3 l (2 : Int)).real = s.snd.t.real ∧ (at3 l (2 :
 Int)).ops = s.snd.t.ops ∧ IntKind.i64.wrap ((IntKind.u64.wrap (at3 l (2 : Int)).thread).tmod 3) = (mkA (2 : Nat) s.snd.t s.snd.s).thread ∧ (3 : Int) = (mkA (2 : Nat) s.snd.t s.snd.s).tri ∧ (at3 l (2 : Int)).real = (mkA
 (2 : Nat) s.snd.t s.snd.s).real ∧ IntKind.i64.wrap ((IntKind.u64.wrap (at3 l (2 : Int)).frm).tmod 8) = (mkA (2 : Nat) s.snd.t s.snd.s).frm ∧ IntKind.i64.wrap (IntKind.i64.wrap ((IntKind.u64.wrap (at3 l (2 :
 Int)).frm).tmod 8) + IntKind.i64.wrap ((IntKind.u64.wrap (at3 l (2 : Int)).long).tmod 4)) = (mkA (2 : Nat) s.snd.t s.snd.s).unt ∧ (6 : Int) = (mkA (2 : Nat) s.snd.t s.snd.s).fin ∧ (0 : Int) = (mkA (2 : Nat) s.snd.t
 s.snd.s).stamp ∧ (0 : Int) = (mkA (2 : Nat) s.snd.t s.snd.s).step ∧ [] = (mkA (2 : Nat) s.snd.t s.snd.s).reads ∧ [] = (mkA (2 : Nat) s.snd.t s.snd.s).writes ∧ [] = (mkA (2 : Nat) s.snd.t s.snd.s).seen ∧ AVal.nils =
 AVal.nils ∧ w.a = s.snd.s.own.a ∧ w.b = s.snd.s.own.b ∧ w.c = s.snd.s.own.c ∧ (0 : Int) = (↑s.snd.j : Int) ∧ ((2 : Nat) < l.length ∧ l.length ≤ 3 ∧ Ru.mk (tpl (2 : Nat) s.fst) s.snd.w = runT (List.take (2 : Nat) l) ∧
 s.snd.t = at3 l (2 : Int) ∧ s.snd.t.ops.length ≤ 6 ∧ s.snd.j ≤ s.snd.t.ops.length ∧ s.snd.s = opsS s.snd.w (List.take s.snd.j s.snd.t.ops)) ∧ (10 : Nat) * (l.length - 2) - s.snd.j < 1 + 10 * (l.length - 2) ∧ True)))))) ∧
 (decide ((2 : Int) < (↑l.length : Int)) = false → ∃ (b : Bool), (b = true → ∃ (s : Tp (0 : Nat)), Stuck "le: a") ∧ (b = false → ∃ (b : Bool), (b = true → ∃ (s : Tp (1 : Nat)), Stuck "le: sl") ∧ (b = false → ∃ (b : Bool),
 (b = true → ∃ (s : Tp (2 : Nat)), x0.thread = s.fst.thread ∧ x0.tri = s.fst.tri ∧ x0.real = s.fst.real ∧ x0.frm = s.fst.frm ∧ x0.unt = s.fst.unt ∧ x0.fin = s.fst.fin ∧ x0.stamp = s.fst.stamp ∧ x0.step = s.fst.step ∧
 x0.reads = s.fst.reads ∧ x0.writes = s.fst.writes ∧ x0.seen = s.fst.seen ∧ AVal.nils = AVal.nils ∧ x1.thread = s.snd.fst.thread ∧ x1.tri = s.snd.fst.tri ∧ x1.real = s.snd.fst.real ∧ x1.frm = s.snd.fst.frm ∧ x1.unt =
 s.snd.fst.unt ∧ x1.fin = s.snd.fst.fin ∧ x1.stamp = s.snd.fst.stamp ∧ x1.step = s.snd.fst.step ∧ x1.reads = s.snd.fst.reads ∧ x1.writes = s.snd.fst.writes ∧ x1.seen = s.snd.fst.seen ∧ AVal.nils = AVal.nils ∧ tpl (2 :
 Nat) s = d ∧ (0 : Nat) < 1 + 10 * (l.length - 2) ∧ True) ∧ (b = false → ∃ (s : Tp (3 : Nat)), Stuck "le: sl"))))) := by kernel_rfl
theorem as_43 (l : List Try) (d : List Att) (w : W3) (x0 : Att) (x1 : Att) (x2 : Att) : Go.Sy.Tree.holds (cutVC F (lookC []) 200 Tryd.f10 b10 (asF l d) 4 (asC4 l 3) (((x0, x1, x2, ()), w) : Tp 3 × W3)) = ( (decide ((3 :
 Int) < (↑l.length : Int)) = true → ((0 : Int) ≤ 3 ∧ (3 : Int) < (↑l.length : Int)) ∧ ((0 : Int) ≤ (IntKind.u64.wrap (at3 l (3 : Int)).fin).tmod 4 ∧ (IntKind.u64.wrap (at3 l (3 : Int)).fin).tmod 4 < 4) ∧
 (((IntKind.u64.wrap (at3 l (3 : Int)).fin).tmod 4 == 3) = true → ∃ (b : Bool), (b = true → ∃ (s : Tp (0 : Nat) × InS), Stuck "le: a") ∧ (b = false → ∃ (b : Bool), (b = true → ∃ (s : Tp (1 : Nat) × InS), Stuck "le: sl") ∧
 (b = false → ∃ (s : Tp (2 : Nat) × InS), Stuck "le: sl"))) ∧ (((IntKind.u64.wrap (at3 l (3 : Int)).fin).tmod 4 == 3) = false → (((IntKind.u64.wrap (at3 l (3 : Int)).fin).tmod 4 == 2) = true → ∃ (b : Bool), (b = true → ∃
 (s : Tp (0 : Nat) × InS), Stuck "le: a") ∧ (b = false → ∃ (b : Bool), (b = true → ∃ (s : Tp (1 : Nat) × InS), Stuck "le: sl") ∧ (b = false → ∃ (s : Tp (2 : Nat) × InS), Stuck "le: sl"))) ∧ (((IntKind.u64.wrap (at3 l (3 :
 Int)).fin).tmod 4 == 2) = false → (((IntKind.u64.wrap (at3 l (3 : Int)).fin).tmod 4 == 1) = true → ∃ (b : Bool), (b = true → ∃ (s : Tp (0 : Nat) × InS), Stuck "le: a") ∧ (b = false → ∃ (b : Bool), (b = true → ∃ (s : Tp
 (1 : Nat) × InS), Stuck "le: sl") ∧ (b = false → ∃ (s : Tp (2 : Nat) × InS), Stuck "le: sl"))) ∧ (((IntKind.u64.wrap (at3 l (3 : Int)).fin).tmod 4 == 1) = false → ∃ (b : Bool), (b = true → ∃ (s : Tp (0 : Nat) × InS),
 Stuck "le: a") ∧ (b = false → ∃ (b : Bool), (b = true → ∃ (s : Tp (1 : Nat) × InS), Stuck "le: sl") ∧ (b = false → ∃ (s : Tp (2 : Nat) × InS), Stuck "le: sl")))))) ∧ (decide ((3 : Int) < (↑l.length : Int)) = false → ∃ (b
 : Bool), (b = true → ∃ (s : Tp (0 : Nat)), Stuck "le: a") ∧ (b = false → ∃ (b : Bool), (b = true → ∃ (s : Tp (1 : Nat)), Stuck "le: sl") ∧ (b = false → ∃ (b : Bool), (b = true → ∃ (s : Tp (2 : Nat)), Stuck "le: sl") ∧ (b
 = false → ∃ (s : Tp (3 : Nat)), x0.thread = s.fst.thread ∧ x0.tri = s.fst.tri ∧ x0.real = s.fst.real ∧ x0.frm = s.fst.frm ∧ x0.unt = s.fst.unt ∧ x0.fin = s.fst.fin ∧ x0.stamp = s.fst.stamp ∧ x0.step = s.fst.step ∧
 x0.reads = s.fst.reads ∧ x0.writes = s.fst.writes ∧ x0.seen = s.fst.seen ∧ AVal.nils = AVal.nils ∧ x1.thread = s.snd.fst.thread ∧ x1.tri = s.snd.fst.tri ∧ x1.real = s.snd.fst.real ∧ x1.frm = s.snd.fst.frm ∧ x1.unt =
 s.snd.fst.unt ∧ x1.fin = s.snd.fst.fin ∧ x1.stamp = s.snd.fst.stamp ∧ x1.step = s.snd.fst.step ∧ x1.reads = s.snd.fst.reads ∧ x1.writes = s.snd.fst.writes ∧ x1.seen = s.snd.fst.seen ∧ AVal.nils = AVal.nils ∧ x2.thread =
 s.snd.snd.fst.thread ∧ x2.tri = s.snd.snd.fst.tri ∧ x2.real = s.snd.snd.fst.real ∧ x2.frm = s.snd.snd.fst.frm ∧ x2.unt = s.snd.snd.fst.unt ∧ x2.fin = s.snd.snd.fst.fin ∧ x2.stamp = s.snd.snd.fst.stamp ∧ x2.step =
 s.snd.snd.fst.step ∧ x2.reads = s.snd.snd.fst.reads ∧ x2.writes = s.snd.snd.fst.writes ∧ x2.seen = s.snd.snd.fst.seen ∧ AVal.nils = AVal.nils ∧ tpl (3 : Nat) s = d ∧ (0 : Nat) < 1 + 10 * (l.length - 3) ∧ True))))) := by
 kernel_rfl
theorem as_250 (l : List Try) : Go.Sy.Tree.holds (cutVC F (lookC []) 200 Tryd.f10 b10 (asF l []) 25 (asC25 [] 0) (() : Tp 0)) = ( AVal.nils = AVal.nils ∧ True) := by kernel_rfl
theorem as_251 (l : List Try) (x0 : Att) : Go.Sy.Tree.holds (cutVC F (lookC []) 200 Tryd.f10 b10 (asF l [x0]) 25 (asC25 [x0] 1) ((x0, ()) : Tp 1)) = ( x0.thread = x0.thread ∧ x0.tri = x0.tri ∧ x0.real = x0.real ∧ x0.frm =
 x0.frm ∧ x0.unt = x0.unt ∧ x0.fin = x0.fin ∧ x0.stamp = x0.stamp ∧ x0.step = x0.step ∧ x0.reads = x0.reads ∧ x0.writes = x0.writes ∧ x0.seen = x0.seen ∧ AVal.nils = AVal.nils ∧ True) := by kernel_rfl
theorem as_252 (l : List Try) (x0 : Att) (x1 : Att) : Go.Sy.Tree.holds (cutVC F (lookC []) 200 Tryd.f10 b10 (asF l [x0, x1]) 25 (asC25 [x0, x1] 2) ((x0, x1, ()) : Tp 2)) = ( x0.thread = x0.thread ∧ x0.tri = x0.tri ∧
 x0.real = x0.real ∧ x0.frm = x0.frm ∧ x0.unt = x0.unt ∧ x0.fin = x0.fin ∧ x0.stamp = x0.stamp ∧ x0.step = x0.step ∧ x0.reads = x0.reads ∧ x0.writes = x0.writes ∧ x0.seen = x0.seen ∧ AVal.nils = AVal.nils ∧ x1.thread =
 x1.thread ∧ x1.tri = x1.tri ∧ x1.real = x1.real ∧ x1.frm = x1.frm ∧ x1.unt = x1.unt ∧ x1.fin = x1.fin ∧ x1.stamp = x1.stamp ∧ x1.step = x1.step ∧ x1.reads = x1.reads ∧ x1.writes = x1.writes ∧ x1.seen = x1.seen ∧
 AVal.nils = AVal.nils ∧ True) := by kernel_rfl
theorem as_253 (l : List Try) (x0 : Att) (x1 : Att) (x2 : Att) : Go.Sy.Tree.holds (cutVC F (lookC []) 200 Tryd.f10 b10 (asF l [x0, x1, x2]) 25 (asC25 [x0, x1, x2] 3) ((x0, x1, x2, ()) : Tp 3)) = ( x0.thread = x0.thread ∧
 x0.tri = x0.tri ∧ x0.real = x0.real ∧ x0.frm = x0.frm ∧ x0.unt = x0.unt ∧ x0.fin = x0.fin ∧ x0.stamp = x0.stamp ∧ x0.step = x0.step ∧ x0.reads = x0.reads ∧ x0.writes = x0.writes ∧ x0.seen = x0.seen ∧ AVal.nils =
 AVal.nils ∧ x1.thread = x1.thread ∧ x1.tri = x1.tri ∧ x1.real = x1.real ∧ x1.frm = x1.frm ∧ x1.unt = x1.unt ∧ x1.fin = x1.fin ∧ x1.stamp = x1.stamp ∧ x1.step = x1.step ∧ x1.reads = x1.reads ∧ x1.writes = x1.writes ∧
 x1.seen = x1.seen ∧ AVal.nils = AVal.nils ∧ x2.thread = x2.thread ∧ x2.tri = x2.tri ∧ x2.real = x2.real ∧ x2.frm = x2.frm ∧ x2.unt = x2.unt ∧ x2.fin = x2.fin ∧ x2.stamp = x2.stamp ∧ x2.step = x2.step ∧ x2.reads =
 x2.reads ∧ x2.writes = x2.writes ∧ x2.seen = x2.seen ∧ AVal.nils = AVal.nils ∧ True) := by kernel_rfl
theorem as_110 (l : List Try) (d : List Att) (w : W3) (t : Try) (s : OpS) (j : Nat) : Go.Sy.Tree.holds (cutVC F (lookC []) 200 Tryd.f10 b10 (asF l d) 11 (asC11 l 0) (((), ⟨w, t, s, j⟩) : Tp 0 × InS)) = ( (decide
 ((↑(InS.mk w t s j).j : Int) < (↑(InS.mk w t s j).t.ops.length : Int)) = true → ((0 : Int) ≤ (↑(InS.mk w t s j).j : Int) ∧ (↑(InS.mk w t s j).j : Int) < (↑(InS.mk w t s j).t.ops.length : Int)) ∧ (((IntKind.u64.wrap (at2
 (InS.mk w t s j).t.ops (↑(InS.mk w t s j).j : Int)).kind).tmod 2 == 1) = true → ((mkA (0 : Nat) (InS.mk w t s j).t (InS.mk w t s j).s).writes.length + [Wd.mk (IntKind.i64.wrap ((IntKind.u64.wrap (at2 (InS.mk w t s
 j).t.ops (↑(InS.mk w t s j).j : Int)).a).tmod 3)) (IntKind.i64.wrap ((IntKind.u64.wrap (at2 (InS.mk w t s j).t.ops (↑(InS.mk w t s j).j : Int)).v).tmod 3))].length) * 16 ≤ 140737488355328 ∧ ((0 : Int) ≤ IntKind.i64.wrap
 ((IntKind.u64.wrap (at2 (InS.mk w t s j).t.ops (↑(InS.mk w t s j).j : Int)).a).tmod 3) ∧ IntKind.i64.wrap ((IntKind.u64.wrap (at2 (InS.mk w t s j).t.ops (↑(InS.mk w t s j).j : Int)).a).tmod 3) < 3) ∧ ((IntKind.i64.wrap
 ((IntKind.u64.wrap (at2 (InS.mk w t s j).t.ops (↑(InS.mk w t s j).j : Int)).a).tmod 3) == 2) = true → ∃ (b : Bool), (b = true → ∃ (s_1 : Tp (0 : Nat) × InS), AVal.nils = AVal.nils ∧ l = l ∧ AVal.bool true = AVal.bool
 true ∧ (InS.mk w t s j).w.a = s_1.snd.w.a ∧ (InS.mk w t s j).w.b = s_1.snd.w.b ∧ (InS.mk w t s j).w.c = s_1.snd.w.c ∧ AVal.int IntKind.i64 (0 : Int) = AVal.int IntKind.i64 (0 : Int) ∧ (InS.mk w t s j).t.thread =
 s_1.snd.t.thread ∧ (InS.mk w t s j).t.frm = s_1.snd.t.frm ∧ (InS.mk w t s j).t.long = s_1.snd.t.long ∧ (InS.mk w t s j).t.fin = s_1.snd.t.fin ∧ (InS.mk w t s j).t.real = s_1.snd.t.real ∧ (InS.mk w t s j).t.ops =
 s_1.snd.t.ops ∧ (mkA (0 : Nat) (InS.mk w t s j).t (InS.mk w t s j).s).thread = (mkA (0 : Nat) s_1.snd.t s_1.snd.s).thread ∧ (mkA (0 : Nat) (InS.mk w t s j).t (InS.mk w t s j).s).tri = (mkA (0 : Nat) s_1.snd.t
 s_1.snd.s).tri ∧ (mkA (0 : Nat) (InS.mk w t s j).t (InS.mk w t s j).s).real = (mkA (0 : Nat) s_1.snd.t s_1.snd.s).real ∧ (mkA (0 : Nat) (InS.mk w t s j).t (InS.mk w t s j).s).frm = (mkA (0 : Nat) s_1.snd.t s_1.snd.s).frm
 ∧ (mkA (0 : Nat) (InS.mk w t s j).t (InS.mk w t s j).s).unt = (mkA (0 : Nat) s_1.snd.t s_1.snd.s).unt ∧ (mkA (0 : Nat) (InS.mk w t s j).t (InS.mk w t s j).s).fin = (mkA (0 : Nat) s_1.snd.t s_1.snd.s).fin ∧ (mkA (0 : Nat)
 (InS.mk w t s j).t (InS.mk w t s j).s).stamp = (mkA (0 : Nat) s_1.snd.t s_1.snd.s).stamp ∧ (mkA (0 : Nat) (InS.mk w t s j).t (InS.mk w t s j).s).step = (mkA (0 : Nat) s_1.snd.t s_1.snd.s).step ∧ (mkA (0 : Nat) (InS.mk w
 t s j).t (InS.mk w t s j).s).reads = (mkA (0 : Nat) s_1.snd.t s_1.snd.s).reads ∧ (mkA (0 : Nat) (InS.mk w t s j).t (InS.mk w t s j).s).writes ++ [Wd.mk (IntKind.i64.wrap ((IntKind.u64.wrap (at2 (InS.mk w t s j).t.ops
 (↑(InS.mk w t s j).j : Int)).a).tmod 3)) (IntKind.i64.wrap ((IntKind.u64.wrap (at2 (InS.mk w t s j).t.ops (↑(InS.mk w t s j).j : Int)).v).tmod 3))] = (mkA (0 : Nat) s_1.snd.t s_1.snd.s).writes ∧ (mkA (0 : Nat) (InS.mk w
 t s j).t (InS.mk w t s j).s).seen = (mkA (0 : Nat) s_1.snd.t s_1.snd.s).seen ∧ AVal.nils = AVal.nils ∧ (InS.mk w t s j).s.own.a = s_1.snd.s.own.a ∧ (InS.mk w t s j).s.own.b = s_1.snd.s.own.b ∧ IntKind.i64.wrap
 ((IntKind.u64.wrap (at2 (InS.mk w t s j).t.ops (↑(InS.mk w t s j).j : Int)).v).tmod 3) = s_1.snd.s.own.c ∧ IntKind.i64.wrap ((↑(InS.mk w t s j).j : Int) + 1) = (↑s_1.snd.j : Int) ∧ ((0 : Nat) < l.length ∧ l.length ≤ 3 ∧
 Ru.mk (tpl (0 : Nat) s_1.fst) s_1.snd.w = runT (List.take (0 : Nat) l) ∧ s_1.snd.t = at3 l (0 : Int) ∧ s_1.snd.t.ops.length ≤ 6 ∧ s_1.snd.j ≤ s_1.snd.t.ops.length ∧ s_1.snd.s = opsS s_1.snd.w (List.take s_1.snd.j
 s_1.snd.t.ops)) ∧ (10 : Nat) * (l.length - 0) - s_1.snd.j < 10 * (l.length - 0) - (InS.mk w t s j).j ∧ True) ∧ (b = false → ∃ (b : Bool), (b = true → ∃ (s : Tp (1 : Nat) × InS), Stuck "le: sl") ∧ (b = false → ∃ (s : Tp
 (2 : Nat) × InS), Stuck "le: sl"))) ∧ ((IntKind.i64.wrap ((IntKind.u64.wrap (at2 (InS.mk w t s j).t.ops (↑(InS.mk w t s j).j : Int)).a).tmod 3) == 2) = false → ((IntKind.i64.wrap ((IntKind.u64.wrap (at2 (InS.mk w t s
 j).t.ops (↑(InS.mk w t s j).j : Int)).a).tmod 3) == 1) = true → ∃ (b : Bool), (b = true → ∃ (s_1 : Tp (0 : Nat) × InS), AVal.nils = AVal.nils ∧ l = l ∧ AVal.bool true = AVal.bool true ∧ (InS.mk w t s j).w.a = s_1.snd.w.a
 ∧ (InS.mk w t s j).w.b = s_1.snd.w.b ∧ (InS.mk w t s j).w.c = s_1.snd.w.c ∧ AVal.int IntKind.i64 (0 : Int) = AVal.int IntKind.i64 (0 : Int) ∧ (InS.mk w t s j).t.thread = s_1.snd.t.thread ∧ (InS.mk w t s j).t.frm =
 s_1.snd.t.frm ∧ (InS.mk w t s j).t.long = s_1.snd.t.long ∧ (InS.mk w t s j).t.fin = s_1.snd.t.fin ∧ (InS.mk w t s j).t.real = s_1.snd.t.real ∧ (InS.mk w t s j).t.ops = s_1.snd.t.ops ∧ (mkA (0 : Nat) (InS.mk w t s j).t
 (InS.mk w t s j).s).thread = (mkA (0 : Nat) s_1.snd.t s_1.snd.s).thread ∧ (mkA (0 : Nat) (InS.mk w t s j).t (InS.mk w t s j).s).tri = (mkA (0 : Nat) s_1.snd.t s_1.snd.s).tri ∧ (mkA (0 : Nat) (InS.mk w t s j).t (InS.mk w
 t s j).s).real = (mkA (0 : Nat) s_1.snd.t s_1.snd.s).real ∧ (mkA (0 : Nat) (InS.mk w t s j).t (InS.mk w t s j).s).frm = (mkA (0 : Nat) s_1.snd.t s_1.snd.s).frm ∧ (mkA (0 : Nat) (InS.mk w t s j).t (InS.mk w t s j).s).unt
 = (mkA (0 : Nat) s_1.snd.t s_1.snd.s).unt ∧ (mkA (0 : Nat) (InS.mk w t s j).t (InS.mk w t s j).s).fin = (mkA (0 : Nat) s_1.snd.t s_1.snd.s).fin ∧ (mkA (0 : Nat) (InS.mk w t s j).t (InS.mk w t s j).s).stamp = (mkA (0 :
 Nat) s_1.snd.t s_1.snd.s).stamp ∧ (mkA (0 : Nat) (InS.mk w t s j).t (InS.mk w t s j).s).step = (mkA (0 : Nat) s_1.snd.t s_1.snd.s).step ∧ (mkA (0 : Nat) (InS.mk w t s j).t (InS.mk w t s j).s).reads = (mkA (0 : Nat)
 s_1.snd.t s_1.snd.s).reads ∧ (mkA (0 : Nat) (InS.mk w t s j).t (InS.mk w t s j).s).writes ++ [Wd.mk (IntKind.i64.wrap ((IntKind.u64.wrap (at2 (InS.mk w t s j).t.ops (↑(InS.mk w t s j).j : Int)).a).tmod 3))
 (IntKind.i64.wrap ((IntKind.u64.wrap (at2 (InS.mk w t s j).t.ops (↑(InS.mk w t s j).j : Int)).v).tmod 3))] = (mkA (0 : Nat) s_1.snd.t s_1.snd.s).writes ∧ (mkA (0 : Nat) (InS.mk w t s j).t (InS.mk w t s j).s).seen = (mkA
 (0 : Nat) s_1.snd.t s_1.snd.s).seen ∧ AVal.nils = AVal.nils ∧ (InS.mk w t s j).s.own.a = s_1.snd.s.own.a ∧ IntKind.i64.wrap ((IntKind.u64.wrap (at2 (InS.mk w t s j).t.ops (↑(InS.mk w t s j).j : Int)).v).tmod 3) =
 s_1.snd.s.own.b ∧ (InS.mk w t s j).s.own.c = s_1.snd.s.own.c ∧ IntKind.i64.wrap ((↑(InS.mk w t s j).j : Int) + 1) = (↑s_1.snd.j : Int) ∧ ((0 : Nat) < l.length ∧ l.length ≤ 3 ∧ Ru.mk (tpl (0 : Nat) s_1.fst) s_1.snd.w =
 runT (List.take (0 : Nat) l) ∧ s_1.snd.t = at3 l (0 : Int) ∧ s_1.snd.t.ops.length ≤ 6 ∧ s_1.snd.j ≤ s_1.snd.t.ops.length ∧ s_1.snd.s = opsS s_1.snd.w (List.take s_1.snd.j s_1.snd.t.ops)) ∧ (10 : Nat) * (l.length - 0) -
 s_1.snd.j < 10 * (l.length - 0) - (InS.mk w t s j).j ∧ True) ∧ (b = false → ∃ (b : Bool), (b = true → ∃ (s : Tp (1 : Nat) × InS), Stuck "le: sl") ∧ (b = false → ∃ (s : Tp (2 : Nat) × InS), Stuck "le: sl"))) ∧
 ((IntKind.i64.wrap ((IntKind.u64.wrap (at2 (InS.mk w t s j).t.ops (↑(InS.mk w t s j).j : Int)).a).tmod 3) == 1) = false → ∃ (b : Bool), (b = true → ∃ (s_1 : Tp (0 : Nat) × InS), AVal.nils = AVal.nils ∧ l = l ∧ AVal.bool
 true = AVal.bool true ∧ (InS.mk w t s j).w.a = s_1.snd.w.a ∧ (InS.mk w t s j).w.b = s_1.snd.w.b ∧ (InS.mk w t s j).w.c = s_1.snd.w.c ∧ AVal.int IntKind.i64 (0 : Int) = AVal.int IntKind.i64 (0 : Int) ∧ (InS.mk w t s
 j).t.thread = s_1.snd.t.thread ∧ (InS.mk w t s j).t.frm = s_1.snd.t.frm ∧ (InS.mk w t s j).t.long = s_1.snd.t.long ∧ (InS.mk w t s j).t.fin = s_1.snd.t.fin ∧ (InS.mk w t s j).t.real = s_1.snd.t.real ∧ (InS.mk w t s
 j).t.ops = s_1.snd.t.ops ∧ (mkA (0 : Nat) (InS.mk w t s j).t (InS.mk w t s j).s).thread = (mkA (0 : Nat) s_1.snd.t s_1.snd.s).thread ∧ (mkA (0 : Nat) (InS.mk w t s j).t (InS.mk w t s j).s).tri = (mkA (0 : Nat) s_1.snd.t
 s_1.snd.s).tri ∧ (mkA (0 : Nat) (InS.mk w t s j).t (InS.mk w t s j).s).real = (mkA (0 : Nat) s_1.snd.t s_1.snd.s).real ∧ (mkA (0 : Nat) (InS.mk w t s j).t (InS.mk w t s j).s).frm = (mkA (0 : Nat) s_1.snd.t s_1.snd.s).frm
 ∧ (mkA (0 : Nat) (InS.mk w t s j).t (InS.mk w t s j).s).unt = (mkA (0 : Nat) s_1.snd.t s_1.snd.s).unt ∧ (mkA (0 : Nat) (InS.mk w t s j).t (InS.mk w t s j).s).fin = (mkA (0 : Nat) s_1.snd.t s_1.snd.s).fin ∧ (mkA (0 : Nat)
 (InS.mk w t s j).t (InS.mk w t s j).s).stamp = (mkA (0 : Nat) s_1.snd.t s_1.snd.s).stamp ∧ (mkA (0 : Nat) (InS.mk w t s j).t (InS.mk w t s j).s).step = (mkA (0 : Nat) s_1.snd.t s_1.snd.s).step ∧ (mkA (0 : Nat) (InS.mk w
 t s j).t (InS.mk w t s j).s).reads = (mkA (0 : Nat) s_1.snd.t s_1.snd.s).reads ∧ (mkA (0 : Nat) (InS.mk w t s j).t (InS.mk w t s j).s).writes ++ [Wd.mk (IntKind.i64.wrap ((IntKind.u64.wrap (at2 (InS.mk w t s j).t.ops
 (↑(InS.mk w t s j).j : Int)).a).tmod 3)) (IntKind.i64.wrap ((IntKind.u64.wrap (at2 (InS.mk w t s j).t.ops (↑(InS.mk w t s j).j : Int)).v).tmod 3))] = (mkA (0 : Nat) s_1.snd.t s_1.snd.s).writes ∧ (mkA (0 : Nat) (InS.mk w
 t s j).t (InS.mk w t s j).s).seen = (mkA (0 : Nat) s_1.snd.t s_1.snd.s).seen ∧ AVal.nils = AVal.nils ∧ IntKind.i64.wrap ((IntKind.u64.wrap (at2 (InS.mk w t s j).t.ops (↑(InS.mk w t s j).j : Int)).v).tmod 3) =
 s_1.snd.s.own.a ∧ (InS.mk w t s j).s.own.b = s_1.snd.s.own.b ∧ (InS.mk w t s j).s.own.c = s_1.snd.s.own.c ∧ IntKind.i64.wrap ((↑(InS.mk w t s j).j : Int) + 1) = (↑s_1.snd.j : Int) ∧ ((0 : Nat) < l.length ∧ l.length ≤ 3 ∧
 Ru.mk (tpl (0 : Nat) s_1.fst) s_1.snd.w = runT (List.take (0 : Nat) l) ∧ s_1.snd.t = at3 l (0 : Int) ∧ s_1.snd.t.ops.length ≤ 6 ∧ s_1.snd.j ≤ s_1.snd.t.ops.length ∧ s_1.snd.s = opsS s_1.snd.w (List.take s_1.snd.j
 s_1.snd.t.ops)) ∧ (10 : Nat) * (l.length - 0) - s_1.snd.j < 10 * (l.length - 0) - (InS.mk w t s j).j ∧ True) ∧ (b = false → ∃ (b : Bool), (b = true → ∃ (s : Tp (1 : Nat) × InS), Stuck "le: sl") ∧ (b = false → ∃ (s : Tp
 (2 : Nat) × InS), Stuck "le: sl"))))) ∧ (((IntKind.u64.wrap (at2 (InS.mk w t s j).t.ops (↑(InS.mk w t s j).j : Int)).kind).tmod 2 == 1) = false → ((0 : Int) ≤ IntKind.i64.wrap ((IntKind.u64.wrap (at2 (InS.mk w t s
 j).t.ops (↑(InS.mk w t s j).j : Int)).a).tmod 3) ∧ IntKind.i64.wrap ((IntKind.u64.wrap (at2 (InS.mk w t s j).t.ops (↑(InS.mk w t s j).j : Int)).a).tmod 3) < 3) ∧ ((IntKind.i64.wrap ((IntKind.u64.wrap (at2 (InS.mk w t s
 j).t.ops (↑(InS.mk w t s j).j : Int)).a).tmod 3) == 2) = true → ((mkA (0 : Nat) (InS.mk w t s j).t (InS.mk w t s j).s).reads.length + [Wd.mk (IntKind.i64.wrap ((IntKind.u64.wrap (at2 (InS.mk w t s j).t.ops (↑(InS.mk w t
 s j).j : Int)).a).tmod 3)) (InS.mk w t s j).s.own.c].length) * 16 ≤ 140737488355328 ∧ ((mkA (0 : Nat) (InS.mk w t s j).t (InS.mk w t s j).s).seen.length + [(↑(mkA (0 : Nat) (InS.mk w t s j).t (InS.mk w t s
 j).s).writes.length : Int)].length) * 8 ≤ 140737488355328 ∧ ∃ (b : Bool), (b = true → ∃ (s_1 : Tp (0 : Nat) × InS), AVal.nils = AVal.nils ∧ l = l ∧ AVal.bool true = AVal.bool true ∧ (InS.mk w t s j).w.a = s_1.snd.w.a ∧
 (InS.mk w t s j).w.b = s_1.snd.w.b ∧ (InS.mk w t s j).w.c = s_1.snd.w.c ∧ AVal.int IntKind.i64 (0 : Int) = AVal.int IntKind.i64 (0 : Int) ∧ (InS.mk w t s j).t.thread = s_1.snd.t.thread ∧ (InS.mk w t s j).t.frm =
 s_1.snd.t.frm ∧ (InS.mk w t s j).t.long = s_1.snd.t.long ∧ (InS.mk w t s j).t.fin = s_1.snd.t.fin ∧ (InS.mk w t s j).t.real = s_1.snd.t.real ∧ (InS.mk w t s j).t.ops = s_1.snd.t.ops ∧ (mkA (0 : Nat) (InS.mk w t s j).t
 (InS.mk w t s j).s).thread = (mkA (0 : Nat) s_1.snd.t s_1.snd.s).thread ∧ (mkA (0 : Nat) (InS.mk w t s j).t (InS.mk w t s j).s).tri = (mkA (0 : Nat) s_1.snd.t s_1.snd.s).tri ∧ (mkA (0 : Nat) (InS.mk w t s j).t (InS.mk w
 t s j).s).real = (mkA (0 : Nat) s_1.snd.t s_1.snd.s).real ∧ (mkA (0 : Nat) (InS.mk w t s j).t (InS.mk w t s j).s).frm = (mkA (0 : Nat) s_1.snd.t s_1.snd.s).frm ∧ (mkA (0 : Nat) (InS.mk w t s j).t (InS.mk w t s j).s).unt
 = (mkA (0 : Nat) s_1.snd.t s_1.snd.s).unt ∧ (mkA (0 : Nat) (InS.mk w t s j).t (InS.mk w t s j).s).fin = (mkA (0 : Nat) s_1.snd.t s_1.snd.s).fin ∧ (mkA (0 : Nat) (InS.mk w t s j).t (InS.mk w t s j).s).stamp = (mkA (0 :
 Nat) s_1.snd.t s_1.snd.s).stamp ∧ (mkA (0 : Nat) (InS.mk w t s j).t (InS.mk w t s j).s).step = (mkA (0 : Nat) s_1.snd.t s_1.snd.s).step ∧ (mkA (0 : Nat) (InS.mk w t s j).t (InS.mk w t s j).s).reads ++ [Wd.mk
 (IntKind.i64.wrap ((IntKind.u64.wrap (at2 (InS.mk w t s j).t.ops (↑(InS.mk w t s j).j : Int)).a).tmod 3)) (InS.mk w t s j).s.own.c] = (mkA (0 : Nat) s_1.snd.t s_1.snd.s).reads ∧ (mkA (0 : Nat) (InS.mk w t s j).t (InS.mk
 w t s j).s).writes = (mkA (0 : Nat) s_1.snd.t s_1.snd.s).writes ∧ (mkA (0 : Nat) (InS.mk w t s j).t (InS.mk w t s j).s).seen ++ [(↑(mkA (0 : Nat) (InS.mk w t s j).t (InS.mk w t s j).s).writes.length : Int)] = (mkA (0 :
 Nat) s_1.snd.t s_1.snd.s).seen ∧ AVal.nils = AVal.nils ∧ (InS.mk w t s j).s.own.a = s_1.snd.s.own.a ∧ (InS.mk w t s j).s.own.b = s_1.snd.s.own.b ∧ (InS.mk w t s j).s.own.c = s_1.snd.s.own.c ∧ IntKind.i64.wrap ((↑(InS.mk
 w t s j).j : Int) + 1) = (↑s_1.snd.j : Int) ∧ ((0 : Nat) < l.length ∧ l.length ≤ 3 ∧ Ru.mk (tpl (0 : Nat) s_1.fst) s_1.snd.w = runT (List.take (0 : Nat) l) ∧ s_1.snd.t = at3 l (0 : Int) ∧ s_1.snd.t.ops.length ≤ 6 ∧
 s_1.snd.j ≤ s_1.snd.t.ops.length ∧ s_1.snd.s = opsS s_1.snd.w (List.take s_1.snd.j s_1.snd.t.ops)) ∧ (10 : Nat) * (l.length - 0) - s_1.snd.j < 10 * (l.length - 0) - (InS.mk w t s j).j ∧ True) ∧ (b = false → ∃ (b : Bool),
 (b = true → ∃ (s : Tp (1 : Nat) × InS), Stuck "le: sl") ∧ (b = false → ∃ (s : Tp (2 : Nat) × InS), Stuck "le: sl"))) ∧ ((IntKind.i64.wrap ((IntKind.u64.wrap (at2 (InS.mk w t s j).t.ops (↑(InS.mk w t s j).j :
 Int)).a).tmod 3) == 2) = false → ((IntKind.i64.wrap ((IntKind.u64.wrap (at2 (InS.mk w t s j).t.ops (↑(InS.mk w t s j).j : Int)).a).tmod 3) == 1) = true → ((mkA (0 : Nat) (InS.mk w t s j).t (InS.mk w t s
 j).s).reads.length + [Wd.mk (IntKind.i64.wrap ((IntKind.u64.wrap (at2 (InS.mk w t s j).t.ops (↑(InS.mk w t s j).j : Int)).a).tmod 3)) (InS.mk w t s j).s.own.b].length) * 16 ≤ 140737488355328 ∧ ((mkA (0 : Nat) (InS.mk w t
 s j).t (InS.mk w t s j).s).seen.length + [(↑(mkA (0 : Nat) (InS.mk w t s j).t (InS.mk w t s j).s).writes.length : Int)].length) * 8 ≤ 140737488355328 ∧ ∃ (b : Bool), (b = true → ∃ (s_1 : Tp (0 : Nat) × InS), AVal.nils =
 AVal.nils ∧ l = l ∧ AVal.bool true = AVal.bool true ∧ (InS.mk w t s j).w.a = s_1.snd.w.a ∧ (InS.mk w t s j).w.b = s_1.snd.w.b ∧ (InS.mk w t s j).w.c = s_1.snd.w.c ∧ AVal.int IntKind.i64 (0 : Int) = AVal.int IntKind.i64
 (0 : Int) ∧ (InS.mk w t s j).t.thread = s_1.snd.t.thread ∧ (InS.mk w t s j).t.frm = s_1.snd.t.frm ∧ (InS.mk w t s j).t.long = s_1.snd.t.long ∧ (InS.mk w t s j).t.fin = s_1.snd.t.fin ∧ (InS.mk w t s j).t.real =
 s_1.snd.t.real ∧ (InS.mk w t s j).t.ops = s_1.snd.t.ops ∧ (mkA (0 : Nat) (InS.mk w t s j).t (InS.mk w t s j).s).thread = (mkA (0 : Nat) s_1.snd.t s_1.snd.s).thread ∧ (mkA (0 : Nat) (InS.mk w t s j).t (InS.mk w t s
 j).s).tri = (mkA (0 : Nat) s_1.snd.t s_1.snd.s).tri ∧ (mkA (0 : Nat) (InS.mk w t s j).t (InS.mk w t s j).s).real = (mkA (0 : Nat) s_1.snd.t s_1.snd.s).real ∧ (mkA (0 : Nat) (InS.mk w t s j).t (InS.mk w t s j).s).frm =
 (mkA (0 : Nat) s_1.snd.t s_1.snd.s).frm ∧ (mkA (0 : Nat) (InS.mk w t s j).t (InS.mk w t s j).s).unt = (mkA (0 : Nat) s_1.snd.t s_1.snd.s).unt ∧ (mkA (0 : Nat) (InS.mk w t s j).t (InS.mk w t s j).s).fin = (mkA (0 : Nat)
 s_1.snd.t s_1.snd.s).fin ∧ (mkA (0 : Nat) (InS.mk w t s j).t (InS.mk w t s j).s).stamp = (mkA (0 : Nat) s_1.snd.t s_1.snd.s).stamp ∧ (mkA (0 : Nat) (InS.mk w t s j).t (InS.mk w t s j).s).step = (mkA (0 : Nat) s_1.snd.t
 s_1.snd.s).step ∧ (mkA (0 : Nat) (InS.mk w t s j).t (InS.mk w t s j).s).reads ++ [Wd.mk (IntKind.i64.wrap ((IntKind.u64.wrap (at2 (InS.mk w t s j).t.ops (↑(InS.mk w t s j).j : Int)).a).tmod 3)) (InS.mk w t s j).s.own.b]
 = (mkA (0 : Nat) s_1.snd.t s_1.snd.s).reads ∧ (mkA (0 : Nat) (InS.mk w t s j).t (InS.mk w t s j).s).writes = (mkA (0 : Nat) s_1.snd.t s_1.snd.s).writes ∧ (mkA (0 : Nat) (InS.mk w t s j).t (InS.mk w t s j).s).seen ++
 [(↑(mkA (0 : Nat) (InS.mk w t s j).t (InS.mk w t s j).s).writes.length : Int)] = (mkA (0 : Nat) s_1.snd.t s_1.snd.s).seen ∧ AVal.nils = AVal.nils ∧ (InS.mk w t s j).s.own.a = s_1.snd.s.own.a ∧ (InS.mk w t s j).s.own.b =
 s_1.snd.s.own.b ∧ (InS.mk w t s j).s.own.c = s_1.snd.s.own.c ∧ IntKind.i64.wrap ((↑(InS.mk w t s j).j : Int) + 1) = (↑s_1.snd.j : Int) ∧ ((0 : Nat) < l.length ∧ l.length ≤ 3 ∧ Ru.mk (tpl (0 : Nat) s_1.fst) s_1.snd.w =
 runT (List.take (0 : Nat) l) ∧ s_1.snd.t = at3 l (0 : Int) ∧ s_1.snd.t.ops.length ≤ 6 ∧ s_1.snd.j ≤ s_1.snd.t.ops.length ∧ s_1.snd.s = opsS s_1.snd.w (List.take s_1.snd.j s_1.snd.t.ops)) ∧ (10 : Nat) * (l.length - 0) -
 s_1.snd.j < 10 * (l.length - 0) - (InS.mk w t s j).j ∧ True) ∧ (b = false → ∃ (b : Bool), (b = true → ∃ (s : Tp (1 : Nat) × InS), Stuck "le: sl") ∧ (b = false → ∃ (s : Tp (2 : Nat) × InS), Stuck "le: sl"))) ∧
 ((IntKind.i64.wrap ((IntKind.u64.wrap (at2 (InS.mk w t s j).t.ops (↑(InS.mk w t s j).j : Int)).a).tmod 3) == 1) = false → ((mkA (0 : Nat) (InS.mk w t s j).t (InS.mk w t s j).s).reads.length + [Wd.mk (IntKind.i64.wrap
 ((IntKind.u64.wrap (at2 (InS.mk w t s j).t.ops (↑(InS.mk w t s j).j : Int)).a).tmod 3)) (InS.mk w t s j).s.own.a].length) * 16 ≤ 140737488355328 ∧ ((mkA (0 : Nat) (InS.mk w t s j).t (InS.mk w t s j).s).seen.length +
 [(↑(mkA (0 : Nat) (InS.mk w t s j).t (InS.mk w t s j).s).writes.length : Int)].length) * 8 ≤ 140737488355328 ∧ ∃ (b : Bool), (b = true → ∃ (s_1 : Tp (0 : Nat) × InS), AVal.nils = AVal.nils ∧ l = l ∧ AVal.bool true =
 AVal.bool true ∧ (InS.mk w t s j).w.a = s_1.snd.w.a ∧ (InS.mk w t s j).w.b = s_1.snd.w.b ∧ (InS.mk w t s j).w.c = s_1.snd.w.c ∧ AVal.int IntKind.i64 (0 : Int) = AVal.int IntKind.i64 (0 : Int) ∧ (InS.mk w t s j).t.thread
 = s_1.snd.t.thread ∧ (InS.mk w t s j).t.frm = s_1.snd.t.frm ∧ (InS.mk w t s j).t.long = s_1.snd.t.long ∧ (InS.mk w t s j).t.fin = s_1.snd.t.fin ∧ (InS.mk w t s j).t.real = s_1.snd.t.real ∧ (InS.mk w t s j).t.ops =
 s_1.snd.t.ops ∧ (mkA (0 : Nat) (InS.mk w t s j).t (InS.mk w t s j).s).thread = (mkA (0 : Nat) s_1.snd.t s_1.snd.s).thread ∧ (mkA (0 : Nat) (InS.mk w t s j).t (InS.mk w t s j).s).tri = (mkA (0 : Nat) s_1.snd.t
 s_1.snd.s).tri ∧ (mkA (0 : Nat) (InS.mk w t s j).t (InS.mk w t s j).s).real = (mkA (0 : Nat) s_1.snd.t s_1.snd.s).real ∧ (mkA (0 : Nat) (InS.mk w t s j).t (InS.mk w t s j).s).frm = (mkA (0 : Nat) s_1.snd.t s_1.snd.s).frm
 ∧ (mkA (0 : Nat) (InS.mk w t s j).t (InS.mk w t s j).s).unt = (mkA (0 : Nat) s_1.snd.t s_1.snd.s).unt ∧ (mkA (0 : Nat) (InS.mk w t s j).t (InS.mk w t s j).s).fin = (mkA (0 : Nat) s_1.snd.t s_1.snd.s).fin ∧ (mkA (0 : Nat)
 (InS.mk w t s j).t (InS.mk w t s j).s).stamp = (mkA (0 : Nat) s_1.snd.t s_1.snd.s).stamp ∧ (mkA (0 : Nat) (InS.mk w t s j).t (InS.mk w t s j).s).step = (mkA (0 : Nat) s_1.snd.t s_1.snd.s).step ∧ (mkA (0 : Nat) (InS.mk w
 t s j).t (InS.mk w t s j).s).reads ++ [Wd.mk (IntKind.i64.wrap ((IntKind.u64.wrap (at2 (InS.mk w t s j).t.ops (↑(InS.mk w t s j).j : Int)).a).tmod 3)) (InS.mk w t s j).s.own.a] = (mkA (0 : Nat) s_1.snd.t s_1.snd.s).reads
 ∧ (mkA (0 : Nat) (InS.mk w t s j).t (InS.mk w t s j).s).writes = (mkA (0 : Nat) s_1.snd.t s_1.snd.s).writes ∧ (mkA (0 : Nat) (InS.mk w t s j).t (InS.mk w t s j).s).seen ++ [(↑(mkA (0 : Nat) (InS.mk w t s j).t (InS.mk w t
 s j).s).writes.length : Int)] = (mkA (0 : Nat) s_1.snd.t s_1.snd.s).seen ∧ AVal.nils = AVal.nils ∧ (InS.mk w t s j).s.own.a = s_1.snd.s.own.a ∧ (InS.mk w t s j).s.own.b = s_1.snd.s.own.b ∧ (InS.mk w t s j).s.own.c =
 s_1.snd.s.own.c ∧ IntKind.i64.wrap ((↑(InS.mk w t s j).j : Int) + 1) = (↑s_1.snd.j : Int) ∧ ((0 : Nat) < l.length ∧ l.length ≤ 3 ∧ Ru.mk (tpl (0 : Nat) s_1.fst) s_1.snd.w = runT (List.take (0 : Nat) l) ∧ s_1.snd.t = at3
 l (0 : Int) ∧ s_1.snd.t.ops.length ≤ 6 ∧ s_1.snd.j ≤ s_1.snd.t.ops.length ∧ s_1.snd.s = opsS s_1.snd.w (List.take s_1.snd.j s_1.snd.t.ops)) ∧ (10 : Nat) * (l.length - 0) - s_1.snd.j < 10 * (l.length - 0) - (InS.mk w t s
 j).j ∧ True) ∧ (b = false → ∃ (b : Bool), (b = true → ∃ (s : Tp (1 : Nat) × InS), Stuck "le: sl") ∧ (b = false → ∃ (s : Tp (2 : Nat) × InS), Stuck "le: sl")))))) ∧ (decide ((↑(InS.mk w t s j).j : Int) < (↑(InS.mk w t s
 j).t.ops.length : Int)) = false → (((mkA (0 : Nat) (InS.mk w t s j).t (InS.mk w t s j).s).fin == 6) = true → ∃ (b : Bool), (b = true → ∃ (s : Tp (0 : Nat) × W3), Stuck "le: a") ∧ (b = false → ∃ (b : Bool), (b = true → ∃
 (s_1 : Tp (1 : Nat) × W3), (mkA (0 : Nat) (InS.mk w t s j).t (InS.mk w t s j).s).thread = s_1.fst.fst.thread ∧ (mkA (0 : Nat) (InS.mk w t s j).t (InS.mk w t s j).s).tri = s_1.fst.fst.tri ∧ (mkA (0 : Nat) (InS.mk w t s
 j).t (InS.mk w t s j).s).real = s_1.fst.fst.real ∧ (mkA (0 : Nat) (InS.mk w t s j).t (InS.mk w t s j).s).frm = s_1.fst.fst.frm ∧ (mkA (0 : Nat) (InS.mk w t s j).t (InS.mk w t s j).s).unt = s_1.fst.fst.unt ∧ (mkA (0 :
 Nat) (InS.mk w t s j).t (InS.mk w t s j).s).fin = s_1.fst.fst.fin ∧ (mkA (0 : Nat) (InS.mk w t s j).t (InS.mk w t s j).s).stamp = s_1.fst.fst.stamp ∧ (mkA (0 : Nat) (InS.mk w t s j).t (InS.mk w t s j).s).step =
 s_1.fst.fst.step ∧ (mkA (0 : Nat) (InS.mk w t s j).t (InS.mk w t s j).s).reads = s_1.fst.fst.reads ∧ (mkA (0 : Nat) (InS.mk w t s j).t (InS.mk w t s j).s).writes = s_1.fst.fst.writes ∧ (mkA (0 : Nat) (InS.mk w t s j).t
 (InS.mk w t s j).s).seen = s_1.fst.fst.seen ∧ AVal.nils = AVal.nils ∧ l = l ∧ AVal.bool true = AVal.bool true ∧ (InS.mk w t s j).s.own.a = s_1.snd.a ∧ (InS.mk w t s j).s.own.b = s_1.snd.b ∧ (InS.mk w t s j).s.own.c =
 s_1.snd.c ∧ AVal.int IntKind.i64 (1 : Int) = AVal.int IntKind.i64 (1 : Int) ∧ ((1 : Nat) ≤ l.length ∧ l.length ≤ 3 ∧ Ru.mk (tpl (1 : Nat) s_1.fst) s_1.snd = runT (List.take (1 : Nat) l)) ∧ (1 : Nat) + 10 * (l.length - 1)
 < 10 * (l.length - 0) - (InS.mk w t s j).j ∧ True) ∧ (b = false → ∃ (b : Bool), (b = true → ∃ (s : Tp (2 : Nat) × W3), Stuck "le: sl") ∧ (b = false → ∃ (s : Tp (3 : Nat) × W3), Stuck "le: sl")))) ∧ (((mkA (0 : Nat)
 (InS.mk w t s j).t (InS.mk w t s j).s).fin == 6) = false → ∃ (b : Bool), (b = true → ∃ (s : Tp (0 : Nat) × W3), Stuck "le: a") ∧ (b = false → ∃ (b : Bool), (b = true → ∃ (s_1 : Tp (1 : Nat) × W3), (mkA (0 : Nat) (InS.mk
 w t s j).t (InS.mk w t s j).s).thread = s_1.fst.fst.thread ∧ (mkA (0 : Nat) (InS.mk w t s j).t (InS.mk w t s j).s).tri = s_1.fst.fst.tri ∧ (mkA (0 : Nat) (InS.mk w t s j).t (InS.mk w t s j).s).real = s_1.fst.fst.real ∧
 (mkA (0 : Nat) (InS.mk w t s j).t (InS.mk w t s j).s).frm = s_1.fst.fst.frm ∧ (mkA (0 : Nat) (InS.mk w t s j).t (InS.mk w t s j).s).unt = s_1.fst.fst.unt ∧ (mkA (0 : Nat) (InS.mk w t s j).t (InS.mk w t s j).s).fin =
 s_1.fst.fst.fin ∧ (mkA (0 : Nat) (InS.mk w t s j).t (InS.mk w t s j).s).stamp = s_1.fst.fst.stamp ∧ (mkA (0 : Nat) (InS.mk w t s j).t (InS.mk w t s j).s).step = s_1.fst.fst.step ∧ (mkA (0 : Nat) (InS.mk w t s j).t
 (InS.mk w t s j).s).reads = s_1.fst.fst.reads ∧ (mkA (0 : Nat) (InS.mk w t s j).t (InS.mk w t s j).s).writes = s_1.fst.fst.writes ∧ (mkA (0 : Nat) (InS.mk w t s j).t (InS.mk w t s j).s).seen = s_1.fst.fst.seen ∧
 AVal.nils = AVal.nils ∧ l = l ∧ AVal.bool true = AVal.bool true ∧ (InS.mk w t s j).w.a = s_1.snd.a ∧ (InS.mk w t s j).w.b = s_1.snd.b ∧ (InS.mk w t s j).w.c = s_1.snd.c ∧ AVal.int IntKind.i64 (1 : Int) = AVal.int
 IntKind.i64 (1 : Int) ∧ ((1 : Nat) ≤ l.length ∧ l.length ≤ 3 ∧ Ru.mk (tpl (1 : Nat) s_1.fst) s_1.snd = runT (List.take (1 : Nat) l)) ∧ (1 : Nat) + 10 * (l.length - 1) < 10 * (l.length - 0) - (InS.mk w t s j).j ∧ True) ∧
 (b = false → ∃ (b : Bool), (b = true → ∃ (s : Tp (2 : Nat) × W3), Stuck "le: sl") ∧ (b = false → ∃ (s : Tp (3 : Nat) × W3), Stuck "le: sl")))))) := by kernel_rfl
theorem as_111 (l : List Try) (d : List Att) (w : W3) (t : Try) (s : OpS) (j : Nat) (x0 : Att) : Go.Sy.Tree.holds (cutVC F (lookC []) 200 Tryd.f10 b10 (asF l d) 11 (asC11 l 1) (((x0, ()), ⟨w, t, s, j⟩) : Tp 1 × InS)) = (
 (decide ((↑(InS.mk w t s j).j : Int) < (↑(InS.mk w t s j).t.ops.length : Int)) = true → ((0 : Int) ≤ (↑(InS.mk w t s j).j : Int) ∧ (↑(InS.mk w t s j).j : Int) < (↑(InS.mk w t s j).t.ops.length : Int)) ∧
 (((IntKind.u64.wrap (at2 (InS.mk w t s j).t.ops (↑(InS.mk w t s j).j : Int)).kind).tmod 2 == 1) = true → ((mkA (1 : Nat) (InS.mk w t s j).t (InS.mk w t s j).s).writes.length + [Wd.mk (IntKind.i64.wrap ((IntKind.u64.wrap
 (at2 (InS.mk w t s j).t.ops (↑(InS.mk w t s j).j : Int)).a).tmod 3)) (IntKind.i64.wrap ((IntKind.u64.wrap (at2 (InS.mk w t s j).t.ops (↑(InS.mk w t s j).j : Int)).v).tmod 3))].length) * 16 ≤ 140737488355328 ∧ ((0 : Int)
 ≤ IntKind.i64.wrap ((IntKind.u64.wrap (at2 (InS.mk w t s j).t.ops (↑(InS.mk w t s j).j : Int)).a).tmod 3) ∧ IntKind.i64.wrap ((IntKind.u64.wrap (at2 (InS.mk w t s j).t.ops (↑(InS.mk w t s j).j : Int)).a).tmod 3) < 3) ∧
 ((IntKind.i64.wrap ((IntKind.u64.wrap (at2 (InS.mk w t s j).t.ops (↑(InS.mk w t s j).j : Int)).a).tmod 3) == 2) = true → ∃ (b : Bool), (b = true → ∃ (s : Tp (0 : Nat) × InS), Stuck "le: a") ∧ (b = false → ∃ (b : Bool),
 (b = true → ∃ (s_1 : Tp (1 : Nat) × InS), x0.thread = s_1.fst.fst.thread ∧ x0.tri = s_1.fst.fst.tri ∧ x0.real = s_1.fst.fst.real ∧ x0.frm = s_1.fst.fst.frm ∧ x0.unt = s_1.fst.fst.unt ∧ x0.fin = s_1.fst.fst.fin ∧ x0.stamp
 = s_1.fst.fst.stamp ∧ x0.step = s_1.fst.fst.step ∧ x0.reads = s_1.fst.fst.reads ∧ x0.writes = s_1.fst.fst.writes ∧ x0.seen = s_1.fst.fst.seen ∧ AVal.nils = AVal.nils ∧ l = l ∧ AVal.bool true = AVal.bool true ∧ (InS.mk w
 t s j).w.a = s_1.snd.w.a ∧ (InS.mk w t s j).w.b = s_1.snd.w.b ∧ (InS.mk w t s j).w.c = s_1.snd.w.c ∧ AVal.int IntKind.i64 (1 : Int) = AVal.int IntKind.i64 (1 : Int) ∧ (InS.mk w t s j).t.thread = s_1.snd.t.thread ∧
 (InS.mk w t s j).t.frm = s_1.snd.t.frm ∧ (InS.mk w t s j).t.long = s_1.snd.t.long ∧ (InS.mk w t s j).t.fin = s_1.snd.t.fin ∧ (InS.mk w t s j).t.real = s_1.snd.t.real ∧ (InS.mk w t s j).t.ops = s_1.snd.t.ops ∧ (mkA (1 :
 Nat) (InS.mk w t s j).t (InS.mk w t s j).s).thread = (mkA (1 : Nat) s_1.snd.t s_1.snd.s).thread ∧ (mkA (1 : Nat) (InS.mk w t s j).t (InS.mk w t s j).s).tri = (mkA (1 : Nat) s_1.snd.t s_1.snd.s).tri ∧ (mkA (1 : Nat)
 (InS.mk w t s j).t (InS.mk w t s j).s).real = (mkA (1 : Nat) s_1.snd.t s_1.snd.s).real ∧ (mkA (1 : Nat) (InS.mk w t s j).t (InS.mk w t s j).s).frm = (mkA (1 : Nat) s_1.snd.t s_1.snd.s).frm ∧ (mkA (1 : Nat) (InS.mk w t s
 j).t (InS.mk w t s j).s).unt = (mkA (1 : Nat) s_1.snd.t s_1.snd.s).unt ∧ (mkA (1 : Nat) (InS.mk w t s j).t (InS.mk w t s j).s).fin = (mkA (1 : Nat) s_1.snd.t s_1.snd.s).fin ∧ (mkA (1 : Nat) (InS.mk w t s j).t (InS.mk w t
 s j).s).stamp = (mkA (1 : Nat) s_1.snd.t s_1.snd.s).stamp ∧ (mkA (1 : Nat) (InS.mk w t s j).t (InS.mk w t s j).s).step = (mkA (1 : Nat) s_1.snd.t s_1.snd.s).step ∧ (mkA (1 : Nat) (InS.mk w t s j).t (InS.mk w t s
 j).s).reads = (mkA (1 : Nat) s_1.snd.t s_1.snd.s).reads ∧ (mkA (1 : Nat) (InS.mk w t s j).t (InS.mk w t s j).s).writes ++ [Wd.mk (IntKind.i64.wrap ((IntKind.u64.wrap (at2 (InS.mk w t s j).t.ops (↑(InS.mk w t s j).j :
 Int)).a).tmod 3)) (IntKind.i64.wrap ((IntKind.u64.wrap (at2 (InS.mk w t s j).t.ops (↑(InS.mk w t s j).j : Int)).v).tmod 3))] = (mkA (1 : Nat) s_1.snd.t s_1.snd.s).writes ∧ (mkA (1 : Nat) (InS.mk w t s j).t (InS.mk w t s
 j).s).seen = (mkA (1 : Nat) s_1.snd.t s_1.snd.s).seen ∧ AVal.nils = AVal.nils ∧ (InS.mk w t s j).s.own.a = s_1.snd.s.own.a ∧ (InS.mk w t s j).s.own.b = s_1.snd.s.own.b ∧ IntKind.i64.wrap ((IntKind.u64.wrap (at2 (InS.mk w
 t s j).t.ops (↑(InS.mk w t s j).j : Int)).v).tmod 3) = s_1.snd.s.own.c ∧ IntKind.i64.wrap ((↑(InS.mk w t s j).j : Int) + 1) = (↑s_1.snd.j : Int) ∧ ((1 : Nat) < l.length ∧ l.length ≤ 3 ∧ Ru.mk (tpl (1 : Nat) s_1.fst)
 s_1.snd.w = runT (List.take (1 : Nat) l) ∧ s_1.snd.t = at3 l (1 : Int) ∧ s_1.snd.t.ops.length ≤ 6 ∧ s_1.snd.j ≤ s_1.snd.t.ops.length ∧ s_1.snd.s = opsS s_1.snd.w (List.take s_1.snd.j s_1.snd.t.ops)) ∧ (10 : Nat) *
 (l.length - 1) - s_1.snd.j < 10 * (l.length - 1) - (InS.mk w t s j).j ∧ True) ∧ (b = false → ∃ (s : Tp (2 : Nat) × InS), Stuck "le: sl"))) ∧ ((IntKind.i64.wrap ((IntKind.u64.wrap (at2 (InS.mk w t s j).t.ops (↑(InS.mk w t
 s j).j : Int)).a).tmod 3) == 2) = false → ((IntKind.i64.wrap ((IntKind.u64.wrap (at2 (InS.mk w t s j).t.ops (↑(InS.mk w t s j).j : Int)).a).tmod 3) == 1) = true → ∃ (b : Bool), (b = true → ∃ (s : Tp (0 : Nat) × InS),
 Stuck "le: a") ∧ (b = false → ∃ (b : Bool), (b = true → ∃ (s_1 : Tp (1 : Nat) × InS), x0.thread = s_1.fst.fst.thread ∧ x0.tri = s_1.fst.fst.tri ∧ x0.real = s_1.fst.fst.real ∧ x0.frm = s_1.fst.fst.frm ∧ x0.unt =
 s_1.fst.fst.unt ∧ x0.fin = s_1.fst.fst.fin ∧ x0.stamp = s_1.fst.fst.stamp ∧ x0.step = s_1.fst.fst.step ∧ x0.reads = s_1.fst.fst.reads ∧ x0.writes = s_1.fst.fst.writes ∧ x0.seen = s_1.fst.fst.seen ∧ AVal.nils = AVal.nils
 ∧ l = l ∧ AVal.bool true = AVal.bool true ∧ (InS.mk w t s j).w.a = s_1.snd.w.a ∧ (InS.mk w t s j).w.b = s_1.snd.w.b ∧ (InS.mk w t s j).w.c = s_1.snd.w.c ∧ AVal.int IntKind.i64 (1 : Int) = AVal.int IntKind.i64 (1 : Int) ∧
 (InS.mk w t s j).t.thread = s_1.snd.t.thread ∧ (InS.mk w t s j).t.frm = s_1.snd.t.frm ∧ (InS.mk w t s j).t.long = s_1.snd.t.long ∧ (InS.mk w t s j).t.fin = s_1.snd.t.fin ∧ (InS.mk w t s j).t.real = s_1.snd.t.real ∧
 (InS.mk w t s j).t.ops = s_1.snd.t.ops ∧ (mkA (1 : Nat) (InS.mk w t s j).t (InS.mk w t s j).s).thread = (mkA (1 : Nat) s_1.snd.t s_1.snd.s).thread ∧ (mkA (1 : Nat) (InS.mk w t s j).t (InS.mk w t s j).s).tri = (mkA (1 :
 Nat) s_1.snd.t s_1.snd.s).tri ∧ (mkA (1 : Nat) (InS.mk w t s j).t (InS.mk w t s j).s).real = (mkA (1 : Nat) s_1.snd.t s_1.snd.s).real ∧ (mkA (1 : Nat) (InS.mk w t s j).t (InS.mk w t s j).s).frm = (mkA (1 : Nat) s_1.snd.t
 s_1.snd.s).frm ∧ (mkA (1 : Nat) (InS.mk w t s j).t (InS.mk w t s j).s).unt = (mkA (1 : Nat) s_1.snd.t s_1.snd.s).unt ∧ (mkA (1 : Nat) (InS.mk w t s j).t (InS.mk w t s j).s).fin = (mkA (1 : Nat) s_1.snd.t s_1.snd.s).fin ∧
 (mkA (1 : Nat) (InS.mk w t s j).t (InS.mk w t s j).s).stamp = (mkA (1 : Nat) s_1.snd.t s_1.snd.s).stamp ∧ (mkA (1 : Nat) (InS.mk w t s j).t (InS.mk w t s j).s).step = (mkA (1 : Nat) s_1.snd.t s_1.snd.s).step ∧ (mkA (1 :
 Nat) (InS.mk w t s j).t (InS.mk w t s j).s).reads = (mkA (1 : Nat) s_1.snd.t s_1.snd.s).reads ∧ (mkA (1 : Nat) (InS.mk w t s j).t (InS.mk w t s j).s).writes ++ [Wd.mk (IntKind.i64.wrap ((IntKind.u64.wrap (at2 (InS.mk w t
 s j).t.ops (↑(InS.mk w t s j).j : Int)).a).tmod 3)) (IntKind.i64.wrap ((IntKind.u64.wrap (at2 (InS.mk w t s j).t.ops (↑(InS.mk w t s j).j : Int)).v).tmod 3))] = (mkA (1 : Nat) s_1.snd.t s_1.snd.s).writes ∧ (mkA (1 : Nat)
 (InS.mk w t s j).t (InS.mk w t s j).s).seen = (mkA (1 : Nat) s_1.snd.t s_1.snd.s).seen ∧ AVal.nils = AVal.nils ∧ (InS.mk w t s j).s.own.a = s_1.snd.s.own.a ∧ IntKind.i64.wrap ((IntKind.u64.wrap (at2 (InS.mk w t s
 j).t.ops (↑(InS.mk w t s j).j : Int)).v).tmod 3) = s_1.snd.s.own.b ∧ (InS.mk w t s j).s.own.c = s_1.snd.s.own.c ∧ IntKind.i64.wrap ((↑(InS.mk w t s j).j : Int) + 1) = (↑s_1.snd.j : Int) ∧ ((1 : Nat) < l.length ∧ l.length
 ≤ 3 ∧ Ru.mk (tpl (1 : Nat) s_1.fst) s_1.snd.w = runT (List.take (1 : Nat) l) ∧ s_1.snd.t = at3 l (1 : Int) ∧ s_1.snd.t.ops.length ≤ 6 ∧ s_1.snd.j ≤ s_1.snd.t.ops.length ∧ s_1.snd.s = opsS s_1.snd.w (List.take s_1.snd.j
 s_1.snd.t.ops)) ∧ (10 : Nat) * (l.length - 1) - s_1.snd.j < 10 * (l.length - 1) - (InS.mk w t s j).j ∧ True) ∧ (b = false → ∃ (s : Tp (2 : Nat) × InS), Stuck "le: sl"))) ∧ ((IntKind.i64.wrap ((IntKind.u64.wrap (at2
 (InS.mk w t s j).t.ops (↑(InS.mk w t s j).j : Int)).a).tmod 3) == 1) = false → ∃ (b : Bool), (b = true → ∃ (s : Tp (0 : Nat) × InS), Stuck "le: a") ∧ (b = false → ∃ (b : Bool), (b = true → ∃ (s_1 : Tp (1 : Nat) × InS),
 x0.thread = s_1.fst.fst.thread ∧ x0.tri = s_1.fst.fst.tri ∧ x0.real = s_1.fst.fst.real ∧ x0.frm = s_1.fst.fst.frm ∧ x0.unt = s_1.fst.fst.unt ∧ x0.fin = s_1.fst.fst.fin ∧ x0.stamp = s_1.fst.fst.stamp ∧ x0.step =
 s_1.fst.fst.step ∧ x0.reads = s_1.fst.fst.reads ∧ x0.writes = s_1.fst.fst.writes ∧ x0.seen = s_1.fst.fst.seen ∧ AVal.nils = AVal.nils ∧ l = l ∧ AVal.bool true = AVal.bool true ∧ (InS.mk w t s j).w.a = s_1.snd.w.a ∧
 (InS.mk w t s j).w.b = s_1.snd.w.b ∧ (InS.mk w t s j).w.c = s_1.snd.w.c ∧ AVal.int IntKind.i64 (1 : Int) = AVal.int IntKind.i64 (1 : Int) ∧ (InS.mk w t s j).t.thread = s_1.snd.t.thread ∧ (InS.mk w t s j).t.frm =
 s_1.snd.t.frm ∧ (InS.mk w t s j).t.long = s_1.snd.t.long ∧ (InS.mk w t s j).t.fin = s_1.snd.t.fin ∧ (InS.mk w t s j).t.real = s_1.snd.t.real ∧ (InS.mk w t s j).t.ops = s_1.snd.t.ops ∧ (mkA (1 : Nat) (InS.mk w t s j).t
 (InS.mk w t s j).s).thread = (mkA (1 : Nat) s_1.snd.t s_1.snd.s).thread ∧ (mkA (1 : Nat) (InS.mk w t s j).t (InS.mk w t s j).s).tri = (mkA (1 : Nat) s_1.snd.t s_1.snd.s).tri ∧ (mkA (1 : Nat) (InS.mk w t s j).t (InS.mk w
 t s j).s).real = (mkA (1 : Nat) s_1.snd.t s_1.snd.s).real ∧ (mkA (1 : Nat) (InS.mk w t s j).t (InS.mk w t s j).s).frm = (mkA (1 : Nat) s_1.snd.t s_1.snd.s).frm ∧ (mkA (1 : Nat) (InS.mk w t s j).t (InS.mk w t s j).s).unt
 = (mkA (1 : Nat) s_1.snd.t s_1.snd.s).unt ∧ (mkA (1 : Nat) (InS.mk w t s j).t (InS.mk w t s j).s).fin = (mkA (1 : Nat) s_1.snd.t s_1.snd.s).fin ∧ (mkA (1 : Nat) (InS.mk w t s j).t (InS.mk w t s j).s).stamp = (mkA (1 :
 Nat) s_1.snd.t s_1.snd.s).stamp ∧ (mkA (1 : Nat) (InS.mk w t s j).t (InS.mk w t s j).s).step = (mkA (1 : Nat) s_1.snd.t s_1.snd.s).step ∧ (mkA (1 : Nat) (InS.mk w t s j).t (InS.mk w t s j).s).reads = (mkA (1 : Nat)
 s_1.snd.t s_1.snd.s).reads ∧ (mkA (1 : Nat) (InS.mk w t s j).t (InS.mk w t s j).s).writes ++ [Wd.mk (IntKind.i64.wrap ((IntKind.u64.wrap (at2 (InS.mk w t s j).t.ops (↑(InS.mk w t s j).j : Int)).a).tmod 3))
 (IntKind.i64.wrap ((IntKind.u64.wrap (at2 (InS.mk w t s j).t.ops (↑(InS.mk w t s j).j : Int)).v).tmod 3))] = (mkA (1 : Nat) s_1.snd.t s_1.snd.s).writes ∧ (mkA (1 : Nat) (InS.mk w t s j).t (InS.mk w t s j).s).seen = (mkA
 (1 : Nat) s_1.snd.t s_1.snd.s).seen ∧ AVal.nils = AVal.nils ∧ IntKind.i64.wrap ((IntKind.u64.wrap (at2 (InS.mk w t s j).t.ops (↑(InS.mk w t s j).j : Int)).v).tmod 3) = s_1.snd.s.own.a ∧ (InS.mk w t s j).s.own.b =
 s_1.snd.s.own.b ∧ (InS.mk w t s j).s.own.c = s_1.snd.s.own.c ∧ IntKind.i64.wrap ((↑(InS.mk w t s j).j : Int) + 1) = (↑s_1.snd.j : Int) ∧ ((1 : Nat) < l.length ∧ l.length ≤ 3 ∧ Ru.mk (tpl (1 : Nat) s_1.fst) s_1.snd.w =
 runT (List.take (1 : Nat) l) ∧ s_1.snd.t = at3 l (1 : Int) ∧ s_1.snd.t.ops.length ≤ 6 ∧ s_1.snd.j ≤ s_1.snd.t.ops.length ∧ s_1.snd.s = opsS s_1.snd.w (List.take s_1.snd.j s_1.snd.t.ops)) ∧ (10 : Nat) * (l.length - 1) -
 s_1.snd.j < 10 * (l.length - 1) - (InS.mk w t s j).j ∧ True) ∧ (b = false → ∃ (s : Tp (2 : Nat) × InS), Stuck "le: sl"))))) ∧ (((IntKind.u64.wrap (at2 (InS.mk w t s j).t.ops (↑(InS.mk w t s j).j : Int)).kind).tmod 2 ==
 1) = false → ((0 : Int) ≤ IntKind.i64.wrap ((IntKind.u64.wrap (at2 (InS.mk w t s j).t.ops (↑(InS.mk w t s j).j : Int)).a).tmod 3) ∧ IntKind.i64.wrap ((IntKind.u64.wrap (at2 (InS.mk w t s j).t.ops (↑(InS.mk w t s j).j :
 Int)).a).tmod 3) < 3) ∧ ((IntKind.i64.wrap ((IntKind.u64.wrap (at2 (InS.mk w t s j).t.ops (↑(InS.mk w t s j).j : Int)).a).tmod 3) == 2) = true → ((mkA (1 : Nat) (InS.mk w t s j).t (InS.mk w t s j).s).reads.length +
 [Wd.mk (IntKind.i64.wrap ((IntKind.u64.wrap (at2 (InS.mk w t s j).t.ops (↑(InS.mk w t s j).j : Int)).a).tmod 3)) (InS.mk w t s j).s.own.c].length) * 16 ≤ 140737488355328 ∧ ((mkA (1 : Nat) (InS.mk w t s j).t (InS.mk w t s
 j).s).seen.length + [(↑(mkA (1 : Nat) (InS.mk w t s j).t (InS.mk w t s j).s).writes.length : Int)].length) * 8 ≤ 140737488355328 ∧ ∃ (b : Bool), (b = true → ∃ (s : Tp (0 : Nat) × InS), Stuck "le: a") ∧ (b = false → ∃ (b
 : Bool), (b = true → ∃ (s_1 : Tp (1 : Nat) × InS), x0.thread = s_1.fst.fst.thread ∧ x0.tri = s_1.fst.fst.tri ∧ x0.real = s_1.fst.fst.real ∧ x0.frm = s_1.fst.fst.frm ∧ x0.unt = s_1.fst.fst.unt ∧ x0.fin = s_1.fst.fst.fin ∧
 x0.stamp = s_1.fst.fst.stamp ∧ x0.step = s_1.fst.fst.step ∧ x0.reads = s_1.fst.fst.reads ∧ x0.writes = s_1.fst.fst.writes ∧ x0.seen = s_1.fst.fst.seen ∧ AVal.nils = AVal.nils ∧ l = l ∧ AVal.bool true = AVal.bool true ∧
 (InS.mk w t s j).w.a = s_1.snd.w.a ∧ (InS.mk w t s j).w.b = s_1.snd.w.b ∧ (InS.mk w t s j).w.c = s_1.snd.w.c ∧ AVal.int IntKind.i64 (1 : Int) = AVal.int IntKind.i64 (1 : Int) ∧ (InS.mk w t s j).t.thread =
 s_1.snd.t.thread ∧ (InS.mk w t s j).t.frm = s_1.snd.t.frm ∧ (InS.mk w t s j).t.long = s_1.snd.t.long ∧ (InS.mk w t s j).t.fin = s_1.snd.t.fin ∧ (InS.mk w t s j).t.real = s_1.snd.t.real ∧ (InS.mk w t s j).t.ops =
 s_1.snd.t.ops ∧ (mkA (1 : Nat) (InS.mk w t s j).t (InS.mk w t s j).s).thread = (mkA (1 : Nat) s_1.snd.t s_1.snd.s).thread ∧ (mkA (1 : Nat) (InS.mk w t s j).t (InS.mk w t s j).s).tri = (mkA (1 : Nat) s_1.snd.t
 s_1.snd.s).tri ∧ (mkA (1 : Nat) (InS.mk w t s j).t (InS.mk w t s j).s).real = (mkA (1 : Nat) s_1.snd.t s_1.snd.s).real ∧ (mkA (1 : Nat) (InS.mk w t s j).t (InS.mk w t s j).s).frm = (mkA (1 : Nat) s_1.snd.t s_1.snd.s).frm
 ∧ (mkA (1 : Nat) (InS.mk w t s j).t (InS.mk w t s j).s).unt = (mkA (1 : Nat) s_1.snd.t s_1.snd.s).unt ∧ (mkA (1 : Nat) (InS.mk w t s j).t (InS.mk w t s j).s).fin = (mkA (1 : Nat) s_1.snd.t s_1.snd.s).fin ∧ (mkA (1 : Nat)
 (InS.mk w t s j).t (InS.mk w t s j).s).stamp = (mkA (1 : Nat) s_1.snd.t s_1.snd.s).stamp ∧ (mkA (1 : Nat) (InS.mk w t s j).t (InS.mk w t s j).s).step = (mkA (1 : Nat) s_1.snd.t s_1.snd.s).step ∧ (mkA (1 : Nat) (InS.mk w
 t s j).t (InS.mk w t s j).s).reads ++ [Wd.mk (IntKind.i64.wrap ((IntKind.u64.wrap (at2 (InS.mk w t s j).t.ops (↑(InS.mk w t s j).j : Int)).a).tmod 3)) (InS.mk w t s j).s.own.c] = (mkA (1 : Nat) s_1.snd.t s_1.snd.s).reads
 ∧ (mkA (1 : Nat) (InS.mk w t s j).t (InS.mk w t s j).s).writes = (mkA (1 : Nat) s_1.snd.t s_1.snd.s).writes ∧ (mkA (1 : Nat) (InS.mk w t s j).t (InS.mk w t s j).s).seen ++ [(↑(mkA (1 : Nat) (InS.mk w t s j).t (InS.mk w t
 s j).s).writes.length : Int)] = (mkA (1 : Nat) s_1.snd.t s_1.snd.s).seen ∧ AVal.nils = AVal.nils ∧ (InS.mk w t s j).s.own.a = s_1.snd.s.own.a ∧ (InS.mk w t s j).s.own.b = s_1.snd.s.own.b ∧ (InS.mk w t s j).s.own.c =
 s_1.snd.s.own.c ∧ IntKind.i64.wrap ((↑(InS.mk w t s j).j : Int) + 1) = (↑s_1.snd.j : Int) ∧ ((1 : Nat) < l.length ∧ l.length ≤ 3 ∧ Ru.mk (tpl (1 : Nat) s_1.fst) s_1.snd.w = runT (List.take (1 : Nat) l) ∧ s_1.snd.t = at3
 l (1 : Int) ∧ s_1.snd.t.ops.length ≤ 6 ∧ s_1.snd.j ≤ s_1.snd.t.ops.length ∧ s_1.snd.s = opsS s_1.snd.w (List.take s_1.snd.j s_1.snd.t.ops)) ∧ (10 : Nat) * (l.length - 1) - s_1.snd.j < 10 * (l.length - 1) - (InS.mk w t s
 j).j ∧ True) ∧ (b = false → ∃ (s : Tp (2 : Nat) × InS), Stuck "le: sl"))) ∧ ((IntKind.i64.wrap ((IntKind.u64.wrap (at2 (InS.mk w t s j).t.ops (↑(InS.mk w t s j).j : Int)).a).tmod 3) == 2) = false → ((IntKind.i64.wrap
 ((IntKind.u64.wrap (at2 (InS.mk w t s j).t.ops (↑(InS.mk w t s j).j : Int)).a).tmod 3) == 1) = true → ((mkA (1 : Nat) (InS.mk w t s j).t (InS.mk w t s j).s).reads.length + [Wd.mk (IntKind.i64.wrap ((IntKind.u64.wrap (at2
 (InS.mk w t s j).t.ops (↑(InS.mk w t s j).j : Int)).a).tmod 3)) (InS.mk w t s j).s.own.b].length) * 16 ≤ 140737488355328 ∧ ((mkA (1 : Nat) (InS.mk w t s j).t (InS.mk w t s j).s).seen.length + [(↑(mkA (1 : Nat) (InS.mk w
 t s j).t (InS.mk w t s j).s).writes.length : Int)].length) * 8 ≤ 140737488355328 ∧ ∃ (b : Bool), (b = true → ∃ (s : Tp (0 : Nat) × InS), Stuck "le: a") ∧ (b = false → ∃ (b : Bool), (b = true → ∃ (s_1 : Tp (1 : Nat) ×
 InS), x0.thread = s_1.fst.fst.thread ∧ x0.tri = s_1.fst.fst.tri ∧ x0.real = s_1.fst.fst.real ∧ x0.frm = s_1.fst.fst.frm ∧ x0.unt = s_1.fst.fst.unt ∧ x0.fin = s_1.fst.fst.fin ∧ x0.stamp = s_1.fst.fst.stamp ∧ x0.step =
 s_1.fst.fst.step ∧ x0.reads = s_1.fst.fst.reads ∧ x0.writes = s_1.fst.fst.writes ∧ x0.seen = s_1.fst.fst.seen ∧ AVal.nils = AVal.nils ∧ l = l ∧ AVal.bool true = AVal.bool true ∧ (InS.mk w t s j).w.a = s_1.snd.w.a ∧
 (InS.mk w t s j).w.b = s_1.snd.w.b ∧ (InS.mk w t s j).w.c = s_1.snd.w.c ∧ AVal.int IntKind.i64 (1 : Int) = AVal.int IntKind.i64 (1 : Int) ∧ (InS.mk w t s j).t.thread = s_1.snd.t.thread ∧ (InS.mk w t s j).t.frm =
 s_1.snd.t.frm ∧ (InS.mk w t s j).t.long = s_1.snd.t.long ∧ (InS.mk w t s j).t.fin = s_1.snd.t.fin ∧ (InS.mk w t s j).t.real = s_1.snd.t.real ∧ (InS.mk w t s j).t.ops = s_1.snd.t.ops ∧ (mkA (1 : Nat) (InS.mk w t s j).t
 (InS.mk w t s j).s).thread = (mkA (1 : Nat) s_1.snd.t s_1.snd.s).thread ∧ (mkA (1 : Nat) (InS.mk w t s j).t (InS.mk w t s j).s).tri = (mkA (1 : Nat) s_1.snd.t s_1.snd.s).tri ∧ (mkA (1 : Nat) (InS.mk w t s j).t (InS.mk w
 t s j).s).real = (mkA (1 : Nat) s_1.snd.t s_1.snd.s).real ∧ (mkA (1 : Nat) (InS.mk w t s j).t (InS.mk w t s j).s).frm = (mkA (1 : Nat) s_1.snd.t s_1.snd.s).frm ∧ (mkA (1 : Nat) (InS.mk w t s j).t (InS.mk w t s j).s).unt
 = (mkA (1 : Nat) s_1.snd.t s_1.snd.s).unt ∧ (mkA (1 : Nat) (InS.mk w t s j).t (InS.mk w t s j).s).fin = (mkA (1 : Nat) s_1.snd.t s_1.snd.s).fin ∧ (mkA (1 : Nat) (InS.mk w t s j).t (InS.mk w t s j).s).stamp = (mkA (1 :
 Nat) s_1.snd.t s_1.snd.s).stamp ∧ (mkA (1 : Nat) (InS.mk w t s j).t (InS.mk w t s j).s).step = (mkA (1 : Nat) s_1.snd.t s_1.snd.s).step ∧ (mkA (1 : Nat) (InS.mk w t s j).t (InS.mk w t s j).s).reads ++ [Wd.mk
 (IntKind.i64.wrap ((IntKind.u64.wrap (at2 (InS.mk w t s j).t.ops (↑(InS.mk w t s j).j : Int)).a).tmod 3)) (InS.mk w t s j).s.own.b] = (mkA (1 : Nat) s_1.snd.t s_1.snd.s).reads ∧ (mkA (1 : Nat) (InS.mk w t s j).t (InS.mk
 w t s j).s).writes = (mkA (1 : Nat) s_1.snd.t s_1.snd.s).writes ∧ (mkA (1 : Nat) (InS.mk w t s j).t (InS.mk w t s j).s).seen ++ [(↑(mkA (1 : Nat) (InS.mk w t s j).t (InS.mk w t s j).s).writes.length : Int)] = (mkA (1 :
 Nat) s_1.snd.t s_1.snd.s).seen ∧ AVal.nils = AVal.nils ∧ (InS.mk w t s j).s.own.a = s_1.snd.s.own.a ∧ (InS.mk w t s j).s.own.b = s_1.snd.s.own.b ∧ (InS.mk w t s j).s.own.c = s_1.snd.s.own.c ∧ IntKind.i64.wrap ((↑(InS.mk
 w t s j).j : Int) + 1) = (↑s_1.snd.j : Int) ∧ ((1 : Nat) < l.length ∧ l.length ≤ 3 ∧ Ru.mk (tpl (1 : Nat) s_1.fst) s_1.snd.w = runT (List.take (1 : Nat) l) ∧ s_1.snd.t = at3 l (1 : Int) ∧ s_1.snd.t.ops.length ≤ 6 ∧
 s_1.snd.j ≤ s_1.snd.t.ops.length ∧ s_1.snd.s = opsS s_1.snd.w (List.take s_1.snd.j s_1.snd.t.ops)) ∧ (10 : Nat) * (l.length - 1) - s_1.snd.j < 10 * (l.length - 1) - (InS.mk w t s j).j ∧ True) ∧ (b = false → ∃ (s : Tp (2
 : Nat) × InS), Stuck "le: sl"))) ∧ ((IntKind.i64.wrap ((IntKind.u64.wrap (at2 (InS.mk w t s j).t.ops (↑(InS.mk w t s j).j : Int)).a).tmod 3) == 1) = false → ((mkA (1 : Nat) (InS.mk w t s j).t (InS.mk w t s
 j).s).reads.length + [Wd.mk (IntKind.i64.wrap ((IntKind.u64.wrap (at2 (InS.mk w t s j).t.ops (↑(InS.mk w t s j).j : Int)).a).tmod 3)) (InS.mk w t s j).s.own.a].length) * 16 ≤ 140737488355328 ∧ ((mkA (1 : Nat) (InS.mk w t
 s j).t (InS.mk w t s j).s).seen.length + [(↑(mkA (1 : Nat) (InS.mk w t s j).t (InS.mk w t s j).s).writes.length : Int)].length) * 8 ≤ 140737488355328 ∧ ∃ (b : Bool), (b = true → ∃ (s : Tp (0 : Nat) × InS), Stuck "le: a")
 ∧ (b = false → ∃ (b : Bool), (b = true → ∃ (s_1 : Tp (1 : Nat) × InS), x0.thread = s_1.fst.fst.thread ∧ x0.tri = s_1.fst.fst.tri ∧ x0.real = s_1.fst.fst.real ∧ x0.frm = s_1.fst.fst.frm ∧ x0.unt = s_1.fst.fst.unt ∧ x0.fin
 = s_1.fst.fst.fin ∧ x0.stamp = s_1.fst.fst.stamp ∧ x0.step = s_1.fst.fst.step ∧ x0.reads = s_1.fst.fst.reads ∧ x0.writes = s_1.fst.fst.writes ∧ x0.seen = s_1.fst.fst.seen ∧ AVal.nils = AVal.nils ∧ l = l ∧ AVal.bool true
 = AVal.bool true ∧ (InS.mk w t s j).w.a = s_1.snd.w.a ∧ (InS.mk w t s j).w.b = s_1.snd.w.b ∧ (InS.mk w t s j).w.c = s_1.snd.w.c ∧ AVal.int IntKind.i64 (1 : Int) = AVal.int IntKind.i64 (1 : Int) ∧ (InS.mk w t s
 j).t.thread = s_1.snd.t.thread ∧ (InS.mk w t s j).t.frm = s_1.snd.t.frm ∧ (InS.mk w t s j).t.long = s_1.snd.t.long ∧ (InS.mk w t s j).t.fin = s_1.snd.t.fin ∧ (InS.mk w t s j).t.real = s_1.snd.t.real ∧ (InS.mk w t s
 j).t.ops = s_1.snd.t.ops ∧ (mkA (1 : Nat) (InS.mk w t s j).t (InS.mk w t s j).s).thread = (mkA (1 : Nat) s_1.snd.t s_1.snd.s).thread ∧ (mkA (1 : Nat) (InS.mk w t s j).t (InS.mk w t s j).s).tri = (mkA (1 : Nat) s_1.snd.t
 s_1.snd.s).tri ∧ (mkA (1 : Nat) (InS.mk w t s j).t (InS.mk w t s j).s).real = (mkA (1 : Nat) s_1.snd.t s_1.snd.s).real ∧ (mkA (1 : Nat) (InS.mk w t s j).t (InS.mk w t s j).s).frm = (mkA (1 : Nat) s_1.snd.t s_1.snd.s).frm
 ∧ (mkA (1 : Nat) (InS.mk w t s j).t (InS.mk w t s j).s).unt = (mkA (1 : Nat) s_1.snd.t s_1.snd.s).unt ∧ (mkA (1 : Nat) (InS.mk w t s j).t (InS.mk w t s j).s).fin = (mkA (1 : Nat) s_1.snd.t s_1.snd.s).fin ∧ (mkA (1 : Nat)
 (InS.mk w t s j).t (InS.mk w t s j).s).stamp = (mkA (1 : Nat) s_1.snd.t s_1.snd.s).stamp ∧ (mkA (1 : Nat) (InS.mk w t s j).t (InS.mk w t s j).s).step = (mkA (1 : Nat) s_1.snd.t s_1.snd.s).step ∧ (mkA (1 : Nat) (InS.mk w
 t s j).t (InS.mk w t s j).s).reads ++ [Wd.mk (IntKind.i64.wrap ((IntKind.u64.wrap (at2 (InS.mk w t s j).t.ops (↑(InS.mk w t s j).j : Int)).a).tmod 3)) (InS.mk w t s j).s.own.a] = (mkA (1 : Nat) s_1.snd.t s_1.snd.s).reads
 ∧ (mkA (1 : Nat) (InS.mk w t s j).t (InS.mk w t s j).s).writes = (mkA (1 : Nat) s_1.snd.t s_1.snd.s).writes ∧ (mkA (1 : Nat) (InS.mk w t s j).t (InS.mk w t s j).s).seen ++ [(↑(mkA (1 : Nat) (InS.mk w t s j).t (InS.mk w t
 s j).s).writes.length : Int)] = (mkA (1 : Nat) s_1.snd.t s_1.snd.s).seen ∧ AVal.nils = AVal.nils ∧ (InS.mk w t s j).s.own.a = s_1.snd.s.own.a ∧ (InS.mk w t s j).s.own.b = s_1.snd.s.own.b ∧ (InS.mk w t s j).s.own.c =
 s_1.snd.s.own.c ∧ IntKind.i64.wrap ((↑(InS.mk w t s j).j : Int) + 1) = (↑s_1.snd.j : Int) ∧ ((1 : Nat) < l.length ∧ l.length ≤ 3 ∧ Ru.mk (tpl (1 : Nat) s_1.fst) s_1.snd.w = runT (List.take (1 : Nat) l) ∧ s_1.snd.t = at3
 l (1 : Int) ∧ s_1.snd.t.ops.length ≤ 6 ∧ s_1.snd.j ≤ s_1.snd.t.ops.length ∧ s_1.snd.s = opsS s_1.snd.w (List.take s_1.snd.j s_1.snd.t.ops)) ∧ (10 : Nat) * (l.length - 1) - s_1.snd.j < 10 * (l.length - 1) - (InS.mk w t s
 j).j ∧ True) ∧ (b = false → ∃ (s : Tp (2 : Nat) × InS), Stuck "le: sl")))))) ∧ (decide ((↑(InS.mk w t s j).j : Int) < (↑(InS.mk w t s j).t.ops.length : Int)) = false → (((mkA (1 : Nat) (InS.mk w t s j).t (InS.mk w t s
 j).s).fin == 6) = true → ∃ (b : Bool), (b = true → ∃ (s : Tp (0 : Nat) × W3), Stuck "le: a") ∧ (b = false → ∃ (b : Bool), (b = true → ∃ (s : Tp (1 : Nat) × W3), Stuck "le: sl") ∧ (b = false → ∃ (b : Bool), (b = true → ∃
 (s_1 : Tp (2 : Nat) × W3), x0.thread = s_1.fst.fst.thread ∧ x0.tri = s_1.fst.fst.tri ∧ x0.real = s_1.fst.fst.real ∧ x0.frm = s_1.fst.fst.frm ∧ x0.unt = s_1.fst.fst.unt ∧ x0.fin = s_1.fst.fst.fin ∧ x0.stamp =
 s_1.fst.fst.stamp ∧ x0.step = s_1.fst.fst.step ∧ x0.reads = s_1.fst.fst.reads ∧ x0.writes = s_1.fst.fst.writes ∧ x0.seen = s_1.fst.fst.seen ∧ AVal.nils = AVal.nils ∧ (mkA (1 : Nat) (InS.mk w t s j).t (InS.mk w t s
 j).s).thread = s_1.fst.snd.fst.thread ∧ (mkA (1 : Nat) (InS.mk w t s j).t (InS.mk w t s j).s).tri = s_1.fst.snd.fst.tri ∧ (mkA (1 : Nat) (InS.mk w t s j).t (InS.mk w t s j).s).real = s_1.fst.snd.fst.real ∧ (mkA (1 : Nat)
 (InS.mk w t s j).t (InS.mk w t s j).s).frm = s_1.fst.snd.fst.frm ∧ (mkA (1 : Nat) (InS.mk w t s j).t (InS.mk w t s j).s).unt = s_1.fst.snd.fst.unt ∧ (mkA (1 : Nat) (InS.mk w t s j).t (InS.mk w t s j).s).fin =
 s_1.fst.snd.fst.fin ∧ (mkA (1 : Nat) (InS.mk w t s j).t (InS.mk w t s j).s).stamp = s_1.fst.snd.fst.stamp ∧ (mkA (1 : Nat) (InS.mk w t s j).t (InS.mk w t s j).s).step = s_1.fst.snd.fst.step ∧ (mkA (1 : Nat) (InS.mk w t s
 j).t (InS.mk w t s j).s).reads = s_1.fst.snd.fst.reads ∧ (mkA (1 : Nat) (InS.mk w t s j).t (InS.mk w t s j).s).writes = s_1.fst.snd.fst.writes ∧ (mkA (1 : Nat) (InS.mk w t s j).t (InS.mk w t s j).s).seen =
 s_1.fst.snd.fst.seen ∧ AVal.nils = AVal.nils ∧ l = l ∧ AVal.bool true = AVal.bool true ∧ (InS.mk w t s j).s.own.a = s_1.snd.a ∧ (InS.mk w t s j).s.own.b = s_1.snd.b ∧ (InS.mk w t s j).s.own.c = s_1.snd.c ∧ AVal.int
 IntKind.i64 (2 : Int) = AVal.int IntKind.i64 (2 : Int) ∧ ((2 : Nat) ≤ l.length ∧ l.length ≤ 3 ∧ Ru.mk (tpl (2 : Nat) s_1.fst) s_1.snd = runT (List.take (2 : Nat) l)) ∧ (1 : Nat) + 10 * (l.length - 2) < 10 * (l.length -
 1) - (InS.mk w t s j).j ∧ True) ∧ (b = false → ∃ (s : Tp (3 : Nat) × W3), Stuck "le: sl")))) ∧ (((mkA (1 : Nat) (InS.mk w t s j).t (InS.mk w t s j).s).fin == 6) = false → ∃ (b : Bool), (b = true → ∃ (s : Tp (0 : Nat) ×
 W3), Stuck "le: a") ∧ (b = false → ∃ (b : Bool), (b = true → ∃ (s : Tp (1 : Nat) × W3), Stuck "le: sl") ∧ (b = false → ∃ (b : Bool), (b = true → ∃ (s_1 : Tp (2 : Nat) × W3), x0.thread = s_1.fst.fst.thread ∧ x0.tri =
 s_1.fst.fst.tri ∧ x0.real = s_1.fst.fst.real ∧ x0.frm = s_1.fst.fst.frm ∧ x0.unt = s_1.fst.fst.unt ∧ x0.fin = s_1.fst.fst.fin ∧ x0.stamp = s_1.fst.fst.stamp ∧ x0.step = s_1.fst.fst.step ∧ x0.reads = s_1.fst.fst.reads ∧
 x0.writes = s_1.fst.fst.writes ∧ x0.seen = s_1.fst.fst.seen ∧ AVal.nils = AVal.nils ∧ (mkA (1 : Nat) (InS.mk w t s j).t (InS.mk w t s j).s).thread = s_1.fst.snd.fst.thread ∧ (mkA (1 : Nat) (InS.mk w t s j).t (InS.mk w t
 s j).s).tri = s_1.fst.snd.fst.tri ∧ (mkA (1 : Nat) (InS.mk w t s j).t (InS.mk w t s j).s).real = s_1.fst.snd.fst.real ∧ (mkA (1 : Nat) (InS.mk w t s j).t (InS.mk w t s j).s).frm = s_1.fst.snd.fst.frm ∧ (mkA (1 : Nat)
 (InS.mk w t s j).t (InS.mk w t s j).s).unt = s_1.fst.snd.fst.unt ∧ (mkA (1 : Nat) (InS.mk w t s j).t (InS.mk w t s j).s).fin = s_1.fst.snd.fst.fin ∧ (mkA (1 : Nat) (InS.mk w t s j).t (InS.mk w t s j).s).stamp =
 s_1.fst.snd.fst.stamp ∧ (mkA (1 : Nat) (InS.mk w t s j).t (InS.mk w t s j).s).step = s_1.fst.snd.fst.step ∧ (mkA (1 : Nat) (InS.mk w t s j).t (InS.mk w t s j).s).reads = s_1.fst.snd.fst.reads ∧ (mkA (1 : Nat) (InS.mk w t
 s j).t (InS.mk w t s j).s).writes = s_1.fst.snd.fst.writes ∧ (mkA (1 : Nat) (InS.mk w t s j).t (InS.mk w t s j).s).seen = s_1.fst.snd.fst.seen ∧ AVal.nils = AVal.nils ∧ l = l ∧ AVal.bool true = AVal.bool true ∧ (InS.mk w
 t s j).w.a = s_1.snd.a ∧ (InS.mk w t s j).w.b = s_1.snd.b ∧ (InS.mk w t s j).w.c = s_1.snd.c ∧ AVal.int IntKind.i64 (2 : Int) = AVal.int IntKind.i64 (2 : Int) ∧ ((2 : Nat) ≤ l.length ∧ l.length ≤ 3 ∧ Ru.mk (tpl (2 : Nat)
 s_1.fst) s_1.snd = runT (List.take (2 : Nat) l)) ∧ (1 : Nat) + 10 * (l.length - 2) < 10 * (l.length - 1) - (InS.mk w t s j).j ∧ True) ∧ (b = false → ∃ (s : Tp (3 : Nat) × W3), Stuck "le: sl")))))) := by kernel_rfl
theorem as_112 (l : List Try) (d : List Att) (w : W3) (t : Try) (s : OpS) (j : Nat) (x0 : Att) (x1 : Att) : Go.Sy.Tree.holds (cutVC F (lookC []) 200 Tryd.f10 b10 (asF l d) 11 (asC11 l 2) (((x0, x1, ()), ⟨w, t, s, j⟩) : Tp
 2 × InS)) = ( (decide ((↑(InS.mk w t s j).j : Int) < (↑(InS.mk w t s j).t.ops.length : Int)) = true → ((0 : Int) ≤ (↑(InS.mk w t s j).j : Int) ∧ (↑(InS.mk w t s j).j : Int) < (↑(InS.mk w t s j).t.ops.length : Int)) ∧
 (((IntKind.u64.wrap (at2 (InS.mk w t s j).t.ops (↑(InS.mk w t s j).j : Int)).kind).tmod 2 == 1) = true → ((mkA (2 : Nat) (InS.mk w t s j).t (InS.mk w t s j).s).writes.length + [Wd.mk (IntKind.i64.wrap ((IntKind.u64.wrap
 (at2 (InS.mk w t s j).t.ops (↑(InS.mk w t s j).j : Int)).a).tmod 3)) (IntKind.i64.wrap ((IntKind.u64.wrap (at2 (InS.mk w t s j).t.ops (↑(InS.mk w t s j).j : Int)).v).tmod 3))].length) * 16 ≤ 140737488355328 ∧ ((0 : Int)
 ≤ IntKind.i64.wrap ((IntKind.u64.wrap (at2 (InS.mk w t s j).t.ops (↑(InS.mk w t s j).j : Int)).a).tmod 3) ∧ IntKind.i64.wrap ((IntKind.u64.wrap (at2 (InS.mk w t s j).t.ops (↑(InS.mk w t s j).j : Int)).a).tmod 3) < 3) ∧
 ((IntKind.i64.wrap ((IntKind.u64.wrap (at2 (InS.mk w t s j).t.ops (↑(InS.mk w t s j).j : Int)).a).tmod 3) == 2) = true → ∃ (b : Bool), (b = true → ∃ (s : Tp (0 : Nat) × InS), Stuck "le: a") ∧ (b = false → ∃ (b : Bool),
 (b = true → ∃ (s : Tp (1 : Nat) × InS), Stuck "le: sl") ∧ (b = false → ∃ (s_1 : Tp (2 : Nat) × InS), x0.thread = s_1.fst.fst.thread ∧ x0.tri = s_1.fst.fst.tri ∧ x0.real = s_1.fst.fst.real ∧ x0.frm = s_1.fst.fst.frm ∧
 x0.unt = s_1.fst.fst.unt ∧ x0.fin = s_1.fst.fst.fin ∧ x0.stamp = s_1.fst.fst.stamp ∧ x0.step = s_1.fst.fst.step ∧ x0.reads = s_1.fst.fst.reads ∧ x0.writes = s_1.fst.fst.writes ∧ x0.seen = s_1.fst.fst.seen ∧ AVal.nils =
 AVal.nils ∧ x1.thread = s_1.fst.snd.fst.thread ∧ x1.tri = s_1.fst.snd.fst.tri ∧ x1.real = s_1.fst.snd.fst.real ∧ x1.frm = s_1.fst.snd.fst.frm ∧ x1.unt = s_1.fst.snd.fst.unt ∧ x1.fin = s_1.fst.snd.fst.fin ∧ x1.stamp =
 s_1.fst.snd.fst.stamp ∧ x1.step = s_1.fst.snd.fst.step ∧ x1.reads = s_1.fst.snd.fst.reads ∧ x1.writes = s_1.fst.snd.fst.writes ∧ x1.seen = s_1.fst.snd.fst.seen ∧ AVal.nils = AVal.nils ∧ l = l ∧ AVal.bool true = AVal.bool
 true ∧ (InS.mk w t s j).w.a = s_1.snd.w.a ∧ (InS.mk w t s j).w.b = s_1.snd.w.b ∧ (InS.mk w t s j).w.c = s_1.snd.w.c ∧ AVal.int IntKind.i64 (2 : Int) = AVal.int IntKind.i64 (2 : Int) ∧ (InS.mk w t s j).t.thread =
 s_1.snd.t.thread ∧ (InS.mk w t s j).t.frm = s_1.snd.t.frm ∧ (InS.mk w t s j).t.long = s_1.snd.t.long ∧ (InS.mk w t s j).t.fin = s_1.snd.t.fin ∧ (InS.mk w t s j).t.real = s_1.snd.t.real ∧ (InS.mk w t s j).t.ops =
 s_1.snd.t.ops ∧ (mkA (2 : Nat) (InS.mk w t s j).t (InS.mk w t s j).s).thread = (mkA (2 : Nat) s_1.snd.t s_1.snd.s).thread ∧ (mkA (2 : Nat) (InS.mk w t s j).t (InS.mk w t s j).s).tri = (mkA (2 : Nat) s_1.snd.t
 s_1.snd.s).tri ∧ (mkA (2 : Nat) (InS.mk w t s j).t (InS.mk w t s j).s).real = (mkA (2 : Nat) s_1.snd.t s_1.snd.s).real ∧ (mkA (2 : Nat) (InS.mk w t s j).t (InS.mk w t s j).s).frm = (mkA (2 : Nat) s_1.snd.t s_1.snd.s).frm
 ∧ (mkA (2 : Nat) (InS.mk w t s j).t (InS.mk w t s j).s).unt = (mkA (2 : Nat) s_1.snd.t s_1.snd.s).unt ∧ (mkA (2 : Nat) (InS.mk w t s j).t (InS.mk w t s j).s).fin = (mkA (2 : Nat) s_1.snd.t s_1.snd.s).fin ∧ (mkA (2 : Nat)
 (InS.mk w t s j).t (InS.mk w t s j).s).stamp = (mkA (2 : Nat) s_1.snd.t s_1.snd.s).stamp ∧ (mkA (2 : Nat) (InS.mk w t s j).t (InS.mk w t s j).s).step = (mkA (2 : Nat) s_1.snd.t s_1.snd.s).step ∧ (mkA (2 : Nat) (InS.mk w
 t s j).t (InS.mk w t s j).s).reads = (mkA (2 : Nat) s_1.snd.t s_1.snd.s).reads ∧ (mkA (2 : Nat) (InS.mk w t s j).t (InS.mk w t s j).s).writes ++ [Wd.mk (IntKind.i64.wrap ((IntKind.u64.wrap (at2 (InS.mk w t s j).t.ops
 (↑(InS.mk w t s j).j : Int)).a).tmod 3)) (IntKind.i64.wrap ((IntKind.u64.wrap (at2 (InS.mk w t s j).t.ops (↑(InS.mk w t s j).j : Int)).v).tmod 3))] = (mkA (2 : Nat) s_1.snd.t s_1.snd.s).writes ∧ (mkA (2 : Nat) (InS.mk w
 t s j).t (InS.mk w t s j).s).seen = (mkA (2 : Nat) s_1.snd.t s_1.snd.s).seen ∧ AVal.nils = AVal.nils ∧ (InS.mk w t s j).s.own.a = s_1.snd.s.own.a ∧ (InS.mk w t s j).s.own.b = s_1.snd.s.own.b ∧ IntKind.i64.wrap
 ((IntKind.u64.wrap (at2 (InS.mk w t s j).t.ops (↑(InS.mk w t s j).j : Int)).v).tmod 3) = s_1.snd.s.own.c ∧ IntKind.i64.wrap ((↑(InS.mk w t s j).j : Int) + 1) = (↑s_1.snd.j : Int) ∧ ((2 : Nat) < l.length ∧ l.length ≤ 3 ∧
 Ru.mk (tpl (2 : Nat) s_1.fst) s_1.snd.w = runT (List.take (2 : Nat) l) ∧ s_1.snd.t = at3 l (2 : Int) ∧ s_1.snd.t.ops.length ≤ 6 ∧ s_1.snd.j ≤ s_1.snd.t.ops.length ∧ s_1.snd.s = opsS s_1.snd.w (List.take s_1.snd.j
 s_1.snd.t.ops)) ∧ (10 : Nat) * (l.length - 2) - s_1.snd.j < 10 * (l.length - 2) - (InS.mk w t s j).j ∧ True))) ∧ ((IntKind.i64.wrap ((IntKind.u64.wrap (at2 (InS.mk w t s j).t.ops (↑(InS.mk w t s j).j : Int)).a).tmod 3)
 == 2) = false → ((IntKind.i64.wrap ((IntKind.u64.wrap (at2 (InS.mk w t s j).t.ops (↑(InS.mk w t s j).j : Int)).a).tmod 3) == 1) = true → ∃ (b : Bool), (b = true → ∃ (s : Tp (0 : Nat) × InS), Stuck "le: a") ∧ (b = false →
 ∃ (b : Bool), (b = true → ∃ (s : Tp (1 : Nat) × InS), Stuck "le: sl") ∧ (b = false → ∃ (s_1 : Tp (2 : Nat) × InS), x0.thread = s_1.fst.fst.thread ∧ x0.tri = s_1.fst.fst.tri ∧ x0.real = s_1.fst.fst.real ∧ x0.frm =
 s_1.fst.fst.frm ∧ x0.unt = s_1.fst.fst.unt ∧ x0.fin = s_1.fst.fst.fin ∧ x0.stamp = s_1.fst.fst.stamp ∧ x0.step = s_1.fst.fst.step ∧ x0.reads = s_1.fst.fst.reads ∧ x0.writes = s_1.fst.fst.writes ∧ x0.seen =
 s_1.fst.fst.seen ∧ AVal.nils = AVal.nils ∧ x1.thread = s_1.fst.snd.fst.thread ∧ x1.tri = s_1.fst.snd.fst.tri ∧ x1.real = s_1.fst.snd.fst.real ∧ x1.frm = s_1.fst.snd.fst.frm ∧ x1.unt = s_1.fst.snd.fst.unt ∧ x1.fin =
 s_1.fst.snd.fst.fin ∧ x1.stamp = s_1.fst.snd.fst.stamp ∧ x1.step = s_1.fst.snd.fst.step ∧ x1.reads = s_1.fst.snd.fst.reads ∧ x1.writes = s_1.fst.snd.fst.writes ∧ x1.seen = s_1.fst.snd.fst.seen ∧ AVal.nils = AVal.nils ∧ l
 = l ∧ AVal.bool true = AVal.bool true ∧ (InS.mk w t s j).w.a = s_1.snd.w.a ∧ (InS.mk w t s j).w.b = s_1.snd.w.b ∧ (InS.mk w t s j).w.c = s_1.snd.w.c ∧ AVal.int IntKind.i64 (2 : Int) = AVal.int IntKind.i64 (2 : Int) ∧
 (InS.mk w t s j).t.thread = s_1.snd.t.thread ∧ (InS.mk w t s j).t.frm = s_1.snd.t.frm ∧ (InS.mk w t s j).t.long = s_1.snd.t.long ∧ (InS.mk w t s j).t.fin = s_1.snd.t.fin ∧ (InS.mk w t s j).t.real = s_1.snd.t.real ∧
 (InS.mk w t s j).t.ops = s_1.snd.t.ops ∧ (mkA (2 : Nat) (InS.mk w t s j).t (InS.mk w t s j).s).thread = (mkA (2 : Nat) s_1.snd.t s_1.snd.s).thread ∧ (mkA (2 : Nat) (InS.mk w t s j).t (InS.mk w t s j).s).tri = (mkA (2 :
 Nat) s_1.snd.t s_1.snd.s).tri ∧ (mkA (2 : Nat) (InS.mk w t s j).t (InS.mk w t s j).s).real = (mkA (2 : Nat) s_1.snd.t s_1.snd.s).real ∧ (mkA (2 : Nat) (InS.mk w t s j).t (InS.mk w t s j).s).frm = (mkA (2 : Nat) s_1.snd.t
 s_1.snd.s).frm ∧ (mkA (2 : Nat) (InS.mk w t s j).t (InS.mk w t s j).s).unt = (mkA (2 : Nat) s_1.snd.t s_1.snd.s).unt ∧ (mkA (2 : Nat) (InS.mk w t s j).t (InS.mk w t s j).s).fin = (mkA (2 : Nat) s_1.snd.t s_1.snd.s).fin ∧
 (mkA (2 : Nat) (InS.mk w t s j).t (InS.mk w t s j).s).stamp = (mkA (2 : Nat) s_1.snd.t s_1.snd.s).stamp ∧ (mkA (2 : Nat) (InS.mk w t s j).t (InS.mk w t s j).s).step = (mkA (2 : Nat) s_1.snd.t s_1.snd.s).step ∧ (mkA (2 :
 Nat) (InS.mk w t s j).t (InS.mk w t s j).s).reads = (mkA (2 : Nat) s_1.snd.t s_1.snd.s).reads ∧ (mkA (2 : Nat) (InS.mk w t s j).t (InS.mk w t s j).s).writes ++ [Wd.mk (IntKind.i64.wrap ((IntKind.u64.wrap (at2 (InS.mk w t
 s j).t.ops (↑(InS.mk w t s j).j : Int)).a).tmod 3)) (IntKind.i64.wrap ((IntKind.u64.wrap (at2 (InS.mk w t s j).t.ops (↑(InS.mk w t s j).j : Int)).v).tmod 3))] = (mkA (2 : Nat) s_1.snd.t s_1.snd.s).writes ∧ (mkA (2 : Nat)
 (InS.mk w t s j).t (InS.mk w t s j).s).seen = (mkA (2 : Nat) s_1.snd.t s_1.snd.s).seen ∧ AVal.nils = AVal.nils ∧ (InS.mk w t s j).s.own.a = s_1.snd.s.own.a ∧ IntKind.i64.wrap ((IntKind.u64.wrap (at2 (InS.mk w t s
 j).t.ops (↑(InS.mk w t s j).j : Int)).v).tmod 3) = s_1.snd.s.own.b ∧ (InS.mk w t s j).s.own.c = s_1.snd.s.own.c ∧ IntKind.i64.wrap ((↑(InS.mk w t s j).j : Int) + 1) = (↑s_1.snd.j : Int) ∧ ((2 : Nat) < l.length ∧ l.length
 ≤ 3 ∧ Ru.mk (tpl (2 : Nat) s_1.fst) s_1.snd.w = runT (List.take (2 : Nat) l) ∧ s_1.snd.t = at3 l (2 : Int) ∧ s_1.snd.t.ops.length ≤ 6 ∧ s_1.snd.j ≤ s_1.snd.t.ops.length ∧ s_1.snd.s = opsS s_1.snd.w (List.take s_1.snd.j
 s_1.snd.t.ops)) ∧ (10 : Nat) * (l.length - 2) - s_1.snd.j < 10 * (l.length - 2) - (InS.mk w t s j).j ∧ True))) ∧ ((IntKind.i64.wrap ((IntKind.u64.wrap (at2 (InS.mk w t s j).t.ops (↑(InS.mk w t s j).j : Int)).a).tmod 3)
 == 1) = false → ∃ (b : Bool), (b = true → ∃ (s : Tp (0 : Nat) × InS), Stuck "le: a") ∧ (b = false → ∃ (b : Bool), (b = true → ∃ (s : Tp (1 : Nat) × InS), Stuck "le: sl") ∧ (b = false → ∃ (s_1 : Tp (2 : Nat) × InS),
 x0.thread = s_1.fst.fst.thread ∧ x0.tri = s_1.fst.fst.tri ∧ x0.real = s_1.fst.fst.real ∧ x0.frm = s_1.fst.fst.frm ∧ x0.unt = s_1.fst.fst.unt ∧ x0.fin = s_1.fst.fst.fin ∧ x0.stamp = s_1.fst.fst.stamp ∧ x0.step =
 s_1.fst.fst.step ∧ x0.reads = s_1.fst.fst.reads ∧ x0.writes = s_1.fst.fst.writes ∧ x0.seen = s_1.fst.fst.seen ∧ AVal.nils = AVal.nils ∧ x1.thread = s_1.fst.snd.fst.thread ∧ x1.tri = s_1.fst.snd.fst.tri ∧ x1.real =
 s_1.fst.snd.fst.real ∧ x1.frm = s_1.fst.snd.fst.frm ∧ x1.unt = s_1.fst.snd.fst.unt ∧ x1.fin = s_1.fst.snd.fst.fin ∧ x1.stamp = s_1.fst.snd.fst.stamp ∧ x1.step = s_1.fst.snd.fst.step ∧ x1.reads = s_1.fst.snd.fst.reads ∧
 x1.writes = s_1.fst.snd.fst.writes ∧ x1.seen = s_1.fst.snd.fst.seen ∧ AVal.nils = AVal.nils ∧ l = l ∧ AVal.bool true = AVal.bool true ∧ (InS.mk w t s j).w.a = s_1.snd.w.a ∧ (InS.mk w t s j).w.b = s_1.snd.w.b ∧ (InS.mk w
 t s j).w.c = s_1.snd.w.c ∧ AVal.int IntKind.i64 (2 : Int) = AVal.int IntKind.i64 (2 : Int) ∧ (InS.mk w t s j).t.thread = s_1.snd.t.thread ∧ (InS.mk w t s j).t.frm = s_1.snd.t.frm ∧ (InS.mk w t s j).t.long =
 s_1.snd.t.long ∧ (InS.mk w t s j).t.fin = s_1.snd.t.fin ∧ (InS.mk w t s j).t.real = s_1.snd.t.real ∧ (InS.mk w t s j).t.ops = s_1.snd.t.ops ∧ (mkA (2 : Nat) (InS.mk w t s j).t (InS.mk w t s j).s).thread = (mkA (2 : Nat)
 s_1.snd.t s_1.snd.s).thread ∧ (mkA (2 : Nat) (InS.mk w t s j).t (InS.mk w t s j).s).tri = (mkA (2 : Nat) s_1.snd.t s_1.snd.s).tri ∧ (mkA (2 : Nat) (InS.mk w t s j).t (InS.mk w t s j).s).real = (mkA (2 : Nat) s_1.snd.t
 s_1.snd.s).real ∧ (mkA (2 : Nat) (InS.mk w t s j).t (InS.mk w t s j).s).frm = (mkA (2 : Nat) s_1.snd.t s_1.snd.s).frm ∧ (mkA (2 : Nat) (InS.mk w t s j).t (InS.mk w t s j).s).unt = (mkA (2 : Nat) s_1.snd.t s_1.snd.s).unt
 ∧ (mkA (2 : Nat) (InS.mk w t s j).t (InS.mk w t s j).s).fin = (mkA (2 : Nat) s_1.snd.t s_1.snd.s).fin ∧ (mkA (2 : Nat) (InS.mk w t s j).t (InS.mk w t s j).s).stamp = (mkA (2 : Nat) s_1.snd.t s_1.snd.s).stamp ∧ (mkA (2 :
 Nat) (InS.mk w t s j).t (InS.mk w t s j).s).step = (mkA (2 : Nat) s_1.snd.t s_1.snd.s).step ∧ (mkA (2 : Nat) (InS.mk w t s j).t (InS.mk w t s j).s).reads = (mkA (2 : Nat) s_1.snd.t s_1.snd.s).reads ∧ (mkA (2 : Nat)
 (InS.mk w t s j).t (InS.mk w t s j).s).writes ++ [Wd.mk (IntKind.i64.wrap ((IntKind.u64.wrap (at2 (InS.mk w t s j).t.ops (↑(InS.mk w t s j).j : Int)).a).tmod 3)) (IntKind.i64.wrap ((IntKind.u64.wrap (at2 (InS.mk w t s
 j).t.ops (↑(InS.mk w t s j).j : Int)).v).tmod 3))] = (mkA (2 : Nat) s_1.snd.t s_1.snd.s).writes ∧ (mkA (2 : Nat) (InS.mk w t s j).t (InS.mk w t s j).s).seen = (mkA (2 : Nat) s_1.snd.t s_1.snd.s).seen ∧ AVal.nils =
 AVal.nils ∧ IntKind.i64.wrap ((IntKind.u64.wrap (at2 (InS.mk w t s j).t.ops (↑(InS.mk w t s j).j : Int)).v).tmod 3) = s_1.snd.s.own.a ∧ (InS.mk w t s j).s.own.b = s_1.snd.s.own.b ∧ (InS.mk w t s j).s.own.c =
 s_1.snd.s.own.c ∧ IntKind.i64.wrap ((↑(InS.mk w t s j).j : Int) + 1) = (↑s_1.snd.j : Int) ∧ ((2 : Nat) < l.length ∧ l.length ≤ 3 ∧ Ru.mk (tpl (2 : Nat) s_1.fst) s_1.snd.w = runT (List.take (2 : Nat) l) ∧ s_1.snd.t = at3
 l (2 : Int) ∧ s_1.snd.t.ops.length ≤ 6 ∧ s_1.snd.j ≤ s_1.snd.t.ops.length ∧ s_1.snd.s = opsS s_1.snd.w (List.take s_1.snd.j s_1.snd.t.ops)) ∧ (10 : Nat) * (l.length - 2) - s_1.snd.j < 10 * (l.length - 2) - (InS.mk w t s
 j).j ∧ True))))) ∧ (((IntKind.u64.wrap (at2 (InS.mk w t s j).t.ops (↑(InS.mk w t s j).j : Int)).kind).tmod 2 == 1) = false → ((0 : Int) ≤ IntKind.i64.wrap ((IntKind.u64.wrap (at2 (InS.mk w t s j).t.ops (↑(InS.mk w t s
 j).j : Int)).a).tmod 3) ∧ IntKind.i64.wrap ((IntKind.u64.wrap (at2 (InS.mk w t s j).t.ops (↑(InS.mk w t s j).j : Int)).a).tmod 3) < 3) ∧ ((IntKind.i64.wrap ((IntKind.u64.wrap (at2 (InS.mk w t s j).t.ops (↑(InS.mk w t s
 j).j : Int)).a).tmod 3) == 2) = true → ((mkA (2 : Nat) (InS.mk w t s j).t (InS.mk w t s j).s).reads.length + [Wd.mk (IntKind.i64.wrap ((IntKind.u64.wrap (at2 (InS.mk w t s j).t.ops (↑(InS.mk w t s j).j : Int)).a).tmod
 3)) (InS.mk w t s j).s.own.c].length) * 16 ≤ 140737488355328 ∧ ((mkA (2 : Nat) (InS.mk w t s j).t (InS.mk w t s j).s).seen.length + [(↑(mkA (2 : Nat) (InS.mk w t s j).t (InS.mk w t s j).s).writes.length : Int)].length) *
 8 ≤ 140737488355328 ∧ ∃ (b : Bool), (b = true → ∃ (s : Tp (0 : Nat) × InS), Stuck "le: a") ∧ (b = false → ∃ (b : Bool), (b = true → ∃ (s : Tp (1 : Nat) × InS), Stuck "le: sl") ∧ (b = false → ∃ (s_1 : Tp (2 : Nat) × InS),
 x0.thread = s_1.fst.fst.thread ∧ x0.tri = s_1.fst.fst.tri ∧ x0.real = s_1.fst.fst.real ∧ x0.frm = s_1.fst.fst.frm ∧ x0.unt = s_1.fst.fst.unt ∧ x0.fin = s_1.fst.fst.fin ∧ x0.stamp = s_1.fst.fst.stamp ∧ x0.step =
 s_1.fst.fst.step ∧ x0.reads = s_1.fst.fst.reads ∧ x0.writes = s_1.fst.fst.writes ∧ x0.seen = s_1.fst.fst.seen ∧ AVal.nils = AVal.nils ∧ x1.thread = s_1.fst.snd.fst.thread ∧ x1.tri = s_1.fst.snd.fst.tri ∧ x1.real =
 s_1.fst.snd.fst.real ∧ x1.frm = s_1.fst.snd.fst.frm ∧ x1.unt = s_1.fst.snd.fst.unt ∧ x1.fin = s_1.fst.snd.fst.fin ∧ x1.stamp = s_1.fst.snd.fst.stamp ∧ x1.step = s_1.fst.snd.fst.step ∧ x1.reads = s_1.fst.snd.fst.reads ∧
 x1.writes = s_1.fst.snd.fst.writes ∧ x1.seen = s_1.fst.snd.fst.seen ∧ AVal.nils = AVal.nils ∧ l = l ∧ AVal.bool true = AVal.bool true ∧ (InS.mk w t s j).w.a = s_1.snd.w.a ∧ (InS.mk w t s j).w.b = s_1.snd.w.b ∧ (InS.mk w
 t s j).w.c = s_1.snd.w.c ∧ AVal.int IntKind.i64 (2 : Int) = AVal.int IntKind.i64 (2 : Int) ∧ (InS.mk w t s j).t.thread = s_1.snd.t.thread ∧ (InS.mk w t s j).t.frm = s_1.snd.t.frm ∧ (InS.mk w t s j).t.long =
 s_1.snd.t.long ∧ (InS.mk w t s j).t.fin = s_1.snd.t.fin ∧ (InS.mk w t s j).t.real = s_1.snd.t.real ∧ (InS.mk w t s j).t.ops = s_1.snd.t.ops ∧ (mkA (2 : Nat) (InS.mk w t s j).t (InS.mk w t s j).s).thread = (mkA (2 : Nat)
 s_1.snd.t s_1.snd.s).thread ∧ (mkA (2 : Nat) (InS.mk w t s j).t (InS.mk w t s j).s).tri = (mkA (2 : Nat) s_1.snd.t s_1.snd.s).tri ∧ (mkA (2 : Nat) (InS.mk w t s j).t (InS.mk w t s j).s).real = (mkA (2 : Nat) s_1.snd.t
 s_1.snd.s).real ∧ (mkA (2 : Nat) (InS.mk w t s j).t (InS.mk w t s j).s).frm = (mkA (2 : Nat) s_1.snd.t s_1.snd.s).frm ∧ (mkA (2 : Nat) (InS.mk w t s j).t (InS.mk w t s j).s).unt = (mkA (2 : Nat) s_1.snd.t s_1.snd.s).unt
 ∧ (mkA (2 : Nat) (InS.mk w t s j).t (InS.mk w t s j).s).fin = (mkA (2 : Nat) s_1.snd.t s_1.snd.s).fin ∧ (mkA (2 : Nat) (InS.mk w t s j).t (InS.mk w t s j).s).stamp = (mkA (2 : Nat) s_1.snd.t s_1.snd.s).stamp ∧ (mkA (2 :
 Nat) (InS.mk w t s j).t (InS.mk w t s j).s).step = (mkA (2 : Nat) s_1.snd.t s_1.snd.s).step ∧ (mkA (2 : Nat) (InS.mk w t s j).t (InS.mk w t s j).s).reads ++ [Wd.mk (IntKind.i64.wrap ((IntKind.u64.wrap (at2 (InS.mk w t s
 j).t.ops (↑(InS.mk w t s j).j : Int)).a).tmod 3)) (InS.mk w t s j).s.own.c] = (mkA (2 : Nat) s_1.snd.t s_1.snd.s).reads ∧ (mkA (2 : Nat) (InS.mk w t s j).t (InS.mk w t s j).s).writes = (mkA (2 : Nat) s_1.snd.t
 s_1.snd.s).writes ∧ (mkA (2 : Nat) (InS.mk w t s j).t (InS.mk w t s j).s).seen ++ [(↑(mkA (2 : Nat) (InS.mk w t s j).t (InS.mk w t s j).s).writes.length : Int)] = (mkA (2 : Nat) s_1.snd.t s_1.snd.s).seen ∧ AVal.nils =
 AVal.nils ∧ (InS.mk w t s j).s.own.a = s_1.snd.s.own.a ∧ (InS.mk w t s j).s.own.b = s_1.snd.s.own.b ∧ (InS.mk w t s j).s.own.c = s_1.snd.s.own.c ∧ IntKind.i64.wrap ((↑(InS.mk w t s j).j : Int) + 1) = (↑s_1.snd.j : Int) ∧
 ((2 : Nat) < l.length ∧ l.length ≤ 3 ∧ Ru.mk (tpl (2 : Nat) s_1.fst) s_1.snd.w = runT (List.take (2 : Nat) l) ∧ s_1.snd.t = at3 l (2 : Int) ∧ s_1.snd.t.ops.length ≤ 6 ∧ s_1.snd.j ≤ s_1.snd.t.ops.length ∧ s_1.snd.s = opsS
 s_1.snd.w (List.take s_1.snd.j s_1.snd.t.ops)) ∧ (10 : Nat) * (l.length - 2) - s_1.snd.j < 10 * (l.length - 2) - (InS.mk w t s j).j ∧ True))) ∧ ((IntKind.i64.wrap ((IntKind.u64.wrap (at2 (InS.mk w t s j).t.ops (↑(InS.mk
 w t s j).j : Int)).a).tmod 3) == 2) = false → ((IntKind.i64.wrap ((IntKind.u64.wrap (at2 (InS.mk w t s j).t.ops (↑(InS.mk w t s j).j : Int)).a).tmod 3) == 1) = true → ((mkA (2 : Nat) (InS.mk w t s j).t (InS.mk w t s
 j).s).reads.length + [Wd.mk (IntKind.i64.wrap ((IntKind.u64.wrap (at2 (InS.mk w t s j).t.ops (↑(InS.mk w t s j).j : Int)).a).tmod 3)) (InS.mk w t s j).s.own.b].length) * 16 ≤ 140737488355328 ∧ ((mkA (2 : Nat) (InS.mk w t
 s j).t (InS.mk w t s j).s).seen.length + [(↑(mkA (2 : Nat) (InS.mk w t s j).t (InS.mk w t s j).s).writes.length : Int)].length) * 8 ≤ 140737488355328 ∧ ∃ (b : Bool), (b = true → ∃ (s : Tp (0 : Nat) × InS), Stuck "le: a")
 ∧ (b = false → ∃ (b : Bool), (b = true → ∃ (s : Tp (1 : Nat) × InS), Stuck "le: sl") ∧ (b = false → ∃ (s_1 : Tp (2 : Nat) × InS), x0.thread = s_1.fst.fst.thread ∧ x0.tri = s_1.fst.fst.tri ∧ x0.real = s_1.fst.fst.real ∧
 x0.frm = s_1.fst.fst.frm ∧ x0.unt = s_1.fst.fst.unt ∧ x0.fin = s_1.fst.fst.fin ∧ x0.stamp = s_1.fst.fst.stamp ∧ x0.step = s_1.fst.fst.step ∧ x0.reads = s_1.fst.fst.reads ∧ x0.writes = s_1.fst.fst.writes ∧ x0.seen =
 s_1.fst.fst.seen ∧ AVal.nils = AVal.nils ∧ x1.thread = s_1.fst.snd.fst.thread ∧ x1.tri = s_1.fst.snd.fst.tri ∧ x1.real = s_1.fst.snd.fst.real ∧ x1.frm = s_1.fst.snd.fst.frm ∧ x1.unt = s_1.fst.snd.fst.unt ∧ x1.fin =
 s_1.fst.snd.fst.fin ∧ x1.stamp = s_1.fst.snd.fst.stamp ∧ x1.step = s_1.fst.snd.fst.step ∧ x1.reads = s_1.fst.snd.fst.reads ∧ x1.writes = s_1.fst.snd.fst.writes ∧ x1.seen = s_1.fst.snd.fst.seen ∧ AVal.nils = AVal.nils ∧ l
 = l ∧ AVal.bool true = AVal.bool true ∧ (InS.mk w t s j).w.a = s_1.snd.w.a ∧ (InS.mk w t s j).w.b = s_1.snd.w.b ∧ (InS.mk w t s j).w.c = s_1.snd.w.c ∧ AVal.int IntKind.i64 (2 : Int) = AVal.int IntKind.i64 (2 : Int) ∧
 (InS.mk w t s j).t.thread = s_1.snd.t.thread ∧ (InS.mk w t s j).t.frm = s_1.snd.t.frm ∧ (InS.mk w t s j).t.long = s_1.snd.t.long ∧ (InS.mk w t s j).t.fin = s_1.snd.t.fin ∧ (InS.mk w t s j).t.real = s_1.snd.t.real ∧
 (InS.mk w t s j).t.ops = s_1.snd.t.ops ∧ (mkA (2 : Nat) (InS.mk w t s j).t (InS.mk w t s j).s).thread = (mkA (2 : Nat) s_1.snd.t s_1.snd.s).thread ∧ (mkA (2 : Nat) (InS.mk w t s j).t (InS.mk w t s j).s).tri = (mkA (2 :
 Nat) s_1.snd.t s_1.snd.s).tri ∧ (mkA (2 : Nat) (InS.mk w t s j).t (InS.mk w t s j).s).real = (mkA (2 : Nat) s_1.snd.t s_1.snd.s).real ∧ (mkA (2 : Nat) (InS.mk w t s j).t (InS.mk w t s j).s).frm = (mkA (2 : Nat) s_1.snd.t
 s_1.snd.s).frm ∧ (mkA (2 : Nat) (InS.mk w t s j).t (InS.mk w t s j).s).unt = (mkA (2 : Nat) s_1.snd.t s_1.snd.s).unt ∧ (mkA (2 : Nat) (InS.mk w t s j).t (InS.mk w t s j).s).fin = (mkA (2 : Nat) s_1.snd.t s_1.snd.s).fin ∧
 (mkA (2 : Nat) (InS.mk w t s j).t (InS.mk w t s j).s).stamp = (mkA (2 : Nat) s_1.snd.t s_1.snd.s).stamp ∧ (mkA (2 : Nat) (InS.mk w t s j).t (InS.mk w t s j).s).step = (mkA (2 : Nat) s_1.snd.t s_1.snd.s).step ∧ (mkA (2 :
 Nat) (InS.mk w t s j).t (InS.mk w t s j).s).reads ++ [Wd.mk (IntKind.i64.wrap ((IntKind.u64.wrap (at2 (InS.mk w t s j).t.ops (↑(InS.mk w t s j).j : Int)).a).tmod 3)) (InS.mk w t s j).s.own.b] = (mkA (2 : Nat) s_1.snd.t
 s_1.snd.s).reads ∧ (mkA (2 : Nat) (InS.mk w t s j).t (InS.mk w t s j).s).writes = (mkA (2 : Nat) s_1.snd.t s_1.snd.s).writes ∧ (mkA (2 : Nat) (InS.mk w t s j).t (InS.mk w t s j).s).seen ++ [(↑(mkA (2 : Nat) (InS.mk w t s
 j).t (InS.mk w t s j).s).writes.length : Int)] = (mkA (2 : Nat) s_1.snd.t s_1.snd.s).seen ∧ AVal.nils = AVal.nils ∧ (InS.mk w t s j).s.own.a = s_1.snd.s.own.a ∧ (InS.mk w t s j).s.own.b = s_1.snd.s.own.b ∧ (InS.mk w t s
 j).s.own.c = s_1.snd.s.own.c ∧ IntKind.i64.wrap ((↑(InS.mk w t s j).j : Int) + 1) = (↑s_1.snd.j : Int) ∧ ((2 : Nat) < l.length ∧ l.length ≤ 3 ∧ Ru.mk (tpl (2 : Nat) s_1.fst) s_1.snd.w = runT (List.take (2 : Nat) l) ∧
 s_1.snd.t = at3 l (2 : Int) ∧ s_1.snd.t.ops.length ≤ 6 ∧ s_1.snd.j ≤ s_1.snd.t.ops.length ∧ s_1.snd.s = opsS s_1.snd.w (List.take s_1.snd.j s_1.snd.t.ops)) ∧ (10 : Nat) * (l.length - 2) - s_1.snd.j < 10 * (l.length - 2)
 - (InS.mk w t s j).j ∧ True))) ∧ ((IntKind.i64.wrap ((IntKind.u64.wrap (at2 (InS.mk w t s j).t.ops (↑(InS.mk w t s j).j : Int)).a).tmod 3) == 1) = false → ((mkA (2 : Nat) (InS.mk w t s j).t (InS.mk w t s
 j).s).reads.length + [Wd.mk (IntKind.i64.wrap ((IntKind.u64.wrap (at2 (InS.mk w t s j).t.ops (↑(InS.mk w t s j).j : Int)).a).tmod 3)) (InS.mk w t s j).s.own.a].length) * 16 ≤ 140737488355328 ∧ ((mkA (2 : Nat) (InS.mk w t
 s j).t (InS.mk w t s j).s).seen.length + [(↑(mkA (2 : Nat) (InS.mk w t s j).t (InS.mk w t s j).s).writes.length : Int)].length) * 8 ≤ 140737488355328 ∧ ∃ (b : Bool), (b = true → ∃ (s : Tp (0 : Nat) × InS), Stuck "le: a")
 ∧ (b = false → ∃ (b : Bool), (b = true → ∃ (s : Tp (1 : Nat) × InS), Stuck "le: sl") ∧ (b = false → ∃ (s_1 : Tp (2 : Nat) × InS), x0.thread = s_1.fst.fst.thread ∧ x0.tri = s_1.fst.fst.tri ∧ x0.real = s_1.fst.fst.real ∧
 x0.frm = s_1.fst.fst.frm ∧ x0.unt = s_1.fst.fst.unt ∧ x0.fin = s_1.fst.fst.fin ∧ x0.stamp = s_1.fst.fst.stamp ∧ x0.step = s_1.fst.fst.step ∧ x0.reads = s_1.fst.fst.reads ∧ x0.writes = s_1.fst.fst.writes ∧ x0.seen =
 s_1.fst.fst.seen ∧ AVal.nils = AVal.nils ∧ x1.thread = s_1.fst.snd.fst.thread ∧ x1.tri = s_1.fst.snd.fst.tri ∧ x1.real = s_1.fst.snd.fst.real ∧ x1.frm = s_1.fst.snd.fst.frm ∧ x1.unt = s_1.fst.snd.fst.unt ∧ x1.fin =
 s_1.fst.snd.fst.fin ∧ x1.stamp = s_1.fst.snd.fst.stamp ∧ x1.step = s_1.fst.snd.fst.step ∧ x1.reads = s_1.fst.snd.fst.reads ∧ x1.writes = s_1.fst.snd.fst.writes ∧ x1.seen = s_1.fst.snd.fst.seen ∧ AVal.nils = AVal.nils ∧ l
 = l ∧ AVal.bool true = AVal.bool true ∧ (InS.mk w t s j).w.a = s_1.snd.w.a ∧ (InS.mk w t s j).w.b = s_1.snd.w.b ∧ (InS.mk w t s j).w.c = s_1.snd.w.c ∧ AVal.int IntKind.i64 (2 : Int) = AVal.int IntKind.i64 (2 : Int) ∧
 (InS.mk w t s j).t.thread = s_1.snd.t.thread ∧ (InS.mk w t s j).t.frm = s_1.snd.t.frm ∧ (InS.mk w t s j).t.long = s_1.snd.t.long ∧ (InS.mk w t s j).t.fin = s_1.snd.t.fin ∧ (InS.mk w t s j).t.real = s_1.snd.t.real ∧
 (InS.mk w t s j).t.ops = s_1.snd.t.ops ∧ (mkA (2 : Nat) (InS.mk w t s j).t (InS.mk w t s j).s).thread = (mkA (2 : Nat) s_1.snd.t s_1.snd.s).thread ∧ (mkA (2 : Nat) (InS.mk w t s j).t (InS.mk w t s j).s).tri = (mkA (2 :
 Nat) s_1.snd.t s_1.snd.s).tri ∧ (mkA (2 : Nat) (InS.mk w t s j).t (InS.mk w t s j).s).real = (mkA (2 : Nat) s_1.snd.t s_1.snd.s).real ∧ (mkA (2 : Nat) (InS.mk w t s j).t (InS.mk w t s j).s).frm = (mkA (2 : Nat) s_1.snd.t
 s_1.snd.s).frm ∧ (mkA (2 : Nat) (InS.mk w t s j).t (InS.mk w t s j).s).unt = (mkA (2 : Nat) s_1.snd.t s_1.snd.s).unt ∧ (mkA (2 : Nat) (InS.mk w t s j).t (InS.mk w t s j).s).fin = (mkA (2 : Nat) s_1.snd.t s_1.snd.s).fin ∧
 (mkA (2 : Nat) (InS.mk w t s j).t (InS.mk w t s j).s).stamp = (mkA (2 : Nat) s_1.snd.t s_1.snd.s).stamp ∧ (mkA (2 : Nat) (InS.mk w t s j).t (InS.mk w t s j).s).step = (mkA (2 : Nat) s_1.snd.t s_1.snd.s).step ∧ (mkA (2 :
 Nat) (InS.mk w t s j).t (InS.mk w t s j).s).reads ++ [Wd.mk (IntKind.i64.wrap ((IntKind.u64.wrap (at2 (InS.mk w t s j).t.ops (↑(InS.mk w t s j).j : Int)).a).tmod 3)) (InS.mk w t s j).s.own.a] = (mkA (2 : Nat) s_1.snd.t
 s_1.snd.s).reads ∧ (mkA (2 : Nat) (InS.mk w t s j).t (InS.mk w t s j).s).writes = (mkA (2 : Nat) s_1.snd.t s_1.snd.s).writes ∧ (mkA (2 : Nat) (InS.mk w t s j).t (InS.mk w t s j).s).seen ++ [(↑(mkA (2 : Nat) (InS.mk w t s
 j).t (InS.mk w t s j).s).writes.length : Int)] = (mkA (2 : Nat) s_1.snd.t s_1.snd.s).seen ∧ AVal.nils = AVal.nils ∧ (InS.mk w t s j).s.own.a = s_1.snd.s.own.a ∧ (InS.mk w t s j).s.own.b = s_1.snd.s.own.b ∧ (InS.mk w t s
 j).s.own.c = s_1.snd.s.own.c ∧ IntKind.i64.wrap ((↑(InS.mk w t s j).j : Int) + 1) = (↑s_1.snd.j : Int) ∧ ((2 : Nat) < l.length ∧ l.length ≤ 3 ∧ Ru.mk (tpl (2 : Nat) s_1.fst) s_1.snd.w = runT (List.take (2 : Nat) l) ∧
 s_1.snd.t = at3 l (2 : Int) ∧ s_1.snd.t.ops.length ≤ 6 ∧ s_1.snd.j ≤ s_1.snd.t.ops.length ∧ s_1.snd.s = opsS s_1.snd.w (List.take s_1.snd.j s_1.snd.t.ops)) ∧ (10 : Nat) * (l.length - 2) - s_1.snd.j < 10 * (l.length - 2)
 - (InS.mk w t s j).j ∧ True)))))) ∧ (decide ((↑(InS.mk w t s j).j : Int) < (↑(InS.mk w t s j).t.ops.length : Int)) = false → (((mkA (2 : Nat) (InS.mk w t s j).t (InS.mk w t s j).s).fin == 6) = true → ∃ (b : Bool), (b =
 true → ∃ (s : Tp (0 : Nat) × W3), Stuck "le: a") ∧ (b = false → ∃ (b : Bool), (b = true → ∃ (s : Tp (1 : Nat) × W3), Stuck "le: sl") ∧ (b = false → ∃ (b : Bool), (b = true → ∃ (s : Tp (2 : Nat) × W3), Stuck "le: sl") ∧
 (b = false → ∃ (s_1 : Tp (3 : Nat) × W3), x0.thread = s_1.fst.fst.thread ∧ x0.tri = s_1.fst.fst.tri ∧ x0.real = s_1.fst.fst.real ∧ x0.frm = s_1.fst.fst.frm ∧ x0.unt = s_1.fst.fst.unt ∧ x0.fin = s_1.fst.fst.fin ∧ x0.stamp
 = s_1.fst.fst.stamp ∧ x0.step = s_1.fst.fst.step ∧ x0.reads = s_1.fst.fst.reads ∧ x0.writes = s_1.fst.fst.writes ∧ x0.seen = s_1.fst.fst.seen ∧ AVal.nils = AVal.nils ∧ x1.thread = s_1.fst.snd.fst.thread ∧ x1.tri =
 s_1.fst.snd.fst.tri ∧ x1.real = s_1.fst.snd.fst.real ∧ x1.frm = s_1.fst.snd.fst.frm ∧ x1.unt = s_1.fst.snd.fst.unt ∧ x1.fin = s_1.fst.snd.fst.fin ∧ x1.stamp = s_1.fst.snd.fst.stamp ∧ x1.step = s_1.fst.snd.fst.step ∧
 x1.reads = s_1.fst.snd.fst.reads ∧ x1.writes = s_1.fst.snd.fst.writes ∧ x1.seen = s_1.fst.snd.fst.seen ∧ AVal.nils = AVal.nils ∧ (mkA (2 : Nat) (InS.mk w t s j).t (InS.mk w t s j).s).thread = s_1.fst.snd.snd.fst.thread ∧
 (mkA (2 : Nat) (InS.mk w t s j).t (InS.mk w t s j).s).tri = s_1.fst.snd.snd.fst.tri ∧ (mkA (2 : Nat) (InS.mk w t s j).t (InS.mk w t s j).s).real = s_1.fst.snd.snd.fst.real ∧ (mkA (2 : Nat) (InS.mk w t s j).t (InS.mk w t
 s j).s).frm = s_1.fst.snd.snd.fst.frm ∧ (mkA (2 : Nat) (InS.mk w t s j).t (InS.mk w t s j).s).unt = s_1.fst.snd.snd.fst.unt ∧ (mkA (2 : Nat) (InS.mk w t s j).t (InS.mk w t s j).s).fin = s_1.fst.snd.snd.fst.fin ∧ (mkA (2
 : Nat) (InS.mk w t s j).t (InS.mk w t s j).s).stamp = s_1.fst.snd.snd.fst.stamp ∧ (mkA (2 : Nat) (InS.mk w t s j).t (InS.mk w t s j).s).step = s_1.fst.snd.snd.fst.step ∧ (mkA (2 : Nat) (InS.mk w t s j).t (InS.mk w t s
 j).s).reads = s_1.fst.snd.snd.fst.reads ∧ (mkA (2 : Nat) (InS.mk w t s j).t (InS.mk w t s j).s).writes = s_1.fst.snd.snd.fst.writes ∧ (mkA (2 : Nat) (InS.mk w t s j).t (InS.mk w t s j).s).seen = s_1.fst.snd.snd.fst.seen
 ∧ AVal.nils = AVal.nils ∧ l = l ∧ AVal.bool true = AVal.bool true ∧ (InS.mk w t s j).s.own.a = s_1.snd.a ∧ (InS.mk w t s j).s.own.b = s_1.snd.b ∧ (InS.mk w t s j).s.own.c = s_1.snd.c ∧ AVal.int IntKind.i64 (3 : Int) =
 AVal.int IntKind.i64 (3 : Int) ∧ ((3 : Nat) ≤ l.length ∧ l.length ≤ 3 ∧ Ru.mk (tpl (3 : Nat) s_1.fst) s_1.snd = runT (List.take (3 : Nat) l)) ∧ (1 : Nat) + 10 * (l.length - 3) < 10 * (l.length - 2) - (InS.mk w t s j).j ∧
 True)))) ∧ (((mkA (2 : Nat) (InS.mk w t s j).t (InS.mk w t s j).s).fin == 6) = false → ∃ (b : Bool), (b = true → ∃ (s : Tp (0 : Nat) × W3), Stuck "le: a") ∧ (b = false → ∃ (b : Bool), (b = true → ∃ (s : Tp (1 : Nat) ×
 W3), Stuck "le: sl") ∧ (b = false → ∃ (b : Bool), (b = true → ∃ (s : Tp (2 : Nat) × W3), Stuck "le: sl") ∧ (b = false → ∃ (s_1 : Tp (3 : Nat) × W3), x0.thread = s_1.fst.fst.thread ∧ x0.tri = s_1.fst.fst.tri ∧ x0.real =
 s_1.fst.fst.real ∧ x0.frm = s_1.fst.fst.frm ∧ x0.unt = s_1.fst.fst.unt ∧ x0.fin = s_1.fst.fst.fin ∧ x0.stamp = s_1.fst.fst.stamp ∧ x0.step = s_1.fst.fst.step ∧ x0.reads = s_1.fst.fst.reads ∧ x0.writes =
 s_1.fst.fst.writes ∧ x0.seen = s_1.fst.fst.seen ∧ AVal.nils = AVal.nils ∧ x1.thread = s_1.fst.snd.fst.thread ∧ x1.tri = s_1.fst.snd.fst.tri ∧ x1.real = s_1.fst.snd.fst.real ∧ x1.frm = s_1.fst.snd.fst.frm ∧ x1.unt =
 s_1.fst.snd.fst.unt ∧ x1.fin = s_1.fst.snd.fst.fin ∧ x1.stamp = s_1.fst.snd.fst.stamp ∧ x1.step = s_1.fst.snd.fst.step ∧ x1.reads = s_1.fst.snd.fst.reads ∧ x1.writes = s_1.fst.snd.fst.writes ∧ x1.seen =
 s_1.fst.snd.fst.seen ∧ AVal.nils = AVal.nils ∧ (mkA (2 : Nat) (InS.mk w t s j).t (InS.mk w t s j).s).thread = s_1.fst.snd.snd.fst.thread ∧ (mkA (2 : Nat) (InS.mk w t s j).t (InS.mk w t s j).s).tri =
 s_1.fst.snd.snd.fst.tri ∧ (mkA (2 : Nat) (InS.mk w t s j).t (InS.mk w t s j).s).real = s_1.fst.snd.snd.fst.real ∧ (mkA (2 : Nat) (InS.mk w t s j).t (InS.mk w t s j).s).frm = s_1.fst.snd.snd.fst.frm ∧ (mkA (2 : Nat)
 (InS.mk w t s j).t (InS.mk w t s j).s).unt = s_1.fst.snd.snd.fst.unt ∧ (mkA (2 : Nat) (InS.mk w t s j).t (InS.mk w t s j).s).fin = s_1.fst.snd.snd.fst.fin ∧ (mkA (2 : Nat) (InS.mk w t s j).t (InS.mk w t s j).s).stamp =
 s_1.fst.snd.snd.fst.stamp ∧ (mkA (2 : Nat) (InS.mk w t s j).t (InS.mk w t s j).s).step = s_1.fst.snd.snd.fst.step ∧ (mkA (2 : Nat) (InS.mk w t s j).t (InS.mk w t s j).s).reads = s_1.fst.snd.snd.fst.reads ∧ (mkA (2 : Nat)
 (InS.mk w t s j).t (InS.mk w t s j).s).writes = s_1.fst.snd.snd.fst.writes ∧ (mkA (2 : Nat) (InS.mk w t s j).t (InS.mk w t s j).s).seen = s_1.fst.snd.snd.fst.seen ∧ AVal.nils = AVal.nils ∧ l = l ∧ AVal.bool true =
 AVal.bool true ∧ (InS.mk w t s j).w.a = s_1.snd.a ∧ (InS.mk w t s j).w.b = s_1.snd.b ∧ (InS.mk w t s j).w.c = s_1.snd.c ∧ AVal.int IntKind.i64 (3 : Int) = AVal.int IntKind.i64 (3 : Int) ∧ ((3 : Nat) ≤ l.length ∧ l.length
 ≤ 3 ∧ Ru.mk (tpl (3 : Nat) s_1.fst) s_1.snd = runT (List.take (3 : Nat) l)) ∧ (1 : Nat) + 10 * (l.length - 3) < 10 * (l.length - 2) - (InS.mk w t s j).j ∧ True)))))) := by kernel_rfl

theorem tmod_is (n : Int) (m : Int) (hm : 0 < m) : 0 ≤ (IntKind.u64.wrap n).tmod m ∧ (IntKind.u64.wrap n).tmod m < m := by
  rw [Int.tmod_eq_emod_of_nonneg (wrapU64_is n).1]
  exact ⟨Int.emod_nonneg _ (by omega), Int.emod_lt_of_pos _ hm⟩
theorem u3_is (n : Int) : 0 ≤ u3 n ∧ u3 n < 3 := by
  have h := tmod_is n 3 (by decide)
  unfold u3
  rw [wrap64 (by omega) (by omega)]
  exact h
theorem opsS_len (w : W3) : ∀ (l : List Op) (s : OpS), (l.foldl stepO s).rs.length ≤ s.rs.length + l.length ∧ (l.foldl stepO s).ws.length ≤ s.ws.length + l.length ∧ (l.foldl stepO s).sn.length ≤ s.sn.length + l.length
  | [], s => ⟨Nat.le_refl _, Nat.le_refl _, Nat.le_refl _⟩
  | o :: l, s => by
    have h := opsS_len w l (stepO s o)
    have h2 : (stepO s o).rs.length ≤ s.rs.length + 1 ∧ (stepO s o).ws.length ≤ s.ws.length + 1 ∧ (stepO s o).sn.length ≤ s.sn.length + 1 := by
      unfold stepO
      split <;> simp
    simp only [List.foldl_cons, List.length_cons]
    omega
theorem opsS_le (w : W3) (l : List Op) : (opsS w l).rs.length ≤ l.length ∧ (opsS w l).ws.length ≤ l.length ∧ (opsS w l).sn.length ≤ l.length := by
  have h := opsS_len w l ⟨w, [], [], []⟩
  simpa [opsS] using h
theorem opsS_succ (w : W3) {l : List Op} {j : Nat} (h : j < l.length) : opsS w (l.take (j + 1)) = stepO (opsS w (l.take j)) (at2 l j) := by
  have e : at2 l (j : Int) = l[j] := at2_get h
  rw [e, opsS, List.take_succ_eq_append_getElem h, List.foldl_append]
  rfl
theorem run_next {l : List Try} {k : Nat} {r : Ru} {t : Try} {s : OpS} (hk : k < l.length) (hr : r = runT (l.take k)) (ht : t = at3 l k) (hs : s = opsS r.w t.ops) :
    runT (l.take (k + 1)) = ⟨r.done ++ [mkA r.done.length t s], nextW r.w t s⟩ := by
  have e : at3 l (k : Int) = l[k] := at3_get hk
  rw [runT, List.take_succ_eq_append_getElem hk, List.foldl_append]
  show stepT (runT (l.take k)) l[k] = _
  rw [← hr, ← e, ← ht, stepT, ← hs]
theorem step_w {s : OpS} {o : Op} (h : (IntKind.u64.wrap o.kind).tmod 2 = 1) : stepO s o = ⟨w3set s.own (u3 o.a) (u3 o.v), s.rs, s.ws ++ [⟨u3 o.a, u3 o.v⟩], s.sn⟩ := if_pos h
theorem step_r {s : OpS} {o : Op} (h : ¬ (IntKind.u64.wrap o.kind).tmod 2 = 1) : stepO s o = ⟨s.own, s.rs ++ [⟨u3 o.a, w3get s.own (u3 o.a)⟩], s.ws, s.sn ++ [(s.ws.length : Int)]⟩ := if_neg h
theorem fin_0 {t : Try} (h : (IntKind.u64.wrap t.fin).tmod 4 = 3) : finT t = 0 := if_pos h
theorem fin_7 {t : Try} (h : ¬ (IntKind.u64.wrap t.fin).tmod 4 = 3) (k : (IntKind.u64.wrap t.fin).tmod 4 = 2) : finT t = 7 := by rw [finT, if_neg h, if_pos k]
theorem fin_6 {t : Try} (h : ¬ (IntKind.u64.wrap t.fin).tmod 4 = 3) (k : ¬ (IntKind.u64.wrap t.fin).tmod 4 = 2) : finT t = 6 := by rw [finT, if_neg h, if_neg k]

theorem as_e_ok (l : List Try) (d : List Att) (hl : l.length ≤ 3) : Paid (entryX F (lookC []) 200 Tryd.f10 b10 (asF l d) [.tl (T := T) 3 l, .agg (enc7 ⟨0, 0, 0⟩), .a (.bool true)]) := by
  refine ⟨?_⟩
  rw [as_e]
  exact ⟨true, fun _ => ⟨((), ⟨0, 0, 0⟩), rfl, rfl, rfl, rfl, rfl, rfl, rfl, ⟨Nat.zero_le _, hl, rfl⟩, trivial⟩, nofun⟩

theorem as_250_ok (l : List Try) (d : List Att)  (h : [] = d) : Paid (cutVC F (lookC []) 200 Tryd.f10 b10 (asF l d) 25 (asC25 d 0) (() : Tp 0)) := by
  subst h
  refine ⟨?_⟩
  rw [as_250]
  exact ⟨rfl, trivial⟩
theorem as_40_ok (l : List Try) (d : List Att) (w : W3)  (hk : 0 ≤ l.length) (hl : l.length ≤ 3) (hr : (⟨[], w⟩ : Ru) = runT (l.take 0)) (hd : d = (runT l).done) (hop : ∀ (h : 0 < l.length), (at3 l 0).ops.length ≤ 6) : Paid (cutVC F (lookC []) 200 Tryd.f10 b10 (asF l d) 4 (asC4 l 0) (((), w) : Tp 0 × W3)) := by
  refine ⟨?_⟩
  rw [as_40]
  refine ⟨fun h => ⟨⟨(by decide), by simpa using h⟩, tmod_is _ 4 (by decide), fun h3 => ?_, fun h3 => ⟨fun h2 => ?_, fun h2 => ⟨fun h1 => ?_, fun h1 => ?_⟩⟩⟩, fun h => ?_⟩
  all_goals try simp only [beq_iff_eq, beq_eq_false_iff_ne, ne_eq] at h3
  all_goals try simp only [beq_iff_eq, beq_eq_false_iff_ne, ne_eq] at h2
  · have h : 0 < l.length := by simp at h; omega
    have ho := hop h
    exact ⟨true, fun _ => ⟨((), ⟨w, at3 l 0, opsS w [], 0⟩), rfl, rfl, rfl, rfl, rfl, rfl, rfl, rfl, rfl, rfl, rfl, rfl, rfl, rfl, rfl, rfl, rfl, rfl, (fin_0 h3).symm, rfl, rfl, rfl, rfl, rfl, rfl, rfl, rfl, rfl, rfl, ⟨by omega, hl, hr, rfl, ho, Nat.zero_le _, rfl⟩, (show 10 * (l.length - 0) - 0 < 1 + 10 * (l.length - 0) by omega), trivial⟩, nofun⟩
  · have h : 0 < l.length := by simp at h; omega
    have ho := hop h
    exact ⟨true, fun _ => ⟨((), ⟨w, at3 l 0, opsS w [], 0⟩), rfl, rfl, rfl, rfl, rfl, rfl, rfl, rfl, rfl, rfl, rfl, rfl, rfl, rfl, rfl, rfl, rfl, rfl, (fin_7 h3 h2).symm, rfl, rfl, rfl, rfl, rfl, rfl, rfl, rfl, rfl, rfl, ⟨by omega, hl, hr, rfl, ho, Nat.zero_le _, rfl⟩, (show 10 * (l.length - 0) - 0 < 1 + 10 * (l.length - 0) by omega), trivial⟩, nofun⟩
  · have h : 0 < l.length := by simp at h; omega
    have ho := hop h
    exact ⟨true, fun _ => ⟨((), ⟨w, at3 l 0, opsS w [], 0⟩), rfl, rfl, rfl, rfl, rfl, rfl, rfl, rfl, rfl, rfl, rfl, rfl, rfl, rfl, rfl, rfl, rfl, rfl, (fin_6 h3 h2).symm, rfl, rfl, rfl, rfl, rfl, rfl, rfl, rfl, rfl, rfl, ⟨by omega, hl, hr, rfl, ho, Nat.zero_le _, rfl⟩, (show 10 * (l.length - 0) - 0 < 1 + 10 * (l.length - 0) by omega), trivial⟩, nofun⟩
  · have h : 0 < l.length := by simp at h; omega
    have ho := hop h
    exact ⟨true, fun _ => ⟨((), ⟨w, at3 l 0, opsS w [], 0⟩), rfl, rfl, rfl, rfl, rfl, rfl, rfl, rfl, rfl, rfl, rfl, rfl, rfl, rfl, rfl, rfl, rfl, rfl, (fin_6 h3 h2).symm, rfl, rfl, rfl, rfl, rfl, rfl, rfl, rfl, rfl, rfl, ⟨by omega, hl, hr, rfl, ho, Nat.zero_le _, rfl⟩, (show 10 * (l.length - 0) - 0 < 1 + 10 * (l.length - 0) by omega), trivial⟩, nofun⟩
  · have h : l.length = 0 := by have := of_decide_eq_false h; omega
    have e : [] = d := by
      rw [hd]
      have := congrArg Ru.done hr
      rw [← h, List.take_length] at this
      exact this
    exact ⟨true, fun _ => ⟨(), rfl, e, (show 0 < 1 + 10 * (l.length - 0) by omega), trivial⟩, nofun⟩

theorem as_110_ok (l : List Try) (d : List Att) (w : W3) (t : Try) (s : OpS) (j : Nat)  (hk : 0 < l.length) (hl : l.length ≤ 3) (hr : (⟨[], w⟩ : Ru) = runT (l.take 0)) (ht : t = at3 l 0) (ho : t.ops.length ≤ 6) (hj : j ≤ t.ops.length) (hs : s = opsS w (t.ops.take j)) :
    Paid (cutVC F (lookC []) 200 Tryd.f10 b10 (asF l d) 11 (asC11 l 0) (((), ⟨w, t, s, j⟩) : Tp 0 × InS)) := by
  refine ⟨?_⟩
  rw [as_110]
  have hb := opsS_le w (t.ops.take j)
  rw [← hs, List.length_take] at hb
  have hu := u3_is (at2 t.ops j).a
  refine ⟨fun h => ?_, fun h => ?_⟩
  · have hlt : j < t.ops.length := by simpa using h
    refine ⟨⟨(show (0 : Int) ≤ (j : Int) by omega), by simpa using hlt⟩, fun hk1 => ⟨(show (s.ws.length + 1) * 16 ≤ 140737488355328 by omega), hu, fun a2 => ?_, fun a2 => ⟨fun a1 => ?_, fun a1 => ?_⟩⟩, fun hk0 => ⟨hu, fun a2 => ?_, fun a2 => ⟨fun a1 => ?_, fun a1 => ?_⟩⟩⟩
    all_goals try replace hk1 : (IntKind.u64.wrap (at2 t.ops j).kind).tmod 2 = 1 := by simpa using hk1
    all_goals try replace hk0 : ¬ (IntKind.u64.wrap (at2 t.ops j).kind).tmod 2 = 1 := by simpa using hk0
    all_goals clear h
    · have a2 : u3 (at2 t.ops j).a = 2 := eq_of_beq a2
      have hS : (⟨⟨s.own.a, s.own.b, u3 (at2 t.ops j).v⟩, s.rs, s.ws ++ [⟨u3 (at2 t.ops j).a, u3 (at2 t.ops j).v⟩], s.sn⟩ : OpS) = opsS w (t.ops.take (j + 1)) := by
        rw [opsS_succ w hlt, ← hs, step_w hk1]
        exact congrArg (fun z => (⟨z, s.rs, s.ws ++ [⟨u3 (at2 t.ops j).a, u3 (at2 t.ops j).v⟩], s.sn⟩ : OpS)) (show _ = w3set s.own (u3 (at2 t.ops j).a) (u3 (at2 t.ops j).v) from (show w3set s.own (u3 (at2 t.ops j).a) (u3 (at2 t.ops j).v) = _ from if_pos a2).symm)
      exact ⟨true, fun _ => ⟨((), ⟨w, t, ⟨⟨s.own.a, s.own.b, u3 (at2 t.ops j).v⟩, s.rs, s.ws ++ [⟨u3 (at2 t.ops j).a, u3 (at2 t.ops j).v⟩], s.sn⟩, j + 1⟩), rfl, rfl, rfl, rfl, rfl, rfl, rfl, rfl, rfl, rfl, rfl, rfl, rfl, rfl, rfl, rfl, rfl, rfl, rfl, rfl, rfl, rfl, rfl, rfl, rfl, rfl, rfl, rfl, succ64 (i := j) (show j < 1000000000 by omega), ⟨hk, hl, hr, ht, ho, hlt, hS⟩, (show 10 * (l.length - 0) - (j + 1) < 10 * (l.length - 0) - j by omega), trivial⟩, nofun⟩
    · have a2 : ¬ u3 (at2 t.ops j).a = 2 := ne_of_beq_false a2
      have a1 : u3 (at2 t.ops j).a = 1 := eq_of_beq a1
      have hS : (⟨⟨s.own.a, u3 (at2 t.ops j).v, s.own.c⟩, s.rs, s.ws ++ [⟨u3 (at2 t.ops j).a, u3 (at2 t.ops j).v⟩], s.sn⟩ : OpS) = opsS w (t.ops.take (j + 1)) := by
        rw [opsS_succ w hlt, ← hs, step_w hk1]
        exact congrArg (fun z => (⟨z, s.rs, s.ws ++ [⟨u3 (at2 t.ops j).a, u3 (at2 t.ops j).v⟩], s.sn⟩ : OpS)) (show _ = w3set s.own (u3 (at2 t.ops j).a) (u3 (at2 t.ops j).v) from (show w3set s.own (u3 (at2 t.ops j).a) (u3 (at2 t.ops j).v) = _ from (if_neg a2).trans (if_pos a1)).symm)
      exact ⟨true, fun _ => ⟨((), ⟨w, t, ⟨⟨s.own.a, u3 (at2 t.ops j).v, s.own.c⟩, s.rs, s.ws ++ [⟨u3 (at2 t.ops j).a, u3 (at2 t.ops j).v⟩], s.sn⟩, j + 1⟩), rfl, rfl, rfl, rfl, rfl, rfl, rfl, rfl, rfl, rfl, rfl, rfl, rfl, rfl, rfl, rfl, rfl, rfl, rfl, rfl, rfl, rfl, rfl, rfl, rfl, rfl, rfl, rfl, succ64 (i := j) (show j < 1000000000 by omega), ⟨hk, hl, hr, ht, ho, hlt, hS⟩, (show 10 * (l.length - 0) - (j + 1) < 10 * (l.length - 0) - j by omega), trivial⟩, nofun⟩
    · have a2 : ¬ u3 (at2 t.ops j).a = 2 := ne_of_beq_false a2
      have a1 : ¬ u3 (at2 t.ops j).a = 1 := ne_of_beq_false a1
      have hS : (⟨⟨u3 (at2 t.ops j).v, s.own.b, s.own.c⟩, s.rs, s.ws ++ [⟨u3 (at2 t.ops j).a, u3 (at2 t.ops j).v⟩], s.sn⟩ : OpS) = opsS w (t.ops.take (j + 1)) := by
        rw [opsS_succ w hlt, ← hs, step_w hk1]
        exact congrArg (fun z => (⟨z, s.rs, s.ws ++ [⟨u3 (at2 t.ops j).a, u3 (at2 t.ops j).v⟩], s.sn⟩ : OpS)) (show _ = w3set s.own (u3 (at2 t.ops j).a) (u3 (at2 t.ops j).v) from (show w3set s.own (u3 (at2 t.ops j).a) (u3 (at2 t.ops j).v) = _ from (if_neg a2).trans (if_neg a1)).symm)
      exact ⟨true, fun _ => ⟨((), ⟨w, t, ⟨⟨u3 (at2 t.ops j).v, s.own.b, s.own.c⟩, s.rs, s.ws ++ [⟨u3 (at2 t.ops j).a, u3 (at2 t.ops j).v⟩], s.sn⟩, j + 1⟩), rfl, rfl, rfl, rfl, rfl, rfl, rfl, rfl, rfl, rfl, rfl, rfl, rfl, rfl, rfl, rfl, rfl, rfl, rfl, rfl, rfl, rfl, rfl, rfl, rfl, rfl, rfl, rfl, succ64 (i := j) (show j < 1000000000 by omega), ⟨hk, hl, hr, ht, ho, hlt, hS⟩, (show 10 * (l.length - 0) - (j + 1) < 10 * (l.length - 0) - j by omega), trivial⟩, nofun⟩
    · have a2 : u3 (at2 t.ops j).a = 2 := eq_of_beq a2
      have hS : (⟨s.own, s.rs ++ [⟨u3 (at2 t.ops j).a, s.own.c⟩], s.ws, s.sn ++ [(s.ws.length : Int)]⟩ : OpS) = opsS w (t.ops.take (j + 1)) := by
        rw [opsS_succ w hlt, ← hs, step_r hk0]
        exact congrArg (fun z => (⟨s.own, s.rs ++ [⟨u3 (at2 t.ops j).a, z⟩], s.ws, s.sn ++ [(s.ws.length : Int)]⟩ : OpS)) (show _ = w3get s.own (u3 (at2 t.ops j).a) from (show w3get s.own (u3 (at2 t.ops j).a) = _ from if_pos a2).symm)
      exact ⟨(show (s.rs.length + 1) * 16 ≤ 140737488355328 by omega), (show (s.sn.length + 1) * 8 ≤ 140737488355328 by omega), ⟨true, fun _ => ⟨((), ⟨w, t, ⟨s.own, s.rs ++ [⟨u3 (at2 t.ops j).a, s.own.c⟩], s.ws, s.sn ++ [(s.ws.length : Int)]⟩, j + 1⟩), rfl, rfl, rfl, rfl, rfl, rfl, rfl, rfl, rfl, rfl, rfl, rfl, rfl, rfl, rfl, rfl, rfl, rfl, rfl, rfl, rfl, rfl, rfl, rfl, rfl, rfl, rfl, rfl, succ64 (i := j) (show j < 1000000000 by omega), ⟨hk, hl, hr, ht, ho, hlt, hS⟩, (show 10 * (l.length - 0) - (j + 1) < 10 * (l.length - 0) - j by omega), trivial⟩, nofun⟩⟩
    · have a2 : ¬ u3 (at2 t.ops j).a = 2 := ne_of_beq_false a2
      have a1 : u3 (at2 t.ops j).a = 1 := eq_of_beq a1
      have hS : (⟨s.own, s.rs ++ [⟨u3 (at2 t.ops j).a, s.own.b⟩], s.ws, s.sn ++ [(s.ws.length : Int)]⟩ : OpS) = opsS w (t.ops.take (j + 1)) := by
        rw [opsS_succ w hlt, ← hs, step_r hk0]
        exact congrArg (fun z => (⟨s.own, s.rs ++ [⟨u3 (at2 t.ops j).a, z⟩], s.ws, s.sn ++ [(s.ws.length : Int)]⟩ : OpS)) (show _ = w3get s.own (u3 (at2 t.ops j).a) from (show w3get s.own (u3 (at2 t.ops j).a) = _ from (if_neg a2).trans (if_pos a1)).symm)
      exact ⟨(show (s.rs.length + 1) * 16 ≤ 140737488355328 by omega), (show (s.sn.length + 1) * 8 ≤ 140737488355328 by omega), ⟨true, fun _ => ⟨((), ⟨w, t, ⟨s.own, s.rs ++ [⟨u3 (at2 t.ops j).a, s.own.b⟩], s.ws, s.sn ++ [(s.ws.length : Int)]⟩, j + 1⟩), rfl, rfl, rfl, rfl, rfl, rfl, rfl, rfl, rfl, rfl, rfl, rfl, rfl, rfl, rfl, rfl, rfl, rfl, rfl, rfl, rfl, rfl, rfl, rfl, rfl, rfl, rfl, rfl, succ64 (i := j) (show j < 1000000000 by omega), ⟨hk, hl, hr, ht, ho, hlt, hS⟩, (show 10 * (l.length - 0) - (j + 1) < 10 * (l.length - 0) - j by omega), trivial⟩, nofun⟩⟩
    · have a2 : ¬ u3 (at2 t.ops j).a = 2 := ne_of_beq_false a2
      have a1 : ¬ u3 (at2 t.ops j).a = 1 := ne_of_beq_false a1
      have hS : (⟨s.own, s.rs ++ [⟨u3 (at2 t.ops j).a, s.own.a⟩], s.ws, s.sn ++ [(s.ws.length : Int)]⟩ : OpS) = opsS w (t.ops.take (j + 1)) := by
        rw [opsS_succ w hlt, ← hs, step_r hk0]
        exact congrArg (fun z => (⟨s.own, s.rs ++ [⟨u3 (at2 t.ops j).a, z⟩], s.ws, s.sn ++ [(s.ws.length : Int)]⟩ : OpS)) (show _ = w3get s.own (u3 (at2 t.ops j).a) from (show w3get s.own (u3 (at2 t.ops j).a) = _ from (if_neg a2).trans (if_neg a1)).symm)
      exact ⟨(show (s.rs.length + 1) * 16 ≤ 140737488355328 by omega), (show (s.sn.length + 1) * 8 ≤ 140737488355328 by omega), ⟨true, fun _ => ⟨((), ⟨w, t, ⟨s.own, s.rs ++ [⟨u3 (at2 t.ops j).a, s.own.a⟩], s.ws, s.sn ++ [(s.ws.length : Int)]⟩, j + 1⟩), rfl, rfl, rfl, rfl, rfl, rfl, rfl, rfl, rfl, rfl, rfl, rfl, rfl, rfl, rfl, rfl, rfl, rfl, rfl, rfl, rfl, rfl, rfl, rfl, rfl, rfl, rfl, rfl, succ64 (i := j) (show j < 1000000000 by omega), ⟨hk, hl, hr, ht, ho, hlt, hS⟩, (show 10 * (l.length - 0) - (j + 1) < 10 * (l.length - 0) - j by omega), trivial⟩, nofun⟩⟩
  · have h : j = t.ops.length := by
      have : ¬ j < t.ops.length := by simpa using h
      omega
    rw [h, List.take_length] at hs
    have hN' := run_next hk hr ht hs
    refine ⟨fun hf => ?_, fun hf => ?_⟩
    · have hf : finT t = 6 := eq_of_beq hf
      have hN : (⟨[mkA 0 t s], s.own⟩ : Ru) = runT (l.take (0 + 1)) := by
        rw [hN', nextW, if_pos hf]
        rfl
      exact ⟨false, nofun, fun _ => ⟨true, fun _ => ⟨((mkA 0 t s, ()), s.own), rfl, rfl, rfl, rfl, rfl, rfl, rfl, rfl, rfl, rfl, rfl, rfl, rfl, rfl, rfl, rfl, rfl, rfl, ⟨hk, hl, hN⟩, (show 1 + 10 * (l.length - (0 + 1)) < 10 * (l.length - 0) - j by omega), trivial⟩, nofun⟩⟩
    · have hf : ¬ finT t = 6 := ne_of_beq_false hf
      have hN : (⟨[mkA 0 t s], w⟩ : Ru) = runT (l.take (0 + 1)) := by
        rw [hN', nextW, if_neg hf]
        rfl
      exact ⟨false, nofun, fun _ => ⟨true, fun _ => ⟨((mkA 0 t s, ()), w), rfl, rfl, rfl, rfl, rfl, rfl, rfl, rfl, rfl, rfl, rfl, rfl, rfl, rfl, rfl, rfl, rfl, rfl, ⟨hk, hl, hN⟩, (show 1 + 10 * (l.length - (0 + 1)) < 10 * (l.length - 0) - j by omega), trivial⟩, nofun⟩⟩

theorem as_251_ok (l : List Try) (d : List Att) (x0 : Att) (h : [x0] = d) : Paid (cutVC F (lookC []) 200 Tryd.f10 b10 (asF l d) 25 (asC25 d 1) ((x0, ()) : Tp 1)) := by
  subst h
  refine ⟨?_⟩
  rw [as_251]
  exact ⟨rfl, rfl, rfl, rfl, rfl, rfl, rfl, rfl, rfl, rfl, rfl, rfl, trivial⟩
theorem as_41_ok (l : List Try) (d : List Att) (w : W3) (x0 : Att) (hk : 1 ≤ l.length) (hl : l.length ≤ 3) (hr : (⟨[x0], w⟩ : Ru) = runT (l.take 1)) (hd : d = (runT l).done) (hop : ∀ (h : 1 < l.length), (at3 l 1).ops.length ≤ 6) : Paid (cutVC F (lookC []) 200 Tryd.f10 b10 (asF l d) 4 (asC4 l 1) (((x0, ()), w) : Tp 1 × W3)) := by
  refine ⟨?_⟩
  rw [as_41]
  refine ⟨fun h => ⟨⟨(by decide), by simpa using h⟩, tmod_is _ 4 (by decide), fun h3 => ?_, fun h3 => ⟨fun h2 => ?_, fun h2 => ⟨fun h1 => ?_, fun h1 => ?_⟩⟩⟩, fun h => ?_⟩
  all_goals try simp only [beq_iff_eq, beq_eq_false_iff_ne, ne_eq] at h3
  all_goals try simp only [beq_iff_eq, beq_eq_false_iff_ne, ne_eq] at h2
  · have h : 1 < l.length := by simp at h; omega
    have ho := hop h
    exact ⟨false, nofun, fun _ => ⟨true, fun _ => ⟨((x0, ()), ⟨w, at3 l 1, opsS w [], 0⟩), rfl, rfl, rfl, rfl, rfl, rfl, rfl, rfl, rfl, rfl, rfl, rfl, rfl, rfl, rfl, rfl, rfl, rfl, rfl, rfl, rfl, rfl, rfl, rfl, rfl, rfl, rfl, rfl, rfl, (fin_0 h3).symm, rfl, rfl, rfl, rfl, rfl, rfl, rfl, rfl, rfl, rfl, ⟨by omega, hl, hr, rfl, ho, Nat.zero_le _, rfl⟩, (show 10 * (l.length - 1) - 0 < 1 + 10 * (l.length - 1) by omega), trivial⟩, nofun⟩⟩
  · have h : 1 < l.length := by simp at h; omega
    have ho := hop h
    exact ⟨false, nofun, fun _ => ⟨true, fun _ => ⟨((x0, ()), ⟨w, at3 l 1, opsS w [], 0⟩), rfl, rfl, rfl, rfl, rfl, rfl, rfl, rfl, rfl, rfl, rfl, rfl, rfl, rfl, rfl, rfl, rfl, rfl, rfl, rfl, rfl, rfl, rfl, rfl, rfl, rfl, rfl, rfl, rfl, (fin_7 h3 h2).symm, rfl, rfl, rfl, rfl, rfl, rfl, rfl, rfl, rfl, rfl, ⟨by omega, hl, hr, rfl, ho, Nat.zero_le _, rfl⟩, (show 10 * (l.length - 1) - 0 < 1 + 10 * (l.length - 1) by omega), trivial⟩, nofun⟩⟩
  · have h : 1 < l.length := by simp at h; omega
    have ho := hop h
    exact ⟨false, nofun, fun _ => ⟨true, fun _ => ⟨((x0, ()), ⟨w, at3 l 1, opsS w [], 0⟩), rfl, rfl, rfl, rfl, rfl, rfl, rfl, rfl, rfl, rfl, rfl, rfl, rfl, rfl, rfl, rfl, rfl, rfl, rfl, rfl, rfl, rfl, rfl, rfl, rfl, rfl, rfl, rfl, rfl, (fin_6 h3 h2).symm, rfl, rfl, rfl, rfl, rfl, rfl, rfl, rfl, rfl, rfl, ⟨by omega, hl, hr, rfl, ho, Nat.zero_le _, rfl⟩, (show 10 * (l.length - 1) - 0 < 1 + 10 * (l.length - 1) by omega), trivial⟩, nofun⟩⟩
  · have h : 1 < l.length := by simp at h; omega
    have ho := hop h
    exact ⟨false, nofun, fun _ => ⟨true, fun _ => ⟨((x0, ()), ⟨w, at3 l 1, opsS w [], 0⟩), rfl, rfl, rfl, rfl, rfl, rfl, rfl, rfl, rfl, rfl, rfl, rfl, rfl, rfl, rfl, rfl, rfl, rfl, rfl, rfl, rfl, rfl, rfl, rfl, rfl, rfl, rfl, rfl, rfl, (fin_6 h3 h2).symm, rfl, rfl, rfl, rfl, rfl, rfl, rfl, rfl, rfl, rfl, ⟨by omega, hl, hr, rfl, ho, Nat.zero_le _, rfl⟩, (show 10 * (l.length - 1) - 0 < 1 + 10 * (l.length - 1) by omega), trivial⟩, nofun⟩⟩
  · have h : l.length = 1 := by have := of_decide_eq_false h; omega
    have e : [x0] = d := by
      rw [hd]
      have := congrArg Ru.done hr
      rw [← h, List.take_length] at this
      exact this
    exact ⟨false, nofun, fun _ => ⟨true, fun _ => ⟨(x0, ()), rfl, rfl, rfl, rfl, rfl, rfl, rfl, rfl, rfl, rfl, rfl, rfl, e, (show 0 < 1 + 10 * (l.length - 1) by omega), trivial⟩, nofun⟩⟩

theorem as_111_ok (l : List Try) (d : List Att) (w : W3) (t : Try) (s : OpS) (j : Nat) (x0 : Att) (hk : 1 < l.length) (hl : l.length ≤ 3) (hr : (⟨[x0], w⟩ : Ru) = runT (l.take 1)) (ht : t = at3 l 1) (ho : t.ops.length ≤ 6) (hj : j ≤ t.ops.length) (hs : s = opsS w (t.ops.take j)) :
    Paid (cutVC F (lookC []) 200 Tryd.f10 b10 (asF l d) 11 (asC11 l 1) (((x0, ()), ⟨w, t, s, j⟩) : Tp 1 × InS)) := by
  refine ⟨?_⟩
  rw [as_111]
  have hb := opsS_le w (t.ops.take j)
  rw [← hs, List.length_take] at hb
  have hu := u3_is (at2 t.ops j).a
  refine ⟨fun h => ?_, fun h => ?_⟩
  · have hlt : j < t.ops.length := by simpa using h
    refine ⟨⟨(show (0 : Int) ≤ (j : Int) by omega), by simpa using hlt⟩, fun hk1 => ⟨(show (s.ws.length + 1) * 16 ≤ 140737488355328 by omega), hu, fun a2 => ?_, fun a2 => ⟨fun a1 => ?_, fun a1 => ?_⟩⟩, fun hk0 => ⟨hu, fun a2 => ?_, fun a2 => ⟨fun a1 => ?_, fun a1 => ?_⟩⟩⟩
    all_goals try replace hk1 : (IntKind.u64.wrap (at2 t.ops j).kind).tmod 2 = 1 := by simpa using hk1
    all_goals try replace hk0 : ¬ (IntKind.u64.wrap (at2 t.ops j).kind).tmod 2 = 1 := by simpa using hk0
    all_goals clear h
    · have a2 : u3 (at2 t.ops j).a = 2 := eq_of_beq a2
      have hS : (⟨⟨s.own.a, s.own.b, u3 (at2 t.ops j).v⟩, s.rs, s.ws ++ [⟨u3 (at2 t.ops j).a, u3 (at2 t.ops j).v⟩], s.sn⟩ : OpS) = opsS w (t.ops.take (j + 1)) := by
        rw [opsS_succ w hlt, ← hs, step_w hk1]
        exact congrArg (fun z => (⟨z, s.rs, s.ws ++ [⟨u3 (at2 t.ops j).a, u3 (at2 t.ops j).v⟩], s.sn⟩ : OpS)) (show _ = w3set s.own (u3 (at2 t.ops j).a) (u3 (at2 t.ops j).v) from (show w3set s.own (u3 (at2 t.ops j).a) (u3 (at2 t.ops j).v) = _ from if_pos a2).symm)
      exact ⟨false, nofun, fun _ => ⟨true, fun _ => ⟨((x0, ()), ⟨w, t, ⟨⟨s.own.a, s.own.b, u3 (at2 t.ops j).v⟩, s.rs, s.ws ++ [⟨u3 (at2 t.ops j).a, u3 (at2 t.ops j).v⟩], s.sn⟩, j + 1⟩), rfl, rfl, rfl, rfl, rfl, rfl, rfl, rfl, rfl, rfl, rfl, rfl, rfl, rfl, rfl, rfl, rfl, rfl, rfl, rfl, rfl, rfl, rfl, rfl, rfl, rfl, rfl, rfl, rfl, rfl, rfl, rfl, rfl, rfl, rfl, rfl, rfl, rfl, rfl, succ64 (i := j) (show j < 1000000000 by omega), ⟨hk, hl, hr, ht, ho, hlt, hS⟩, (show 10 * (l.length - 1) - (j + 1) < 10 * (l.length - 1) - j by omega), trivial⟩, nofun⟩⟩
    · have a2 : ¬ u3 (at2 t.ops j).a = 2 := ne_of_beq_false a2
      have a1 : u3 (at2 t.ops j).a = 1 := eq_of_beq a1
      have hS : (⟨⟨s.own.a, u3 (at2 t.ops j).v, s.own.c⟩, s.rs, s.ws ++ [⟨u3 (at2 t.ops j).a, u3 (at2 t.ops j).v⟩], s.sn⟩ : OpS) = opsS w (t.ops.take (j + 1)) := by
        rw [opsS_succ w hlt, ← hs, step_w hk1]
        exact congrArg (fun z => (⟨z, s.rs, s.ws ++ [⟨u3 (at2 t.ops j).a, u3 (at2 t.ops j).v⟩], s.sn⟩ : OpS)) (show _ = w3set s.own (u3 (at2 t.ops j).a) (u3 (at2 t.ops j).v) from (show w3set s.own (u3 (at2 t.ops j).a) (u3 (at2 t.ops j).v) = _ from (if_neg a2).trans (if_pos a1)).symm)
      exact ⟨false, nofun, fun _ => ⟨true, fun _ => ⟨((x0, ()), ⟨w, t, ⟨⟨s.own.a, u3 (at2 t.ops j).v, s.own.c⟩, s.rs, s.ws ++ [⟨u3 (at2 t.ops j).a, u3 (at2 t.ops j).v⟩], s.sn⟩, j + 1⟩), rfl, rfl, rfl, rfl, rfl, rfl, rfl, rfl, rfl, rfl, rfl, rfl, rfl, rfl, rfl, rfl, rfl, rfl, rfl, rfl, rfl, rfl, rfl, rfl, rfl, rfl, rfl, rfl, rfl, rfl, rfl, rfl, rfl, rfl, rfl, rfl, rfl, rfl, rfl, succ64 (i := j) (show j < 1000000000 by omega), ⟨hk, hl, hr, ht, ho, hlt, hS⟩, (show 10 * (l.length - 1) - (j + 1) < 10 * (l.length - 1) - j by omega), trivial⟩, nofun⟩⟩
    · have a2 : ¬ u3 (at2 t.ops j).a = 2 := ne_of_beq_false a2
      have a1 : ¬ u3 (at2 t.ops j).a = 1 := ne_of_beq_false a1
      have hS : (⟨⟨u3 (at2 t.ops j).v, s.own.b, s.own.c⟩, s.rs, s.ws ++ [⟨u3 (at2 t.ops j).a, u3 (at2 t.ops j).v⟩], s.sn⟩ : OpS) = opsS w (t.ops.take (j + 1)) := by
        rw [opsS_succ w hlt, ← hs, step_w hk1]
        exact congrArg (fun z => (⟨z, s.rs, s.ws ++ [⟨u3 (at2 t.ops j).a, u3 (at2 t.ops j).v⟩], s.sn⟩ : OpS)) (show _ = w3set s.own (u3 (at2 t.ops j).a) (u3 (at2 t.ops j).v) from (show w3set s.own (u3 (at2 t.ops j).a) (u3 (at2 t.ops j).v) = _ from (if_neg a2).trans (if_neg a1)).symm)
      exact ⟨false, nofun, fun _ => ⟨true, fun _ => ⟨((x0, ()), ⟨w, t, ⟨⟨u3 (at2 t.ops j).v, s.own.b, s.own.c⟩, s.rs, s.ws ++ [⟨u3 (at2 t.ops j).a, u3 (at2 t.ops j).v⟩], s.sn⟩, j + 1⟩), rfl, rfl, rfl, rfl, rfl, rfl, rfl, rfl, rfl, rfl, rfl, rfl, rfl, rfl, rfl, rfl, rfl, rfl, rfl, rfl, rfl, rfl, rfl, rfl, rfl, rfl, rfl, rfl, rfl, rfl, rfl, rfl, rfl, rfl, rfl, rfl, rfl, rfl, rfl, succ64 (i := j) (show j < 1000000000 by omega), ⟨hk, hl, hr, ht, ho, hlt, hS⟩, (show 10 * (l.length - 1) - (j + 1) < 10 * (l.length - 1) - j by omega), trivial⟩, nofun⟩⟩
    · have a2 : u3 (at2 t.ops j).a = 2 := eq_of_beq a2
      have hS : (⟨s.own, s.rs ++ [⟨u3 (at2 t.ops j).a, s.own.c⟩], s.ws, s.sn ++ [(s.ws.length : Int)]⟩ : OpS) = opsS w (t.ops.take (j + 1)) := by
        rw [opsS_succ w hlt, ← hs, step_r hk0]
        exact congrArg (fun z => (⟨s.own, s.rs ++ [⟨u3 (at2 t.ops j).a, z⟩], s.ws, s.sn ++ [(s.ws.length : Int)]⟩ : OpS)) (show _ = w3get s.own (u3 (at2 t.ops j).a) from (show w3get s.own (u3 (at2 t.ops j).a) = _ from if_pos a2).symm)
      exact ⟨(show (s.rs.length + 1) * 16 ≤ 140737488355328 by omega), (show (s.sn.length + 1) * 8 ≤ 140737488355328 by omega), ⟨false, nofun, fun _ => ⟨true, fun _ => ⟨((x0, ()), ⟨w, t, ⟨s.own, s.rs ++ [⟨u3 (at2 t.ops j).a, s.own.c⟩], s.ws, s.sn ++ [(s.ws.length : Int)]⟩, j + 1⟩), rfl, rfl, rfl, rfl, rfl, rfl, rfl, rfl, rfl, rfl, rfl, rfl, rfl, rfl, rfl, rfl, rfl, rfl, rfl, rfl, rfl, rfl, rfl, rfl, rfl, rfl, rfl, rfl, rfl, rfl, rfl, rfl, rfl, rfl, rfl, rfl, rfl, rfl, rfl, succ64 (i := j) (show j < 1000000000 by omega), ⟨hk, hl, hr, ht, ho, hlt, hS⟩, (show 10 * (l.length - 1) - (j + 1) < 10 * (l.length - 1) - j by omega), trivial⟩, nofun⟩⟩⟩
    · have a2 : ¬ u3 (at2 t.ops j).a = 2 := ne_of_beq_false a2
      have a1 : u3 (at2 t.ops j).a = 1 := eq_of_beq a1
      have hS : (⟨s.own, s.rs ++ [⟨u3 (at2 t.ops j).a, s.own.b⟩], s.ws, s.sn ++ [(s.ws.length : Int)]⟩ : OpS) = opsS w (t.ops.take (j + 1)) := by
        rw [opsS_succ w hlt, ← hs, step_r hk0]
        exact congrArg (fun z => (⟨s.own, s.rs ++ [⟨u3 (at2 t.ops j).a, z⟩], s.ws, s.sn ++ [(s.ws.length : Int)]⟩ : OpS)) (show _ = w3get s.own (u3 (at2 t.ops j).a) from (show w3get s.own (u3 (at2 t.ops j).a) = _ from (if_neg a2).trans (if_pos a1)).symm)
      exact ⟨(show (s.rs.length + 1) * 16 ≤ 140737488355328 by omega), (show (s.sn.length + 1) * 8 ≤ 140737488355328 by omega), ⟨false, nofun, fun _ => ⟨true, fun _ => ⟨((x0, ()), ⟨w, t, ⟨s.own, s.rs ++ [⟨u3 (at2 t.ops j).a, s.own.b⟩], s.ws, s.sn ++ [(s.ws.length : Int)]⟩, j + 1⟩), rfl, rfl, rfl, rfl, rfl, rfl, rfl, rfl, rfl, rfl, rfl, rfl, rfl, rfl, rfl, rfl, rfl, rfl, rfl, rfl, rfl, rfl, rfl, rfl, rfl, rfl, rfl, rfl, rfl, rfl, rfl, rfl, rfl, rfl, rfl, rfl, rfl, rfl, rfl, succ64 (i := j) (show j < 1000000000 by omega), ⟨hk, hl, hr, ht, ho, hlt, hS⟩, (show 10 * (l.length - 1) - (j + 1) < 10 * (l.length - 1) - j by omega), trivial⟩, nofun⟩⟩⟩
    · have a2 : ¬ u3 (at2 t.ops j).a = 2 := ne_of_beq_false a2
      have a1 : ¬ u3 (at2 t.ops j).a = 1 := ne_of_beq_false a1
      have hS : (⟨s.own, s.rs ++ [⟨u3 (at2 t.ops j).a, s.own.a⟩], s.ws, s.sn ++ [(s.ws.length : Int)]⟩ : OpS) = opsS w (t.ops.take (j + 1)) := by
        rw [opsS_succ w hlt, ← hs, step_r hk0]
        exact congrArg (fun z => (⟨s.own, s.rs ++ [⟨u3 (at2 t.ops j).a, z⟩], s.ws, s.sn ++ [(s.ws.length : Int)]⟩ : OpS)) (show _ = w3get s.own (u3 (at2 t.ops j).a) from (show w3get s.own (u3 (at2 t.ops j).a) = _ from (if_neg a2).trans (if_neg a1)).symm)
      exact ⟨(show (s.rs.length + 1) * 16 ≤ 140737488355328 by omega), (show (s.sn.length + 1) * 8 ≤ 140737488355328 by omega), ⟨false, nofun, fun _ => ⟨true, fun _ => ⟨((x0, ()), ⟨w, t, ⟨s.own, s.rs ++ [⟨u3 (at2 t.ops j).a, s.own.a⟩], s.ws, s.sn ++ [(s.ws.length : Int)]⟩, j + 1⟩), rfl, rfl, rfl, rfl, rfl, rfl, rfl, rfl, rfl, rfl, rfl, rfl, rfl, rfl, rfl, rfl, rfl, rfl, rfl, rfl, rfl, rfl, rfl, rfl, rfl, rfl, rfl, rfl, rfl, rfl, rfl, rfl, rfl, rfl, rfl, rfl, rfl, rfl, rfl, succ64 (i := j) (show j < 1000000000 by omega), ⟨hk, hl, hr, ht, ho, hlt, hS⟩, (show 10 * (l.length - 1) - (j + 1) < 10 * (l.length - 1) - j by omega), trivial⟩, nofun⟩⟩⟩
  · have h : j = t.ops.length := by
      have : ¬ j < t.ops.length := by simpa using h
      omega
    rw [h, List.take_length] at hs
    have hN' := run_next hk hr ht hs
    refine ⟨fun hf => ?_, fun hf => ?_⟩
    · have hf : finT t = 6 := eq_of_beq hf
      have hN : (⟨[x0, mkA 1 t s], s.own⟩ : Ru) = runT (l.take (1 + 1)) := by
        rw [hN', nextW, if_pos hf]
        rfl
      exact ⟨false, nofun, fun _ => ⟨false, nofun, fun _ => ⟨true, fun _ => ⟨((x0, mkA 1 t s, ()), s.own), rfl, rfl, rfl, rfl, rfl, rfl, rfl, rfl, rfl, rfl, rfl, rfl, rfl, rfl, rfl, rfl, rfl, rfl, rfl, rfl, rfl, rfl, rfl, rfl, rfl, rfl, rfl, rfl, rfl, rfl, ⟨hk, hl, hN⟩, (show 1 + 10 * (l.length - (1 + 1)) < 10 * (l.length - 1) - j by omega), trivial⟩, nofun⟩⟩⟩
    · have hf : ¬ finT t = 6 := ne_of_beq_false hf
      have hN : (⟨[x0, mkA 1 t s], w⟩ : Ru) = runT (l.take (1 + 1)) := by
        rw [hN', nextW, if_neg hf]
        rfl
      exact ⟨false, nofun, fun _ => ⟨false, nofun, fun _ => ⟨true, fun _ => ⟨((x0, mkA 1 t s, ()), w), rfl, rfl, rfl, rfl, rfl, rfl, rfl, rfl, rfl, rfl, rfl, rfl, rfl, rfl, rfl, rfl, rfl, rfl, rfl, rfl, rfl, rfl, rfl, rfl, rfl, rfl, rfl, rfl, rfl, rfl, ⟨hk, hl, hN⟩, (show 1 + 10 * (l.length - (1 + 1)) < 10 * (l.length - 1) - j by omega), trivial⟩, nofun⟩⟩⟩

theorem as_252_ok (l : List Try) (d : List Att) (x0 : Att) (x1 : Att) (h : [x0, x1] = d) : Paid (cutVC F (lookC []) 200 Tryd.f10 b10 (asF l d) 25 (asC25 d 2) ((x0, x1, ()) : Tp 2)) := by
  subst h
  refine ⟨?_⟩
  rw [as_252]
  exact ⟨rfl, rfl, rfl, rfl, rfl, rfl, rfl, rfl, rfl, rfl, rfl, rfl, rfl, rfl, rfl, rfl, rfl, rfl, rfl, rfl, rfl, rfl, rfl, rfl, trivial⟩
theorem as_42_ok (l : List Try) (d : List Att) (w : W3) (x0 : Att) (x1 : Att) (hk : 2 ≤ l.length) (hl : l.length ≤ 3) (hr : (⟨[x0, x1], w⟩ : Ru) = runT (l.take 2)) (hd : d = (runT l).done) (hop : ∀ (h : 2 < l.length), (at3 l 2).ops.length ≤ 6) : Paid (cutVC F (lookC []) 200 Tryd.f10 b10 (asF l d) 4 (asC4 l 2) (((x0, x1, ()), w) : Tp 2 × W3)) := by
  refine ⟨?_⟩
  rw [as_42]
  refine ⟨fun h => ⟨⟨(by decide), by simpa using h⟩, tmod_is _ 4 (by decide), fun h3 => ?_, fun h3 => ⟨fun h2 => ?_, fun h2 => ⟨fun h1 => ?_, fun h1 => ?_⟩⟩⟩, fun h => ?_⟩
  all_goals try simp only [beq_iff_eq, beq_eq_false_iff_ne, ne_eq] at h3
  all_goals try simp only [beq_iff_eq, beq_eq_false_iff_ne, ne_eq] at h2
  · have h : 2 < l.length := by simp at h; omega
    have ho := hop h
    exact ⟨false, nofun, fun _ => ⟨false, nofun, fun _ => ⟨((x0, x1, ()), ⟨w, at3 l 2, opsS w [], 0⟩), rfl, rfl, rfl, rfl, rfl, rfl, rfl, rfl, rfl, rfl, rfl, rfl, rfl, rfl, rfl, rfl, rfl, rfl, rfl, rfl, rfl, rfl, rfl, rfl, rfl, rfl, rfl, rfl, rfl, rfl, rfl, rfl, rfl, rfl, rfl, rfl, rfl, rfl, rfl, rfl, rfl, (fin_0 h3).symm, rfl, rfl, rfl, rfl, rfl, rfl, rfl, rfl, rfl, rfl, ⟨by omega, hl, hr, rfl, ho, Nat.zero_le _, rfl⟩, (show 10 * (l.length - 2) - 0 < 1 + 10 * (l.length - 2) by omega), trivial⟩⟩⟩
  · have h : 2 < l.length := by simp at h; omega
    have ho := hop h
    exact ⟨false, nofun, fun _ => ⟨false, nofun, fun _ => ⟨((x0, x1, ()), ⟨w, at3 l 2, opsS w [], 0⟩), rfl, rfl, rfl, rfl, rfl, rfl, rfl, rfl, rfl, rfl, rfl, rfl, rfl, rfl, rfl, rfl, rfl, rfl, rfl, rfl, rfl, rfl, rfl, rfl, rfl, rfl, rfl, rfl, rfl, rfl, rfl, rfl, rfl, rfl, rfl, rfl, rfl, rfl, rfl, rfl, rfl, (fin_7 h3 h2).symm, rfl, rfl, rfl, rfl, rfl, rfl, rfl, rfl, rfl, rfl, ⟨by omega, hl, hr, rfl, ho, Nat.zero_le _, rfl⟩, (show 10 * (l.length - 2) - 0 < 1 + 10 * (l.length - 2) by omega), trivial⟩⟩⟩
  · have h : 2 < l.length := by simp at h; omega
    have ho := hop h
    exact ⟨false, nofun, fun _ => ⟨false, nofun, fun _ => ⟨((x0, x1, ()), ⟨w, at3 l 2, opsS w [], 0⟩), rfl, rfl, rfl, rfl, rfl, rfl, rfl, rfl, rfl, rfl, rfl, rfl, rfl, rfl, rfl, rfl, rfl, rfl, rfl, rfl, rfl, rfl, rfl, rfl, rfl, rfl, rfl, rfl, rfl, rfl, rfl, rfl, rfl, rfl, rfl, rfl, rfl, rfl, rfl, rfl, rfl, (fin_6 h3 h2).symm, rfl, rfl, rfl, rfl, rfl, rfl, rfl, rfl, rfl, rfl, ⟨by omega, hl, hr, rfl, ho, Nat.zero_le _, rfl⟩, (show 10 * (l.length - 2) - 0 < 1 + 10 * (l.length - 2) by omega), trivial⟩⟩⟩
  · have h : 2 < l.length := by simp at h; omega
    have ho := hop h
    exact ⟨false, nofun, fun _ => ⟨false, nofun, fun _ => ⟨((x0, x1, ()), ⟨w, at3 l 2, opsS w [], 0⟩), rfl, rfl, rfl, rfl, rfl, rfl, rfl, rfl, rfl, rfl, rfl, rfl, rfl, rfl, rfl, rfl, rfl, rfl, rfl, rfl, rfl, rfl, rfl, rfl, rfl, rfl, rfl, rfl, rfl, rfl, rfl, rfl, rfl, rfl, rfl, rfl, rfl, rfl, rfl, rfl, rfl, (fin_6 h3 h2).symm, rfl, rfl, rfl, rfl, rfl, rfl, rfl, rfl, rfl, rfl, ⟨by omega, hl, hr, rfl, ho, Nat.zero_le _, rfl⟩, (show 10 * (l.length - 2) - 0 < 1 + 10 * (l.length - 2) by omega), trivial⟩⟩⟩
  · have h : l.length = 2 := by have := of_decide_eq_false h; omega
    have e : [x0, x1] = d := by
      rw [hd]
      have := congrArg Ru.done hr
      rw [← h, List.take_length] at this
      exact this
    exact ⟨false, nofun, fun _ => ⟨false, nofun, fun _ => ⟨true, fun _ => ⟨(x0, x1, ()), rfl, rfl, rfl, rfl, rfl, rfl, rfl, rfl, rfl, rfl, rfl, rfl, rfl, rfl, rfl, rfl, rfl, rfl, rfl, rfl, rfl, rfl, rfl, rfl, e, (show 0 < 1 + 10 * (l.length - 2) by omega), trivial⟩, nofun⟩⟩⟩

theorem as_112_ok (l : List Try) (d : List Att) (w : W3) (t : Try) (s : OpS) (j : Nat) (x0 : Att) (x1 : Att) (hk : 2 < l.length) (hl : l.length ≤ 3) (hr : (⟨[x0, x1], w⟩ : Ru) = runT (l.take 2)) (ht : t = at3 l 2) (ho : t.ops.length ≤ 6) (hj : j ≤ t.ops.length) (hs : s = opsS w (t.ops.take j)) :
    Paid (cutVC F (lookC []) 200 Tryd.f10 b10 (asF l d) 11 (asC11 l 2) (((x0, x1, ()), ⟨w, t, s, j⟩) : Tp 2 × InS)) := by
  refine ⟨?_⟩
  rw [as_112]
  have hb := opsS_le w (t.ops.take j)
  rw [← hs, List.length_take] at hb
  have hu := u3_is (at2 t.ops j).a
  refine ⟨fun h => ?_, fun h => ?_⟩
  · have hlt : j < t.ops.length := by simpa using h
    refine ⟨⟨(show (0 : Int) ≤ (j : Int) by omega), by simpa using hlt⟩, fun hk1 => ⟨(show (s.ws.length + 1) * 16 ≤ 140737488355328 by omega), hu, fun a2 => ?_, fun a2 => ⟨fun a1 => ?_, fun a1 => ?_⟩⟩, fun hk0 => ⟨hu, fun a2 => ?_, fun a2 => ⟨fun a1 => ?_, fun a1 => ?_⟩⟩⟩
    all_goals try replace hk1 : (IntKind.u64.wrap (at2 t.ops j).kind).tmod 2 = 1 := by simpa using hk1
    all_goals try replace hk0 : ¬ (IntKind.u64.wrap (at2 t.ops j).kind).tmod 2 = 1 := by simpa using hk0
    all_goals clear h
    · have a2 : u3 (at2 t.ops j).a = 2 := eq_of_beq a2
      have hS : (⟨⟨s.own.a, s.own.b, u3 (at2 t.ops j).v⟩, s.rs, s.ws ++ [⟨u3 (at2 t.ops j).a, u3 (at2 t.ops j).v⟩], s.sn⟩ : OpS) = opsS w (t.ops.take (j + 1)) := by
        rw [opsS_succ w hlt, ← hs, step_w hk1]
        exact congrArg (fun z => (⟨z, s.rs, s.ws ++ [⟨u3 (at2 t.ops j).a, u3 (at2 t.ops j).v⟩], s.sn⟩ : OpS)) (show _ = w3set s.own (u3 (at2 t.ops j).a) (u3 (at2 t.ops j).v) from (show w3set s.own (u3 (at2 t.ops j).a) (u3 (at2 t.ops j).v) = _ from if_pos a2).symm)
      exact ⟨false, nofun, fun _ => ⟨false, nofun, fun _ => ⟨((x0, x1, ()), ⟨w, t, ⟨⟨s.own.a, s.own.b, u3 (at2 t.ops j).v⟩, s.rs, s.ws ++ [⟨u3 (at2 t.ops j).a, u3 (at2 t.ops j).v⟩], s.sn⟩, j + 1⟩), rfl, rfl, rfl, rfl, rfl, rfl, rfl, rfl, rfl, rfl, rfl, rfl, rfl, rfl, rfl, rfl, rfl, rfl, rfl, rfl, rfl, rfl, rfl, rfl, rfl, rfl, rfl, rfl, rfl, rfl, rfl, rfl, rfl, rfl, rfl, rfl, rfl, rfl, rfl, rfl, rfl, rfl, rfl, rfl, rfl, rfl, rfl, rfl, rfl, rfl, rfl, succ64 (i := j) (show j < 1000000000 by omega), ⟨hk, hl, hr, ht, ho, hlt, hS⟩, (show 10 * (l.length - 2) - (j + 1) < 10 * (l.length - 2) - j by omega), trivial⟩⟩⟩
    · have a2 : ¬ u3 (at2 t.ops j).a = 2 := ne_of_beq_false a2
      have a1 : u3 (at2 t.ops j).a = 1 := eq_of_beq a1
      have hS : (⟨⟨s.own.a, u3 (at2 t.ops j).v, s.own.c⟩, s.rs, s.ws ++ [⟨u3 (at2 t.ops j).a, u3 (at2 t.ops j).v⟩], s.sn⟩ : OpS) = opsS w (t.ops.take (j + 1)) := by
        rw [opsS_succ w hlt, ← hs, step_w hk1]
        exact congrArg (fun z => (⟨z, s.rs, s.ws ++ [⟨u3 (at2 t.ops j).a, u3 (at2 t.ops j).v⟩], s.sn⟩ : OpS)) (show _ = w3set s.own (u3 (at2 t.ops j).a) (u3 (at2 t.ops j).v) from (show w3set s.own (u3 (at2 t.ops j).a) (u3 (at2 t.ops j).v) = _ from (if_neg a2).trans (if_pos a1)).symm)
      exact ⟨false, nofun, fun _ => ⟨false, nofun, fun _ => ⟨((x0, x1, ()), ⟨w, t, ⟨⟨s.own.a, u3 (at2 t.ops j).v, s.own.c⟩, s.rs, s.ws ++ [⟨u3 (at2 t.ops j).a, u3 (at2 t.ops j).v⟩], s.sn⟩, j + 1⟩), rfl, rfl, rfl, rfl, rfl, rfl, rfl, rfl, rfl, rfl, rfl, rfl, rfl, rfl, rfl, rfl, rfl, rfl, rfl, rfl, rfl, rfl, rfl, rfl, rfl, rfl, rfl, rfl, rfl, rfl, rfl, rfl, rfl, rfl, rfl, rfl, rfl, rfl, rfl, rfl, rfl, rfl, rfl, rfl, rfl, rfl, rfl, rfl, rfl, rfl, rfl, succ64 (i := j) (show j < 1000000000 by omega), ⟨hk, hl, hr, ht, ho, hlt, hS⟩, (show 10 * (l.length - 2) - (j + 1) < 10 * (l.length - 2) - j by omega), trivial⟩⟩⟩
    · have a2 : ¬ u3 (at2 t.ops j).a = 2 := ne_of_beq_false a2
      have a1 : ¬ u3 (at2 t.ops j).a = 1 := ne_of_beq_false a1
      have hS : (⟨⟨u3 (at2 t.ops j).v, s.own.b, s.own.c⟩, s.rs, s.ws ++ [⟨u3 (at2 t.ops j).a, u3 (at2 t.ops j).v⟩], s.sn⟩ : OpS) = opsS w (t.ops.take (j + 1)) := by
        rw [opsS_succ w hlt, ← hs, step_w hk1]
        exact congrArg (fun z => (⟨z, s.rs, s.ws ++ [⟨u3 (at2 t.ops j).a, u3 (at2 t.ops j).v⟩], s.sn⟩ : OpS)) (show _ = w3set s.own (u3 (at2 t.ops j).a) (u3 (at2 t.ops j).v) from (show w3set s.own (u3 (at2 t.ops j).a) (u3 (at2 t.ops j).v) = _ from (if_neg a2).trans (if_neg a1)).symm)
      exact ⟨false, nofun, fun _ => ⟨false, nofun, fun _ => ⟨((x0, x1, ()), ⟨w, t, ⟨⟨u3 (at2 t.ops j).v, s.own.b, s.own.c⟩, s.rs, s.ws ++ [⟨u3 (at2 t.ops j).a, u3 (at2 t.ops j).v⟩], s.sn⟩, j + 1⟩), rfl, rfl, rfl, rfl, rfl, rfl, rfl, rfl, rfl, rfl, rfl, rfl, rfl, rfl, rfl, rfl, rfl, rfl, rfl, rfl, rfl, rfl, rfl, rfl, rfl, rfl, rfl, rfl, rfl, rfl, rfl, rfl, rfl, rfl, rfl, rfl, rfl, rfl, rfl, rfl, rfl, rfl, rfl, rfl, rfl, rfl, rfl, rfl, rfl, rfl, rfl, succ64 (i := j) (show j < 1000000000 by omega), ⟨hk, hl, hr, ht, ho, hlt, hS⟩, (show 10 * (l.length - 2) - (j + 1) < 10 * (l.length - 2) - j by omega), trivial⟩⟩⟩
    · have a2 : u3 (at2 t.ops j).a = 2 := eq_of_beq a2
      have hS : (⟨s.own, s.rs ++ [⟨u3 (at2 t.ops j).a, s.own.c⟩], s.ws, s.sn ++ [(s.ws.length : Int)]⟩ : OpS) = opsS w (t.ops.take (j + 1)) := by
        rw [opsS_succ w hlt, ← hs, step_r hk0]
        exact congrArg (fun z => (⟨s.own, s.rs ++ [⟨u3 (at2 t.ops j).a, z⟩], s.ws, s.sn ++ [(s.ws.length : Int)]⟩ : OpS)) (show _ = w3get s.own (u3 (at2 t.ops j).a) from (show w3get s.own (u3 (at2 t.ops j).a) = _ from if_pos a2).symm)
      exact ⟨(show (s.rs.length + 1) * 16 ≤ 140737488355328 by omega), (show (s.sn.length + 1) * 8 ≤ 140737488355328 by omega), ⟨false, nofun, fun _ => ⟨false, nofun, fun _ => ⟨((x0, x1, ()), ⟨w, t, ⟨s.own, s.rs ++ [⟨u3 (at2 t.ops j).a, s.own.c⟩], s.ws, s.sn ++ [(s.ws.length : Int)]⟩, j + 1⟩), rfl, rfl, rfl, rfl, rfl, rfl, rfl, rfl, rfl, rfl, rfl, rfl, rfl, rfl, rfl, rfl, rfl, rfl, rfl, rfl, rfl, rfl, rfl, rfl, rfl, rfl, rfl, rfl, rfl, rfl, rfl, rfl, rfl, rfl, rfl, rfl, rfl, rfl, rfl, rfl, rfl, rfl, rfl, rfl, rfl, rfl, rfl, rfl, rfl, rfl, rfl, succ64 (i := j) (show j < 1000000000 by omega), ⟨hk, hl, hr, ht, ho, hlt, hS⟩, (show 10 * (l.length - 2) - (j + 1) < 10 * (l.length - 2) - j by omega), trivial⟩⟩⟩⟩
    · have a2 : ¬ u3 (at2 t.ops j).a = 2 := ne_of_beq_false a2
      have a1 : u3 (at2 t.ops j).a = 1 := eq_of_beq a1
      have hS : (⟨s.own, s.rs ++ [⟨u3 (at2 t.ops j).a, s.own.b⟩], s.ws, s.sn ++ [(s.ws.length : Int)]⟩ : OpS) = opsS w (t.ops.take (j + 1)) := by
        rw [opsS_succ w hlt, ← hs, step_r hk0]
        exact congrArg (fun z => (⟨s.own, s.rs ++ [⟨u3 (at2 t.ops j).a, z⟩], s.ws, s.sn ++ [(s.ws.length : Int)]⟩ : OpS)) (show _ = w3get s.own (u3 (at2 t.ops j).a) from (show w3get s.own (u3 (at2 t.ops j).a) = _ from (if_neg a2).trans (if_pos a1)).symm)
      exact ⟨(show (s.rs.length + 1) * 16 ≤ 140737488355328 by omega), (show (s.sn.length + 1) * 8 ≤ 140737488355328 by omega), ⟨false, nofun, fun _ => ⟨false, nofun, fun _ => ⟨((x0, x1, ()), ⟨w, t, ⟨s.own, s.rs ++ [⟨u3 (at2 t.ops j).a, s.own.b⟩], s.ws, s.sn ++ [(s.ws.length : Int)]⟩, j + 1⟩), rfl, rfl, rfl, rfl, rfl, rfl, rfl, rfl, rfl, rfl, rfl, rfl, rfl, rfl, rfl, rfl, rfl, rfl, rfl, rfl, rfl, rfl, rfl, rfl, rfl, rfl, rfl, rfl, rfl, rfl, rfl, rfl, rfl, rfl, rfl, rfl, rfl, rfl, rfl, rfl, rfl, rfl, rfl, rfl, rfl, rfl, rfl, rfl, rfl, rfl, rfl, succ64 (i := j) (show j < 1000000000 by omega), ⟨hk, hl, hr, ht, ho, hlt, hS⟩, (show 10 * (l.length - 2) - (j + 1) < 10 * (l.length - 2) - j by omega), trivial⟩⟩⟩⟩
    · have a2 : ¬ u3 (at2 t.ops j).a = 2 := ne_of_beq_false a2
      have a1 : ¬ u3 (at2 t.ops j).a = 1 := ne_of_beq_false a1
      have hS : (⟨s.own, s.rs ++ [⟨u3 (at2 t.ops j).a, s.own.a⟩], s.ws, s.sn ++ [(s.ws.length : Int)]⟩ : OpS) = opsS w (t.ops.take (j + 1)) := by
        rw [opsS_succ w hlt, ← hs, step_r hk0]
        exact congrArg (fun z => (⟨s.own, s.rs ++ [⟨u3 (at2 t.ops j).a, z⟩], s.ws, s.sn ++ [(s.ws.length : Int)]⟩ : OpS)) (show _ = w3get s.own (u3 (at2 t.ops j).a) from (show w3get s.own (u3 (at2 t.ops j).a) = _ from (if_neg a2).trans (if_neg a1)).symm)
      exact ⟨(show (s.rs.length + 1) * 16 ≤ 140737488355328 by omega), (show (s.sn.length + 1) * 8 ≤ 140737488355328 by omega), ⟨false, nofun, fun _ => ⟨false, nofun, fun _ => ⟨((x0, x1, ()), ⟨w, t, ⟨s.own, s.rs ++ [⟨u3 (at2 t.ops j).a, s.own.a⟩], s.ws, s.sn ++ [(s.ws.length : Int)]⟩, j + 1⟩), rfl, rfl, rfl, rfl, rfl, rfl, rfl, rfl, rfl, rfl, rfl, rfl, rfl, rfl, rfl, rfl, rfl, rfl, rfl, rfl, rfl, rfl, rfl, rfl, rfl, rfl, rfl, rfl, rfl, rfl, rfl, rfl, rfl, rfl, rfl, rfl, rfl, rfl, rfl, rfl, rfl, rfl, rfl, rfl, rfl, rfl, rfl, rfl, rfl, rfl, rfl, succ64 (i := j) (show j < 1000000000 by omega), ⟨hk, hl, hr, ht, ho, hlt, hS⟩, (show 10 * (l.length - 2) - (j + 1) < 10 * (l.length - 2) - j by omega), trivial⟩⟩⟩⟩
  · have h : j = t.ops.length := by
      have : ¬ j < t.ops.length := by simpa using h
      omega
    rw [h, List.take_length] at hs
    have hN' := run_next hk hr ht hs
    refine ⟨fun hf => ?_, fun hf => ?_⟩
    · have hf : finT t = 6 := eq_of_beq hf
      have hN : (⟨[x0, x1, mkA 2 t s], s.own⟩ : Ru) = runT (l.take (2 + 1)) := by
        rw [hN', nextW, if_pos hf]
        rfl
      exact ⟨false, nofun, fun _ => ⟨false, nofun, fun _ => ⟨false, nofun, fun _ => ⟨((x0, x1, mkA 2 t s, ()), s.own), rfl, rfl, rfl, rfl, rfl, rfl, rfl, rfl, rfl, rfl, rfl, rfl, rfl, rfl, rfl, rfl, rfl, rfl, rfl, rfl, rfl, rfl, rfl, rfl, rfl, rfl, rfl, rfl, rfl, rfl, rfl, rfl, rfl, rfl, rfl, rfl, rfl, rfl, rfl, rfl, rfl, rfl, ⟨hk, hl, hN⟩, (show 1 + 10 * (l.length - (2 + 1)) < 10 * (l.length - 2) - j by omega), trivial⟩⟩⟩⟩
    · have hf : ¬ finT t = 6 := ne_of_beq_false hf
      have hN : (⟨[x0, x1, mkA 2 t s], w⟩ : Ru) = runT (l.take (2 + 1)) := by
        rw [hN', nextW, if_neg hf]
        rfl
      exact ⟨false, nofun, fun _ => ⟨false, nofun, fun _ => ⟨false, nofun, fun _ => ⟨((x0, x1, mkA 2 t s, ()), w), rfl, rfl, rfl, rfl, rfl, rfl, rfl, rfl, rfl, rfl, rfl, rfl, rfl, rfl, rfl, rfl, rfl, rfl, rfl, rfl, rfl, rfl, rfl, rfl, rfl, rfl, rfl, rfl, rfl, rfl, rfl, rfl, rfl, rfl, rfl, rfl, rfl, rfl, rfl, rfl, rfl, rfl, ⟨hk, hl, hN⟩, (show 1 + 10 * (l.length - (2 + 1)) < 10 * (l.length - 2) - j by omega), trivial⟩⟩⟩⟩

theorem as_253_ok (l : List Try) (d : List Att) (x0 : Att) (x1 : Att) (x2 : Att) (h : [x0, x1, x2] = d) : Paid (cutVC F (lookC []) 200 Tryd.f10 b10 (asF l d) 25 (asC25 d 3) ((x0, x1, x2, ()) : Tp 3)) := by
  subst h
  refine ⟨?_⟩
  rw [as_253]
  exact ⟨rfl, rfl, rfl, rfl, rfl, rfl, rfl, rfl, rfl, rfl, rfl, rfl, rfl, rfl, rfl, rfl, rfl, rfl, rfl, rfl, rfl, rfl, rfl, rfl, rfl, rfl, rfl, rfl, rfl, rfl, rfl, rfl, rfl, rfl, rfl, rfl, trivial⟩
theorem as_43_ok (l : List Try) (d : List Att) (w : W3) (x0 : Att) (x1 : Att) (x2 : Att) (hk : 3 ≤ l.length) (hl : l.length ≤ 3) (hr : (⟨[x0, x1, x2], w⟩ : Ru) = runT (l.take 3)) (hd : d = (runT l).done) (hop : ∀ (h : 3 < l.length), (at3 l 3).ops.length ≤ 6) : Paid (cutVC F (lookC []) 200 Tryd.f10 b10 (asF l d) 4 (asC4 l 3) (((x0, x1, x2, ()), w) : Tp 3 × W3)) := by
  refine ⟨?_⟩
  rw [as_43]
  refine ⟨fun h => ?_, fun h => ?_⟩
  · exfalso
    simp at h
    omega
  · have h : l.length = 3 := by have := of_decide_eq_false h; omega
    have e : [x0, x1, x2] = d := by
      rw [hd]
      have := congrArg Ru.done hr
      rw [← h, List.take_length] at this
      exact this
    exact ⟨false, nofun, fun _ => ⟨false, nofun, fun _ => ⟨false, nofun, fun _ => ⟨(x0, x1, x2, ()), rfl, rfl, rfl, rfl, rfl, rfl, rfl, rfl, rfl, rfl, rfl, rfl, rfl, rfl, rfl, rfl, rfl, rfl, rfl, rfl, rfl, rfl, rfl, rfl, rfl, rfl, rfl, rfl, rfl, rfl, rfl, rfl, rfl, rfl, rfl, rfl, e, (show 0 < 1 + 10 * (l.length - 3) by omega), trivial⟩⟩⟩⟩

theorem at3_ops {l : List Try} (h : ∀ t ∈ l, t.ops.length ≤ 6) {k : Nat} (hk : k < l.length) : (at3 l k).ops.length ≤ 6 := by
  have e : at3 l (k : Int) = l[k] := at3_get hk
  rw [e]
  exact h _ (List.getElem_mem hk)
theorem as_cuts (l : List Try) (hl : l.length ≤ 3) (ho : ∀ t ∈ l, t.ops.length ≤ 6) : ∀ p, p ∈ asCs l (runT l).done → ∀ s, p.2.I s → Paid (cutVC F (lookC []) 200 Tryd.f10 b10 (asF l (runT l).done) p.1 p.2 s) := by
  intro p hm s hI
  simp only [asCs, List.mem_cons, List.not_mem_nil, or_false] at hm
  rcases hm with rfl | rfl | rfl | rfl | rfl | rfl | rfl | rfl | rfl | rfl | rfl
  · obtain ⟨⟨⟩, w⟩ := s
    exact as_40_ok l _ w hI.1 hI.2.1 hI.2.2 rfl (fun h => at3_ops ho h)
  · obtain ⟨⟨x0, ⟨⟩⟩, w⟩ := s
    exact as_41_ok l _ w x0 hI.1 hI.2.1 hI.2.2 rfl (fun h => at3_ops ho h)
  · obtain ⟨⟨x0, x1, ⟨⟩⟩, w⟩ := s
    exact as_42_ok l _ w x0 x1 hI.1 hI.2.1 hI.2.2 rfl (fun h => at3_ops ho h)
  · obtain ⟨⟨x0, x1, x2, ⟨⟩⟩, w⟩ := s
    exact as_43_ok l _ w x0 x1 x2 hI.1 hI.2.1 hI.2.2 rfl (fun h => at3_ops ho h)
  · obtain ⟨⟨⟩, ⟨w, t, s, j⟩⟩ := s
    exact as_110_ok l _ w t s j hI.1 hI.2.1 hI.2.2.1 hI.2.2.2.1 hI.2.2.2.2.1 hI.2.2.2.2.2.1 hI.2.2.2.2.2.2
  · obtain ⟨⟨x0, ⟨⟩⟩, ⟨w, t, s, j⟩⟩ := s
    exact as_111_ok l _ w t s j x0 hI.1 hI.2.1 hI.2.2.1 hI.2.2.2.1 hI.2.2.2.2.1 hI.2.2.2.2.2.1 hI.2.2.2.2.2.2
  · obtain ⟨⟨x0, x1, ⟨⟩⟩, ⟨w, t, s, j⟩⟩ := s
    exact as_112_ok l _ w t s j x0 x1 hI.1 hI.2.1 hI.2.2.1 hI.2.2.2.1 hI.2.2.2.2.1 hI.2.2.2.2.2.1 hI.2.2.2.2.2.2
  · obtain ⟨⟩ := s
    exact as_250_ok l _ hI
  · obtain ⟨x0, ⟨⟩⟩ := s
    exact as_251_ok l _ x0 hI
  · obtain ⟨x0, x1, ⟨⟩⟩ := s
    exact as_252_ok l _ x0 x1 hI
  · obtain ⟨x0, x1, x2, ⟨⟩⟩ := s
    exact as_253_ok l _ x0 x1 x2 hI
theorem outR_pure : ∀ (l : List Att) (id : Nat), (outR id l).all (pureO (C := cod)) = true
  | [], _ => rfl
  | x :: l, id => by
    exact outR_pure l (id + 3)
theorem outC_pure : ∀ (l : List Att) (id : Nat), pureL (outC id l) = true
  | [], _ => rfl
  | x :: l, id => by
    have := outC_pure l (id + 3)
    rw [pureL_eq] at this ⊢
    simp only [outC, List.all_append, this, Bool.and_true]
    rfl
theorem out_pure (l : List Att) : pureS (outV 0 l) = true ∧ (outO 0 l).all (pureO (C := cod)) = true := by
  cases l with
  | nil => exact ⟨rfl, rfl⟩
  | cons x l =>
    refine ⟨rfl, ?_⟩
    show (pureL (outC 1 (x :: l)) && (outR 1 (x :: l)).all (pureO (C := cod))) = true
    rw [outC_pure, outR_pure]
    rfl
theorem noneOk : CtrOk F.S (lookC ([] : List (FuncId × Ctr cod))) := lookC_ok fun p h => by cases h
theorem attsOk : CtrOk1 F.S 10 (mkCtr attsD) :=
  mkCtr_paid (fn := Tryd.f10) (body := b10) (ctr := lookC []) codOk noExt hookLow noneOk Tryd.func10 rfl rfl rfl attsD 200 (fun (x : List Try × W3 × Unit × Unit) => asCs x.1 (runT x.1).done) (show 3 ≤ 127 by decide) (show 127 ≤ 512 by decide) (by kernel_rfl) (fun x _ => out_pure _)
    (fun (x : List Try × W3 × Unit × Unit) hp => by
      obtain ⟨l, w, u, v⟩ := x
      obtain ⟨hp, rfl⟩ := hp
      exact as_e_ok l _ hp.1) (fun x hp p hm s hI => as_cuts x.1 hp.1.1 hp.1.2 p hm s hI)
end Go.Proofs.YtomlcdalhihnaaaDoor
